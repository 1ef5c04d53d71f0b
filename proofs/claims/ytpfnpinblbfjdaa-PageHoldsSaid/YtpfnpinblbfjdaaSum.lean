/- The walk of page.sum: it returns the checksum of the bytes of a slice, and leaves the world as it is. -/
import Derived.Test.YtpfnpinblbfjdaaBase
namespace Go.Proofs.Ytpfnpinblbfjdaa
open Go.RowKit

set_option maxHeartbeats 400000 in
theorem sum_any (l : List UInt8) (b off len cap : Nat) (w : World) (hl : l.length = len) (hlen : len ≤ 1000)
    (hc : ∀ k, k < len → w.cell? ⟨b, off + k, none⟩ = some (.int .u8 (l.getD k 0).toNat)) :
    Calls Try.prog 34 #[.slice (some ⟨b, off, none⟩) len cap] w fun e w' => e = .returned (.int .u32 (crc l)) ∧ w = w' := by
  have HL := Lib.hid hl; have HC := Lib.hid hc; clear hl hc
  go_enter Try.func34, Try.ntmps34
  go_wp2
  go_loop [3, 8] (fun c i => ∃ k : Nat, k ≤ len ∧ i = .int .i64 k ∧ c = .int .u32 (crcOn (l.take k))) (fun _ i => len - (intOf i).toNat)
  case atStart => exact ⟨0, Nat.zero_le _, rfl, rfl⟩
  case round =>
    obtain ⟨k, hk, rfl, rfl⟩ := hrel
    by_cases hlt : k < len
    · have hck := HC.out k hlt
      generalize hx : l.getD k 0 = x at hck
      have HS : Hid (crcOn (l.take (k + 1)) = crcByte (crcOn (l.take k)) x) := Lib.hid (by rw [take_snoc l k (by rw [HL.out]; exact hlt), crcOn_snoc, hx])
      clear hx
      generalize crcOn (l.take k) = n at *
      go_wp2
      go_loop [3, 16] (fun c i => ∃ j : Nat, j ≤ 8 ∧ i = .int .i64 j ∧ c = .int .u32 (crcBits j (bits .xor .u32 n (x.toNat % 4294967296)))) (fun _ i => 8 - (intOf i).toNat)
      case atStart => exact ⟨0, Nat.zero_le _, rfl, rfl⟩
      case round =>
        obtain ⟨j, hj, rfl, rfl⟩ := hrel
        by_cases hlt2 : j < 8
        · go_wp2
          go_round
          case rel => exact ⟨j + 1, by omega, by go_num, rfl⟩
          case measure => simp [intOf]; omega
        · obtain rfl : j = 8 := by omega
          go_wp2
          go_round
          case rel => exact ⟨k + 1, by omega, by go_num, by rw [HS.out]; rfl⟩
          case measure => simp [intOf]; omega
    · go_wp2
      go_ret
      exact ⟨ret_int (by rw [List.take_of_length_le (by rw [HL.out]; omega)]; rfl), rfl⟩
end Go.Proofs.Ytpfnpinblbfjdaa
