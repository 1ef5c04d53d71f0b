/- The walk of page.Seal. -/
import Derived.Test.YtpfnpinblbfjdaaSum
namespace Go.Proofs.Ytpfnpinblbfjdaa
open Go.RowKit

/-- 512 zero bytes. -/
def zeroPage : List UInt8 := List.replicate 512 0
theorem length_zeroPage : zeroPage.length = 512 := List.length_replicate
theorem zero_page (w : World) : (zeroValue 26).run Try.prog w = .ok (.agg (bytesA zeroPage)) w := by kernel_rfl

def sealTo (s : Int) (l : List UInt8) : Nat → List UInt8
  | 0 => l
  | k + 1 => (sealTo s l k).set k (toB (s / 2 ^ (8 * k) % 256))
theorem length_sealTo (s : Int) (l : List UInt8) (k : Nat) : (sealTo s l k).length = l.length := by
  induction k with
  | zero => rfl
  | succ k ih => simp [sealTo, ih]
/-- A page with its seal. -/
def sealL (l : List UInt8) : List UInt8 := sealTo (crc (l.drop 4)) l 4
theorem length_sealL (l : List UInt8) : (sealL l).length = l.length := length_sealTo _ _ _
theorem drop_sealL (l : List UInt8) : (sealL l).drop 4 = l.drop 4 := by
  simp [sealL, sealTo, List.drop_set]
theorem sealL_sealL (l : List UInt8) (h : l.length = 512) : sealL (sealL l) = sealL l := by
  unfold sealL
  rw [show (sealTo (crc (List.drop 4 l)) l 4).drop 4 = l.drop 4 from drop_sealL l]
  generalize crc (l.drop 4) = s
  obtain ⟨a, b, c, d, r, rfl⟩ : ∃ a b c d r, l = a :: b :: c :: d :: r := by
    match l, h with
    | a :: b :: c :: d :: r, _ => exact ⟨a, b, c, d, r, rfl⟩
  simp [sealTo]
theorem get_sealL (l : List UInt8) (k : Nat) (h : 4 ≤ k) : (sealL l).getD k 0 = l.getD k 0 := by
  have h1 := congrArg (fun x : List UInt8 => x.getD (k - 4) 0) (drop_sealL l)
  simp only [List.getD_eq_getElem?_getD, List.getElem?_drop] at h1
  rw [show 4 + (k - 4) = k from by omega] at h1
  simpa using h1
theorem info_page : (Try.prog.info? 26).map (·.size) = some 512 := by kernel_rfl
theorem info_page' (l : List UInt8) (h : l.length = 512) : (Try.prog.info? 26).map (·.size) = some (bytesA l).size := by
  rw [size_bytesA, h]; exact info_page

theorem Below.setRow (B : Nat) (w : World) (g : Nat) (cs : Array Value) (h : B ≤ g) : Below B w (w.setRow g cs) :=
  ⟨rfl, rfl, rfl, by simp, fun k hk => setRow_other w g k cs (by omega)⟩

set_option maxHeartbeats 400000 in
set_option maxRecDepth 100000 in
theorem seal_any (l : List UInt8) (w : World) (hl : l.length = 512) :
    Calls Try.prog 29 #[.agg (bytesA l)] w fun e w' => e = .returned (.agg (bytesA (sealL l))) ∧ Below w.heap.size w w' := by
  have HL := Lib.hid hl; clear hl
  have hz := zero_page
  go_enter Try.func29, Try.ntmps29
  go_wp2_with fail
  refine (sum_any (l.drop 4) _ _ _ _ _ (by simp [HL.out]) (by omega) ?_).mono ?_
  · intro k hk
    simp [go_sem]
    rw [get_bytesL l (4 + k) (by rw [HL.out]; omega)]
    simp
  rintro e w' ⟨rfl, rfl⟩
  have HS := Lib.hid (show sealL l = sealTo (crc (l.drop 4)) l 4 from rfl)
  generalize crc (l.drop 4) = s at *
  go_wp2_with fail
  go_loopw [7] (fun i wr => ∃ k : Nat, k ≤ 4 ∧ i = .int .i64 k ∧ wr = (w.alloc (.cells (bytesA (sealTo s l k)) 26)).alloc (.cells (bytesA zeroPage) 26)) (fun i _ => 4 - (intOf i).toNat)
  case atStart => exact ⟨0, by omega, rfl, rfl⟩
  case round =>
    obtain ⟨k, hk, rfl, rfl⟩ := hrel
    by_cases hlt : k < 4
    · have hck := get_bytesL (sealTo s l k) k (by rw [length_sealTo, HL.out]; omega)
      go_wp2_with fail
      go_roundw
      case rel => exact ⟨k + 1, by omega, by go_num, by rw [bytesL_set _ _ _ (by omega) (by omega)]; rfl⟩
      case measure => simp [intOf]; omega
    · obtain rfl : k = 4 := by omega
      rw [← HS.out]
      have HLS := Lib.hid ((length_sealL l).trans HL.out)
      clear HS
      generalize hm : sealL l = m at *
      have HM := Lib.hid hm; clear hm
      go_wp2_with (first | refine wpList_load_row (P := Try.prog) rfl 26 _ rfl _ rfl _ _ _ _ (heap_alloc2_old _ _ _) Try.underlying26 rfl (info_page' _ HLS.out) ?_ | refine wpList_store_row (P := Try.prog) rfl 26 _ _ rfl _ _ rfl rfl _ _ (heap_alloc2_new _ _ _) (info_page' _ HLS.out) (by rw [size_bytesA, size_bytesA, HLS.out]; exact length_zeroPage) (oneCell_bytesA _) ?_)
      refine bodyPost_ret (v := .agg (bytesA m)) (results_cell_row rfl _ _ _ _ _ _ _ rfl (setRow_heap _ _ _ _ _ _ (heap_alloc2_new _ _ _)) Try.underlying26 rfl (info_page' _ HLS.out)) rfl ⟨by rw [HM.out], ?_⟩
      exact (((Below.refl _ _).alloc (Nat.le_refl _) (.cells (bytesA m) 26)).alloc (by simp) (.cells (bytesA zeroPage) 26)).trans (Below.setRow _ _ _ _ (by simp))
end Go.Proofs.Ytpfnpinblbfjdaa
