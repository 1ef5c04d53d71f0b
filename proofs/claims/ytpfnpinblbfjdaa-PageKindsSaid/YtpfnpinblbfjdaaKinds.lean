/- PageKinds: for every kind and slot the statement returns true, and nothing that was there turns. No condition. -/
import Derived.Test.YtpfnpinblbfjdaaAwake
import Derived.ProofKit
import Derived.OpenShut
set_option linter.unusedSimpArgs false
set_option linter.unusedVariables false
namespace Go.Proofs.Ytpfnpinblbfjdaa
open Go.RowKit

theorem and_255 (k : Int) : bits BinOp.and IntKind.i64 k 255 = k % 256 := by
  show IntKind.i64.wrap (((BitVec.ofInt 64 k) &&& (BitVec.ofInt 64 255)).toNat : Int) = _
  rw [BitVec.toNat_and, BitVec.toNat_ofInt, BitVec.toNat_ofInt]
  rw [show ((255 : Int) % ((2 ^ 64 : Nat) : Int)).toNat = 2 ^ 8 - 1 from rfl, Nat.and_two_pow_sub_one_eq_mod]
  rw [IntWalk.i64_in _ (by omega)]
  omega

set_option maxHeartbeats 1000000 in
set_option maxRecDepth 100000 in
theorem kinds_any (k s : Int) (w : World) : Calls Try.prog 7 #[.int .i64 k, .int .i64 s] w fun e w' => e = .returned (.bool true) ∧ Below w.heap.size w w' := by
  have hz := zero_page
  go_enter Try.func7, Try.ntmps7
  go_wp2_with fail
  refine (awake_any _).mono ?_
  rintro e w1 ⟨rfl, hb1⟩
  have HB1 := Lib.hid hb1; clear hb1
  go_wp2_with fail
  refine (new_any k _).mono ?_
  rintro e w2 ⟨rfl, hb2⟩
  have HP := Lib.hid (Pg.new k)
  have HB2 := Lib.hid (HB1.out.trans (hb2.mono HB1.out.size))
  clear hb2 HB1
  generalize newL k = l at *
  go_upto_region 4 with (refine store_page_new HP.out.len length_zeroPage rfl _ _ rfl rfl rfl ?_)
  have HG3 := Lib.hid (heap_alloc_new w2 (.cells (bytesA l) 26))
  have HB3 := Lib.hid (HB2.out.alloc HB2.out.size (.cells (bytesA l) 26))
  have hs3 : w2.heap.size < (w2.alloc (.cells (bytesA l) 26)).heap.size := by simp
  generalize w2.alloc (.cells (bytesA l) 26) = w3 at *
  have HN := Lib.hid (show getL l s = none from by rw [HP.out.get]; split <;> simp)
  go_wp2_with (refine load_page HP.out.len HG3.out rfl _ rfl rfl ?_)
  refine (get_any l s _ HP.out.len).mono ?_
  rw [HN.out]
  rintro e w4 ⟨v, rfl, hrec, hb4⟩
  have hv : v = .slice none 0 0 := hrec
  subst hv
  have HG4 := Lib.hid ((hb4.block _ hs3).trans HG3.out)
  have HB4 := Lib.hid (HB3.out.trans (hb4.mono HB3.out.size))
  have hs4 : w2.heap.size < w4.heap.size := Nat.lt_of_lt_of_le hs3 hb4.size
  clear hb4 HB3 HG3 hrec
  go_wp2_with (refine load_page HP.out.len HG4.out rfl _ rfl rfl ?_)
  refine (set_any l s [] _ _ HP.out.len (ByteS.nil _) (by simp)).mono ?_
  rw [show setL l s [] = (zeroPage, false) from by unfold setL; rw [if_pos HN.out]]
  rintro e w5 ⟨rfl, hb5⟩
  have HG5 := Lib.hid (heap_alloc_lt (.cells (bytesA zeroPage) 26) ((hb5.block _ hs4).trans HG4.out))
  have HB5 := Lib.hid ((HB4.out.trans (hb5.mono HB4.out.size)).alloc (Nat.le_trans HB4.out.size hb5.size) (.cells (bytesA zeroPage) 26))
  have hs5 : w2.heap.size < (w5.alloc (.cells (bytesA zeroPage) 26)).heap.size := by have := hb5.size; simp; omega
  clear hb5 HB4 HG4
  go_upto_region 6 with (refine store_page_new length_zeroPage length_zeroPage rfl _ _ rfl rfl rfl ?_)
  generalize w5.alloc (.cells (bytesA zeroPage) 26) = w6 at *
  go_wp2_with (refine load_page HP.out.len HG5.out rfl _ rfl rfl ?_)
  refine (drop_any l s _ HP.out.len).mono ?_
  rw [show dropL l s = (zeroPage, false) from by unfold dropL; rw [if_pos (.inl HN.out)]]
  rintro e w7 ⟨rfl, hb7⟩
  have HG7 := Lib.hid (heap_alloc_lt (.cells (bytesA zeroPage) 26) ((hb7.block _ hs5).trans HG5.out))
  have HB7 := Lib.hid ((HB5.out.trans (hb7.mono HB5.out.size)).alloc (Nat.le_trans HB5.out.size hb7.size) (.cells (bytesA zeroPage) 26))
  have hs7 : w2.heap.size < (w7.alloc (.cells (bytesA zeroPage) 26)).heap.size := by have := hb7.size; simp; omega
  clear hb7 HB5 HG5
  go_upto_region 7 with (refine store_page_new length_zeroPage length_zeroPage rfl _ _ rfl rfl rfl ?_)
  generalize w7.alloc (.cells (bytesA zeroPage) 26) = w8 at *
  go_wp2_with (refine load_page HP.out.len HG7.out rfl _ rfl rfl ?_)
  refine (kind_any l _ HP.out.len).mono ?_
  rw [HP.out.kind]
  rintro e w9 ⟨rfl, hb9⟩
  have HG9 := Lib.hid ((hb9.block _ hs7).trans HG7.out)
  have HB9 := Lib.hid (HB7.out.trans (hb9.mono HB7.out.size))
  have hs9 : w2.heap.size < w9.heap.size := Nat.lt_of_lt_of_le hs7 hb9.size
  clear hb9 HB7 HG7
  have ha := and_255 k
  generalize k % 256 = kk at *
  go_wp2_with (refine load_page HP.out.len HG9.out rfl _ rfl rfl ?_)
  refine (nslots_any l _ HP.out.len).mono ?_
  rw [HP.out.slots]
  rintro e w10 ⟨rfl, hb10⟩
  have HG10 := Lib.hid ((hb10.block _ hs9).trans HG9.out)
  have HB10 := Lib.hid (HB9.out.trans (hb10.mono HB9.out.size))
  have hs10 : w2.heap.size < w10.heap.size := Nat.lt_of_lt_of_le hs9 hb10.size
  clear hb10 HB9 HG9
  go_wp2_with (refine load_page HP.out.len HG10.out rfl _ rfl rfl ?_)
  refine (room_any l _ HP.out.len).mono ?_
  rw [HP.out.slots, show roomL [] = 400 from by decide]
  rintro e w11 ⟨rfl, hb11⟩
  have HG11 := Lib.hid ((hb11.block _ hs10).trans HG10.out)
  have HB11 := Lib.hid (HB10.out.trans (hb11.mono HB10.out.size))
  have hs11 : w2.heap.size < w11.heap.size := Nat.lt_of_lt_of_le hs10 hb11.size
  clear hb11 HB10 HG10
  go_wp2_with (refine load_page HP.out.len HG11.out rfl _ rfl rfl ?_)
  refine (right_any l _ HP.out.len).mono ?_
  rw [HP.out.right]
  rintro e w12 ⟨rfl, hb12⟩
  have HB12 := Lib.hid (HB11.out.trans (hb12.mono HB11.out.size))
  clear hb12
  go_wp2_with fail
  go_ret
  exact ⟨rfl, HB12.out⟩
end Go.Proofs.Ytpfnpinblbfjdaa
