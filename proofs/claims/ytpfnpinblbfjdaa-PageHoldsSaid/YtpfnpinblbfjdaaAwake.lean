/- The walk of the laws' awake: it returns true. -/
import Derived.Test.YtpfnpinblbfjdaaPages
import Derived.Lib.SlBytesConst
set_option linter.unusedSimpArgs false
namespace Go.Proofs.Ytpfnpinblbfjdaa
open Go.RowKit

set_option maxHeartbeats 1000000 in
set_option maxRecDepth 100000 in
theorem awake_any (w : World) : Calls Try.prog 8 #[] w fun e w' => e = .returned (.bool true) ∧ Below w.heap.size w w' := by
  have hz := zero_page
  have kc := fun (w : World) (C : Array Value) (n c : Nat) => Lib.run_convert_bytes_const (P := Try.prog) w 24 5 C n c Try.underlying24 Try.underlying5
  go_enter Try.func8, Try.ntmps8
  go_wp2_with fail
  refine (new_any 1 _).mono ?_
  rintro e w1 ⟨rfl, hb1⟩
  have P1 := Pg.new 1
  have HP1 := Lib.hid P1; clear P1
  have HB1 := Lib.hid hb1; clear hb1
  generalize newL 1 = l1 at *
  go_wp2_with fail
  refine (add_any l1 [97, 98] _ _ HP1.out.len (ByteS.new w1 [97, 98] 2 _ _) (by simp)).mono ?_
  obtain ⟨a1, a2, P2⟩ := HP1.out.add [97, 98] (by decide) (by decide)
  replace a1 : (addL l1 [97, 98]).2.1 = 0 := a1.trans (by decide)
  rw [a1, a2]
  generalize (addL l1 [97, 98]).1 = l2 at *
  rintro e w2 ⟨rfl, hb2⟩
  have HP2 := Lib.hid P2
  have HB2 := Lib.hid (show Below w.heap.size w w2 from (HB1.out.alloc HB1.out.size _).trans (hb2.mono (by simp; have := HB1.out.size; omega)))
  clear a1 a2 P2 hb2
  go_upto_region 2 with (refine store_page_new HP2.out.len length_zeroPage rfl _ _ rfl rfl rfl ?_)
  have HG2 := Lib.hid (heap_alloc_new w2 (.cells (bytesA l2) 26))
  have HB3 := Lib.hid (HB2.out.alloc HB2.out.size (.cells (bytesA l2) 26))
  have hs3 : w2.heap.size < (w2.alloc (.cells (bytesA l2) 26)).heap.size := by simp
  generalize w2.alloc (.cells (bytesA l2) 26) = w3 at *
  go_wp2_with (refine load_page HP2.out.len HG2.out rfl _ rfl rfl ?_)
  refine (add_any l2 [99] _ _ HP2.out.len (ByteS.new w3 [99] 1 _ _) (by simp)).mono ?_
  obtain ⟨a1, a2, P4⟩ := HP2.out.add [99] (by decide) (by decide)
  replace a1 : (addL l2 [99]).2.1 = 1 := a1.trans (by decide)
  rw [a1, a2]
  generalize (addL l2 [99]).1 = l4 at *
  rintro e w4 ⟨rfl, hb4⟩
  have HP4 := Lib.hid P4
  have HB4 := Lib.hid (show Below w.heap.size w w4 from (HB3.out.alloc HB3.out.size _).trans (hb4.mono (by simp; have := HB3.out.size; omega)))
  clear a1 a2 P4 hb4
  go_upto_region 3 with (refine store_page_new HP4.out.len length_zeroPage rfl _ _ rfl rfl rfl ?_)
  have HG4 := Lib.hid (heap_alloc_new w4 (.cells (bytesA l4) 26))
  have HB5 := Lib.hid (HB4.out.alloc HB4.out.size (.cells (bytesA l4) 26))
  have hs5 : w4.heap.size < (w4.alloc (.cells (bytesA l4) 26)).heap.size := by simp
  generalize w4.alloc (.cells (bytesA l4) 26) = w5 at *
  go_wp2_with (refine load_page HP4.out.len HG4.out rfl _ rfl rfl ?_)
  refine (get_any l4 0 _ HP4.out.len).mono ?_
  have hg0 : getL l4 0 = some [97, 98] := by rw [HP4.out.get]; rfl
  rw [hg0]
  rintro e w6 ⟨v, rfl, hrec, hb6⟩
  obtain ⟨gb, cb, rfl⟩ := hrec.2
  have hstr := str_of hrec.bytes (fun ad n c h => by simp only [Value.slice.injEq, Option.some.injEq] at h; rw [← h.1])
  have HG6 := Lib.hid ((hb6.block _ hs5).trans HG4.out)
  have HB6 := Lib.hid (HB5.out.trans (hb6.mono HB5.out.size))
  have hs6 : w4.heap.size < w6.heap.size := Nat.lt_of_lt_of_le hs5 hb6.size
  clear hg0 hrec hb6 HB1 HB2 HB3 HB4 HB5 HG2 HG4
  simp only [List.length_cons, List.length_nil] at hstr ⊢
  go_wp2_with (refine load_page HP4.out.len HG6.out rfl _ rfl rfl ?_)
  refine (kind_any l4 _ HP4.out.len).mono ?_
  rw [HP4.out.kind]
  rintro e w7 ⟨rfl, hb7⟩
  have HG7 := Lib.hid ((hb7.block _ hs6).trans HG6.out)
  have HB7 := Lib.hid (HB6.out.trans (hb7.mono HB6.out.size))
  have hs7 : w4.heap.size < w7.heap.size := Nat.lt_of_lt_of_le hs6 hb7.size
  clear hb7 HB6 HG6 hstr
  rw [show ((1 : Int) % 256) = 1 from rfl]
  go_wp2_with fail
  refine (new_any 1 _).mono ?_
  rintro e w8 ⟨rfl, hb8⟩
  have HP8 := Lib.hid (Pg.new 1)
  generalize newL 1 = l8 at *
  have HG8 := Lib.hid ((hb8.block _ hs7).trans HG7.out)
  have HB8 := Lib.hid (HB7.out.trans (hb8.mono HB7.out.size))
  have hs8 : w4.heap.size < w8.heap.size := Nat.lt_of_lt_of_le hs7 hb8.size
  clear hb8 HB7 HG7
  go_wp2_with fail
  refine (room_any l8 _ HP8.out.len).mono ?_
  rw [HP8.out.slots, show roomL [] = 400 from by decide]
  rintro e w9 ⟨rfl, hb9⟩
  have HG9 := Lib.hid ((hb9.block _ hs8).trans HG8.out)
  have HB9 := Lib.hid (HB8.out.trans (hb9.mono HB8.out.size))
  have hs9 : w4.heap.size < w9.heap.size := Nat.lt_of_lt_of_le hs8 hb9.size
  clear hb9 HB8 HG8
  go_wp2_with (refine load_page HP4.out.len HG9.out rfl _ rfl rfl ?_)
  refine (right_any l4 _ HP4.out.len).mono ?_
  rw [HP4.out.right]
  rintro e w10 ⟨rfl, hb10⟩
  have HB10 := Lib.hid (HB9.out.trans (hb10.mono HB9.out.size))
  clear hb10
  go_wp2_with fail
  go_ret
  exact ⟨rfl, HB10.out⟩
end Go.Proofs.Ytpfnpinblbfjdaa
