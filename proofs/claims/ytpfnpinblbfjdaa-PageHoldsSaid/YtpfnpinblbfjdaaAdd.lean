/- The walks of page.Add, Drop, Set. -/
import Derived.Test.YtpfnpinblbfjdaaPut
set_option linter.unusedSimpArgs false
namespace Go.Proofs.Ytpfnpinblbfjdaa
open Go.RowKit

/-- page.Add's answer. -/
def addL (l : List UInt8) (r : List UInt8) : List UInt8 × Int × Bool :=
  let pp := putPage (kindL l) (slotsL l) (freeL (slotsL l)) r
  (pp.1, if pp.2 then (freeL (slotsL l) : Int) else 0, pp.2)
theorem length_addL (l r : List UInt8) : (addL l r).1.length = 512 := length_putPage _ _ _ _

set_option maxHeartbeats 1000000 in
set_option maxRecDepth 100000 in
theorem add_core (pg : List UInt8) (ok : Bool) (k : Nat) (l r : List UInt8) (rv : Value) (w : World) (hl : l.length = 512) (hr : ByteS w rv r) (hrl : r.length ≤ 140737488351232)
    (hk : k = freeL (slotsL l)) (hpp : putPage (kindL l) (slotsL l) (freeL (slotsL l)) r = (pg, ok)) :
    Calls Try.prog 11 #[.agg (bytesA l), rv] w fun e w' => e = .returned (.tuple #[.agg (bytesA pg), .int .i64 (if ok then k else 0), .bool ok]) ∧ Below w.heap.size w w' := by
  have hz := zero_page
  have hfr := freeL_le (slotsL l)
  have hsl := slotsL_le l
  have hlens := slotsLens l hl
  have hlpg := length_putPage (kindL l) (slotsL l) (freeL (slotsL l)) r
  rw [hpp] at hlpg
  rw [← hk] at hfr hpp
  have HK := Lib.hid hk; have HPP := Lib.hid hpp; have HLP := Lib.hid hlpg
  clear hk hpp hlpg
  have HL := Lib.hid hl; clear hl
  have HR := Lib.hid hr; clear hr
  go_enter Try.func11, Try.ntmps11
  go_upto_region 1 with fail
  have HB0 := Lib.hid (show Below w.heap.size w ((w.alloc (.cells (bytesA l) 26)).alloc (.cells (bytesA zeroPage) 26)) from ((Below.refl _ _).alloc (Nat.le_refl _) _).alloc (by simp) _)
  have HP0 := Lib.hid (heap_alloc2_old w (.cells (bytesA l) 26) (.cells (bytesA zeroPage) 26))
  have HZ0 := Lib.hid (heap_alloc2_new w (.cells (bytesA l) 26) (.cells (bytesA zeroPage) 26))
  have HW0 := Lib.hid (show ((w.alloc (.cells (bytesA l) 26)).alloc (.cells (bytesA zeroPage) 26)).heap.size = w.heap.size + 2 from by simp)
  generalize (w.alloc (.cells (bytesA l) 26)).alloc (.cells (bytesA zeroPage) 26) = W at *
  have hW0 : w.heap.size + 2 ≤ W.heap.size := by have := HW0.out; omega
  clear HW0
  go_wp2_with (refine wpList_load_row (P := Try.prog) rfl 26 _ rfl _ rfl _ _ _ _ HP0.out Try.underlying26 rfl (info_page' _ HL.out) ?_)
  refine (slots_any l _ HL.out).mono ?_
  rintro e w3 ⟨v, rfl, hs, hb3⟩
  have HP3 := Lib.hid ((hb3.block w.heap.size (by omega)).trans HP0.out)
  have HZ3 := Lib.hid ((hb3.block (w.heap.size + 1) (by omega)).trans HZ0.out)
  have HB3 := Lib.hid (HB0.out.trans (hb3.mono (by omega)))
  have hW3 : W.heap.size ≤ w3.heap.size := hb3.size
  have HS := Lib.hid hs
  obtain ⟨av, cv, rfl⟩ := hs.form
  clear hs hb3
  generalize slotsL l = ss at *
  go_wp2_with fail
  refine (free_any ss _ _ _ HS.out (by omega)).mono ?_
  rintro e w5 ⟨rfl, rfl⟩
  rw [← HK.out]
  go_wp2_with (refine wpList_load_row (P := Try.prog) rfl 26 _ rfl _ rfl _ _ _ _ HP3.out Try.underlying26 rfl (info_page' _ HL.out) ?_)
  refine (put_any l ss k r _ _ W.heap.size _ HL.out HS.out (fun w' hb' => HR.out.later (HB3.out.trans (hb'.mono (by omega)))) hfr (by omega) (by omega) hrl hW3).mono ?_
  rw [HPP.out]
  rintro e w6 ⟨rfl, hb6⟩
  have HP6 := Lib.hid ((hb6.block w.heap.size (by omega)).trans HP3.out)
  have HZ6 := Lib.hid ((hb6.block (w.heap.size + 1) (by omega)).trans HZ3.out)
  have HB6 := Lib.hid (HB3.out.trans (hb6.mono (by omega)))
  have hW6 : w3.heap.size ≤ w6.heap.size := hb6.size
  clear hb6 HS HP3 HZ3 HB3 HP0 HZ0 HB0
  have HL9 := Lib.hid (setRow_heap (w6.alloc (.cells (bytesA zeroPage) 26)) w6.heap.size _ (bytesA pg) _ _ (heap_alloc_new w6 _))
  have HZ9 := Lib.hid (show ((w6.alloc (.cells (bytesA zeroPage) 26)).setRow w6.heap.size (bytesA pg)).heap[w.heap.size + 1]? = some (.cells (bytesA zeroPage) 26 (0, 0)) from by
    rw [setRow_other _ _ _ _ (by omega), Below.heap_alloc _ _ _ (by omega)]; exact HZ6.out)
  have HB9 := Lib.hid (show Below w.heap.size w ((w6.alloc (.cells (bytesA zeroPage) 26)).setRow w6.heap.size (bytesA pg)) from (HB6.out.alloc (by omega) _).trans (Below.setRow _ _ _ _ (by omega)))
  cases ok
  all_goals
    go_wp2_with (first
      | refine wpList_store_row (P := Try.prog) rfl 26 (.tmp 9) _ rfl _ _ rfl rfl _ _ (heap_alloc_new _ _) (info_page' _ HLP.out) (by rw [size_bytesA, size_bytesA, HLP.out]; exact length_zeroPage) (oneCell_bytesA _) ?_
      | refine wpList_load_row (P := Try.prog) rfl 26 _ rfl _ rfl _ _ _ _ HL9.out Try.underlying26 rfl (info_page' _ HLP.out) ?_
      | refine wpList_store_row (P := Try.prog) rfl 26 (.tmp 4) _ rfl _ _ rfl rfl _ _ HZ9.out (info_page' _ HLP.out) (by rw [size_bytesA, size_bytesA, HLP.out]; exact length_zeroPage) (oneCell_bytesA _) ?_)
    refine bodyPost_ret (results_page3 rfl _ _ _ _ rfl (setRow_heap _ _ _ _ _ _ HZ9.out) HLP.out _ _ rfl rfl) rfl ⟨rfl, ?_⟩
    exact HB9.out.trans (Below.setRow _ _ _ _ (by omega))

/-- page.Add: it returns the page with a record more, its slot, and whether there was room. -/
theorem add_any (l r : List UInt8) (rv : Value) (w : World) (hl : l.length = 512) (hr : ByteS w rv r) (hrl : r.length ≤ 140737488351232) :
    Calls Try.prog 11 #[.agg (bytesA l), rv] w fun e w' => e = .returned (.tuple #[.agg (bytesA (addL l r).1), .int .i64 (addL l r).2.1, .bool (addL l r).2.2]) ∧ Below w.heap.size w w' :=
  add_core _ _ _ l r rv w hl hr hrl rfl rfl

/-- page.Drop's answer. -/
def dropL (l : List UInt8) (k : Int) : List UInt8 × Bool :=
  if getL l k = none ∨ 496 < costL ((slotsL l).set k.toNat none) then (zeroPage, false) else (madeL (kindL l) ((slotsL l).set k.toNat none), true)
theorem length_dropL (l : List UInt8) (k : Int) : (dropL l k).1.length = 512 := by
  unfold dropL
  split
  · exact length_zeroPage
  · refine length_madeL _ _ ?_
    have := lens_trim_le ((slotsL l).set k.toNat none)
    unfold costL at *
    omega

set_option maxHeartbeats 1000000 in
set_option maxRecDepth 100000 in
theorem drop_core (pp : List UInt8 × Bool) (l : List UInt8) (k : Int) (w : World) (hl : l.length = 512) (hpp : pp = dropL l k) :
    Calls Try.prog 13 #[.agg (bytesA l), .int .i64 k] w fun e w' => e = .returned (.tuple #[.agg (bytesA pp.1), .bool pp.2]) ∧ Below w.heap.size w w' := by
  have hz := zero_page
  have hn := eql_nil
  have hsl := slotsL_le l
  have hlens := slotsLens l hl
  have HPP := Lib.hid (show pp = if getL l k = none ∨ 496 < costL ((slotsL l).set k.toNat none) then (zeroPage, false) else (madeL (kindL l) ((slotsL l).set k.toNat none), true) from hpp)
  have HG := Lib.hid (show getL l k = if k < 0 then none else (slotsL l).getD k.toNat none from rfl)
  clear hpp
  have HL := Lib.hid hl; clear hl
  go_enter Try.func13, Try.ntmps13
  go_upto_region 1 with fail
  have HB0 := Lib.hid (show Below w.heap.size w ((w.alloc (.cells (bytesA l) 26)).alloc (.cells (bytesA zeroPage) 26)) from ((Below.refl _ _).alloc (Nat.le_refl _) _).alloc (by simp) _)
  have HP0 := Lib.hid (heap_alloc2_old w (.cells (bytesA l) 26) (.cells (bytesA zeroPage) 26))
  have HZ0 := Lib.hid (heap_alloc2_new w (.cells (bytesA l) 26) (.cells (bytesA zeroPage) 26))
  have HW0 := Lib.hid (show ((w.alloc (.cells (bytesA l) 26)).alloc (.cells (bytesA zeroPage) 26)).heap.size = w.heap.size + 2 from by simp)
  generalize (w.alloc (.cells (bytesA l) 26)).alloc (.cells (bytesA zeroPage) 26) = W at *
  have hW0 : w.heap.size + 2 ≤ W.heap.size := by have := HW0.out; omega
  clear HW0
  go_wp2_with (refine wpList_load_row (P := Try.prog) rfl 26 _ rfl _ rfl _ _ _ _ HP0.out Try.underlying26 rfl (info_page' _ HL.out) ?_)
  refine (slots_any l _ HL.out).mono ?_
  rintro e w3 ⟨v, rfl, hs, hb3⟩
  have HP3 := Lib.hid ((hb3.block w.heap.size (by omega)).trans HP0.out)
  have HZ3 := Lib.hid ((hb3.block (w.heap.size + 1) (by omega)).trans HZ0.out)
  have HB3 := Lib.hid (HB0.out.trans (hb3.mono (by omega)))
  have hW3 : W.heap.size ≤ w3.heap.size := hb3.size
  have HS := Lib.hid hs
  obtain ⟨av, cv, rfl⟩ := hs.form
  clear hs hb3
  generalize slotsL l = ss at *
  have bad : getL l k = none ∨ 496 < costL (ss.set k.toNat none) → pp = (zeroPage, false) := fun h => by rw [HPP.out, if_pos h]
  have HBAD := Lib.hid bad; clear bad
  by_cases hnone : getL l k = none
  · have HE := Lib.hid (HBAD.out (.inl hnone))
    have hcases : k < 0 ∨ ((0 ≤ k ∧ (ss.length : Int) ≤ k) ∨ (0 ≤ k ∧ k < ss.length ∧ ss.getD k.toNat none = none)) := by
      by_cases h1 : k < 0
      · exact .inl h1
      · by_cases h2 : (ss.length : Int) ≤ k
        · exact .inr (.inl ⟨by omega, h2⟩)
        · rw [HG.out, if_neg h1] at hnone; exact .inr (.inr ⟨by omega, by omega, hnone⟩)
    clear hnone
    rcases hcases with h1 | ⟨h1, h2⟩ | ⟨h1, h2, h3⟩
    case' inr.inr =>
      obtain ⟨j, rfl⟩ := Int.eq_ofNat_of_zero_le h1
      rw [Int.toNat_natCast] at h3
      rcases HS.out.cells with ⟨e1, e2⟩ | ⟨g, cap, e1, hg, hcap, hc⟩
      case' inl => (exfalso; have e3 := congrArg List.length e2; rw [List.length_nil] at e3; omega)
      case' inr =>
        simp only [Value.slice.injEq, true_and] at e1
        obtain ⟨rfl, rfl⟩ := e1
        obtain ⟨x, hx, _, hrec⟩ := hc j (by omega)
        clear hc
        rw [h3] at hrec
        have hrec' : x = .slice none 0 0 := hrec
        subst hrec'
        clear hrec h3
    all_goals
      go_wp2_with (refine wpList_store_row (P := Try.prog) rfl 26 _ _ rfl _ _ rfl rfl _ _ HZ3.out (info_page' _ length_zeroPage) rfl (oneCell_bytesA _) ?_)
      refine bodyPost_ret (v := .tuple #[.agg (bytesA zeroPage), .bool false]) (results_page2 rfl _ _ _ _ rfl (setRow_heap _ _ _ _ _ _ HZ3.out) length_zeroPage _ rfl) rfl ⟨?_, ?_⟩
      · rw [HE.out]
      · exact HB3.out.trans (Below.setRow _ _ _ _ (by omega))
  · have hk : 0 ≤ k ∧ k < ss.length ∧ ss.getD k.toNat none ≠ none := by
      by_cases h1 : k < 0
      · exact absurd (by rw [HG.out, if_pos h1]) hnone
      · rw [HG.out, if_neg h1] at hnone
        refine ⟨by omega, ?_, hnone⟩
        by_cases h2 : k < ss.length
        · exact h2
        · exact absurd (by simp [List.getElem?_eq_none (show ss.length ≤ k.toNat by omega)]) hnone
    have HNN := Lib.hid hnone
    clear hnone
    obtain ⟨h1, h2, h3⟩ := hk
    obtain ⟨j, rfl⟩ := Int.eq_ofNat_of_zero_le h1
    rw [Int.toNat_natCast] at *
    have hj : j < ss.length := by omega
    rcases HS.out.cells with ⟨e1, e2⟩ | ⟨g, cap, e1, hg, hcap, hc⟩
    · exfalso; have e3 := congrArg List.length e2; rw [List.length_nil] at e3; omega
    · simp only [Value.slice.injEq, true_and] at e1
      obtain ⟨rfl, rfl⟩ := e1
      obtain ⟨x, hx, hxf, hrec⟩ := hc j hj
      clear hc
      rcases hrec.form with ⟨ho, rfl⟩ | ⟨r, g', cap', ho, rfl⟩
      · exact absurd ho h3
      · clear hrec ho h3
        have HS6 := Lib.hid (HS.out.store j (x := .slice none 0 0) (o := none) rfl hj)
        have HP6 := Lib.hid ((Below.heap_setCell w3 ⟨g, j, none⟩ (.slice none 0 0) w.heap.size (slots_apart HS.out HP3.out)).trans HP3.out)
        have HZ6 := Lib.hid ((Below.heap_setCell w3 ⟨g, j, none⟩ (.slice none 0 0) (w.heap.size + 1) (slots_apart HS.out HZ3.out)).trans HZ3.out)
        have HB6 := Lib.hid (HB3.out.setCell (p := ⟨g, j, none⟩) (show w.heap.size ≤ g by omega) (.slice none 0 0))
        have HS3 := Lib.hid (show (w3.setCell ⟨g, j, none⟩ (.slice none 0 0)).heap.size = w3.heap.size from by simp)
        have hcp : costL (ss.set j none) ≤ 63988 := by
          have a1 := lens_set_le ss j none
          simp only [recLen] at a1
          unfold costL
          simp only [List.length_set]
          omega
        generalize ss.set j none = sp at *
        go_wp2_with fail
        generalize w3.setCell ⟨g, j, none⟩ (.slice none 0 0) = w6 at *
        refine (cost_any sp _ _ _ HS6.out (by omega)).mono ?_
        rintro e w7 ⟨rfl, rfl⟩
        have hc4 := page_cell HP6.out HL.out 4 (by omega)
        have HKD := Lib.hid (show kindL l = ((l.getD 4 0).toNat : Int) from rfl)
        have hkd := UInt8.toNat_lt (l.getD 4 0)
        generalize l.getD 4 0 = kb at *
        by_cases hc496 : 496 < costL sp
        · have HE := Lib.hid (HBAD.out (.inr hc496))
          generalize costL sp = cc at *
          go_wp2_with (refine wpList_store_row (P := Try.prog) rfl 26 _ _ rfl _ _ rfl rfl _ _ HZ6.out (info_page' _ length_zeroPage) rfl (oneCell_bytesA _) ?_)
          refine bodyPost_ret (v := .tuple #[.agg (bytesA zeroPage), .bool false]) (results_page2 rfl _ _ _ _ rfl (setRow_heap _ _ _ _ _ _ HZ6.out) length_zeroPage _ rfl) rfl ⟨?_, ?_⟩
          · rw [HE.out]
          · exact HB6.out.trans (Below.setRow _ _ _ _ (by omega))
        · rw [if_neg (by rintro (h | h); exact HNN.out h; exact hc496 h)] at HPP
          have hc2 : costL sp ≤ 496 := by omega
          generalize hcc : costL sp = cc at *
          have HCE := Lib.hid hcc; clear hcc
          have hs6 : w.heap.size + 2 ≤ w6.heap.size := by have := HS3.out; omega
          go_wp2_with fail
          refine (made_any (kb.toNat : Int) (by omega) (by omega) sp _ _ _ HS6.out (by rw [HCE.out]; exact hc2)).mono ?_
          rintro e w7 ⟨rfl, hb7⟩
          have HZ7 := Lib.hid ((hb7.block (w.heap.size + 1) (by omega)).trans HZ6.out)
          have HB7 := Lib.hid (HB6.out.trans (hb7.mono (by omega)))
          rw [HKD.out] at HPP
          have HLM := Lib.hid (length_madeL (kb.toNat : Int) sp (by have a1 := lens_trim_le sp; have a2 := HCE.out; unfold costL at a2; omega))
          generalize madeL (kb.toNat : Int) sp = m at *
          clear hb7
          go_wp2_with (refine wpList_store_row (P := Try.prog) rfl 26 _ _ rfl _ _ rfl rfl _ _ HZ7.out (info_page' _ HLM.out) (by rw [size_bytesA, size_bytesA, HLM.out]; exact length_zeroPage) (oneCell_bytesA _) ?_)
          refine bodyPost_ret (v := .tuple #[.agg (bytesA m), .bool true]) (results_page2 rfl _ _ _ _ rfl (setRow_heap _ _ _ _ _ _ HZ7.out) HLM.out _ rfl) rfl ⟨?_, ?_⟩
          · rw [HPP.out]
          · exact HB7.out.trans (Below.setRow _ _ _ _ (by omega))

/-- page.Drop: it returns the page without a record, and whether there was one. -/
theorem drop_any (l : List UInt8) (k : Int) (w : World) (hl : l.length = 512) :
    Calls Try.prog 13 #[.agg (bytesA l), .int .i64 k] w fun e w' => e = .returned (.tuple #[.agg (bytesA (dropL l k).1), .bool (dropL l k).2]) ∧ Below w.heap.size w w' :=
  drop_core _ l k w hl rfl
end Go.Proofs.Ytpfnpinblbfjdaa
