/- The walk of page.Set. -/
import Derived.Test.YtpfnpinblbfjdaaAdd
set_option linter.unusedSimpArgs false
namespace Go.Proofs.Ytpfnpinblbfjdaa
open Go.RowKit

/-- page.Set's answer. -/
def setL (l : List UInt8) (k : Int) (r : List UInt8) : List UInt8 × Bool :=
  if getL l k = none then (zeroPage, false) else putPage (kindL l) (slotsL l) k.toNat r
theorem length_setL (l : List UInt8) (k : Int) (r : List UInt8) : (setL l k r).1.length = 512 := by
  unfold setL
  split
  · exact length_zeroPage
  · exact length_putPage _ _ _ _
theorem page_range {w : World} {g : Nat} {l : List UInt8} (h : w.heap[g]? = some (.cells (bytesA l) 26 (0, 0))) : w.rangeAt g 0 (bytesL l) := fun j v hv => by
  rw [cell_of_row w g (0 + j) _ _ _ h]; simpa using hv

/-- What stands through a statement of Set: the page, a page in the result's cell, all that was there. -/
def Through (w : World) (l : List UInt8) (w' : World) : Prop :=
  w'.heap[w.heap.size]? = some (.cells (bytesA l) 26 (0, 0)) ∧ (∃ z : List UInt8, z.length = 512 ∧ w'.heap[w.heap.size + 1]? = some (.cells (bytesA z) 26 (0, 0))) ∧ Below w.heap.size w w' ∧ w.heap.size + 2 ≤ w'.heap.size
theorem Through.next {w w' w'' : World} {l : List UInt8} (h : Through w l w') {B : Nat} (hB : w.heap.size + 2 ≤ B) (hb : Below B w' w'') : Through w l w'' := by
  obtain ⟨h1, ⟨z, hz, h2⟩, h3, h4⟩ := h
  exact ⟨(hb.block _ (by omega)).trans h1, ⟨z, hz, (hb.block _ (by omega)).trans h2⟩, h3.trans (hb.mono (by omega)), Nat.le_trans h4 hb.size⟩
theorem Through.drew {w w' : World} {l : List UInt8} (h : Through w l w') : Through w l w'.drew := ⟨h.1, h.2.1, h.2.2.1.drew, h.2.2.2⟩

set_option maxHeartbeats 1000000 in
set_option maxRecDepth 100000 in
theorem set_core (pp : List UInt8 × Bool) (l : List UInt8) (k : Int) (r : List UInt8) (rv : Value) (w : World) (hl : l.length = 512) (hr : ByteS w rv r) (hrl : r.length ≤ 140737488351232) (hpp : pp = setL l k r) :
    Calls Try.prog 19 #[.agg (bytesA l), .int .i64 k, rv] w fun e w' => e = .returned (.tuple #[.agg (bytesA pp.1), .bool pp.2]) ∧ Below w.heap.size w w' := by
  have hz := zero_page
  have hsl := slotsL_le l
  have hlens := slotsLens l hl
  have hlp := length_setL l k r
  rw [← hpp] at hlp
  have HLP := Lib.hid hlp
  have HPP := Lib.hid (show pp = if getL l k = none then (zeroPage, false) else putPage (kindL l) (slotsL l) k.toNat r from hpp)
  have HG := Lib.hid (show getL l k = if k < 0 then none else (slotsL l).getD k.toNat none from rfl)
  clear hpp hlp
  have HL := Lib.hid hl; clear hl
  have HR := Lib.hid hr; clear hr
  go_enter Try.func19, Try.ntmps19
  go_upto_region 1 with fail
  have HT0 := Lib.hid (show Through w l ((w.alloc (.cells (bytesA l) 26)).alloc (.cells (bytesA zeroPage) 26)) from ⟨heap_alloc2_old _ _ _, ⟨_, length_zeroPage, heap_alloc2_new _ _ _⟩, ((Below.refl _ _).alloc (Nat.le_refl _) _).alloc (by simp) _, by simp⟩)
  generalize (w.alloc (.cells (bytesA l) 26)).alloc (.cells (bytesA zeroPage) 26) = W at *
  go_wp2_with (refine wpList_load_row (P := Try.prog) rfl 26 _ rfl _ rfl _ _ _ _ HT0.out.1 Try.underlying26 rfl (info_page' _ HL.out) ?_)
  refine (get_any l k _ HL.out).mono ?_
  rintro e w3 ⟨v, rfl, hrec, hb3⟩
  have HT3 := Lib.hid (HT0.out.next HT0.out.2.2.2 hb3)
  obtain ⟨ga, gc, rfl⟩ := hrec.len
  clear hrec hb3 HT0
  by_cases hnone : getL l k = none
  · rw [hnone]
    rw [if_pos hnone] at HPP
    obtain ⟨z, hzl, hzh⟩ := HT3.out.2.1
    have HZL := Lib.hid hzl; have HZH := Lib.hid hzh
    clear hzl hzh
    go_wp2_with (refine wpList_store_row (P := Try.prog) rfl 26 _ _ rfl _ _ rfl rfl _ _ HZH.out (info_page' _ length_zeroPage) (by rw [size_bytesA, size_bytesA, HZL.out]; exact length_zeroPage.symm) (oneCell_bytesA _) ?_)
    refine bodyPost_ret (v := .tuple #[.agg (bytesA zeroPage), .bool false]) (results_page2 rfl _ _ _ _ rfl (setRow_heap _ _ _ _ _ _ HZH.out) length_zeroPage _ rfl) rfl ⟨?_, ?_⟩
    · rw [HPP.out]
    · exact HT3.out.2.2.1.trans (Below.setRow _ _ _ _ (by omega))
  · have hk : 0 ≤ k ∧ k < (slotsL l).length := by
      by_cases h1 : k < 0
      · exact absurd (by rw [HG.out, if_pos h1]) hnone
      · rw [HG.out, if_neg h1] at hnone
        refine ⟨by omega, ?_⟩
        by_cases h2 : k < (slotsL l).length
        · exact h2
        · exact absurd (by simp [List.getElem?_eq_none (show (slotsL l).length ≤ k.toNat by omega)]) hnone
    rw [if_neg hnone] at HPP
    have hsome : (getL l k).isSome = true := by cases h : getL l k with
      | none => exact absurd h hnone
      | some x => rfl
    rw [hsome]
    clear hnone hsome HG
    generalize recLen (getL l k) = gn
    obtain ⟨h1, h2⟩ := hk
    obtain ⟨j, rfl⟩ := Int.eq_ofNat_of_zero_le h1
    rw [Int.toNat_natCast] at HPP
    have hj : j < (slotsL l).length := by omega
    go_wp2_with fail
    have hu := Try.underlying26
    have hi : (Try.prog.info? 26).map (·.size) = some (bytesL l).length := by rw [length_bytesL, HL.out]; exact info_page
    refine wp_region_noPanic ?_
    refine wp_region_held_drew (S := Through w l) (by kernel_rfl) HT3.out.drew (fun hH => ?_)
    refine takeH_load 0 19 _ _ _ _ _ (bytesL l) _ rfl rfl rfl (by kernel_rfl) (by kernel_rfl) (by kernel_rfl) rfl rfl hu rfl hi hH (fun w h => page_range h.1) ?_
    refine takeH_load 1 20 _ _ _ _ _ (bytesL l) _ rfl rfl rfl (by kernel_rfl) (by kernel_rfl) (by kernel_rfl) rfl rfl hu rfl hi hH (fun w h => page_range h.1) ?_
    refine takeH 3 22 _ (.int .i64 j) rfl rfl rfl (by kernel_rfl) (by kernel_rfl) (by kernel_rfl) hH (fun w _ => by go_simp) ?_
    refine takeH 4 23 _ rv rfl rfl rfl (by kernel_rfl) (by kernel_rfl) (by kernel_rfl) hH (fun w _ => by go_simp) ?_
    simp only [List.setIfInBounds_toArray, List.set_cons_zero, List.set_cons_succ]
    refine wpAnyH_ready (rs := [2]) (by kernel_rfl) (by simp) (AllReadyH.cons rfl (fun K hK => ?_) AllReadyH.nil)
    go_simp
    refine (slots_any l _ HL.out).mono ?_
    rintro e w5 ⟨v, rfl, hs, hb5⟩
    go_simp
    refine hK.out _ _ (hH.next hH.2.2.2 hb5) (fun hH5 => ?_)
    clear hK K
    have hsz := hb5.size
    refine wpAnyH_ready (rs := [5]) (by kernel_rfl) (by simp) (AllReadyH.cons rfl (fun K hK => ?_) AllReadyH.nil)
    go_simp
    refine (put_any l (slotsL l) j r _ _ w3.drew.heap.size _ HL.out hs (fun w' hb' => HR.out.later (hH5.2.2.1.trans (hb'.mono (by have := HT3.out.2.2.2; simp; omega)))) (by omega) (by omega) hlens hrl hsz).mono ?_
    rw [← HPP.out]
    rintro e w6 ⟨rfl, hb6⟩
    go_simp
    refine hK.out _ _ (hH5.next (by have := HT3.out.2.2.2; simp; omega) hb6) (fun hH6 => ?_)
    clear hK K hs hb5 hb6 hH hH5 HT3
    refine takeH 6 25 _ (.agg (bytesA pp.1)) rfl rfl rfl (by kernel_rfl) (by kernel_rfl) (by kernel_rfl) hH6 (fun w _ => by go_simp) ?_
    refine takeH 7 26 _ (.bool pp.2) rfl rfl rfl (by kernel_rfl) (by kernel_rfl) (by kernel_rfl) hH6 (fun w _ => by go_simp) ?_
    simp only [List.setIfInBounds_toArray, List.set_cons_zero, List.set_cons_succ]
    obtain ⟨z, hzl, hzh⟩ := hH6.2.1
    have hrow := setRow_heap w6 (w.heap.size + 1) (bytesA z) (bytesA pp.1) _ _ hzh
    have hS7 : Through w l (w6.setRow (w.heap.size + 1) (bytesA pp.1)) := ⟨(setRow_other _ _ _ _ (by omega)).trans hH6.1, ⟨_, HLP.out, hrow⟩, hH6.2.2.1.trans (Below.setRow _ _ _ _ (by omega)), by simpa using hH6.2.2.2⟩
    refine wpAnyH_ready (rs := [8]) (by kernel_rfl) (by simp) (AllReadyH.cons rfl (fun K hK => ?_) AllReadyH.nil)
    rw [if_pos (by rfl)]
    refine wp_store_row 26 (.tmp 6) (.tmp 25) rfl _ _ rfl rfl _ _ hzh (info_page' _ HLP.out) (by rw [size_bytesA, size_bytesA, HLP.out]; exact hzl) (oneCell_bytesA _) ?_
    refine hK.out _ _ hS7 (fun _ => ?_)
    clear hK K
    refine takeH 9 7 _ (.bool pp.2) rfl rfl rfl (by kernel_rfl) (by kernel_rfl) (by kernel_rfl) hS7 (fun w _ => by go_simp) ?_
    refine wpAnyH_done (by kernel_rfl) ?_ _
    refine NoPanic.normal ?_
    go_wp2_with fail
    exact bodyPost_ret (results_page2 rfl _ _ _ _ rfl hrow HLP.out _ rfl) rfl ⟨rfl, hS7.2.2.1⟩

/-- page.Set: it returns the page with another record in a slot, and whether there was one and there was room. -/
theorem set_any (l : List UInt8) (k : Int) (r : List UInt8) (rv : Value) (w : World) (hl : l.length = 512) (hr : ByteS w rv r) (hrl : r.length ≤ 140737488351232) :
    Calls Try.prog 19 #[.agg (bytesA l), .int .i64 k, rv] w fun e w' => e = .returned (.tuple #[.agg (bytesA (setL l k r).1), .bool (setL l k r).2]) ∧ Below w.heap.size w w' :=
  set_core _ l k r rv w hl hr hrl rfl
end Go.Proofs.Ytpfnpinblbfjdaa
