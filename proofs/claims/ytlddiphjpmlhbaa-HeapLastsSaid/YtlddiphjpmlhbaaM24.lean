/- The walk of page.Set. The plain law of pages: what was put in a page is read out of it again. Steps over pages in variables; what a page is, as a kind and slots. -/
import Derived.Test.YtlddiphjpmlhbaaM23
import Derived.Deep.WholeRow
set_option linter.unusedSimpArgs false
set_option linter.unusedVariables false
set_option linter.defProp false
set_option maxRecDepth 100000
set_option maxHeartbeats 32000000
namespace Go.Proofs.Ytlddiphjpmlhbaa
open Go.RowKit
def setL (l : List UInt8) (k : Int) (r : List UInt8) : List UInt8 × Bool :=
 if getL l k = none then (zeroPage, false) else putPage (kindL l) (slotsL l) k.toNat r
theorem length_setL (l : List UInt8) (k : Int) (r : List UInt8) : (setL l k r).1.length = 512 := by
 unfold setL
 split
 ·exact length_zeroPage
 ·exact length_putPage _ _ _ _
theorem page_range {w : World} {g : Nat} {l : List UInt8} (h : w.heap[g]? = some (.cells (bytesA l) 86 (0, 0))) : w.rangeAt g 0 (bytesL l) := fun j v hv => by
 rw [cell_of_row w g (0 + j) _ _ _ h]; simpa using hv
def Through (w : World) (l : List UInt8) (w' : World) : Prop :=
 w'.heap[w.heap.size]? = some (.cells (bytesA l) 86 (0, 0)) ∧ (∃ z : List UInt8, z.length = 512 ∧ w'.heap[w.heap.size + 1]? = some (.cells (bytesA z) 86 (0, 0))) ∧ Below w.heap.size w w' ∧ w.heap.size + 2 ≤ w'.heap.size
theorem Through.next {w w' w'' : World} {l : List UInt8} (h : Through w l w') {B : Nat} (hB : w.heap.size + 2 ≤ B) (hb : Below B w' w'') : Through w l w'' := by
 obtain ⟨h1, ⟨z, hz, h2⟩, h3, h4⟩ := h
 exact ⟨(hb.block _ (by omega)).trans h1, ⟨z, hz, (hb.block _ (by omega)).trans h2⟩, h3.trans (hb.mono (by omega)), Nat.le_trans h4 hb.size⟩
theorem Through.drew {w w' : World} {l : List UInt8} (h : Through w l w') : Through w l w'.drew := ⟨h.1, h.2.1, h.2.2.1.drew, h.2.2.2⟩
theorem set_core (pp : List UInt8 × Bool) (l : List UInt8) (k : Int) (r : List UInt8) (rv : Value) (w : World) (hl : l.length = 512) (hr : ByteS w rv r) (hrl : r.length ≤ 140737488351232) (hpp : pp = setL l k r) :
 Calls Try.prog 33 #[.agg (bytesA l), .int .i64 k, rv] w fun e w' => e = .returned (.tuple #[.agg (bytesA pp.1), .bool pp.2]) ∧ Below w.heap.size w w' := by
 have hz := zero_page
 have hsl := slotsL_le l
 have hlens := slotsLens l hl
 have hlp := length_setL l k r
 rw [← hpp] at hlp
 have HLP := Lib.hid hlp
 have HPP := Lib.hid (show pp = if getL l k = none then (zeroPage, false) else putPage (kindL l) (slotsL l) k.toNat r from hpp)
 have HG := Lib.hid (show getL l k = if k < 0 then none else (slotsL l).getD k.toNat none from rfl)
 clear hpp hlp
 have HL := Lib.hid hl; clear hl
 have HR := Lib.hid hr; clear hr
 go_enter Try.func33, Try.ntmps33
 go_upto_region 1 with fail
 have HT0 := Lib.hid (show Through w l ((w.alloc (.cells (bytesA l) 86)).alloc (.cells (bytesA zeroPage) 86)) from ⟨heap_alloc2_old _ _ _, ⟨_, length_zeroPage, heap_alloc2_new _ _ _⟩, ((Below.refl _ _).alloc (Nat.le_refl _) _).alloc (by simp) _, by simp⟩)
 generalize (w.alloc (.cells (bytesA l) 86)).alloc (.cells (bytesA zeroPage) 86) = W at *
 go_wp2_with (refine wpList_load_row (P := Try.prog) rfl 86 _ rfl _ rfl _ _ _ _ HT0.out.1 Try.underlying86 rfl (info_page' _ HL.out) ?_)
 refine (get_any l k _ HL.out).mono ?_
 rintro e w3 ⟨v, rfl, hrec, hb3⟩
 have HT3 := Lib.hid (HT0.out.next HT0.out.2.2.2 hb3)
 obtain ⟨ga, gc, rfl⟩ := hrec.len
 clear hrec hb3 HT0
 by_cases hnone : getL l k = none
 ·rw [hnone]
  rw [if_pos hnone] at HPP
  obtain ⟨z, hzl, hzh⟩ := HT3.out.2.1
  have HZL := Lib.hid hzl; have HZH := Lib.hid hzh
  clear hzl hzh
  go_wp2_with (refine wpList_store_row (P := Try.prog) rfl 86 _ _ rfl _ _ rfl rfl _ _ HZH.out (info_page' _ length_zeroPage) (by rw [size_bytesA, size_bytesA, HZL.out]; exact length_zeroPage.symm) (oneCell_bytesA _) ?_)
  refine bodyPost_ret (v := .tuple #[.agg (bytesA zeroPage), .bool false]) (results_page2 rfl _ _ _ _ rfl (setRow_heap _ _ _ _ _ _ HZH.out) length_zeroPage _ rfl) rfl ⟨?_, ?_⟩
  ·rw [HPP.out]
  ·exact HT3.out.2.2.1.trans (Below.setRow _ _ _ _ (by omega))
 ·have hk : 0 ≤ k ∧ k < (slotsL l).length := by
   by_cases h1 : k < 0
   ·exact absurd (by rw [HG.out, if_pos h1]) hnone
   ·rw [HG.out, if_neg h1] at hnone
    refine ⟨by omega, ?_⟩
    by_cases h2 : k < (slotsL l).length
    ·exact h2
    ·exact absurd (by simp [List.getElem?_eq_none (show (slotsL l).length ≤ k.toNat by omega)]) hnone
  rw [if_neg hnone] at HPP
  have hsome : (getL l k).isSome = true := by cases h : getL l k with
   | none => exact absurd h hnone
   | some x => rfl
  rw [hsome]
  clear hnone hsome HG
  generalize recLen (getL l k) = gn
  obtain ⟨h1, h2⟩ := hk
  obtain ⟨j, rfl⟩ := Int.eq_ofNat_of_zero_le h1
  rw [Int.toNat_natCast] at HPP
  have hj : j < (slotsL l).length := by omega
  go_wp2_with fail
  have hu := Try.underlying86
  have hi : (Try.prog.info? 86).map (·.size) = some (bytesL l).length := by rw [length_bytesL, HL.out]; exact info_page
  refine wp_region_noPanic ?_
  refine wp_region_held_drew (S := Through w l) (by kernel_rfl) HT3.out.drew (fun hH => ?_)
  refine takeH_load 0 19 _ _ _ _ _ (bytesL l) _ rfl rfl rfl (by kernel_rfl) (by kernel_rfl) (by kernel_rfl) rfl rfl hu rfl hi hH (fun w h => page_range h.1) ?_
  refine takeH_load 1 20 _ _ _ _ _ (bytesL l) _ rfl rfl rfl (by kernel_rfl) (by kernel_rfl) (by kernel_rfl) rfl rfl hu rfl hi hH (fun w h => page_range h.1) ?_
  refine takeH 3 22 _ (.int .i64 j) rfl rfl rfl (by kernel_rfl) (by kernel_rfl) (by kernel_rfl) hH (fun w _ => by go_simp) ?_
  refine takeH 4 23 _ rv rfl rfl rfl (by kernel_rfl) (by kernel_rfl) (by kernel_rfl) hH (fun w _ => by go_simp) ?_
  simp only [List.setIfInBounds_toArray, List.set_cons_zero, List.set_cons_succ]
  refine wpAnyH_ready (rs := [2]) (by kernel_rfl) (by simp) (AllReadyH.cons rfl (fun K hK => ?_) AllReadyH.nil)
  go_simp
  refine (slots_any l _ HL.out).mono ?_
  rintro e w5 ⟨v, rfl, hs, hb5⟩
  go_simp
  refine hK.out _ _ (hH.next hH.2.2.2 hb5) (fun hH5 => ?_)
  clear hK K
  have hsz := hb5.size
  refine wpAnyH_ready (rs := [5]) (by kernel_rfl) (by simp) (AllReadyH.cons rfl (fun K hK => ?_) AllReadyH.nil)
  go_simp
  refine (put_any l (slotsL l) j r _ _ w3.drew.heap.size _ HL.out hs (fun w' hb' => HR.out.later (hH5.2.2.1.trans (hb'.mono (by have := HT3.out.2.2.2; simp; omega)))) (by omega) (by omega) hlens hrl hsz).mono ?_
  rw [← HPP.out]
  rintro e w6 ⟨rfl, hb6⟩
  go_simp
  refine hK.out _ _ (hH5.next (by have := HT3.out.2.2.2; simp; omega) hb6) (fun hH6 => ?_)
  clear hK K hs hb5 hb6 hH hH5 HT3
  refine takeH 6 25 _ (.agg (bytesA pp.1)) rfl rfl rfl (by kernel_rfl) (by kernel_rfl) (by kernel_rfl) hH6 (fun w _ => by go_simp) ?_
  refine takeH 7 26 _ (.bool pp.2) rfl rfl rfl (by kernel_rfl) (by kernel_rfl) (by kernel_rfl) hH6 (fun w _ => by go_simp) ?_
  simp only [List.setIfInBounds_toArray, List.set_cons_zero, List.set_cons_succ]
  obtain ⟨z, hzl, hzh⟩ := hH6.2.1
  have hrow := setRow_heap w6 (w.heap.size + 1) (bytesA z) (bytesA pp.1) _ _ hzh
  have hS7 : Through w l (w6.setRow (w.heap.size + 1) (bytesA pp.1)) := ⟨(setRow_other _ _ _ _ (by omega)).trans hH6.1, ⟨_, HLP.out, hrow⟩, hH6.2.2.1.trans (Below.setRow _ _ _ _ (by omega)), by simpa using hH6.2.2.2⟩
  refine wpAnyH_ready (rs := [8]) (by kernel_rfl) (by simp) (AllReadyH.cons rfl (fun K hK => ?_) AllReadyH.nil)
  rw [if_pos (by rfl)]
  refine wp_store_row 86 (.tmp 6) (.tmp 25) rfl _ _ rfl rfl _ _ hzh (info_page' _ HLP.out) (by rw [size_bytesA, size_bytesA, HLP.out]; exact hzl) (oneCell_bytesA _) ?_
  refine hK.out _ _ hS7 (fun _ => ?_)
  clear hK K
  refine takeH 9 7 _ (.bool pp.2) rfl rfl rfl (by kernel_rfl) (by kernel_rfl) (by kernel_rfl) hS7 (fun w _ => by go_simp) ?_
  refine wpAnyH_done (by kernel_rfl) ?_ _
  refine NoPanic.normal ?_
  go_wp2_with fail
  exact bodyPost_ret (results_page2 rfl _ _ _ _ rfl hrow HLP.out _ rfl) rfl ⟨rfl, hS7.2.2.1⟩
theorem set_any (l : List UInt8) (k : Int) (r : List UInt8) (rv : Value) (w : World) (hl : l.length = 512) (hr : ByteS w rv r) (hrl : r.length ≤ 140737488351232) :
 Calls Try.prog 33 #[.agg (bytesA l), .int .i64 k, rv] w fun e w' => e = .returned (.tuple #[.agg (bytesA (setL l k r).1), .bool (setL l k r).2]) ∧ Below w.heap.size w w' :=
 set_core _ l k r rv w hl hr hrl rfl
end Go.Proofs.Ytlddiphjpmlhbaa
namespace Go.Proofs.Ytlddiphjpmlhbaa
theorem getD_set (l : List UInt8) (i j : Nat) (x : UInt8) : (l.set i x).getD j 0 = if i = j ∧ j < l.length then x else l.getD j 0 := by
 simp only [List.getD_eq_getElem?_getD, List.getElem?_set]
 by_cases h : i = j
 ·subst h
  by_cases h2 : i < l.length
  ·simp [h2]
  ·simp [h2]
 ·simp [h]
theorem getD_splice (p r : List UInt8) (e j : Nat) (h : e + r.length ≤ p.length) : (splice p e r).getD j 0 = if e ≤ j ∧ j < e + r.length then r.getD (j - e) 0 else p.getD j 0 := by
 simp only [splice, List.getD_eq_getElem?_getD]
 by_cases h1 : j < e
 ·rw [List.getElem?_append_left (by simp; omega), if_neg (by omega), List.getElem?_take, if_pos h1]
 ·rw [List.getElem?_append_right (by simp; omega)]
  have e1 : (p.take e).length = e := by simp; omega
  rw [e1]
  by_cases h2 : j < e + r.length
  ·rw [List.getElem?_append_left (by omega), if_pos ⟨by omega, h2⟩]
  ·rw [List.getElem?_append_right (by omega), if_neg (by omega), List.getElem?_drop]
   congr 2
   omega
theorem getD_writeRec (p r : List UInt8) (i e j : Nat) (h : e + r.length ≤ p.length) (hi : 6 + 4 * i + 3 < p.length) : (writeRec p i e r).getD j 0 =
 if j = 6 + 4 * i + 3 then toB (((r.length : Int) + 1) / 256) else if j = 6 + 4 * i + 2 then toB (r.length + 1) else if j = 6 + 4 * i + 1 then toB ((e : Int) / 256) else if j = 6 + 4 * i then toB e
 else if e ≤ j ∧ j < e + r.length then r.getD (j - e) 0 else p.getD j 0 := by
 unfold writeRec
 have hl := length_splice p e r h
 rw [getD_set, getD_set, getD_set, getD_set, getD_splice _ _ _ _ h]
 simp only [List.length_set, hl]
 by_cases h3 : j = 6 + 4 * i + 3
 ·rw [if_pos ⟨h3.symm, by omega⟩, if_pos h3]
 ·rw [if_neg (by omega), if_neg h3]
  by_cases h2 : j = 6 + 4 * i + 2
  ·rw [if_pos ⟨h2.symm, by omega⟩, if_pos h2]
  ·rw [if_neg (by omega), if_neg h2]
   by_cases h1 : j = 6 + 4 * i + 1
   ·rw [if_pos ⟨h1.symm, by omega⟩, if_pos h1]
   ·rw [if_neg (by omega), if_neg h1]
    by_cases h0 : j = 6 + 4 * i
    ·rw [if_pos ⟨h0.symm, by omega⟩, if_pos h0]
    ·rw [if_neg (by omega), if_neg h0]
theorem toNat_toB (x : Int) (_h : 0 ≤ x) : (toB x).toNat = (x % 256).toNat := by
 unfold toB
 rw [UInt8.toNat_ofNat']
 omega
theorem two_toB (e : Nat) (h : e ≤ 65535) : (toB (e : Int)).toNat + 256 * (toB ((e : Int) / 256)).toNat = e := by
 rw [toNat_toB _ (by omega), toNat_toB _ (by omega)]
 omega
structure Filled (ts : List (Option (List UInt8))) (n : Nat) (kd : Int) (k : Nat) (p : List UInt8) (E : Nat) : Prop where
 len : p.length = 512
 kind : p.getD 4 0 = toB kd
 count : p.getD 5 0 = toB n
 zero : ∀ j, 6 + 4 * k ≤ j → j < 6 + 4 * n → p.getD j 0 = 0
 none : ∀ i, i < k → ts.getD i none = none → two p (6 + 4 * i + 2) = 0
 some : ∀ i r, i < k → ts.getD i Option.none = Option.some r → ∃ e, E ≤ e ∧ e + r.length ≤ 512 ∧ two p (6 + 4 * i) = e ∧ two p (6 + 4 * i + 2) = r.length + 1 ∧ ∀ j, j < r.length → p.getD (e + j) 0 = r.getD j 0
theorem getD_zeroPage (j : Nat) : zeroPage.getD j 0 = 0 := by
 unfold zeroPage
 simp only [List.getD_eq_getElem?_getD, List.getElem?_replicate]
 split <;> simp
theorem filled (kd : Int) (ts : List (Option (List UInt8))) (hc : costL ts ≤ 496) (k : Nat) (hk : k ≤ ts.length) :
 Filled ts ts.length kd k (fillTo ts ((zeroPage.set 4 (toB kd)).set 5 (toB ts.length)) k).1 (512 - lens (ts.take k)) := by
 have hc' : 4 * ts.length + lens ts ≤ 496 := hc
 induction k with
 | zero =>
   refine ⟨by simp [fillTo, length_zeroPage], ?_, ?_, ?_, fun i hi => absurd hi (by omega), fun i r hi => absurd hi (by omega)⟩
   ·simp only [fillTo]; rw [getD_set, getD_set]; simp [length_zeroPage]
   ·simp only [fillTo]; rw [getD_set]; simp [length_zeroPage]
   ·intro j h1 h2
    simp only [fillTo]
    rw [getD_set, if_neg (by omega), getD_set, if_neg (by omega), getD_zeroPage]
 | succ k ih =>
   have F := ih (by omega)
   have h1 := lens_take_succ ts k (by omega)
   have h2 := lens_take_le ts (k + 1)
   have hE := fillTo_end ts ((zeroPage.set 4 (toB kd)).set 5 (toB ts.length)) k (by omega) (by omega)
   unfold fillTo
   cases ho : ts.getD k none with
   | none =>
     rw [ho] at h1
     simp only [recLen, Nat.add_zero] at h1
     simp only
     rw [h1]
     refine ⟨F.len, F.kind, F.count, fun j a b => F.zero j (by omega) b, fun i hi hn => ?_, fun i r hi hn => ?_⟩
     ·by_cases e : i = k
      ·subst e
       unfold two
       rw [F.zero _ (by omega) (by omega), F.zero _ (by omega) (by omega)]
       rfl
      ·exact F.none i (by omega) hn
     ·by_cases e : i = k
      ·subst e; rw [ho] at hn; cases hn
      ·exact F.some i r (by omega) hn
   | some r =>
     rw [ho] at h1
     simp only [recLen] at h1
     simp only
     rw [hE]
     have hE' : 512 - lens (ts.take k) - r.length = 512 - lens (ts.take (k + 1)) := by omega
     rw [hE']
     generalize hp : (fillTo ts ((zeroPage.set 4 (toB kd)).set 5 (toB ts.length)) k).1 = p at *
     obtain ⟨E, hEE⟩ : ∃ E, E = 512 - lens (ts.take (k + 1)) := ⟨_, rfl⟩
     rw [← hEE]
     have hfit : E + r.length ≤ p.length := by rw [F.len]; omega
     have hrow : 6 + 4 * k + 3 < p.length := by rw [F.len]; omega
     have hEn : 6 + 4 * ts.length ≤ E := by omega
     have hEk : E + r.length = 512 - lens (ts.take k) := by omega
     have G := fun j => getD_writeRec p r k E j hfit hrow
     have same : ∀ j, (j < 6 + 4 * k ∨ (6 + 4 * k + 4 ≤ j ∧ j < E) ∨ E + r.length ≤ j) → (writeRec p k E r).getD j 0 = p.getD j 0 := fun j hj => by
      rw [G j, if_neg (by omega), if_neg (by omega), if_neg (by omega), if_neg (by omega), if_neg (by omega)]
     refine ⟨by rw [length_writeRec _ _ _ _ hfit, F.len], by rw [same 4 (by omega), F.kind], by rw [same 5 (by omega), F.count], fun j a b => by rw [same j (by omega), F.zero j (by omega) b], fun i hi hn => ?_, fun i r' hi hn => ?_⟩
     ·have e : i ≠ k := fun e => by subst e; rw [ho] at hn; cases hn
      unfold two
      rw [same _ (by omega), same _ (by omega)]
      exact F.none i (by omega) hn
     ·by_cases e : i = k
      ·subst e
       rw [ho] at hn
       obtain rfl : r = r' := by simpa using hn
       refine ⟨E, Nat.le_refl _, by omega, ?_, ?_, ?_⟩
       ·unfold two
        rw [G, G, if_neg (by omega), if_neg (by omega), if_neg (by omega), if_pos rfl, if_neg (by omega), if_neg (by omega), if_pos rfl]
        exact two_toB E (by omega)
       ·unfold two
        rw [G, G, if_neg (by omega), if_pos rfl, if_pos rfl]
        have := two_toB (r.length + 1) (by omega)
        simpa using this
       ·intro j hj
        rw [G, if_neg (by omega), if_neg (by omega), if_neg (by omega), if_neg (by omega), if_pos (by omega)]
        congr 1
        omega
      ·obtain ⟨e', g1, g2, g3, g4, g5⟩ := F.some i r' (by omega) hn
       refine ⟨e', by omega, g2, ?_, ?_, fun j hj => by rw [same _ (by omega)]; exact g5 j hj⟩
       ·unfold two at *
        rw [same _ (by omega), same _ (by omega)]; exact g3
       ·unfold two at *
        rw [same _ (by omega), same _ (by omega)]; exact g4
theorem slotL_of_filled {ts : List (Option (List UInt8))} {n k E : Nat} {kd : Int} {p : List UInt8} (F : Filled ts n kd k p E) (hE : 6 ≤ E) (i : Nat) (hi : i < k) : slotL p i = ts.getD i none := by
 unfold slotL
 cases ho : ts.getD i none with
 | none => rw [F.none i hi ho]; simp [slotAt]
 | some r =>
   obtain ⟨e, g1, g2, g3, g4, g5⟩ := F.some i r hi ho
   rw [g3, g4]
   unfold slotAt
   rw [if_neg (by omega)]
   congr 1
   apply List.ext_getElem?
   intro j
   rw [List.getElem?_take]
   by_cases hj : j < r.length
   ·rw [if_pos (by omega), List.getElem?_drop]
    have := g5 j hj
    have hlt : e + j < p.length := by rw [F.len]; omega
    simp only [List.getD_eq_getElem?_getD, List.getElem?_eq_getElem hlt, List.getElem?_eq_getElem hj, Option.getD_some] at this
    rw [List.getElem?_eq_getElem hlt, List.getElem?_eq_getElem hj, this]
   ·rw [if_neg (by omega), List.getElem?_eq_none (by omega)]
theorem slotL_sealL (p : List UInt8) (i : Nat) : slotL (sealL p) i = slotL p i := by
 have e : ∀ j, 4 ≤ j → two (sealL p) j = two p j := fun j hj => by unfold two; rw [get_sealL p j hj, get_sealL p (j + 1) (by omega)]
 unfold slotL
 rw [e _ (by omega), e _ (by omega)]
 unfold slotAt
 split
 ·rfl
 ·rename_i h
  have hd : ∀ F, 4 ≤ F → (sealL p).drop F = p.drop F := fun F hF => by
   have := congrArg (List.drop (F - 4)) (drop_sealL p)
   rw [List.drop_drop, List.drop_drop] at this
   rw [show 4 + (F - 4) = F by omega] at this
   exact this
  rw [hd _ (by omega)]
theorem costL_trim (ss : List (Option (List UInt8))) : costL (trimL ss) ≤ costL ss := by
 have h1 := lens_trim_le ss
 have h2 : (trimL ss).length ≤ ss.length := by
  clear h1
  induction ss with
  | nil => simp [trimL]
  | cons o r ih =>
    cases o with
    | none => unfold trimL; split <;> simp <;> omega
    | some x => simp [trimL]; omega
 unfold costL
 omega
theorem slotsL_made (kd : Int) (ss : List (Option (List UInt8))) (hc : costL ss ≤ 496) : slotsL (madeL kd ss) = trimL ss := by
 have hc' := costL_trim ss
 have F := filled kd (trimL ss) (by omega) (trimL ss).length (Nat.le_refl _)
 have hlen : (trimL ss).length ≤ 124 := by unfold costL at *; omega
 rw [List.take_length] at F
 have hn : ((madeL kd ss).getD 5 0).toNat = (trimL ss).length := by
  unfold madeL
  rw [get_sealL _ 5 (by omega)]
  rw [show fillL kd (trimL ss) = (fillTo (trimL ss) ((zeroPage.set 4 (toB kd)).set 5 (toB (trimL ss).length)) (trimL ss).length).1 from rfl, F.count, toNat_toB _ (by omega)]
  omega
 unfold slotsL
 rw [hn, show min (trimL ss).length 124 = (trimL ss).length by omega]
 apply List.ext_getElem?
 intro i
 rw [List.getElem?_map]
 by_cases hi : i < (trimL ss).length
 ·rw [List.getElem?_range hi, List.getElem?_eq_getElem hi, Option.map_some]
  congr 1
  unfold madeL
  rw [slotL_sealL, show fillL kd (trimL ss) = (fillTo (trimL ss) ((zeroPage.set 4 (toB kd)).set 5 (toB (trimL ss).length)) (trimL ss).length).1 from rfl,
   slotL_of_filled F (by have := lens_trim_le ss; unfold costL at *; omega) i hi]
  simp [hi]
 ·rw [List.getElem?_eq_none (by simpa using hi), List.getElem?_eq_none (by omega)]
  rfl
theorem kindL_made (kd : Int) (h0 : 0 ≤ kd) (h1 : kd < 256) (ss : List (Option (List UInt8))) (hc : costL ss ≤ 496) : kindL (madeL kd ss) = kd := by
 have hc' := costL_trim ss
 have F := filled kd (trimL ss) (by omega) (trimL ss).length (Nat.le_refl _)
 unfold kindL madeL
 rw [get_sealL _ 4 (by omega), show fillL kd (trimL ss) = (fillTo (trimL ss) ((zeroPage.set 4 (toB kd)).set 5 (toB (trimL ss).length)) (trimL ss).length).1 from rfl, F.kind, toNat_toB _ h0]
 omega
theorem rightL_made (kd : Int) (ss : List (Option (List UInt8))) (hc : costL ss ≤ 496) : rightL (madeL kd ss) = true := by
 have hc' := costL_trim ss
 have F := filled kd (trimL ss) (by omega) (trimL ss).length (Nat.le_refl _)
 unfold rightL madeL
 rw [sealL_sealL _ (by exact F.len)]
 simp
end Go.Proofs.Ytlddiphjpmlhbaa
namespace Go.Proofs.Ytlddiphjpmlhbaa
open Go.RowKit
section
variable {ops : Array Oper} {rest : List Oper} {o : Oper} {a : Act} {w : World} {Q : Exit → Act → World → Prop}
end
theorem heap_alloc_lt {w : World} {g : Nat} {b : Obj} (o : Obj) (h : w.heap[g]? = some b) : (w.alloc o).heap[g]? = some b :=
 (Below.heap_alloc w o g (Array.getElem?_eq_some_iff.1 h).1).trans h
theorem ByteS.new (w : World) (r : List UInt8) (c : Nat) (t : TypeId) (fr : Nat × Nat) : ByteS (w.alloc (.cells (bytesA r) t fr)) (.slice (some ⟨w.heap.size, 0, none⟩) r.length c) r :=
 Src.at fun j u hj => by rw [cell_of_row _ w.heap.size (0 + j) _ _ _ (heap_alloc_new w _)]; simpa using hj
theorem ByteS.cells {w : World} {b off n c : Nat} {r : List UInt8} (h : ByteS w (.slice (some ⟨b, off, none⟩) n c) r) (j : Nat) (hj : j < r.length) : w.cell? ⟨b, off + j, none⟩ = some (.int .u8 (r.getD j 0).toNat) := by
 obtain ⟨ao, c', he, hc⟩ := h
 simp only [Value.slice.injEq] at he
 obtain ⟨rfl, _, rfl⟩ := he
 rcases hc with ⟨h1, _⟩ | ⟨ad, h1, h2⟩
 ·cases h1
 ·obtain rfl : ad = ⟨b, off, none⟩ := by simpa using h1.symm
  have := h2 j _ (get_bytesL r j hj)
  rwa [Addr.add_lit] at this
theorem Rec.bytes {w : World} {base : Nat} {v : Value} {r : List UInt8} (h : Rec w base v (some r)) : ByteS w v r := by
 obtain ⟨⟨h1, h2⟩, g, cap, rfl⟩ := h
 rcases h2 with ⟨h3, _⟩ | ⟨g', cap', cur, h3, _, hh, _, _, _, ht⟩
 ·simp at h3
 ·simp only [Value.slice.injEq, Option.some.injEq, Addr.mk.injEq, and_true, true_and] at h3
  obtain ⟨rfl, rfl⟩ := h3
  refine Src.at fun j u hj => ?_
  rw [← ht, List.getElem?_take] at hj
  split at hj
  ·rw [cell_of_row _ g (0 + j) _ _ _ hh]; simpa using hj
  ·cases hj
theorem ByteS.nil (w : World) : ByteS w (.slice none 0 0) [] := Src.nil w
theorem trimL_last {ss : List (Option (List UInt8))} (h : ss.getD (ss.length - 1) none ≠ none) : trimL ss = ss := by
 have := trimL_eq ss ss.length (Nat.le_refl _) (fun i hi => by simp [List.getElem?_eq_none hi]) (.inr h)
 rwa [List.take_length] at this
theorem last_of_trimL : ∀ {ss : List (Option (List UInt8))}, trimL ss = ss → ss = [] ∨ ss.getD (ss.length - 1) none ≠ none
 | [], _ => .inl rfl
 | none :: r, h => by
   unfold trimL at h
   split at h
   ·cases h
   ·rename_i hne
    have hr : trimL r = r := by simpa using h
    rcases last_of_trimL hr with e | e
    ·subst e; exact absurd rfl hne
    ·right
     have hl : r.length ≠ 0 := by intro e0; rw [List.eq_nil_of_length_eq_zero e0] at e; simp at e
     rw [show (none :: r).length - 1 = (r.length - 1) + 1 by simp; omega]
     simpa using e
 | some x :: r, h => by
   right
   have hr : trimL r = r := by simpa [trimL] using h
   rcases last_of_trimL hr with e | e
   ·subst e; simp
   ·have hl : r.length ≠ 0 := by intro e0; rw [List.eq_nil_of_length_eq_zero e0] at e; simp at e
    rw [show (some x :: r).length - 1 = (r.length - 1) + 1 by simp; omega]
    simpa using e
theorem trimL_idem (ss : List (Option (List UInt8))) : trimL (trimL ss) = trimL ss := by
 induction ss with
 | nil => rfl
 | cons o r ih =>
   cases o with
   | none =>
     rw [show trimL (none :: r) = if trimL r = [] then [] else none :: trimL r from rfl]
     by_cases h : trimL r = []
     ·rw [if_pos h]; rfl
     ·rw [if_neg h, show trimL (none :: trimL r) = if trimL (trimL r) = [] then [] else none :: trimL (trimL r) from rfl, ih, if_neg h]
   | some x => simp [trimL, ih]
theorem trimL_putL {ss : List (Option (List UInt8))} (h : trimL ss = ss) (k : Nat) (hk : k ≤ ss.length) (r : List UInt8) : trimL (putL ss k r) = putL ss k r := by
 apply trimL_last
 unfold putL
 by_cases e : k = ss.length
 ·subst e
  simp
 ·rw [if_neg e]
  have hk' : k < ss.length := by omega
  by_cases e2 : k = ss.length - 1
  ·subst e2; simp [List.getElem?_set, hk']
  ·rcases last_of_trimL h with e3 | e3
   ·subst e3; simp at hk'
   ·simpa [List.getElem?_set, e2] using e3
structure Pg (l : List UInt8) (kd : Int) (ss : List (Option (List UInt8))) : Prop where
 len : l.length = 512
 kind : kindL l = kd
 slots : slotsL l = ss
 right : rightL l = true
 trim : trimL ss = ss
 cost : costL ss ≤ 496
 k0 : 0 ≤ kd
 k1 : kd < 256
theorem Pg.made (kd : Int) (h0 : 0 ≤ kd) (h1 : kd < 256) (ss : List (Option (List UInt8))) (hc : costL ss ≤ 496) : Pg (madeL kd ss) kd (trimL ss) :=
 ⟨length_madeL _ _ (by have := costL_trim ss; unfold costL at *; omega), kindL_made kd h0 h1 ss hc, slotsL_made kd ss hc, rightL_made kd ss hc, trimL_idem ss, by have := costL_trim ss; omega, h0, h1⟩
theorem Pg.new (k : Int) : Pg (newL k) (k % 256) [] := Pg.made (k % 256) (by omega) (by omega) [] (by simp [costL, lens])
theorem Pg.put {l : List UInt8} {kd : Int} {ss : List (Option (List UInt8))} (h : Pg l kd ss) (k : Nat) (hk : k ≤ ss.length) (r : List UInt8) (h1 : r.length ≤ 400) (h2 : costL (putL ss k r) ≤ 496) :
 (putPage (kindL l) (slotsL l) k r).2 = true ∧ Pg (putPage (kindL l) (slotsL l) k r).1 kd (putL ss k r) := by
 rw [h.kind, h.slots]
 unfold putPage
 rw [if_neg (by omega)]
 refine ⟨rfl, ?_⟩
 have := Pg.made kd h.k0 h.k1 (putL ss k r) h2
 rwa [trimL_putL h.trim k hk r] at this
theorem Pg.put_not {l : List UInt8} {kd : Int} {ss : List (Option (List UInt8))} (h : Pg l kd ss) (k : Nat) (r : List UInt8) (h1 : 400 < r.length ∨ 496 < costL (putL ss k r)) :
 putPage (kindL l) (slotsL l) k r = (zeroPage, false) := by
 rw [h.kind, h.slots]
 unfold putPage
 rw [if_pos h1]
theorem Pg.add {l : List UInt8} {kd : Int} {ss : List (Option (List UInt8))} (h : Pg l kd ss) (r : List UInt8) (h1 : r.length ≤ 400) (h2 : costL (putL ss (freeL ss) r) ≤ 496) :
 (addL l r).2.1 = freeL ss ∧ (addL l r).2.2 = true ∧ Pg (addL l r).1 kd (putL ss (freeL ss) r) := by
 have := h.put (freeL ss) (freeL_le ss) r h1 h2
 rw [h.slots] at this
 unfold addL
 simp only [h.slots, this.1, if_true, true_and]
 exact this.2
theorem Pg.add_not {l : List UInt8} {kd : Int} {ss : List (Option (List UInt8))} (h : Pg l kd ss) (r : List UInt8) (h1 : 400 < r.length ∨ 496 < costL (putL ss (freeL ss) r)) : addL l r = (zeroPage, 0, false) := by
 have := h.put_not (freeL ss) r h1
 rw [h.slots] at this
 unfold addL
 simp [h.slots, this]
theorem Pg.get {l : List UInt8} {kd : Int} {ss : List (Option (List UInt8))} (h : Pg l kd ss) (k : Int) : getL l k = if k < 0 then none else ss.getD k.toNat none := by
 unfold getL; rw [h.slots]
end Go.Proofs.Ytlddiphjpmlhbaa
