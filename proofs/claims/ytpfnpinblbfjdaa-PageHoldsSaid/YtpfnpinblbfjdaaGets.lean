/- The walks of page.New, Slots, Get, Room. -/
import Derived.Test.YtpfnpinblbfjdaaMade
import Derived.Test.YtpfnpinblbfjdaaRight
set_option linter.unusedSimpArgs false
namespace Go.Proofs.Ytpfnpinblbfjdaa
open Go.RowKit

/-- A new page. -/
def newL (k : Int) : List UInt8 := madeL (k % 256) []
theorem length_newL (k : Int) : (newL k).length = 512 := length_madeL _ _ (by simp [trimL, lens])

set_option maxHeartbeats 400000 in
set_option maxRecDepth 100000 in
theorem new_any (k : Int) (w : World) : Calls Try.prog 9 #[.int .i64 k] w fun e w' => e = .returned (.agg (bytesA (newL k))) ∧ Below w.heap.size w w' := by
  have hz := zero_page
  go_enter Try.func9, Try.ntmps9
  go_wp2_with fail
  refine (made_nil (k % 256) (by omega) (by omega) _).mono ?_
  rintro e w4 ⟨rfl, hb4⟩
  have HR4 := Lib.hid ((hb4.block _ (by simp)).trans (heap_alloc_new w _))
  have HLS := Lib.hid (length_newL k)
  have HB4 := Lib.hid (((Below.refl w.heap.size w).alloc (Nat.le_refl _) _).trans (hb4.mono (by simp)))
  clear hb4
  rw [show madeL (k % 256) [] = newL k from rfl]
  generalize hmm : newL k = m at *
  have HMM := Lib.hid hmm; clear hmm
  go_wp2_with (refine wpList_store_row (P := Try.prog) rfl 26 _ _ rfl _ _ rfl rfl _ _ HR4.out (info_page' _ HLS.out) (by rw [size_bytesA, size_bytesA, HLS.out]; exact length_zeroPage) (oneCell_bytesA _) ?_)
  refine bodyPost_ret (v := .agg (bytesA m)) (results_cell_row rfl _ _ _ _ _ _ _ rfl (setRow_heap _ _ _ _ _ _ HR4.out) Try.underlying26 rfl (info_page' _ HLS.out)) rfl ⟨by rw [HMM.out], ?_⟩
  exact HB4.out.trans (Below.setRow _ _ _ _ (Nat.le_refl _))

theorem slotsL_le (l : List UInt8) : (slotsL l).length ≤ 124 := by simp [slotsL]; omega
theorem SlotsR.form {w : World} {base : Nat} {v : Value} {ss : List (Option (List UInt8))} (h : SlotsR w base v ss) : ∃ a c, v = .slice a ss.length c := by
  rcases h.cells with ⟨rfl, rfl⟩ | ⟨g, cap, rfl, _⟩
  · exact ⟨_, _, rfl⟩
  · exact ⟨_, _, rfl⟩
theorem slotsLens (l : List UInt8) (h : l.length = 512) : lens (slotsL l) ≤ 63488 := by
  have hm : ∀ o ∈ (slotsL l).map recLen, o ≤ 512 := by
    intro o ho
    simp only [slotsL, List.map_map, List.mem_map] at ho
    obtain ⟨i, _, rfl⟩ := ho
    simp only [Function.comp_def, slotL, slotAt]
    split
    · simp [recLen]
    · simp [recLen]; omega
  have hl : ((slotsL l).map recLen).length ≤ 124 := by simpa using slotsL_le l
  have gen : ∀ (xs : List Nat), (∀ o ∈ xs, o ≤ 512) → xs.sum ≤ xs.length * 512 := by
    intro xs
    induction xs with
    | nil => simp
    | cons a xs ih =>
      intro h
      have h1 := h a (by simp)
      have h2 := ih (fun o ho => h o (by simp [ho]))
      simp only [List.sum_cons, List.length_cons]
      omega
  have := gen _ hm
  unfold lens
  generalize ((slotsL l).map recLen).sum = a at *
  generalize ((slotsL l).map recLen).length = b at *
  omega

set_option maxHeartbeats 400000 in
set_option maxRecDepth 100000 in
theorem nslots_any (l : List UInt8) (w : World) (hl : l.length = 512) :
    Calls Try.prog 12 #[.agg (bytesA l)] w fun e w' => e = .returned (.int .i64 (slotsL l).length) ∧ Below w.heap.size w w' := by
  have HL := Lib.hid hl; clear hl
  go_enter Try.func12, Try.ntmps12
  go_wp2_with (refine wpList_load_row (P := Try.prog) rfl 26 _ rfl _ rfl _ _ _ _ (heap_alloc_new _ _) Try.underlying26 rfl (info_page' _ HL.out) ?_)
  refine (slots_any l _ HL.out).mono ?_
  rintro e w4 ⟨v, rfl, hs, hb⟩
  obtain ⟨a, c, rfl⟩ := hs.form
  have HB := Lib.hid (((Below.refl w.heap.size w).alloc (Nat.le_refl _) _).trans (hb.mono (by simp)))
  clear hb hs
  go_wp2_with fail
  go_ret
  exact ⟨rfl, HB.out⟩

/-- How great a record may be. -/
def roomL (ss : List (Option (List UInt8))) : Int :=
  max (-1) (min 400 (496 - ((costL ss : Int) + if freeL ss = ss.length then 4 else 0)))
set_option maxHeartbeats 400000 in
set_option maxRecDepth 100000 in
theorem room_any (l : List UInt8) (w : World) (hl : l.length = 512) :
    Calls Try.prog 10 #[.agg (bytesA l)] w fun e w' => e = .returned (.int .i64 (roomL (slotsL l))) ∧ Below w.heap.size w w' := by
  have hcst : costL (slotsL l) ≤ 100000 := by have := slotsLens l hl; have := slotsL_le l; unfold costL; omega
  have hsl := slotsL_le l
  have HL := Lib.hid hl; clear hl
  go_enter Try.func10, Try.ntmps10
  go_wp2_with (refine wpList_load_row (P := Try.prog) rfl 26 _ rfl _ rfl _ _ _ _ (heap_alloc_new _ _) Try.underlying26 rfl (info_page' _ HL.out) ?_)
  refine (slots_any l _ HL.out).mono ?_
  rintro e w4 ⟨v, rfl, hs, hb⟩
  generalize hss : slotsL l = ss at *
  have HSS := Lib.hid hss; clear hss
  have HB := Lib.hid (((Below.refl w.heap.size w).alloc (Nat.le_refl _) _).trans (hb.mono (by simp)))
  have HS := Lib.hid hs
  obtain ⟨a, c, rfl⟩ := hs.form
  clear hb hs
  have hfr := freeL_le ss
  go_wp2_with fail
  refine (cost_any ss _ _ _ HS.out (by omega)).mono ?_
  rintro e w5 ⟨rfl, rfl⟩
  go_wp2_with fail
  refine (free_any ss _ _ _ HS.out (by omega)).mono ?_
  rintro e w5 ⟨rfl, rfl⟩
  by_cases hf : freeL ss = ss.length
  · have HR := Lib.hid (show roomL ss = max (-1) (min 400 (496 - ((costL ss : Int) + 4))) by simp [roomL, hf])
    rw [hf]
    clear hf
    generalize costL ss = q at *
    go_wp2_with fail
    all_goals
      go_ret
      refine ⟨ret_int ?_, HB.out⟩
      rw [HSS.out, HR.out]
      omega
  · have HR := Lib.hid (show roomL ss = max (-1) (min 400 (496 - (costL ss : Int))) by simp [roomL, hf])
    have hf2 : ((freeL ss : Int) == (ss.length : Int)) = false := by simp; omega
    clear hf
    generalize costL ss = q at *
    generalize freeL ss = f at *
    go_wp2_with fail
    all_goals
      go_ret
      refine ⟨ret_int ?_, HB.out⟩
      rw [HSS.out, HR.out]
      omega

/-- A slot's record, if there is one. -/
def getL (l : List UInt8) (k : Int) : Option (List UInt8) := if k < 0 then none else (slotsL l).getD k.toNat none

set_option maxHeartbeats 400000 in
set_option maxRecDepth 100000 in
theorem get_any (l : List UInt8) (k : Int) (w : World) (hl : l.length = 512) :
    Calls Try.prog 14 #[.agg (bytesA l), .int .i64 k] w fun e w' => ∃ v, e = .returned (.tuple #[v, .bool (getL l k).isSome]) ∧ Rec w' w.heap.size v (getL l k) ∧ Below w.heap.size w w' := by
  have hn := eql_nil
  have hsl := slotsL_le l
  have HL := Lib.hid hl; clear hl
  go_enter Try.func14, Try.ntmps14
  go_wp2_with (refine wpList_load_row (P := Try.prog) rfl 26 _ rfl _ rfl _ _ _ _ (heap_alloc_new _ _) Try.underlying26 rfl (info_page' _ HL.out) ?_)
  refine (slots_any l _ HL.out).mono ?_
  rintro e w4 ⟨v, rfl, hs, hb⟩
  have HG := Lib.hid (show getL l k = if k < 0 then none else (slotsL l).getD k.toNat none from rfl)
  generalize slotsL l = ss at *
  have HB := Lib.hid (((Below.refl w.heap.size w).alloc (Nat.le_refl _) _).trans (hb.mono (by simp)))
  have HS := Lib.hid (hs.mono (base' := w.heap.size) (by simp))
  obtain ⟨a, c, rfl⟩ := hs.form
  clear hb hs
  by_cases hk0 : k < 0
  · have HG2 := Lib.hid (show getL l k = none by rw [HG.out, if_pos hk0])
    go_wp2_with fail
    go_ret2
    exact ⟨_, by rw [HG2.out]; rfl, by rw [HG2.out]; rfl, HB.out⟩
  · obtain ⟨j, rfl⟩ := Int.eq_ofNat_of_zero_le (show 0 ≤ k by omega)
    rw [if_neg hk0, Int.toNat_natCast] at HG
    clear hk0
    by_cases hj : j < ss.length
    · rcases HS.out.cells with ⟨h1, h2⟩ | ⟨g, cap, h1, hg, hcap, hc⟩
      · subst h2; simp at hj
      · simp only [Value.slice.injEq, true_and] at h1
        obtain ⟨rfl, rfl⟩ := h1
        obtain ⟨x, hx, _, hrec⟩ := hc j hj
        clear hc
        rw [← HG.out] at hrec
        have HRC := Lib.hid hrec
        rcases hrec.form with ⟨ho, rfl⟩ | ⟨r, g', cap', ho, rfl⟩
        · have HO := Lib.hid ho
          clear ho hrec
          go_wp2_with fail
          go_ret2
          exact ⟨_, by rw [HO.out]; rfl, by rw [HO.out]; rfl, HB.out⟩
        · have HO := Lib.hid ho
          clear ho hrec
          go_wp2_with fail
          go_ret2
          exact ⟨_, by rw [HO.out]; rfl, HRC.out, HB.out⟩
    · have HG2 := Lib.hid (show getL l (j : Int) = none by rw [HG.out]; simp [List.getElem?_eq_none (show ss.length ≤ j by omega)])
      go_wp2_with fail
      go_ret2
      exact ⟨_, by rw [HG2.out]; rfl, by rw [HG2.out]; rfl, HB.out⟩
end Go.Proofs.Ytpfnpinblbfjdaa
