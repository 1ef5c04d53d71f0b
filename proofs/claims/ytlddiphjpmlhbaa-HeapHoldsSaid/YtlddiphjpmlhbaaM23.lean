/- Disks: made, brought up. -/
import Derived.Test.YtlddiphjpmlhbaaM22
set_option linter.unusedSimpArgs false
set_option linter.unusedVariables false
set_option linter.defProp false
set_option maxRecDepth 100000
set_option maxHeartbeats 32000000
namespace Go.Proofs.Ytlddiphjpmlhbaa
open Go.RowKit
def pl18_5Dn : Plan := (.det 0 (.det 1 (.det 2 (.det 3 (.det 4 (.det 5 (.det 6 (.det 7 (.fin 8 .done)))))))))
def pl18_10Dn : Plan := (.det 0 (.det 1 (.det 2 (.det 3 (.det 4 (.det 5 (.det 6 (.det 7 (.det 8 (.det 9 (.det 10 (.det 11 (.act 12 (.fin 13 .done))))))))))))))
def tDn := aa wX <| aa wbu <| aa T3 <| aa T4 <| aa T29 <| aa T78 <| aa T79 <| aa T81 <| aa T105 <| aa T107 T109
theorem adnew (n : Nat) (hn : n ≤ 65536) (σ : St) : ACalls Try.prog 8 [intV .i64 (n : Nat)] σ fun r σ' => ∃ d F, r = .mp d 6 0 0 ∧ Ap σ σ' ∧ DiskAt σ' d F ⟨n, [], [], fun _ => zero64⟩ ∧ ∀ t, F t → σ.length ≤ t := by
 have e1 : (if (0 : Int) > (n : Int) then 0 else (n : Int)) = n := by split <;> omega
 have e2 : (if (65536 : Int) < (n : Int) then 65536 else (n : Int)) = n := by split <;> omega
 refine acalls_of cx_ok dr_ok Try.func8 (by kernel_rfl) rfl (nt := 11) (rs := [.tmp 2]) rfl rfl ?_
 repeat' first | ((with_reducible first | refine cs ?_ ?_ | refine ws ?_ ?_) <;> intro h <;> try simp only [h]) | simp only [↓wBA, tDn, convA, seval, wH, e1, e2]
 all_goals refine ret_st ?_ (by first | exact Nat.le_refl _ | (simp only [List.length_set, List.length_append]; omega) | omega)
 all_goals simp only [resA.eq_1, resL.eq_1, resL.eq_2, resV.eq_1, resV.eq_2, ↓wBA, tDn, convA, seval, wH]
 refine ⟨_, _, rfl, ?_, DiskAt.mk' (kn := σ.length) (kk := σ.length + 1) (w := none) (a := .p (.v (.slice none 0 0))) (es := []) ?_ ?_ ?_ ⟨[], rfl, fun _ => rfl⟩ (by omega) (.inl ⟨rfl, rfl, rfl⟩) (by simp) hn (fun _ => rfl) (fun _ => rfl), fun t ht => ?_⟩
 ·exact ((Ap.app _ _).trans (Ap.app _ _)).trans (Ap.app _ _)
 ·skip
  simp only [wH, wHe, Nat.reduceAdd, Nat.reduceLT, Nat.reduceEqDiff, Nat.reduceMul, reduceCtorEq, Nat.lt_irrefl]
 ·skip
  simp only [wH, wHe, Nat.reduceAdd, Nat.reduceLT, Nat.reduceEqDiff, Nat.reduceMul, reduceCtorEq, Nat.lt_irrefl, encM, List.map_nil]
 ·skip
  simp only [wH, wHe, Nat.reduceAdd, Nat.reduceLT, Nat.reduceEqDiff, Nat.reduceMul, reduceCtorEq, Nat.lt_irrefl]
 ·rcases ht with rfl | rfl | rfl | h
  ·omega
  ·exact Nat.le_refl _
  ·omega
  ·cases h
theorem ovr_none {v : Nat → List UInt8} {k : Nat} : ∀ ch : List (Nat × List UInt8), (∀ q ∈ ch, q.1 ≠ k) → ovr v ch k = v k := by
 intro ch
 induction ch generalizing v with
 | nil => intro _; rfl
 | cons r ch ih =>
   intro h
   refine (ih fun q hq => h q (List.mem_cons_of_mem _ hq)).trans ?_
   have : ¬ k = r.1 := fun e => h r (by simp) e.symm
   simp only [if_neg this]
theorem adrestart {σ : St} {d : Nat} {F : Nat → Prop} {D : DiskV} (h : DiskAt σ d F D) (hw : D.wait.length ≤ 1000000000000) : ACalls Try.prog 18 [.mp d 6 0 0, .p (.v (.slice none 0 0))] σ fun r σ' => ∃ F' now, Fr σ σ' F F' ∧ DiskAt σ' d F' { D with now := now, wait := [] } ∧ ∀ k, secAt now k = D.kept k := by
 obtain ⟨kn, kk, w, a, es, hd, hF⟩ := h
 have h0 := hd.d
 have h1 := hd.now
 have h3 := hd.kept
 have l0 := at_lt h0
 have l1 := at_lt h1
 have l3 := at_lt h3
 have n0 : (d = kn) = False := nf (ne_of_ob h0 h1 (by simp))
 have n1 : (kn = d) = False := nf (ne_of_ob h1 h0 (by simp))
 have n2 : (d = kk) = False := nf (ne_of_ob h0 h3 (by simp))
 have n3 : (kn = kk) = False := nf hd.ne
 have n4 : (kk = d) = False := nf (ne_of_ob h3 h0 (by simp))
 have n5 : (kk = kn) = False := nf hd.ne.symm
 rcases hd.wt with ⟨rfl, rfl, hW⟩ | ⟨t, rfl, rfl, hW, h2⟩
 ·skip
  refine acalls_of cx_ok dr_ok Try.func18 (by kernel_rfl) rfl (nt := 69) (rs := []) rfl rfl ?_
  repeat' first | ((with_reducible first | refine cs ?_ ?_ | refine ws ?_ ?_ | refine wd ?_ ?_ | refine wu ?_ ?_) <;> intro h <;> try simp only [h]) | simp only [↓wBA, tDn, convA, seval, pl18_5Dn, pl18_10Dn, wH, h0, l0] | (with_reducible refine dP pl18_5Dn 9 (some 30) (by decide) (by kernel_rfl) ?_) | (with_reducible refine dP pl18_10Dn 14 (some 48) (by decide) (by kernel_rfl) ?_)
  refine awp_loopS (X := Nat) (fun i => 0) (fun i => [(15, intV .i64 0)]) [4, 5, 16, 17, 18, 19, 20, 21, 22, 23, 24, 25, 26, 27, 28, 29, 30, 31, 32, 33, 34, 35, 36, 37, 38] (fun i s => s = σ) (0) ?_ ?_ ?_ ?_
  ·simp only [wHl, wHf]
  ·rfl
  ·rintro _ _ rfl; exact Nat.le_refl _
  ·intro x J s hI
   simp only [wHl]
   subst hI
   repeat' first | ((with_reducible first | refine cs ?_ ?_ | refine ws ?_ ?_ | refine wd ?_ ?_ | refine wu ?_ ?_) <;> intro h <;> try simp only [h]) | simp only [↓wBA, tDn, convA, seval, pl18_5Dn, pl18_10Dn, wH, wHl, h0, l0] | (with_reducible refine dP pl18_5Dn 9 (some 30) (by decide) (by kernel_rfl) ?_) | (with_reducible refine dP pl18_10Dn 14 (some 48) (by decide) (by kernel_rfl) ?_)
   refine awp_loopS (X := Nat) (fun i => 0) (fun i => [(44, intV .i64 0)]) [7, 45, 46, 47, 48, 49, 50, 51, 52, 53, 54, 55, 56, 57, 58, 59, 60, 61] (fun i q => q = s) (0) ?_ ?_ ?_ ?_
   ·simp only [wHl, wHf]
   ·rfl
   ·rintro _ _ rfl; exact Nat.le_refl _
   ·intro x J' q hI
    simp only [wHl]
    subst hI
    repeat' first | ((with_reducible first | refine cs ?_ ?_ | refine ws ?_ ?_ | refine wd ?_ ?_ | refine wu ?_ ?_) <;> intro h <;> try simp only [h]) | simp only [↓wBA, tDn, convA, seval, pl18_5Dn, pl18_10Dn, wH, wHl, h0, l0] | (with_reducible refine dP pl18_5Dn 9 (some 30) (by decide) (by kernel_rfl) ?_) | (with_reducible refine dP pl18_10Dn 14 (some 48) (by decide) (by kernel_rfl) ?_)
    all_goals refine ret_st ?_ (by first | exact Nat.le_refl _ | (simp only [List.length_set, List.length_append]; omega) | omega)
    all_goals simp only [resA.eq_1, resL.eq_1, resL.eq_2, resV.eq_1, resV.eq_2, ↓wBA, tDn, convA, seval, wH, h0, l0]
    all_goals exact ⟨_, D.now, Fr.refl _ _, ⟨kn, kk, none, _, es, ⟨hd.d, hd.now, hd.kept, hd.keys, hd.ne, .inl ⟨rfl, rfl, rfl⟩, by simp, hd.big, fun k => by have := hd.ov k; rw [hW] at this; exact this, hd.kl⟩, hF⟩, fun k => by have := hd.ov k; rw [hW] at this; exact this⟩
 ·have l2 := at_lt h2
  refine acalls_of cx_ok dr_ok Try.func18 (by kernel_rfl) rfl (nt := 69) (rs := []) rfl rfl ?_
  repeat' first | ((with_reducible first | refine cs ?_ ?_ | refine ws ?_ ?_ | refine wd ?_ ?_ | refine wu ?_ ?_) <;> intro h <;> try simp only [h]) | simp only [↓wBA, tDn, convA, seval, pl18_5Dn, pl18_10Dn, wH, h0, l0, wRows_len] | (with_reducible refine dP pl18_5Dn 9 (some 30) (by decide) (by kernel_rfl) ?_) | (with_reducible refine dP pl18_10Dn 14 (some 48) (by decide) (by kernel_rfl) ?_)
  refine awp_loopS (X := { i : Nat // i ≤ D.wait.length }) (fun i => D.wait.length - i.1) (fun i => [(15, intV .i64 (i.1 : Nat))]) [4, 5, 16, 17, 18, 19, 20, 21, 22, 23, 24, 25, 26, 27, 28, 29, 30, 31, 32, 33, 34, 35, 36, 37, 38] (fun i s => Ap σ s) (⟨0, by omega⟩) ?_ ?_ ?_ ?_
  ·simp only [wHl, wHf]
  ·exact Ap.refl _
  ·rintro _ _ h; exact h.len
  ·intro x J s hI
   simp only [wHl]
   obtain ⟨i, hi⟩ := x
   dsimp only
   have g0 := hI.get h0
   have k0 := at_lt g0
   by_cases hlt : i < D.wait.length
   ·have hdec := dT (i := i) (n := D.wait.length) (by omega)
    have hi0 := nnI i
    have hg : (wRows D.wait)[i]? = some (.v (.int .i64 ((D.wait[i]).1 : Nat)) :: (D.wait[i]).2.map byteP) := by simp [wRows, hlt]
    have hq := hd.len _ (List.getElem_mem hlt)
    have hw1 := wI i (by omega)
    have hk0 : decide ((i : Int) < 0) = false := by simp
    have e1 := pageC_64 hq
    repeat' first | ((with_reducible first | refine cs ?_ ?_ | refine ws ?_ ?_ | refine wd ?_ ?_ | refine wu ?_ ?_) <;> intro h <;> try simp only [h]) | simp only [↓wBA, tDn, convA, seval, pl18_5Dn, pl18_10Dn, wH, wHl, g0, k0, hdec, hi0, hg, e1, hq, hk0, hw1, wZt] | (with_reducible refine dP pl18_5Dn 9 (some 30) (by decide) (by kernel_rfl) ?_) | (with_reducible refine dP pl18_10Dn 14 (some 48) (by decide) (by kernel_rfl) ?_)
    refine ⟨⟨i + 1, by omega⟩, by show D.wait.length - (i + 1) < D.wait.length - i; omega, hI.more _, rfl⟩
   ·have hdec := dF (i := i) (n := D.wait.length) (by omega)
    repeat' first | ((with_reducible first | refine cs ?_ ?_ | refine ws ?_ ?_ | refine wd ?_ ?_ | refine wu ?_ ?_) <;> intro h <;> try simp only [h]) | simp only [↓wBA, tDn, convA, seval, pl18_5Dn, pl18_10Dn, wH, wHl, g0, k0, hdec, wRows_len] | (with_reducible refine dP pl18_5Dn 9 (some 30) (by decide) (by kernel_rfl) ?_) | (with_reducible refine dP pl18_10Dn 14 (some 48) (by decide) (by kernel_rfl) ?_)
    have g1 := hI.get h1
    have g3 := hI.get h3
    have k1 := at_lt g1
    have k3 := at_lt g3
    have hsl := hI.len
    refine awp_loopS (X := { i : Nat // i ≤ D.wait.length }) (fun i => D.wait.length - i.1) (fun i => [(44, intV .i64 (i.1 : Nat))]) [7, 45, 46, 47, 48, 49, 50, 51, 52, 53, 54, 55, 56, 57, 58, 59, 60, 61] (fun i q => Fr s q F F ∧ q[d]? = s[d]? ∧ q[kk]? = s[kk]? ∧ ∃ m, q[kn]? = some (some (.map (encM pageA m))) ∧ ∀ k, secAt m k = if k ∈ (D.wait.take i.1).map Prod.fst then D.kept k else secAt D.now k) (⟨0, by omega⟩) ?_ ?_ ?_ ?_
    ·simp only [wHl, wHf]
    ·exact ⟨Fr.refl _ _, rfl, rfl, D.now, g1, fun k => by simp⟩
    ·rintro _ _ ⟨h, _⟩; exact h.len
    ·intro x J' q hI2
     simp only [wHl]
     obtain ⟨i', hi'⟩ := x
     obtain ⟨hf, m0, m3, m, m1, hm⟩ := hI2
     dsimp only
     rw [g0] at m0; rw [g3] at m3
     have q0 := at_lt m0
     have q1 := at_lt m1
     have q3 := at_lt m3
     by_cases hlt' : i' < D.wait.length
     ·have hdec' := dT (i := i') (n := D.wait.length) (by omega)
      have hi0 := nnI i'
      have hg : (wRows D.wait)[i']? = some (.v (.int .i64 ((D.wait[i']).1 : Nat)) :: (D.wait[i']).2.map byteP) := by simp [wRows, hlt']
      have hq := hd.len _ (List.getElem_mem hlt')
      have hw1 := wI i' (by omega)
      have u1 := hd.keys.look (D.wait[i']).1
      have u2 := upd_enc pageA m (D.wait[i']).1 (D.kept (D.wait[i']).1)
      have e3 := pageC_64 (hd.kl (D.wait[i']).1)
      have e4 := pageC_64 len_zero64
      have e1 := pageC_64 hq
      simp only [pageA] at u1 u2
      have u3 : ∀ k, secAt (setM m (D.wait[i']).1 (D.kept (D.wait[i']).1)) k = if k ∈ (D.wait.take (i' + 1)).map Prod.fst then D.kept k else secAt D.now k := fun k => by
       rw [secAt_setM, hm k, List.take_add_one, List.getElem?_eq_getElem hlt']
       by_cases e : k = (D.wait[i']).1
       ·have h1 : k ∈ List.map Prod.fst (List.take i' D.wait ++ (some D.wait[i']).toList) := by
         rw [List.map_append, e]; exact List.mem_append_right _ (by simp)
        rw [if_pos e, if_pos h1, e]
       ·rw [if_neg e]
        have h1 : (k ∈ List.map Prod.fst (List.take i' D.wait ++ (some D.wait[i']).toList)) ↔ k ∈ List.map Prod.fst (List.take i' D.wait) := by
         rw [List.map_append, List.mem_append]
         exact ⟨fun h => h.elim id fun h => by simp at h; exact absurd h e, .inl⟩
        simp only [h1]
      repeat' first | ((with_reducible first | refine cs ?_ ?_ | refine ws ?_ ?_ | refine wd ?_ ?_ | refine wu ?_ ?_) <;> intro h <;> try simp only [h]) | simp only [↓wBA, tDn, convA, seval, pl18_5Dn, pl18_10Dn, wH, wHl, m0, m1, m3, q0, q1, q3, hdec', hi0, hg, n0, n1, n2, n3, n4, n5, e1, e3, e4, zB_64, hq, u1, u2, hw1, wZt] | (with_reducible refine dP pl18_5Dn 9 (some 30) (by decide) (by kernel_rfl) ?_) | (with_reducible refine dP pl18_10Dn 14 (some 48) (by decide) (by kernel_rfl) ?_)
      refine ⟨⟨i' + 1, by omega⟩, by show D.wait.length - (i' + 1) < D.wait.length - i'; omega, ⟨(hf.set _ ((hF _).2 (by simp))).app _, ?_, ?_, _, ?_, u3⟩, rfl⟩
      all_goals first | exact g0.symm | exact g3.symm | rfl | simp only [wH, q0, q1, q3, n0, n1, n2, n3, n4, n5, m0, m3, g0, g3]
     ·have hdec' := dF (i := i') (n := D.wait.length) (by omega)
      repeat' first | ((with_reducible first | refine cs ?_ ?_ | refine ws ?_ ?_ | refine wd ?_ ?_ | refine wu ?_ ?_) <;> intro h <;> try simp only [h]) | simp only [↓wBA, tDn, convA, seval, pl18_5Dn, pl18_10Dn, wH, wHl, m0, m1, m3, q0, q1, q3, hdec', n0, n1, n2, n3, n4, n5] | (with_reducible refine dP pl18_5Dn 9 (some 30) (by decide) (by kernel_rfl) ?_) | (with_reducible refine dP pl18_10Dn 14 (some 48) (by decide) (by kernel_rfl) ?_)
      have hq1 := hf.len
      have hq2 := hI.len
      all_goals refine ret_st ?_ (by first | exact Nat.le_refl _ | (simp only [List.length_set, List.length_append]; omega) | omega)
      all_goals simp only [resA.eq_1, resL.eq_1, resL.eq_2, resV.eq_1, resV.eq_2, ↓wBA, tDn, convA, seval, wH, m0, q0]
      have hall : ∀ k, secAt m k = D.kept k := fun k => by
       rw [hm k, List.take_of_length_le (show D.wait.length ≤ i' by omega)]
       split
       ·rfl
       ·rename_i e
        rw [hd.ov]
        exact ovr_none _ fun r hr he => e (List.mem_map.2 ⟨r, hr, he⟩)
      refine ⟨_, m, ((hI.fr.trans hf).set _ ((hF _).2 (by simp))).to fun t ht => .inl ((hF t).2 ?_), DiskAt.mk' (kn := kn) (kk := kk) (w := none) (es := es) ?_ ?_ ?_ hd.keys hd.ne (.inl ⟨rfl, rfl, rfl⟩) (by simp) hd.big hall hd.kl, hall⟩
      ·rcases ht with h | h | h | h
       ·exact .inl h
       ·exact .inr (.inl h)
       ·exact .inr (.inr (.inl h))
       ·cases h
      ·simp only [wH, q0, intV, boolV]
      ·simp only [wH, q0, n0, n1, m1]
      ·simp only [wH, q0, n2, n4, m3]
theorem adrestart0 {σ : St} {d : Nat} {F : Nat → Prop} {D : DiskV} (h : DiskAt σ d F D) (hw : D.wait = []) : ACalls Try.prog 18 [.mp d 6 0 0, .p (.v (.slice none 0 0))] σ fun r σ' => Fr σ σ' F F ∧ DiskAt σ' d F D := by
 obtain ⟨kn, kk, w, a, es, hd, hF⟩ := h
 have h0 := hd.d
 have l0 := at_lt h0
 rcases hd.wt with ⟨rfl, rfl, hW⟩ | ⟨t, rfl, rfl, hW, h2⟩
 ·skip
  refine acalls_of cx_ok dr_ok Try.func18 (by kernel_rfl) rfl (nt := 69) (rs := []) rfl rfl ?_
  repeat' first | ((with_reducible first | refine cs ?_ ?_ | refine ws ?_ ?_ | refine wd ?_ ?_ | refine wu ?_ ?_) <;> intro h <;> try simp only [h]) | simp only [↓wBA, tDn, convA, seval, pl18_5Dn, pl18_10Dn, wH, h0, l0] | (with_reducible refine dP pl18_5Dn 9 (some 30) (by decide) (by kernel_rfl) ?_) | (with_reducible refine dP pl18_10Dn 14 (some 48) (by decide) (by kernel_rfl) ?_)
  refine awp_loopS (X := Nat) (fun i => 0) (fun i => [(15, intV .i64 0)]) [4, 5, 16, 17, 18, 19, 20, 21, 22, 23, 24, 25, 26, 27, 28, 29, 30, 31, 32, 33, 34, 35, 36, 37, 38] (fun i s => s = σ) (0) ?_ ?_ ?_ ?_
  ·simp only [wHl, wHf]
  ·rfl
  ·rintro _ _ rfl; exact Nat.le_refl _
  ·intro x J s hI
   simp only [wHl]
   subst hI
   repeat' first | ((with_reducible first | refine cs ?_ ?_ | refine ws ?_ ?_ | refine wd ?_ ?_ | refine wu ?_ ?_) <;> intro h <;> try simp only [h]) | simp only [↓wBA, tDn, convA, seval, pl18_5Dn, pl18_10Dn, wH, wHl, h0, l0] | (with_reducible refine dP pl18_5Dn 9 (some 30) (by decide) (by kernel_rfl) ?_) | (with_reducible refine dP pl18_10Dn 14 (some 48) (by decide) (by kernel_rfl) ?_)
   refine awp_loopS (X := Nat) (fun i => 0) (fun i => [(44, intV .i64 0)]) [7, 45, 46, 47, 48, 49, 50, 51, 52, 53, 54, 55, 56, 57, 58, 59, 60, 61] (fun i q => q = s) (0) ?_ ?_ ?_ ?_
   ·simp only [wHl, wHf]
   ·rfl
   ·rintro _ _ rfl; exact Nat.le_refl _
   ·intro x J' q hI
    simp only [wHl]
    subst hI
    repeat' first | ((with_reducible first | refine cs ?_ ?_ | refine ws ?_ ?_ | refine wd ?_ ?_ | refine wu ?_ ?_) <;> intro h <;> try simp only [h]) | simp only [↓wBA, tDn, convA, seval, pl18_5Dn, pl18_10Dn, wH, wHl, h0, l0] | (with_reducible refine dP pl18_5Dn 9 (some 30) (by decide) (by kernel_rfl) ?_) | (with_reducible refine dP pl18_10Dn 14 (some 48) (by decide) (by kernel_rfl) ?_)
    all_goals refine ret_st ?_ (by first | exact Nat.le_refl _ | (simp only [List.length_set, List.length_append]; omega) | omega)
    all_goals simp only [resA.eq_1, resL.eq_1, resL.eq_2, resV.eq_1, resV.eq_2, ↓wBA, tDn, convA, seval, wH, h0, l0]
    all_goals exact ⟨Fr.refl _ _, kn, kk, none, _, es, hd, hF⟩
 ·exact absurd hw hW
end Go.Proofs.Ytlddiphjpmlhbaa
