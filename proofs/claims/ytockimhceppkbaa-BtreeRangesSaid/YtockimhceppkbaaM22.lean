/- Disks: walks. Disks: walks, more. Disks: made, brought up. -/
import Derived.Test.YtockimhceppkbaaM21
set_option linter.unusedSimpArgs false
set_option linter.unusedVariables false
set_option linter.defProp false
set_option maxRecDepth 100000
set_option maxHeartbeats 32000000
namespace Go.Proofs.Ytockimhceppkbaa
open Go.RowKit
def pl63_6Dk : Plan := (.det 0 (.det 1 (.det 2 (.det 3 (.det 4 (.det 5 (.fin 6 .done)))))))
def pl63_7Dk : Plan := (.det 0 (.det 1 (.det 2 (.det 3 (.det 4 (.det 5 (.det 6 (.det 7 (.act 8 (.fin 9 (.det 10 (.det 11 (.fin 12 .done)))))))))))))
def tDk := aa wX <| aa wbu <| aa T3 <| aa T4 <| aa T31 <| aa T43 <| aa T68 <| aa T69 <| aa T71 <| aa T94 T141
theorem adsize {σ : St} {d : Nat} {F : Nat → Prop} {D : DiskV} (h : DiskAt σ d F D) : ACalls Try.prog 17 [.mp d 6 0 0] σ fun r σ' => σ' = σ ∧ r = intV .i64 (D.size : Nat) := by
 obtain ⟨kn, kk, w, a, es, hd, hF⟩ := h
 have h0 := hd.d
 refine acalls_of cx_ok dr_ok Try.func17 (by kernel_rfl) rfl (nt := 8) (rs := [.tmp 2]) rfl rfl ?_
 repeat' first | ((with_reducible first | refine cs ?_ ?_ | refine ws ?_ ?_) <;> intro h <;> try simp only [h]) | simp only [↓wBA, tDk, convA, seval, h0]
 all_goals refine ret_st ?_ (Nat.le_refl _)
 all_goals simp only [wS]
 all_goals simp
theorem admay {σ : St} {d : Nat} {F : Nat → Prop} {D : DiskV} (h : DiskAt σ d F D) (n : Nat) (hn : n < D.size ∨ n = 0) : ACalls Try.prog 57 [.mp d 6 0 0, intV .i64 (n : Nat)] σ fun r σ' => σ' = σ ∧ r = intV .i64 0 := by
 obtain ⟨kn, kk, w, a, es, hd, hF⟩ := h
 have h0 := hd.d
 have e1 : decide ((n : Int) < 0) = false := by simp
 refine acalls_of cx_ok dr_ok Try.func57 (by kernel_rfl) rfl (nt := 26) (rs := [.tmp 4]) rfl rfl ?_
 repeat' first | ((with_reducible first | refine cs ?_ ?_ | refine ws ?_ ?_) <;> intro h <;> try simp only [h]) | simp only [↓wBA, tDk, convA, seval, h0, e1]
 all_goals try (exfalso; simp_all; omega)
 all_goals refine ret_st ?_ (Nat.le_refl _)
 all_goals simp only [wS]
 all_goals simp
theorem adchange {σ : St} {d : Nat} {c0 c1 c2 c3 c4 : AV} (h0 : σ[d]? = some (some (.row 6 [[c0, c1, c2, c3, c4, .p (.v (.int .i64 (-1)))]]))) : ACalls Try.prog 64 [.mp d 6 0 0] σ fun r σ' => σ' = σ ∧ r = .tup [] := by
 refine acalls_of cx_ok dr_ok Try.func64 (by kernel_rfl) rfl (nt := 21) (rs := []) rfl rfl ?_
 repeat' first | ((with_reducible first | refine cs ?_ ?_ | refine ws ?_ ?_) <;> intro h <;> try simp only [h]) | simp only [↓wBA, tDk, convA, seval, h0]
 all_goals refine ret_st ?_ (Nat.le_refl _)
 all_goals simp only [wS]
 all_goals simp
theorem adread {σ : St} {d : Nat} {F : Nat → Prop} {D : DiskV} (h : DiskAt σ d F D) (n : Nat) (hn : n < D.size) (hs : (secAt D.now n).length = 64) : ACalls Try.prog 30 [.mp d 6 0 0, intV .i64 (n : Nat)] σ fun r σ' => Ap σ σ' ∧ r = .tup [pageA (secAt D.now n), intV .i64 0] := by
 have hm := fun τ => admay (h.app τ) n (.inl hn)
 obtain ⟨kn, kk, w, a, es, hd, hF⟩ := h
 have h0 := hd.d
 have h1 := hd.now
 have l0 := at_lt h0
 have l1 := at_lt h1
 have e1 : decide ((n : Int) ≥ (D.size : Int)) = false := by simp; omega
 have e2 := look_sec D.now n
 have e3 := pageC_64 hs
 have e4 := pageC_64 len_zero64
 refine acalls_of cx_ok dr_ok Try.func30 (by kernel_rfl) rfl (nt := 29) (rs := [.cell 4 94, .tmp 5]) rfl rfl ?_
 repeat' first | ((with_reducible first | refine cs ?_ ?_ | refine ws ?_ ?_) <;> intro h <;> try simp only [h]) | simp only [↓wBA, tDk, convA, seval, wH, h0, h1, l0, l1, e1, e2, e3, e4, zB_64, pageA] | ((with_reducible show ACalls _ _ _ _ _); refine (hm _).eq ?_)
 all_goals refine ret_st ?_ (by first | exact Nat.le_refl _ | (simp only [List.length_set, List.length_append]; omega) | omega)
 all_goals simp only [resA.eq_1, resL.eq_1, resL.eq_2, resV.eq_1, resV.eq_2, ↓wBA, tDk, convA, seval, wH, h0, h1, l0, l1, e3]
 all_goals exact Ap.app _ _
theorem adwrite {σ : St} {d : Nat} {F : Nat → Prop} {D : DiskV} (h : DiskAt σ d F D) (n : Nat) (hn : n < D.size) (s : List UInt8) (hs : s.length = 64) (hw : D.wait.length ≤ 1000000000000) :
 ACalls Try.prog 63 [.mp d 6 0 0, intV .i64 (n : Nat), pageA s] σ fun r σ' => r = intV .i64 0 ∧ ∃ F', Fr σ σ' F F' ∧ DiskAt σ' d F' { D with now := setM D.now n s, wait := D.wait ++ [(n, s)] } := by
 have hm := fun τ => admay (h.app τ) n (.inl hn)
 obtain ⟨kn, kk, w, a, es, hd, hF⟩ := h
 have h0 := hd.d
 have h1 := hd.now
 have l0 := at_lt h0
 have l1 := at_lt h1
 have e1 : decide ((n : Int) ≥ (D.size : Int)) = false := by simp; omega
 have e2 := upd_enc pageA D.now n s
 have e3 := pageC_64 hs
 simp only [pageA] at e2
 have n0 : (d = kn) = False := nf (ne_of_ob h0 h1 (by simp))
 have n1 : (kn = d) = False := nf (ne_of_ob h1 h0 (by simp))
 have hl1 := tL (n := (D.wait.length + 1) * 72) (by omega)
 have hl2 := lM (n := D.wait.length + 1) (by omega)
 refine acalls_of cx_ok dr_ok Try.func63 (by kernel_rfl) rfl (nt := 41) (rs := [.tmp 6]) rfl rfl ?_
 have hl3 := lM (n := 1) (by omega)
 have h3 := hd.kept
 have l3 := at_lt h3
 have n2 : (d = kk) = False := nf (ne_of_ob h0 h3 (by simp))
 have n3 : (kn = kk) = False := nf hd.ne
 rcases hd.wt with ⟨rfl, rfl, hW⟩ | ⟨t, rfl, rfl, hW, h2⟩
 ·skip
  repeat' first | ((with_reducible first | refine cs ?_ ?_ | refine ws ?_ ?_ | refine wd ?_ ?_ | refine wu ?_ ?_) <;> intro h <;> try simp only [h]) | simp only [↓wBA, tDk, convA, seval, pl63_6Dk, pl63_7Dk, wH, h0, h1, l0, l1, e1, e2, e3, pageA, n0, n1, wZt, appendA, srcA, wRows_len, hl1, hl2, hl3] | ((with_reducible show ACalls _ _ _ _ _); first | refine (hm _).eq ?_ | (refine (adchange (by simp only [wH, h0, h1, l0, l1, n0, n1, Nat.zero_add, Nat.reduceAdd]; rfl)).eq ?_)) | (with_reducible refine dP pl63_6Dk 7 (some 24) (by decide) (by kernel_rfl) ?_) | (with_reducible refine dP pl63_7Dk 13 (some 30) (by decide) (by kernel_rfl) ?_)
  all_goals refine ret_st ?_ (by first | exact Nat.le_refl _ | (simp only [List.length_set, List.length_append]; omega) | omega)
  all_goals simp only [resA.eq_1, resL.eq_1, resL.eq_2, resV.eq_1, resV.eq_2, ↓wBA, tDk, convA, seval, wH, h0, h1, l0, l1]
  refine ⟨_, ?_, DiskAt.mk' (kn := kn) (kk := kk) (w := some (σ.length + 2)) (a := .own (σ.length + 2) 65 (wRows (D.wait ++ [(n, s)]))) (es := es) ?_ ?_ ?_ hd.keys hd.ne (.inr ⟨_, rfl, rfl, by simp, ?_⟩) (wait_len hd.len hs) hd.big (fun j => by rw [secAt_setM, ovr_app, hd.ov]) hd.kl⟩
  ·refine (((((((Fr.refl σ F).set _ ((hF kn).2 (by simp))).set _ ((hF d).2 (by simp))).app _).app _).app _).to fun t ht => ?_)
   rcases ht with rfl | rfl | rfl | h
   ·exact .inl ((hF _).2 (by simp))
   ·exact .inl ((hF _).2 (by simp))
   ·exact .inl ((hF _).2 (by simp))
   ·simp at h; omega
  ·simp only [wH, l0, n0, n1, hW, List.nil_append, wRows, List.map_cons, List.map_nil, intV, boolV]
  ·simp only [wH, l0, l1, n0, n1, n2, n3, h1]
  ·simp only [wH, l0, l1, l3, n0, n1, n2, n3, h3]
  ·simp only [wH, l0, hW, List.length_cons, List.length_nil, Nat.zero_add, Nat.reduceAdd, Nat.reduceMul]
 ·have l2 := at_lt h2
  have n4 : (t = kn) = False := nf (ne_of_ob h2 h1 (by simp))
  have n5 : (kn = t) = False := nf (ne_of_ob h1 h2 (by simp))
  have n6 : (t = d) = False := nf (ne_of_ob h2 h0 (by simp))
  have n7 : (d = t) = False := nf (ne_of_ob h0 h2 (by simp))
  have n8 : (t = kk) = False := nf (ne_of_ob h2 h3 (by simp))
  repeat' first | ((with_reducible first | refine cs ?_ ?_ | refine ws ?_ ?_ | refine wd ?_ ?_ | refine wu ?_ ?_) <;> intro h <;> try simp only [h]) | simp only [↓wBA, tDk, convA, seval, pl63_6Dk, pl63_7Dk, wH, h0, h1, h2, l0, l1, l2, e1, e2, e3, pageA, n0, n1, n4, n5, n6, n7, wZt, appendA, srcA, wRows_len, hl1, hl2] | ((with_reducible show ACalls _ _ _ _ _); first | refine (hm _).eq ?_ | (refine (adchange (by simp only [wH, h0, h1, l0, l1, l2, n0, n1, n6, n7, Nat.zero_add, Nat.reduceAdd]; rfl)).eq ?_)) | (with_reducible refine dP pl63_6Dk 7 (some 24) (by decide) (by kernel_rfl) ?_) | (with_reducible refine dP pl63_7Dk 13 (some 30) (by decide) (by kernel_rfl) ?_)
  all_goals refine ret_st ?_ (by first | exact Nat.le_refl _ | (simp only [List.length_set, List.length_append]; omega) | omega)
  all_goals simp only [resA.eq_1, resL.eq_1, resL.eq_2, resV.eq_1, resV.eq_2, ↓wBA, tDk, convA, seval, wH, h0, h1, l0, l1]
  refine ⟨_, ?_, DiskAt.mk' (kn := kn) (kk := kk) (w := some t) (a := .own t 65 (wRows (D.wait ++ [(n, s)]))) (es := es) ?_ ?_ ?_ hd.keys hd.ne (.inr ⟨_, rfl, rfl, by simp, ?_⟩) (wait_len hd.len hs) hd.big (fun j => by rw [secAt_setM, ovr_app, hd.ov]) hd.kl⟩
  ·refine ((((((Fr.refl σ F).set _ ((hF kn).2 (by simp))).set _ ((hF t).2 (by simp))).set _ ((hF d).2 (by simp))).app _).app _).to fun t ht => ?_
   exact .inl ((hF _).2 ht)
  ·simp only [wH, l0, l1, l2, n0, n1, n6, n7, wRows_app, intV, boolV]
  ·simp only [wH, l0, l1, l2, n0, n1, n2, n3, n4, n5, h1]
  ·simp only [wH, l0, l1, l2, l3, n0, n1, n2, n3, n4, n5, n6, n7, n8, h3]
  ·simp only [wH, l0, l1, l2, n0, n1, n6, n7, n4, n5, List.length_cons, List.length_nil]
end Go.Proofs.Ytockimhceppkbaa
namespace Go.Proofs.Ytockimhceppkbaa
open Go.RowKit
def pl38_7Ds : Plan := (.det 0 (.det 1 (.det 2 (.det 3 (.det 4 (.det 5 (.det 6 (.det 7 (.fin 8 .done)))))))))
def tDs := aa wX <| aa wbu <| aa T3 <| aa T31 <| aa T43 <| aa T68 <| aa T69 <| aa T71 <| aa T94 T141
theorem adsync {σ : St} {d : Nat} {F : Nat → Prop} {D : DiskV} (h : DiskAt σ d F D) (hw : D.wait.length ≤ 1000000000000) :
 ACalls Try.prog 38 [.mp d 6 0 0] σ fun r σ' => r = intV .i64 0 ∧ ∃ F', Fr σ σ' F F' ∧ DiskAt σ' d F' { D with wait := [], kept := secAt D.now } := by
 have hm := admay h 0 (.inr rfl)
 obtain ⟨kn, kk, w, a, es, hd, hF⟩ := h
 have h0 := hd.d
 have h1 := hd.now
 have h3 := hd.kept
 have l0 := at_lt h0
 have l1 := at_lt h1
 have l3 := at_lt h3
 have n0 : (d = kn) = False := nf (ne_of_ob h0 h1 (by simp))
 have n1 : (kn = d) = False := nf (ne_of_ob h1 h0 (by simp))
 have n2 : (d = kk) = False := nf (ne_of_ob h0 h3 (by simp))
 have n3 : (kn = kk) = False := nf hd.ne
 have n4 : (kk = d) = False := nf (ne_of_ob h3 h0 (by simp))
 have n5 : (kk = kn) = False := nf hd.ne.symm
 have hnl : ∀ k, (secAt D.now k).length = 64 := fun k => by rw [hd.ov]; exact ovr_len _ hd.kl hd.len k
 have hm : ACalls Try.prog 57 [.mp d 6 0 0, .p (.v (.int .i64 0))] σ fun r σ' => σ' = σ ∧ r = intV .i64 0 := hm
 refine acalls_of cx_ok dr_ok Try.func38 (by kernel_rfl) rfl (nt := 33) (rs := [.tmp 2]) rfl rfl ?_
 rcases hd.wt with ⟨rfl, rfl, hW⟩ | ⟨t, rfl, rfl, hW, h2⟩
 ·skip
  repeat' first | ((with_reducible first | refine cs ?_ ?_ | refine ws ?_ ?_ | refine wd ?_ ?_ | refine wu ?_ ?_) <;> intro h <;> try simp only [h]) | simp only [↓wBA, tDs, convA, seval, pl38_7Ds, wH, h0, h1, l0, l1, n0, n1] | ((with_reducible show ACalls _ _ _ _ _); refine hm.eq ?_) | (with_reducible refine dP pl38_7Ds 9 (some 20) (by decide) (by kernel_rfl) ?_)
  refine awp_loopS (X := Nat) (fun i => 0) (fun i => [(16, intV .i64 0)]) [5, 17, 18, 19, 20, 21, 22, 23, 24, 25, 26, 27, 28] (fun i s => s = σ) (0) ?_ ?_ ?_ ?_
  ·simp only [wHl, wHf]
  ·rfl
  ·rintro _ _ rfl; exact Nat.le_refl _
  ·rintro i J s rfl
   simp only [wHl]
   repeat' first | ((with_reducible first | refine cs ?_ ?_ | refine ws ?_ ?_ | refine wd ?_ ?_ | refine wu ?_ ?_) <;> intro h <;> try simp only [h]) | simp only [↓wBA, tDs, convA, seval, pl38_7Ds, wH, wHl, h0, h1, l0, l1, n0, n1] | ((with_reducible show ACalls _ _ _ _ _); refine (adchange (by simp only [wH, h0, h1, l0, l1, n0, n1, Nat.zero_add, Nat.reduceAdd]; rfl)).eq ?_) | (with_reducible refine dP pl38_7Ds 9 (some 20) (by decide) (by kernel_rfl) ?_)
   all_goals refine ret_st ?_ (by first | exact Nat.le_refl _ | (simp only [List.length_set, List.length_append]; omega) | omega)
   all_goals simp only [resA.eq_1, resL.eq_1, resL.eq_2, resV.eq_1, resV.eq_2, ↓wBA, tDs, convA, seval, wH, h0, h1, l0, l1]
   exact ⟨_, Fr.refl _ _, kn, kk, none, _, es, ⟨h0, h1, h3, hd.keys.congr fun k => by have := hd.ov k; rw [hW] at this; exact this.symm, hd.ne, .inl ⟨rfl, rfl, rfl⟩, by simp, hd.big, fun k => rfl, hnl⟩, hF⟩
 ·have l2 := at_lt h2
  repeat' first | ((with_reducible first | refine cs ?_ ?_ | refine ws ?_ ?_ | refine wd ?_ ?_ | refine wu ?_ ?_) <;> intro h <;> try simp only [h]) | simp only [↓wBA, tDs, convA, seval, pl38_7Ds, wH, h0, h1, l0, l1, n0, n1, wRows_len] | ((with_reducible show ACalls _ _ _ _ _); refine hm.eq ?_) | (with_reducible refine dP pl38_7Ds 9 (some 20) (by decide) (by kernel_rfl) ?_)
  refine awp_loopS (X := { i : Nat // i ≤ D.wait.length }) (fun i => D.wait.length - i.1) (fun i => [(16, intV .i64 (i.1 : Nat))]) [5, 17, 18, 19, 20, 21, 22, 23, 24, 25, 26, 27, 28] (fun i s => Fr σ s F F ∧ s[d]? = σ[d]? ∧ s[kn]? = σ[kn]? ∧ ∃ es', s[kk]? = some (some (.map es')) ∧ KeptI es' (ovr D.kept (D.wait.take i.1))) (⟨0, by omega⟩) ?_ ?_ ?_ ?_
  ·simp only [wHl, wHf]
  ·exact ⟨Fr.refl _ _, rfl, rfl, es, h3, hd.keys⟩
  ·rintro _ _ ⟨h, _⟩; exact h.len
  ·intro x J s hI
   simp only [wHl]
   obtain ⟨i, hi⟩ := x
   obtain ⟨hf, g0, g1, es', g3, hk⟩ := hI
   dsimp only
   rw [h0] at g0; rw [h1] at g1
   have hfl := hf.len
   have k0 := at_lt g0
   have k1 := at_lt g1
   have k3 := at_lt g3
   by_cases hlt : i < D.wait.length
   ·have hdec := dT (i := i) (n := D.wait.length) (by omega)
    have hi0 := nnI i
    have hg : (wRows D.wait)[i]? = some (.v (.int .i64 ((D.wait[i]).1 : Nat)) :: (D.wait[i]).2.map byteP) := by simp [wRows, hlt]
    have hq := hd.len _ (List.getElem_mem hlt)
    have e1 := pageC_64 hq
    have hw1 := wI i (by omega)
    obtain ⟨es2, u1, u2⟩ := hk.upd (D.wait[i]).1 (D.wait[i]).2
    simp only [pageA] at u1
    have u3 : KeptI es2 (ovr D.kept (D.wait.take (i + 1))) := u2.congr fun k => by
     rw [List.take_add_one, List.getElem?_eq_getElem hlt]
     exact (ovr_app _ _ _ _).symm
    repeat' first | ((with_reducible first | refine cs ?_ ?_ | refine ws ?_ ?_ | refine wd ?_ ?_ | refine wu ?_ ?_) <;> intro h <;> try simp only [h]) | simp only [↓wBA, tDs, convA, seval, pl38_7Ds, wH, wHl, g0, g1, g3, k0, k1, k3, hdec, hi0, hg, n0, n1, n2, n3, n4, n5, e1, hq, u1, u2, hw1, wZt] | (with_reducible refine dP pl38_7Ds 9 (some 20) (by decide) (by kernel_rfl) ?_)
    refine ⟨⟨i + 1, by omega⟩, by show D.wait.length - (i + 1) < D.wait.length - i; omega, ⟨(hf.set _ ((hF _).2 (by simp))).app _, h0.symm, h1.symm, es2, rfl, u3⟩, rfl⟩
   ·have hdec := dF (i := i) (n := D.wait.length) (by omega)
    repeat' first | ((with_reducible first | refine cs ?_ ?_ | refine ws ?_ ?_ | refine wd ?_ ?_ | refine wu ?_ ?_) <;> intro h <;> try simp only [h]) | simp only [↓wBA, tDs, convA, seval, pl38_7Ds, wH, wHl, g0, g1, g3, k0, k1, k3, hdec, n0, n1, n2, n3, n4, n5] | ((with_reducible show ACalls _ _ _ _ _); refine (adchange (by simp only [wH, g0, k0]; rfl)).eq ?_) | (with_reducible refine dP pl38_7Ds 9 (some 20) (by decide) (by kernel_rfl) ?_)
    all_goals refine ret_st ?_ (by first | exact Nat.le_refl _ | (simp only [List.length_set, List.length_append]; omega) | omega)
    all_goals simp only [resA.eq_1, resL.eq_1, resL.eq_2, resV.eq_1, resV.eq_2, ↓wBA, tDs, convA, seval, wH, g0, k0]
    refine ⟨_, (hf.set _ ((hF _).2 (by simp))).to fun t ht => .inl ((hF t).2 ?_), DiskAt.mk' (kn := kn) (kk := kk) (w := none) (es := es') ?_ ?_ ?_ (hk.congr fun k => by rw [List.take_of_length_le (show D.wait.length ≤ i by omega)]; exact (hd.ov k).symm) hd.ne (.inl ⟨rfl, rfl, rfl⟩) (by simp) hd.big (fun k => rfl) hnl⟩
    ·rcases ht with h | h | h | h
     ·exact .inl h
     ·exact .inr (.inl h)
     ·exact .inr (.inr (.inl h))
     ·cases h
    ·simp only [wH, k0, intV, boolV]
    ·simp only [wH, k0, n0, n1, g1]
    ·simp only [wH, k0, n2, n4, g3]
end Go.Proofs.Ytockimhceppkbaa
namespace Go.Proofs.Ytockimhceppkbaa
open Go.RowKit
def tDn := aa wX <| aa wbu <| aa T3 <| aa T68 T71
theorem adnew (n : Nat) (hn : n ≤ 65536) (σ : St) : ACalls Try.prog 9 [intV .i64 (n : Nat)] σ fun r σ' => ∃ d F, r = .mp d 6 0 0 ∧ Ap σ σ' ∧ DiskAt σ' d F ⟨n, [], [], fun _ => zero64⟩ ∧ ∀ t, F t → σ.length ≤ t := by
 have e1 : (if (0 : Int) > (n : Int) then 0 else (n : Int)) = n := by split <;> omega
 have e2 : (if (65536 : Int) < (n : Int) then 65536 else (n : Int)) = n := by split <;> omega
 refine acalls_of cx_ok dr_ok Try.func9 (by kernel_rfl) rfl (nt := 11) (rs := [.tmp 2]) rfl rfl ?_
 repeat' first | ((with_reducible first | refine cs ?_ ?_ | refine ws ?_ ?_) <;> intro h <;> try simp only [h]) | simp only [↓wBA, tDn, convA, seval, wH, e1, e2]
 all_goals refine ret_st ?_ (by first | exact Nat.le_refl _ | (simp only [List.length_set, List.length_append]; omega) | omega)
 all_goals simp only [resA.eq_1, resL.eq_1, resL.eq_2, resV.eq_1, resV.eq_2, ↓wBA, tDn, convA, seval, wH]
 refine ⟨_, _, rfl, ?_, DiskAt.mk' (kn := σ.length) (kk := σ.length + 1) (w := none) (a := .p (.v (.slice none 0 0))) (es := []) ?_ ?_ ?_ ⟨[], rfl, fun _ => rfl⟩ (by omega) (.inl ⟨rfl, rfl, rfl⟩) (by simp) hn (fun _ => rfl) (fun _ => rfl), fun t ht => ?_⟩
 ·exact ((Ap.app _ _).trans (Ap.app _ _)).trans (Ap.app _ _)
 ·skip
  simp only [wH, wHe, Nat.reduceAdd, Nat.reduceLT, Nat.reduceEqDiff, Nat.reduceMul, reduceCtorEq, Nat.lt_irrefl]
 ·skip
  simp only [wH, wHe, Nat.reduceAdd, Nat.reduceLT, Nat.reduceEqDiff, Nat.reduceMul, reduceCtorEq, Nat.lt_irrefl, encM, List.map_nil]
 ·skip
  simp only [wH, wHe, Nat.reduceAdd, Nat.reduceLT, Nat.reduceEqDiff, Nat.reduceMul, reduceCtorEq, Nat.lt_irrefl]
 ·rcases ht with rfl | rfl | rfl | h
  ·omega
  ·exact Nat.le_refl _
  ·omega
  ·cases h
end Go.Proofs.Ytockimhceppkbaa
