/- cadastreref23: the scope, the numbers of columns. -/
import Derived.Test.YtcnkmandddfdmaaGreatM27
set_option linter.unusedSimpArgs false
set_option linter.unusedVariables false
set_option linter.defProp false
set_option maxRecDepth 100000
set_option maxHeartbeats 32000000
namespace Go.Proofs.YtcnkmandddfdmaaGreat
open Go.RowKit
def pl31_5Za : Plan := (.det 0 (.det 1 (.det 2 (.det 3 (.det 4 (.det 5 (.det 6 (.det 7 (.det 8 (.det 9 (.det 10 (.det 11 (.det 12 (.det 13 (.det 14 (.det 15 (.fin 16 (.fin 17 (.det 18 .done)))))))))))))))))))
def pl24_9Za : Plan := (.det 0 (.det 1 (.det 2 (.det 3 (.det 4 (.det 5 (.det 6 (.det 7 (.det 8 (.det 9 (.det 10 .done)))))))))))
def tZa := aa wX <| aa wbu <| aa T3 <| aa T9 <| aa T22 <| aa T24 <| aa T29 <| aa T52 <| aa T62 <| aa T80 T114
theorem ascopeR (nm : ByteArray) (cols : List Tc) (hl : cols.length ≤ 4398046511104) (σ : St) : ACalls Tryz.prog 31 [tbA nm cols] σ fun r s => s = σ ∧ r = .p (.sl 3 (enBc (scopeS nm cols))) := by
 refine ACalls.pureF (R := fun r => r = .p (.sl 3 (enBc (scopeS nm cols)))) ?_ rfl σ
 refine acalls_of cx_ok dr_ok Tryz.func31 (by kernel_rfl) rfl (nt := 30) (rs := [.tmp 2]) rfl rfl ?_
 simp only [tbA]
 simp only [↓wBA, tZa, convA, seval, enTc_len]
 refine awp_loopN (cols.length) (fun i => [(3, .nown 1 3 (enBc (scopeS nm (cols.take i)))), (4, intV .i64 (i : Nat)), (5, .any), (6, .any), (7, .any), (8, .any), (9, .any), (10, .any), (11, .any), (12, .any), (13, .any), (14, .any), (15, .any), (16, .any), (17, .any), (18, .any), (19, .any), (20, .any), (21, .any), (22, .any), (23, .any), (24, .any), (25, .any), (26, .any), (27, .any), (28, .any), (29, .any)]) (fun i => [(1, .nright 114 (i * 3))]) (fun i => True) ?_ ?_ ?_
 ·trivial
 ·skip
  simp only [wR, Nat.reduceAdd, Nat.reduceLT, reduceIte]
  simp [wW, scopeS, enBc]
 ·intro i hi _
  simp only [wR, Nat.reduceAdd, Nat.reduceLT, reduceIte]
  by_cases hlt : i < cols.length
  ·have hdec := dT (i := i) (n := cols.length) (by omega)
   have hi0 := nnI i
   have hw := wI i (by omega)
   have hg := enTc_get cols i hlt
   have hst := scope_succ nm cols i hlt
   have htl : (enBc (scopeS nm (cols.take i))).length = i := by rw [enBc_len]; simp [scopeS]; omega
   have hlim1 := tL (n := (i + 1) * 32) (by omega)
   have hlim2 := lM (n := i + 1) (by omega)
   rcases hc : cols[i] with ⟨c1, c2, c3, c4⟩
   rw [hc] at hst hg
   simp only [tcC] at hg
   repeat' first | ((with_reducible first | refine cs ?_ ?_ | refine ws ?_ ?_ | refine wd ?_ ?_ | refine wu ?_ ?_) <;> intro h <;> try simp only [h]) | simp only [↓wBA, tZa, convA, seval, pl31_5Za, enTc_len, hdec, hi0, hg, hw, htl, hlim1, hlim2, appendA, srcA, List.length_append] | (with_reducible refine dP pl31_5Za 19 (some 12) (by decide) (by kernel_rfl) ?_)
   all_goals refine ⟨⟨i + 1, by omega, trivial⟩, by show cols.length - (i + 1) < cols.length - i; omega, ?_⟩
   all_goals simp only [hst]
   all_goals simp [wW]
  ·have hdec := dF (i := i) (n := cols.length) (by omega)
   have ht : cols.take i = cols := List.take_of_length_le (by omega)
   simp only [ht]
   repeat' first | ((with_reducible first | refine cs ?_ ?_ | refine ws ?_ ?_ | refine wd ?_ ?_ | refine wu ?_ ?_) <;> intro h <;> try simp only [h]) | simp only [↓wBA, tZa, convA, seval, pl31_5Za, enTc_len, hdec] | (with_reducible refine dP pl31_5Za 19 (some 12) (by decide) (by kernel_rfl) ?_)
   all_goals refine ret_is (a := _) ?_ rfl rfl
   all_goals simp only [↓wBA, tZa, convA, seval]
   all_goals simp_all [wS]
def unlikeC (cols : List Tc) : Prop := ∀ k (h1 : k < cols.length) i (h : i < k), cols[i].1 ≠ cols[k].1
theorem bytes_ext {a b : ByteArray} (h : a.toList = b.toList) : a = b := by
 rw [ba_list, ba_list] at h
 cases a; cases b
 congr
 exact Array.toList_inj.1 h
theorem idxP_nil {α : Type} (p : α → Bool) : idxP p [] = -1 := rfl
theorem idxP_no {α : Type} (p : α → Bool) (l : List α) (x : α) (h : p x = false) : idxP p (l ++ [x]) = idxP p l := by
 unfold idxP
 rw [List.findIdx?_append]
 have : List.findIdx? p [x] = none := by simp [List.findIdx?_cons, h]
 rw [this]
 cases List.findIdx? p l <;> rfl
theorem idx_step (n : ByteArray) (cols : List Tc) (hu : unlikeC cols) (k : Nat) (h : k < cols.length) : idxP (isN n) (cols.take (k + 1)) = if isN n cols[k] = true then (k : Int) else idxP (isN n) (cols.take k) := by
 by_cases hk : isN n cols[k] = true
 ·rw [if_pos hk]
  refine idxP_at (isN n) (cols.take (k + 1)) k (by simp; omega) (fun j hj => ?_) (by simpa using hk)
  rw [List.getElem_take]
  cases hb : isN n cols[j] with
  | false => rfl
  | true =>
    unfold isN at hb hk
    have e1 : cols[j].1.toList = n.toList := by simpa using hb
    have e2 : cols[k].1.toList = n.toList := by simpa using hk
    exact absurd (bytes_ext (e1.trans e2.symm)) (hu k h j hj)
 ·rw [if_neg hk, List.take_succ_eq_append_getElem h]
  exact idxP_no _ _ _ (by simpa using hk)
def dupI (a : Int) (l : List Int) : Int := if (l.any fun m => a == m) = true then -1 else a
theorem dupI_neg (a : Int) (l : List Int) : decide (dupI a l < 0) = (decide (a < 0) || l.any fun m => a == m) := by
 unfold dupI
 split
 ·rename_i h; rw [h]; simp
 ·rename_i h; have h' : (l.any fun m => a == m) = false := (Bool.not_eq_true _).mp h
  rw [h']; simp
theorem dupI_step (a : Int) (l : List Int) (k : Nat) (h : k < l.length) (h0 : 0 ≤ l[k]) : dupI a (l.take (k + 1)) = if (l[k] == dupI a (l.take k)) = true then -1 else dupI a (l.take k) := by
 unfold dupI
 rw [List.take_succ_eq_append_getElem h, List.any_append]
 by_cases h1 : ((l.take k).any fun m => a == m) = true
 ·rw [h1]; simp
 ·have h1' : ((l.take k).any fun m => a == m) = false := (Bool.not_eq_true _).mp h1
  rw [h1']
  by_cases h2 : a = l[k]
  ·subst h2; simp
  ·have h3 : ¬ (l[k] = a) := fun e => h2 e.symm
   simp [h2, h3]
theorem atgtR (names : List ByteArray) (nm : ByteArray) (cols : List Tc) (hu : unlikeC cols) (hok : ∀ l : List ByteArray, (tGo cols l).2 = false → ∀ c ∈ (tGo cols l).1, 0 ≤ c) (hn : names.length ≤ 4398046511104) (hl : cols.length ≤ 4398046511104) (σ : St) : ACalls Tryz.prog 24 [.p (.sl 1 (enN names)), tbA nm cols] σ fun r s => s = σ ∧ r = .tup [.p (.sl 1 (enI (tgtS names cols).1)), intV .i64 (tgtS names cols).2] := by
 refine ACalls.pureF (R := fun r => r = .tup [.p (.sl 1 (enI (tgtS names cols).1)), intV .i64 (tgtS names cols).2]) ?_ rfl σ
 refine acalls_of cx_ok dr_ok Tryz.func24 (by kernel_rfl) rfl (nt := 53) (rs := [.tmp 4, .tmp 5]) rfl rfl ?_
 simp only [tbA]
 simp only [↓wBA, tZa, convA, seval, enN_len]
 refine awp_loopN (names.length) (fun i => [(6, .nown 1 1 (enI (tGo cols (names.take i)).1)), (7, intV .i64 (i : Nat)), (4, .any), (5, .any), (8, .any), (9, .any), (10, .any), (11, .any), (12, .any), (13, .any), (14, .any), (15, .any), (16, .any), (17, .any), (18, .any), (19, .any), (20, .any), (21, .any), (22, .any), (23, .any), (24, .any), (25, .any), (26, .any), (27, .any), (28, .any), (29, .any), (30, .any), (31, .any), (32, .any), (33, .any), (34, .any), (35, .any), (36, .any), (37, .any), (38, .any), (39, .any), (40, .any), (41, .any), (42, .any), (43, .any), (44, .any), (45, .any), (46, .any), (47, .any), (48, .any), (49, .any), (50, .any), (51, .any), (52, .any), (53, .any)]) (fun i => [(1, .nright 3 (i * 1))]) (fun i => (tGo cols (names.take i)).2 = false) ?_ ?_ ?_
 ·rfl
 ·skip
  simp only [wR, Nat.reduceAdd, Nat.reduceLT, reduceIte]
  simp [wW, tGo, enI]
 ·intro i hi hI
  simp only [wR, Nat.reduceAdd, Nat.reduceLT, reduceIte]
  by_cases hlt : i < names.length
  ·have hdec := dT (i := i) (n := names.length) (by omega)
   have hi0 := nnI i
   have hw := wI i (by omega)
   have hg := enN_get names i hlt
   have hst : tGo cols (names.take (i + 1)) = tStep cols (tGo cols (names.take i)) names[i] := fold_step _ _ _ _ hlt
   have hbad := tGo_take cols names (i + 1)
   have hfin : (tGo cols names).2 = true → tgtS names cols = ([], 32) := fun h => by unfold tgtS; rw [if_pos h]
   have htl : (tGo cols (names.take i)).1.length = i := by rw [tGo, tGo_len]; simp; omega
   have hge := hok _ hI
   have hlim1 := tL (n := (i + 1) * 8) (by omega)
   have hlim2 := lM (n := i + 1) (by omega)
   obtain ⟨l, hl'⟩ : ∃ l, (tGo cols (names.take i)).1 = l := ⟨_, rfl⟩
   rw [hl'] at htl hge
   simp only [hl']
   repeat' first | ((with_reducible first | refine cs ?_ ?_ | refine ws ?_ ?_ | refine wd ?_ ?_ | refine wu ?_ ?_) <;> intro h <;> try simp only [h]) | simp only [↓wBA, tZa, convA, seval, pl24_9Za, enN_len, hdec] | (with_reducible refine dP pl24_9Za 11 (some 24) (by decide) (by kernel_rfl) ?_)
   refine awp_loopN (cols.length) (fun k => [(8, intV .i64 (idxP (isN names[i]) (cols.take k))), (9, intV .i64 (k : Nat)), (17, .any), (18, .any), (19, .any), (20, .any), (21, .any), (22, .any), (23, .any), (24, .any), (25, .any), (26, .any), (27, .any), (28, .any), (29, .any), (30, .any), (31, .any), (32, .any), (33, .any), (34, .any), (35, .any)]) (fun k => []) (fun k => True) ?_ ?_ ?_
   ·trivial
   ·skip
    simp only [wR, Nat.reduceAdd, Nat.reduceLT, reduceIte]
    simp [wW, idxP_nil]
   ·intro k hk _
    simp only [wR, Nat.reduceAdd, Nat.reduceLT, reduceIte]
    by_cases hltk : k < cols.length
    ·have hdk := dT (i := k) (n := cols.length) (by omega)
     have hk0 := nnI k
     have hwk := wI k (by omega)
     have hgk := enTc_get cols k hltk
     have hsk := idx_step names[i] cols hu k hltk
     rcases hc : cols[k] with ⟨c1, c2, c3, c4⟩
     rw [hc] at hsk hgk
     simp only [tcC] at hgk
     simp only [isN] at hsk
     cases hq : (c1.toList == names[i].toList)
     ·simp only [hq, Bool.false_eq_true, if_false] at hsk
      repeat' first | ((with_reducible first | refine cs ?_ ?_ | refine ws ?_ ?_ | refine wd ?_ ?_ | refine wu ?_ ?_) <;> intro h <;> try simp only [h]) | simp only [↓wBA, tZa, convA, seval, pl24_9Za, enTc_len, hdk, hk0, hi0, hg, hwk, hgk, binStr, hq] | (with_reducible refine dP pl24_9Za 11 (some 24) (by decide) (by kernel_rfl) ?_)
      all_goals refine ⟨⟨k + 1, by omega, trivial⟩, by show cols.length - (k + 1) < cols.length - k; omega, ?_⟩
      all_goals simp only [hsk]
      all_goals simp [wW]
     ·simp only [hq, if_true] at hsk
      repeat' first | ((with_reducible first | refine cs ?_ ?_ | refine ws ?_ ?_ | refine wd ?_ ?_ | refine wu ?_ ?_) <;> intro h <;> try simp only [h]) | simp only [↓wBA, tZa, convA, seval, pl24_9Za, enTc_len, hdk, hk0, hi0, hg, hwk, hgk, binStr, hq] | (with_reducible refine dP pl24_9Za 11 (some 24) (by decide) (by kernel_rfl) ?_)
      all_goals refine ⟨⟨k + 1, by omega, trivial⟩, by show cols.length - (k + 1) < cols.length - k; omega, ?_⟩
      all_goals simp only [hsk]
      all_goals simp [wW]
    ·have hdk := dF (i := k) (n := cols.length) (by omega)
     have htk : cols.take k = cols := List.take_of_length_le (by omega)
     simp only [htk]
     generalize hix : idxP (isN names[i]) cols = a at *
     repeat' first | ((with_reducible first | refine cs ?_ ?_ | refine ws ?_ ?_ | refine wd ?_ ?_ | refine wu ?_ ?_) <;> intro h <;> try simp only [h]) | simp only [↓wBA, tZa, convA, seval, pl24_9Za, enTc_len, hdk] | (with_reducible refine dP pl24_9Za 11 (some 24) (by decide) (by kernel_rfl) ?_)
     refine awp_loopN (l.length) (fun m => [(8, intV .i64 (dupI a (l.take m))), (10, intV .i64 (m : Nat)), (36, .any), (37, .any), (38, .any), (39, .any), (40, .any), (41, .any), (42, .any), (43, .any), (44, .any), (45, .any), (46, .any), (47, .any)]) (fun m => []) (fun m => True) ?_ ?_ ?_
     ·trivial
     ·skip
      simp only [wR, Nat.reduceAdd, Nat.reduceLT, reduceIte]
      simp [wW, dupI]
     ·intro m hm _
      simp only [wR, Nat.reduceAdd, Nat.reduceLT, reduceIte]
      by_cases hltm : m < l.length
      ·have hdm := dT (i := m) (n := l.length) (by omega)
       have hm0 := nnI m
       have hwm := wI m (by omega)
       have hgm := enI_get l m hltm
       have hsm := dupI_step a l m hltm (hge _ (List.getElem_mem hltm))
       generalize dupI a (l.take m) = d at *
       cases hq : (l[m] == d)
       ·rw [hq] at hsm
        simp only [Bool.false_eq_true, if_false] at hsm
        repeat' first | ((with_reducible first | refine cs ?_ ?_ | refine ws ?_ ?_ | refine wd ?_ ?_ | refine wu ?_ ?_) <;> intro h <;> try simp only [h]) | simp only [↓wBA, tZa, convA, seval, pl24_9Za, enI_len, hdm, hm0, hwm, hgm, hq] | (with_reducible refine dP pl24_9Za 11 (some 24) (by decide) (by kernel_rfl) ?_)
        all_goals refine ⟨⟨m + 1, by omega, trivial⟩, by show l.length - (m + 1) < l.length - m; omega, ?_⟩
        all_goals simp only [hsm]
        all_goals simp [wW]
       ·rw [hq] at hsm
        simp only [if_true] at hsm
        repeat' first | ((with_reducible first | refine cs ?_ ?_ | refine ws ?_ ?_ | refine wd ?_ ?_ | refine wu ?_ ?_) <;> intro h <;> try simp only [h]) | simp only [↓wBA, tZa, convA, seval, pl24_9Za, enI_len, hdm, hm0, hwm, hgm, hq] | (with_reducible refine dP pl24_9Za 11 (some 24) (by decide) (by kernel_rfl) ?_)
        all_goals refine ⟨⟨m + 1, by omega, trivial⟩, by show l.length - (m + 1) < l.length - m; omega, ?_⟩
        all_goals simp only [hsm]
        all_goals simp [wW]
      ·have hdm := dF (i := m) (n := l.length) (by omega)
       have hdm' := dF (i := m) (n := i) (by omega)
       have htm : l.take m = l := List.take_of_length_le (by omega)
       simp only [htm]
       have hneg := dupI_neg a l
       cases hd : (decide (a < 0) || l.any fun m => a == m)
       ·rw [hd] at hneg
        have hda : dupI a l = a := by
         unfold dupI; rw [if_neg]; intro h; rw [h] at hd; simp at hd
        rw [hda] at hneg
        simp only [hda]
        repeat' first | ((with_reducible first | refine cs ?_ ?_ | refine ws ?_ ?_ | refine wd ?_ ?_ | refine wu ?_ ?_) <;> intro h <;> try simp only [h]) | simp only [↓wBA, tZa, convA, seval, pl24_9Za, enI_len, hdm, hdm', hw, hneg, htl, hlim1, hlim2, appendA, srcA, List.length_append] | (with_reducible refine dP pl24_9Za 11 (some 24) (by decide) (by kernel_rfl) ?_)
        refine ⟨⟨i + 1, by omega, ?_⟩, by show names.length - (i + 1) < names.length - i; omega, ?_⟩
        ·rw [hst]; simp only [tStep, hI, hl', hix, Bool.false_or]; exact hd
        ·simp only [hst, tStep, hl', hix]
         simp [wW, enI]
       ·rw [hd] at hneg
        have hb := hbad (by rw [hst]; simp only [tStep, hI, hl', hix, Bool.false_or]; exact hd)
        simp only [hfin hb]
        repeat' first | ((with_reducible first | refine cs ?_ ?_ | refine ws ?_ ?_ | refine wd ?_ ?_ | refine wu ?_ ?_) <;> intro h <;> try simp only [h]) | simp only [↓wBA, tZa, convA, seval, pl24_9Za, enI_len, hdm, hdm', hw, hneg, htl] | (with_reducible refine dP pl24_9Za 11 (some 24) (by decide) (by kernel_rfl) ?_)
        all_goals refine ret_is (a := _) ?_ rfl rfl
        all_goals simp only [↓wBA, tZa, convA, seval]
        all_goals simp_all [wS, enI]
  ·have hdec := dF (i := i) (n := names.length) (by omega)
   have ht : names.take i = names := List.take_of_length_le (by omega)
   rw [ht] at hI
   simp only [ht]
   repeat' first | ((with_reducible first | refine cs ?_ ?_ | refine ws ?_ ?_ | refine wd ?_ ?_ | refine wu ?_ ?_) <;> intro h <;> try simp only [h]) | simp only [↓wBA, tZa, convA, seval, pl24_9Za, enN_len, hdec] | (with_reducible refine dP pl24_9Za 11 (some 24) (by decide) (by kernel_rfl) ?_)
   all_goals refine ret_is (a := _) ?_ rfl rfl
   all_goals simp only [↓wBA, tZa, convA, seval]
   all_goals simp_all [wS, tgtS]
end Go.Proofs.YtcnkmandddfdmaaGreat
