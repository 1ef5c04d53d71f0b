/- dml: the condition of a statement, the rows of which it holds. -/
import Derived.Test.YtcnkmandddfdmaaM34
import Derived.Test.YtcnkmandddfdmaaM35
import Derived.Test.YtcnkmandddfdmaaM24
set_option linter.unusedSimpArgs false
set_option linter.unusedVariables false
set_option linter.defProp false
set_option maxRecDepth 100000
set_option maxHeartbeats 32000000
namespace Go.Proofs.Ytcnkmandddfdmaa
open Go.RowKit
def pl38_7Dh : Plan := (.det 0 (.det 1 (.two 2 (.two 3 (.det 4 (.det 5 (.det 6 (.det 7 (.act 8 (.fin 9 (.det 10 (.det 11 .done)))))))) 8 (.fin 3 (.det 4 (.det 5 (.det 6 (.det 7 (.fin 9 (.det 10 (.det 11 .done))))))))) 8 (.act 2 (.fin 3 (.det 4 (.det 5 (.det 6 (.det 7 (.fin 9 (.det 10 (.det 11 .done))))))))))))
def tDh := aa wX <| aa wbu <| aa T3 <| aa T24 <| aa T33 <| aa T36 <| aa T40 <| aa T66 T86
def whS (scope : List Bc) (wh : List Ex) : List Ex × Int := asgS scope [(emp, 2, false, false)] wh (wh.map fun _ => 0)
def whereS (s : Sm) (nm : ByteArray) (cols : List Tc) : List Ex × Int := if s.kind ≠ 5 ∧ s.kind ≠ 6 then ([], 1) else whS (scopeS nm cols) s.wh
theorem adwhere (s : Sm) (hwl : s.wh.length ≤ 1000000000000) (nm : ByteArray) (cols : List Tc) (hcl : cols.length ≤ 4398046511104) (σ : St) : ACalls Try.prog 38 [.agg ((smC s).map .p), tbA nm cols] σ fun r st => st = σ ∧ r = .tup [.p (.sl 8 (exL (whereS s nm cols).1)), intV .i64 (whereS s nm cols).2] := by
 refine ACalls.pureF (R := fun r => r = .tup [.p (.sl 8 (exL (whereS s nm cols).1)), intV .i64 (whereS s nm cols).2]) ?_ (by cases s; rfl) σ
 unfold whereS
 obtain ⟨kind, tb, sn, scols, names, rows, items, src, wh, group, order, limit, sets, hash⟩ := s
 simp only at hwl
 have hS := ascope nm cols hcl
 simp only [tbA] at hS
 have hsl : (scopeS nm cols).length ≤ 4398046511104 := by simp [scopeS]; omega
 generalize hscope : scopeS nm cols = scope at *
 refine acalls_of cx_ok dr_ok Try.func38 (by kernel_rfl) rfl (nt := 52) (rs := [.tmp 4, .tmp 5]) rfl rfl ?_
 simp only [tbA, smC, List.map_cons, List.map_nil]
 by_cases hk : kind ≠ 5 ∧ kind ≠ 6
 ·have k5 : (kind != 5) = true := by simpa using hk.1
  have k6 : (kind != 6) = true := by simpa using hk.2
  simp only [if_pos hk]
  repeat' first | ((with_reducible first | refine cs ?_ ?_ | refine ws ?_ ?_ | refine wd ?_ ?_ | refine wu ?_ ?_) <;> intro h <;> try simp only [h]) | simp only [↓wBA, tDh, convA, seval, pl38_7Dh, k5, k6] | (with_reducible refine dP pl38_7Dh 12 (some 28) (by decide) (by kernel_rfl) ?_) | with_reducible refine And.intro ?_ ?_
  all_goals refine ret_is (a := _) ?_ rfl rfl
  all_goals simp only [↓wBA, tDh, convA, seval]
  all_goals simp_all [wS, exL]
 ·simp only [if_neg hk]
  have k56 : ((kind != 5) = false) ∨ ((kind != 5) = true ∧ (kind != 6) = false) := by
   by_cases h5 : kind = 5
   ·left; simp [h5]
   ·right; have : kind = 6 := by omega
    simp [this]
  rcases k56 with k5 | ⟨k5, k6⟩
  ·skip
   repeat' first | ((with_reducible first | refine cs ?_ ?_ | refine ws ?_ ?_ | refine wd ?_ ?_ | refine wu ?_ ?_) <;> intro h <;> try simp only [h]) | simp only [↓wBA, tDh, convA, seval, pl38_7Dh, exL_len, k5] | (with_reducible refine dP pl38_7Dh 12 (some 28) (by decide) (by kernel_rfl) ?_) | with_reducible refine And.intro ?_ ?_
   refine awp_loopN (wh.length) (fun i => [(6, .nown 2 8 (exL (zsF scope (wh.take i)))), (23, intV .i64 (i : Nat)), (4, .any), (5, .any), (8, .any), (9, .any), (10, .any), (11, .any), (24, .any), (25, .any), (26, .any), (27, .any), (28, .any), (29, .any), (30, .any), (31, .any), (32, .any), (33, .any), (34, .any), (35, .any), (36, .any), (37, .any), (38, .any), (39, .any), (40, .any), (41, .any), (42, .any), (43, .any), (44, .any), (45, .any), (46, .any), (47, .any), (48, .any), (49, .any), (50, .any), (51, .any), (52, .any)]) (fun i => [(2, .nright 86 (i * 8))]) (fun i => ∀ j (hj : j < i) (hj' : j < wh.length), asgE scope wh[j] 2 = 0) ?_ ?_ ?_
   ·intro j hj; omega
   ·skip
    simp only [wR, Nat.reduceAdd, Nat.reduceLT, reduceIte]
    simp [wW, zsF, exL]
   ·intro i hi hI
    simp only [wR, Nat.reduceAdd, Nat.reduceLT, reduceIte]
    by_cases hlt : i < wh.length
    ·have hdec := dT (i := i) (n := wh.length) (by omega)
     have hi0 := nnI i
     have hw := wI i (by omega)
     have hg := exL_at wh i hlt
     have hB := abind scope hsl wh[i]
     have hz1 := zsF_succ scope wh i hlt
     have hzl : (exL (zsF scope (wh.take i))).length = i := by rw [exL_len, zsF_len]; simp; omega
     have hlim1 := tL (n := (i + 1) * 104) (by omega)
     have hlim2 := lM (n := i + 1) (by omega)
     have hbad : asgE scope wh[i] 2 ≠ 0 → whS scope wh = ([], asgE scope wh[i] 2) := fun h => by
      have := asgS_bad scope [(emp, 2, false, false)] wh (wh.map fun _ => 0) i hlt (by simpa using hlt) (fun j hj => by simpa [tyAt] using hI j hj (by omega)) (by simpa [tyAt] using h)
      simpa [whS, tyAt] using this
     have hnext : asgE scope wh[i] 2 = 0 → ∀ j (hj : j < i + 1) (hj' : j < wh.length), asgE scope wh[j] 2 = 0 := fun h0 j hj hj' => by
      by_cases e : j = i
      ·subst e; exact h0
      ·exact hI j (by omega) hj'
     have hee : asgE scope wh[i] 2 = if (bndS scope wh[i]).2.2 = 0 ∧ (bndS scope wh[i]).2.1 ≠ 0 ∧ (bndS scope wh[i]).2.1 ≠ 2 then 33 else (bndS scope wh[i]).2.2 := rfl
     generalize hae : asgE scope wh[i] 2 = ae at *
     obtain ⟨a1, a2, a3, a4, a5, a6, a7, a8, hz⟩ := exC_mk (bndS scope wh[i]).1
     rw [hz] at hz1
     generalize hte : (bndS scope wh[i]).2.2 = te at *
     generalize htt : (bndS scope wh[i]).2.1 = tt at *
     simp only [BindOK, exA, hz, List.map_cons, List.map_nil, hte, htt] at hB
     repeat' first | ((with_reducible first | refine cs ?_ ?_ | refine ws ?_ ?_ | refine wd ?_ ?_ | refine wu ?_ ?_) <;> intro h <;> try simp only [h]) | simp only [↓wBA, tDh, convA, seval, pl38_7Dh, exL_len, hdec, hi0, hg, hw, hzl, hlim1, hlim2, appendA, srcA, List.length_append, exC_len, List.length_map] | ((with_reducible show ACalls _ _ _ _ _); first | refine (hS _).eq ?_ | refine (hB _).eq ?_) | (with_reducible refine dP pl38_7Dh 12 (some 28) (by decide) (by kernel_rfl) ?_) | with_reducible refine And.intro ?_ ?_
     all_goals first
      | (refine ⟨⟨i + 1, by omega, hnext (by grind)⟩, by show wh.length - (i + 1) < wh.length - i; omega, ?_⟩
         simp only [hz1]
         simp [wW])
      | (have hb := hbad (by grind)
         simp only [hb]
         refine ret_is (a := _) ?_ rfl rfl
         simp only [resA, resL, resV, List.getD_cons_zero, List.getD_cons_succ]
         simp_all [leT, leG, leA, leC, leM, leaf, tokLt, tokLtL, intV, boolV, nilA, nilSl, exL]
         done)
    ·have hdec := dF (i := i) (n := wh.length) (by omega)
     have ht : wh.take i = wh := List.take_of_length_le (by omega)
     have hok : whS scope wh = (zsF scope wh, 0) := asgS_ok scope _ wh _ (by simp) (fun j hj hj' => by simpa [tyAt] using hI j (by omega) hj)
     simp only [ht, hok]
     repeat' first | ((with_reducible first | refine cs ?_ ?_ | refine ws ?_ ?_ | refine wd ?_ ?_ | refine wu ?_ ?_) <;> intro h <;> try simp only [h]) | simp only [↓wBA, tDh, convA, seval, pl38_7Dh, exL_len, hdec] | (with_reducible refine dP pl38_7Dh 12 (some 28) (by decide) (by kernel_rfl) ?_) | with_reducible refine And.intro ?_ ?_
     all_goals refine ret_is (a := _) ?_ rfl rfl
     all_goals simp only [↓wBA, tDh, convA, seval]
     all_goals simp_all [wS]
  ·skip
   repeat' first | ((with_reducible first | refine cs ?_ ?_ | refine ws ?_ ?_ | refine wd ?_ ?_ | refine wu ?_ ?_) <;> intro h <;> try simp only [h]) | simp only [↓wBA, tDh, convA, seval, pl38_7Dh, exL_len, k5, k6] | (with_reducible refine dP pl38_7Dh 12 (some 28) (by decide) (by kernel_rfl) ?_) | with_reducible refine And.intro ?_ ?_
   refine awp_loopN (wh.length) (fun i => [(6, .nown 2 8 (exL (zsF scope (wh.take i)))), (23, intV .i64 (i : Nat)), (4, .any), (5, .any), (8, .any), (9, .any), (10, .any), (11, .any), (24, .any), (25, .any), (26, .any), (27, .any), (28, .any), (29, .any), (30, .any), (31, .any), (32, .any), (33, .any), (34, .any), (35, .any), (36, .any), (37, .any), (38, .any), (39, .any), (40, .any), (41, .any), (42, .any), (43, .any), (44, .any), (45, .any), (46, .any), (47, .any), (48, .any), (49, .any), (50, .any), (51, .any), (52, .any)]) (fun i => [(2, .nright 86 (i * 8))]) (fun i => ∀ j (hj : j < i) (hj' : j < wh.length), asgE scope wh[j] 2 = 0) ?_ ?_ ?_
   ·intro j hj; omega
   ·skip
    simp only [wR, Nat.reduceAdd, Nat.reduceLT, reduceIte]
    simp [wW, zsF, exL]
   ·intro i hi hI
    simp only [wR, Nat.reduceAdd, Nat.reduceLT, reduceIte]
    by_cases hlt : i < wh.length
    ·have hdec := dT (i := i) (n := wh.length) (by omega)
     have hi0 := nnI i
     have hw := wI i (by omega)
     have hg := exL_at wh i hlt
     have hB := abind scope hsl wh[i]
     have hz1 := zsF_succ scope wh i hlt
     have hzl : (exL (zsF scope (wh.take i))).length = i := by rw [exL_len, zsF_len]; simp; omega
     have hlim1 := tL (n := (i + 1) * 104) (by omega)
     have hlim2 := lM (n := i + 1) (by omega)
     have hbad : asgE scope wh[i] 2 ≠ 0 → whS scope wh = ([], asgE scope wh[i] 2) := fun h => by
      have := asgS_bad scope [(emp, 2, false, false)] wh (wh.map fun _ => 0) i hlt (by simpa using hlt) (fun j hj => by simpa [tyAt] using hI j hj (by omega)) (by simpa [tyAt] using h)
      simpa [whS, tyAt] using this
     have hnext : asgE scope wh[i] 2 = 0 → ∀ j (hj : j < i + 1) (hj' : j < wh.length), asgE scope wh[j] 2 = 0 := fun h0 j hj hj' => by
      by_cases e : j = i
      ·subst e; exact h0
      ·exact hI j (by omega) hj'
     have hee : asgE scope wh[i] 2 = if (bndS scope wh[i]).2.2 = 0 ∧ (bndS scope wh[i]).2.1 ≠ 0 ∧ (bndS scope wh[i]).2.1 ≠ 2 then 33 else (bndS scope wh[i]).2.2 := rfl
     generalize hae : asgE scope wh[i] 2 = ae at *
     obtain ⟨a1, a2, a3, a4, a5, a6, a7, a8, hz⟩ := exC_mk (bndS scope wh[i]).1
     rw [hz] at hz1
     generalize hte : (bndS scope wh[i]).2.2 = te at *
     generalize htt : (bndS scope wh[i]).2.1 = tt at *
     simp only [BindOK, exA, hz, List.map_cons, List.map_nil, hte, htt] at hB
     repeat' first | ((with_reducible first | refine cs ?_ ?_ | refine ws ?_ ?_ | refine wd ?_ ?_ | refine wu ?_ ?_) <;> intro h <;> try simp only [h]) | simp only [↓wBA, tDh, convA, seval, pl38_7Dh, exL_len, hdec, hi0, hg, hw, hzl, hlim1, hlim2, appendA, srcA, List.length_append, exC_len, List.length_map] | ((with_reducible show ACalls _ _ _ _ _); first | refine (hS _).eq ?_ | refine (hB _).eq ?_) | (with_reducible refine dP pl38_7Dh 12 (some 28) (by decide) (by kernel_rfl) ?_) | with_reducible refine And.intro ?_ ?_
     all_goals first
      | (refine ⟨⟨i + 1, by omega, hnext (by grind)⟩, by show wh.length - (i + 1) < wh.length - i; omega, ?_⟩
         simp only [hz1]
         simp [wW])
      | (have hb := hbad (by grind)
         simp only [hb]
         refine ret_is (a := _) ?_ rfl rfl
         simp only [resA, resL, resV, List.getD_cons_zero, List.getD_cons_succ]
         simp_all [leT, leG, leA, leC, leM, leaf, tokLt, tokLtL, intV, boolV, nilA, nilSl, exL]
         done)
    ·have hdec := dF (i := i) (n := wh.length) (by omega)
     have ht : wh.take i = wh := List.take_of_length_le (by omega)
     have hok : whS scope wh = (zsF scope wh, 0) := asgS_ok scope _ wh _ (by simp) (fun j hj hj' => by simpa [tyAt] using hI j (by omega) hj)
     simp only [ht, hok]
     repeat' first | ((with_reducible first | refine cs ?_ ?_ | refine ws ?_ ?_ | refine wd ?_ ?_ | refine wu ?_ ?_) <;> intro h <;> try simp only [h]) | simp only [↓wBA, tDh, convA, seval, pl38_7Dh, exL_len, hdec] | (with_reducible refine dP pl38_7Dh 12 (some 28) (by decide) (by kernel_rfl) ?_) | with_reducible refine And.intro ?_ ?_
     all_goals refine ret_is (a := _) ?_ rfl rfl
     all_goals simp only [↓wBA, tDh, convA, seval]
     all_goals simp_all [wS]
end Go.Proofs.Ytcnkmandddfdmaa
