/- dml: the condition of a statement, the rows of which it holds. dml: the rows of which a statement's condition holds. dml.Delete. dml: what expressions come to over a row, put into its columns. A number's bytes, the lowest first. -/
import Derived.Test.YtcnkmandddfdmaaGreatDoorM30
import Derived.Test.YtcnkmandddfdmaaGreatDoorM35
import Derived.Test.YtcnkmandddfdmaaGreatDoorM21
import Derived.Test.YtcnkmandddfdmaaGreatDoorM32
import Derived.Test.YtcnkmandddfdmaaGreatDoorM20
set_option linter.unusedSimpArgs false
set_option linter.unusedVariables false
set_option linter.defProp false
set_option maxRecDepth 100000
set_option maxHeartbeats 32000000
namespace Go.Proofs.YtcnkmandddfdmaaGreatDoor
open Go.RowKit
def pl66_7Dh : Plan := (.det 0 (.det 1 (.two 2 (.two 3 (.det 4 (.det 5 (.det 6 (.det 7 (.act 8 (.fin 9 (.det 10 (.det 11 .done)))))))) 8 (.fin 3 (.det 4 (.det 5 (.det 6 (.det 7 (.fin 9 (.det 10 (.det 11 .done))))))))) 8 (.act 2 (.fin 3 (.det 4 (.det 5 (.det 6 (.det 7 (.fin 9 (.det 10 (.det 11 .done))))))))))))
def tDh := aa wX <| aa wbu <| aa T3 <| aa T24 <| aa T33 <| aa T36 <| aa T45 <| aa T78 T87
def whS (scope : List Bc) (wh : List Ex) : List Ex × Int := asgS scope [(emp, 2, false, false)] wh (wh.map fun _ => 0)
def whereS (s : Sm) (nm : ByteArray) (cols : List Tc) : List Ex × Int := if s.kind ≠ 5 ∧ s.kind ≠ 6 then ([], 1) else whS (scopeS nm cols) s.wh
theorem adwhere (s : Sm) (hwl : s.wh.length ≤ 1000000000000) (nm : ByteArray) (cols : List Tc) (hcl : cols.length ≤ 4398046511104) (σ : St) : ACalls Tryz.prog 66 [.agg ((smC s).map .p), tbA nm cols] σ fun r st => st = σ ∧ r = .tup [.p (.sl 8 (exL (whereS s nm cols).1)), intV .i64 (whereS s nm cols).2] := by
 refine ACalls.pureF (R := fun r => r = .tup [.p (.sl 8 (exL (whereS s nm cols).1)), intV .i64 (whereS s nm cols).2]) ?_ (by cases s; rfl) σ
 unfold whereS
 obtain ⟨kind, tb, sn, scols, names, rows, items, src, wh, group, order, limit, sets, hash⟩ := s
 simp only at hwl
 have hS := ascope nm cols hcl
 simp only [tbA] at hS
 have hsl : (scopeS nm cols).length ≤ 4398046511104 := by simp [scopeS]; omega
 generalize hscope : scopeS nm cols = scope at *
 refine acalls_of cx_ok dr_ok Tryz.func66 (by kernel_rfl) rfl (nt := 52) (rs := [.tmp 4, .tmp 5]) rfl rfl ?_
 simp only [tbA, smC, List.map_cons, List.map_nil]
 by_cases hk : kind ≠ 5 ∧ kind ≠ 6
 ·have k5 : (kind != 5) = true := by simpa using hk.1
  have k6 : (kind != 6) = true := by simpa using hk.2
  simp only [if_pos hk]
  repeat' first | ((with_reducible first | refine cs ?_ ?_ | refine ws ?_ ?_ | refine wd ?_ ?_ | refine wu ?_ ?_) <;> intro h <;> try simp only [h]) | simp only [↓wBA, tDh, convA, seval, pl66_7Dh, k5, k6] | (with_reducible refine dP pl66_7Dh 12 (some 28) (by decide) (by kernel_rfl) ?_) | with_reducible refine And.intro ?_ ?_
  all_goals refine ret_is (a := _) ?_ rfl rfl
  all_goals simp only [↓wBA, tDh, convA, seval]
  all_goals simp_all [wS, exL]
 ·simp only [if_neg hk]
  have k56 : ((kind != 5) = false) ∨ ((kind != 5) = true ∧ (kind != 6) = false) := by
   by_cases h5 : kind = 5
   ·left; simp [h5]
   ·right; have : kind = 6 := by omega
    simp [this]
  rcases k56 with k5 | ⟨k5, k6⟩
  ·skip
   repeat' first | ((with_reducible first | refine cs ?_ ?_ | refine ws ?_ ?_ | refine wd ?_ ?_ | refine wu ?_ ?_) <;> intro h <;> try simp only [h]) | simp only [↓wBA, tDh, convA, seval, pl66_7Dh, exL_len, k5] | (with_reducible refine dP pl66_7Dh 12 (some 28) (by decide) (by kernel_rfl) ?_) | with_reducible refine And.intro ?_ ?_
   refine awp_loopN (wh.length) (fun i => [(6, .nown 2 8 (exL (zsF scope (wh.take i)))), (23, intV .i64 (i : Nat)), (4, .any), (5, .any), (8, .any), (9, .any), (10, .any), (11, .any), (24, .any), (25, .any), (26, .any), (27, .any), (28, .any), (29, .any), (30, .any), (31, .any), (32, .any), (33, .any), (34, .any), (35, .any), (36, .any), (37, .any), (38, .any), (39, .any), (40, .any), (41, .any), (42, .any), (43, .any), (44, .any), (45, .any), (46, .any), (47, .any), (48, .any), (49, .any), (50, .any), (51, .any), (52, .any)]) (fun i => [(2, .nright 78 (i * 8))]) (fun i => ∀ j (hj : j < i) (hj' : j < wh.length), asgE scope wh[j] 2 = 0) ?_ ?_ ?_
   ·intro j hj; omega
   ·skip
    simp only [wR, Nat.reduceAdd, Nat.reduceLT, reduceIte]
    simp [wW, zsF, exL]
   ·intro i hi hI
    simp only [wR, Nat.reduceAdd, Nat.reduceLT, reduceIte]
    by_cases hlt : i < wh.length
    ·have hdec := dT (i := i) (n := wh.length) (by omega)
     have hi0 := nnI i
     have hw := wI i (by omega)
     have hg := exL_at wh i hlt
     have hB := abind scope hsl wh[i]
     have hz1 := zsF_succ scope wh i hlt
     have hzl : (exL (zsF scope (wh.take i))).length = i := by rw [exL_len, zsF_len]; simp; omega
     have hlim1 := tL (n := (i + 1) * 104) (by omega)
     have hlim2 := lM (n := i + 1) (by omega)
     have hbad : asgE scope wh[i] 2 ≠ 0 → whS scope wh = ([], asgE scope wh[i] 2) := fun h => by
      have := asgS_bad scope [(emp, 2, false, false)] wh (wh.map fun _ => 0) i hlt (by simpa using hlt) (fun j hj => by simpa [tyAt] using hI j hj (by omega)) (by simpa [tyAt] using h)
      simpa [whS, tyAt] using this
     have hnext : asgE scope wh[i] 2 = 0 → ∀ j (hj : j < i + 1) (hj' : j < wh.length), asgE scope wh[j] 2 = 0 := fun h0 j hj hj' => by
      by_cases e : j = i
      ·subst e; exact h0
      ·exact hI j (by omega) hj'
     have hee : asgE scope wh[i] 2 = if (bndS scope wh[i]).2.2 = 0 ∧ (bndS scope wh[i]).2.1 ≠ 0 ∧ (bndS scope wh[i]).2.1 ≠ 2 then 33 else (bndS scope wh[i]).2.2 := rfl
     generalize hae : asgE scope wh[i] 2 = ae at *
     obtain ⟨a1, a2, a3, a4, a5, a6, a7, a8, hz⟩ := exC_mk (bndS scope wh[i]).1
     rw [hz] at hz1
     generalize hte : (bndS scope wh[i]).2.2 = te at *
     generalize htt : (bndS scope wh[i]).2.1 = tt at *
     simp only [BindOK, exA, hz, List.map_cons, List.map_nil, hte, htt] at hB
     repeat' first | ((with_reducible first | refine cs ?_ ?_ | refine ws ?_ ?_ | refine wd ?_ ?_ | refine wu ?_ ?_) <;> intro h <;> try simp only [h]) | simp only [↓wBA, tDh, convA, seval, pl66_7Dh, exL_len, hdec, hi0, hg, hw, hzl, hlim1, hlim2, appendA, srcA, List.length_append, exC_len, List.length_map] | ((with_reducible show ACalls _ _ _ _ _); first | refine (hS _).eq ?_ | refine (hB _).eq ?_) | (with_reducible refine dP pl66_7Dh 12 (some 28) (by decide) (by kernel_rfl) ?_) | with_reducible refine And.intro ?_ ?_
     all_goals first
      | (refine ⟨⟨i + 1, by omega, hnext (by grind)⟩, by show wh.length - (i + 1) < wh.length - i; omega, ?_⟩
         simp only [hz1]
         simp [wW])
      | (have hb := hbad (by grind)
         simp only [hb]
         refine ret_is (a := _) ?_ rfl rfl
         simp only [resA, resL, resV, List.getD_cons_zero, List.getD_cons_succ]
         simp_all [leT, leG, leA, leC, leM, leaf, tokLt, tokLtL, intV, boolV, nilA, nilSl, exL]
         done)
    ·have hdec := dF (i := i) (n := wh.length) (by omega)
     have ht : wh.take i = wh := List.take_of_length_le (by omega)
     have hok : whS scope wh = (zsF scope wh, 0) := asgS_ok scope _ wh _ (by simp) (fun j hj hj' => by simpa [tyAt] using hI j (by omega) hj)
     simp only [ht, hok]
     repeat' first | ((with_reducible first | refine cs ?_ ?_ | refine ws ?_ ?_ | refine wd ?_ ?_ | refine wu ?_ ?_) <;> intro h <;> try simp only [h]) | simp only [↓wBA, tDh, convA, seval, pl66_7Dh, exL_len, hdec] | (with_reducible refine dP pl66_7Dh 12 (some 28) (by decide) (by kernel_rfl) ?_) | with_reducible refine And.intro ?_ ?_
     all_goals refine ret_is (a := _) ?_ rfl rfl
     all_goals simp only [↓wBA, tDh, convA, seval]
     all_goals simp_all [wS]
  ·skip
   repeat' first | ((with_reducible first | refine cs ?_ ?_ | refine ws ?_ ?_ | refine wd ?_ ?_ | refine wu ?_ ?_) <;> intro h <;> try simp only [h]) | simp only [↓wBA, tDh, convA, seval, pl66_7Dh, exL_len, k5, k6] | (with_reducible refine dP pl66_7Dh 12 (some 28) (by decide) (by kernel_rfl) ?_) | with_reducible refine And.intro ?_ ?_
   refine awp_loopN (wh.length) (fun i => [(6, .nown 2 8 (exL (zsF scope (wh.take i)))), (23, intV .i64 (i : Nat)), (4, .any), (5, .any), (8, .any), (9, .any), (10, .any), (11, .any), (24, .any), (25, .any), (26, .any), (27, .any), (28, .any), (29, .any), (30, .any), (31, .any), (32, .any), (33, .any), (34, .any), (35, .any), (36, .any), (37, .any), (38, .any), (39, .any), (40, .any), (41, .any), (42, .any), (43, .any), (44, .any), (45, .any), (46, .any), (47, .any), (48, .any), (49, .any), (50, .any), (51, .any), (52, .any)]) (fun i => [(2, .nright 78 (i * 8))]) (fun i => ∀ j (hj : j < i) (hj' : j < wh.length), asgE scope wh[j] 2 = 0) ?_ ?_ ?_
   ·intro j hj; omega
   ·skip
    simp only [wR, Nat.reduceAdd, Nat.reduceLT, reduceIte]
    simp [wW, zsF, exL]
   ·intro i hi hI
    simp only [wR, Nat.reduceAdd, Nat.reduceLT, reduceIte]
    by_cases hlt : i < wh.length
    ·have hdec := dT (i := i) (n := wh.length) (by omega)
     have hi0 := nnI i
     have hw := wI i (by omega)
     have hg := exL_at wh i hlt
     have hB := abind scope hsl wh[i]
     have hz1 := zsF_succ scope wh i hlt
     have hzl : (exL (zsF scope (wh.take i))).length = i := by rw [exL_len, zsF_len]; simp; omega
     have hlim1 := tL (n := (i + 1) * 104) (by omega)
     have hlim2 := lM (n := i + 1) (by omega)
     have hbad : asgE scope wh[i] 2 ≠ 0 → whS scope wh = ([], asgE scope wh[i] 2) := fun h => by
      have := asgS_bad scope [(emp, 2, false, false)] wh (wh.map fun _ => 0) i hlt (by simpa using hlt) (fun j hj => by simpa [tyAt] using hI j hj (by omega)) (by simpa [tyAt] using h)
      simpa [whS, tyAt] using this
     have hnext : asgE scope wh[i] 2 = 0 → ∀ j (hj : j < i + 1) (hj' : j < wh.length), asgE scope wh[j] 2 = 0 := fun h0 j hj hj' => by
      by_cases e : j = i
      ·subst e; exact h0
      ·exact hI j (by omega) hj'
     have hee : asgE scope wh[i] 2 = if (bndS scope wh[i]).2.2 = 0 ∧ (bndS scope wh[i]).2.1 ≠ 0 ∧ (bndS scope wh[i]).2.1 ≠ 2 then 33 else (bndS scope wh[i]).2.2 := rfl
     generalize hae : asgE scope wh[i] 2 = ae at *
     obtain ⟨a1, a2, a3, a4, a5, a6, a7, a8, hz⟩ := exC_mk (bndS scope wh[i]).1
     rw [hz] at hz1
     generalize hte : (bndS scope wh[i]).2.2 = te at *
     generalize htt : (bndS scope wh[i]).2.1 = tt at *
     simp only [BindOK, exA, hz, List.map_cons, List.map_nil, hte, htt] at hB
     repeat' first | ((with_reducible first | refine cs ?_ ?_ | refine ws ?_ ?_ | refine wd ?_ ?_ | refine wu ?_ ?_) <;> intro h <;> try simp only [h]) | simp only [↓wBA, tDh, convA, seval, pl66_7Dh, exL_len, hdec, hi0, hg, hw, hzl, hlim1, hlim2, appendA, srcA, List.length_append, exC_len, List.length_map] | ((with_reducible show ACalls _ _ _ _ _); first | refine (hS _).eq ?_ | refine (hB _).eq ?_) | (with_reducible refine dP pl66_7Dh 12 (some 28) (by decide) (by kernel_rfl) ?_) | with_reducible refine And.intro ?_ ?_
     all_goals first
      | (refine ⟨⟨i + 1, by omega, hnext (by grind)⟩, by show wh.length - (i + 1) < wh.length - i; omega, ?_⟩
         simp only [hz1]
         simp [wW])
      | (have hb := hbad (by grind)
         simp only [hb]
         refine ret_is (a := _) ?_ rfl rfl
         simp only [resA, resL, resV, List.getD_cons_zero, List.getD_cons_succ]
         simp_all [leT, leG, leA, leC, leM, leaf, tokLt, tokLtL, intV, boolV, nilA, nilSl, exL]
         done)
    ·have hdec := dF (i := i) (n := wh.length) (by omega)
     have ht : wh.take i = wh := List.take_of_length_le (by omega)
     have hok : whS scope wh = (zsF scope wh, 0) := asgS_ok scope _ wh _ (by simp) (fun j hj hj' => by simpa [tyAt] using hI j (by omega) hj)
     simp only [ht, hok]
     repeat' first | ((with_reducible first | refine cs ?_ ?_ | refine ws ?_ ?_ | refine wd ?_ ?_ | refine wu ?_ ?_) <;> intro h <;> try simp only [h]) | simp only [↓wBA, tDh, convA, seval, pl66_7Dh, exL_len, hdec] | (with_reducible refine dP pl66_7Dh 12 (some 28) (by decide) (by kernel_rfl) ?_) | with_reducible refine And.intro ?_ ?_
     all_goals refine ret_is (a := _) ?_ rfl rfl
     all_goals simp only [↓wBA, tDh, convA, seval]
     all_goals simp_all [wS]
end Go.Proofs.YtcnkmandddfdmaaGreatDoor
namespace Go.Proofs.YtcnkmandddfdmaaGreatDoor
open Go.RowKit
def tDi := aa wX <| aa wbu <| aa T3 <| aa T24 <| aa T25 <| aa T33 <| aa T36 <| aa T41 <| aa T45 T78
theorem ACalls.aggW2 {P : Program} {f : FuncId} {a : AV} {l m rest : List AV} {σ : St} {R : AV → St → Prop} (h : nleC l m) (hc : ACalls P f (a :: .agg m :: rest) σ R) : ACalls P f (a :: .agg l :: rest) σ R :=
 ⟨hc.1, fun M vs hM hv => hc.2 M vs hM (by
  simp only [ARepL, ARep] at hv ⊢
  obtain ⟨u0, us0, rfl, h0, u, us', rfl, ⟨_, us, rfl, h2⟩, h3⟩ := hv
  obtain ⟨g1, g2⟩ := h.rep h2
  exact ⟨u0, _, rfl, h0, _, us', rfl, ⟨g2, us, rfl, g1⟩, h3⟩)⟩
def trueE : Ex := .mk 1 2 1 emp emp emp 0 []
def hitS (s : Sm) (nm : ByteArray) (cols : List Tc) (rows : List (List Va)) : List (List Va) × Int := if (whereS s nm cols).2 ≠ 0 then ([], (whereS s nm cols).2) else filS rows ((whereS s nm cols).1.headD trueE)
theorem ahit (s : Sm) (hwl : s.wh.length ≤ 1000000000000) (nm : ByteArray) (cols : List Tc) (hcl : cols.length ≤ 4398046511104) (rows : List (List Va)) (hr : OkRows rows) (σ : St) : ACalls Tryz.prog 36 [.agg ((smC s).map .p), tbA nm cols, .p (.sl 1 (enVV rows))] σ fun r st => st = σ ∧ r = .tup [.p (.sl 1 (enVV (hitS s nm cols rows).1)), intV .i64 (hitS s nm cols rows).2] := by
 refine ACalls.pureF (R := fun r => r = .tup [.p (.sl 1 (enVV (hitS s nm cols rows).1)), intV .i64 (hitS s nm cols rows).2]) ?_ (by cases s; rfl) σ
 have hW := adwhere s hwl nm cols hcl
 unfold hitS
 generalize hws : whereS s nm cols = ws at *
 obtain ⟨w, e⟩ := ws
 obtain ⟨kind, tb, sn, scols, names, srows, items, src, wh, group, order, limit, sets, hash⟩ := s
 simp only [tbA, smC, List.map_cons, List.map_nil] at hW
 clear hws hwl
 refine acalls_of cx_ok dr_ok Tryz.func36 (by kernel_rfl) rfl (nt := 29) (rs := [.tmp 6, .tmp 7]) rfl rfl ?_
 simp only [tbA, smC, List.map_cons, List.map_nil]
 by_cases he : e = 0
 ·subst he
  simp only [ne_eq, not_true_eq_false, if_false]
  cases w with
  | nil =>
    have hF := afilter rows trueE hr
    simp only [exA, exC, exL, trueE, List.map_cons, List.map_nil] at hF
    simp only [List.headD_nil]
    repeat' first | ((with_reducible first | refine cs ?_ ?_ | refine ws ?_ ?_) <;> intro h <;> try simp only [h]) | simp only [↓wBA, tDi, convA, seval, exL, List.length_nil, nc0, nc1, bne_self_eq_false, beq_self_eq_true] | ((with_reducible show ACalls _ _ _ _ _); first | refine (hW _).eq ?_ | (refine ACalls.aggW2 (m := [.p (.v (.int .i64 1)), .p (.v (.int .i64 2)), .p (.v (.int .i64 1)), .p (.v (.string emp)), .p (.v (.string emp)), .p (.v (.string emp)), .p (.v (.int .i64 0)), .p (.sl 8 [])]) (by simp [nleC, emp, leaf, nilA]) ((hF _).mono ?_); rintro _ _ ⟨rfl, rfl⟩))
    all_goals refine ret_is (a := _) ?_ rfl rfl
    all_goals simp only [↓wBA, tDi, convA, seval]
    all_goals simp_all [wS, trueE]
  | cons x w =>
    have hF := afilter rows x hr
    have hx8 : ((exC x).map AV.p).length = 8 := by rw [List.length_map, exC_len]
    simp only [exA] at hF
    simp only [List.headD_cons]
    have hne : (((w.length + 1 : Nat) : Int) == 0) = false := by simp; omega
    repeat' first | ((with_reducible first | refine cs ?_ ?_ | refine ws ?_ ?_) <;> intro h <;> try simp only [h]) | simp only [↓wBA, tDi, convA, seval, exL, exL_len, hne, exC_len, List.length_map] | ((with_reducible show ACalls _ _ _ _ _); first | refine (hW _).eq ?_ | refine (hF _).eq ?_)
    all_goals refine ret_is (a := _) ?_ rfl rfl
    all_goals simp only [↓wBA, tDi, convA, seval]
    all_goals simp_all [wS]
 ·have he' : (e != 0) = true := by simpa using he
  simp only [ne_eq, he, not_false_eq_true, if_true]
  repeat' first | ((with_reducible first | refine cs ?_ ?_ | refine ws ?_ ?_) <;> intro h <;> try simp only [h]) | simp only [↓wBA, tDi, convA, seval, he'] | ((with_reducible show ACalls _ _ _ _ _); refine (hW _).eq ?_)
  all_goals refine ret_is (a := _) ?_ rfl rfl
  all_goals simp only [↓wBA, tDi, convA, seval]
  all_goals simp_all [wS, enVV]
end Go.Proofs.YtcnkmandddfdmaaGreatDoor
namespace Go.Proofs.YtcnkmandddfdmaaGreatDoor
open Go.RowKit
theorem filGo_sub (x : Ex) : ∀ (rows : List (List Va)) (s : List (List Va) × Int), (rows.foldl (filStep x) s).1.length ≤ s.1.length + rows.length ∧ ∀ r ∈ (rows.foldl (filStep x) s).1, r ∈ s.1 ∨ r ∈ rows
 | [], s => ⟨by simp, fun r h => .inl h⟩
 | q :: rows, s => by
   obtain ⟨h1, h2⟩ := filGo_sub x rows (filStep x s q)
   simp only [List.foldl_cons, List.length_cons]
   refine ⟨?_, fun r hr => ?_⟩
   ·have : (filStep x s q).1.length ≤ s.1.length + 1 := by simp only [filStep]; split <;> simp
    omega
   ·rcases h2 r hr with h | h
    ·simp only [filStep] at h
     split at h
     ·rcases List.mem_append.1 h with h | h
      ·exact .inl h
      ·simp at h; subst h; exact .inr (by simp)
     ·exact .inl h
    ·exact .inr (by simp [h])
theorem filS_sub (rows : List (List Va)) (x : Ex) : (filS rows x).1.length ≤ rows.length ∧ ∀ r ∈ (filS rows x).1, r ∈ rows := by
 obtain ⟨h1, h2⟩ := filGo_sub x rows ([], 0)
 unfold filS ansS
 split
 ·simp
 ·split
  ·simp
  ·exact ⟨by simpa using h1, fun r hr => by simpa using h2 r hr⟩
theorem hitS_sub (s : Sm) (nm : ByteArray) (cols : List Tc) (rows : List (List Va)) : (hitS s nm cols rows).1.length ≤ rows.length ∧ ∀ r ∈ (hitS s nm cols rows).1, r ∈ rows := by
 unfold hitS
 split
 ·simp
 ·exact filS_sub _ _
abbrev Wr := List Va × Option (List Va)
def wrC (nm : ByteArray) (w : Wr) : List PV := [.v (.string nm), .sl 3 (enV w.1), match w.2 with | none => .v (.slice none 0 0) | some r => .sl 3 (enV r)]
def enW (nm : ByteArray) (l : List Wr) : List (List PV) := l.map (wrC nm)
theorem enW_len (nm : ByteArray) (l : List Wr) : (enW nm l).length = l.length := by simp [enW]
end Go.Proofs.YtcnkmandddfdmaaGreatDoor
namespace Go.Proofs.YtcnkmandddfdmaaGreatDoor
open Go.RowKit
def pl33_8Dw : Plan := (.det 0 (.det 1 (.det 2 (.det 3 (.det 4 (.det 5 (.det 6 (.fin 7 .done))))))))
def tDw := aa wX <| aa wbu <| aa T3 <| aa T33 <| aa T39 <| aa T41 <| aa T45 <| aa T78 T79
def wStep (row : List Va) (s : List Va × Int) (q : Ex × Int) : List Va × Int := (s.1.set q.2.toNat (evalV row q.1).1, leastI s.2 (evalV row q.1).2)
def wrkS (row : List Va) (xs : List Ex) (cs : List Int) (least : Int) : List Va × Int := (xs.zip cs).foldl (wStep row) (row, least)
theorem wGo_len (row : List Va) : ∀ (l : List (Ex × Int)) (s : List Va × Int), (l.foldl (wStep row) s).1.length = s.1.length
 | [], s => rfl
 | q :: l, s => by rw [List.foldl_cons, wGo_len row l]; simp [wStep]
theorem muR_get (l : List Va) (i : Nat) (h : i < l.length) : (muR l)[i]? = some ((vaC l[i]).map .p) := by simp [muR, h]
theorem muR_set (l : List Va) (i : Nat) (v : Va) : (muR l).set i ((vaC v).map .p) = muR (l.set i v) := by simp [muR, List.map_set]
theorem mu_tok (l : List Va) (n : Nat) : (∀ x, x ∈ muR l → tokLtL n x = true) = True := eq_true fun x hx => by
 obtain ⟨v, _, rfl⟩ := List.mem_map.1 hx
 rfl
theorem toPs_mapP : ∀ l : List PV, toPs (l.map AV.p) = some l
 | [] => rfl
 | x :: l => by simp [toPs, toP, toPs_mapP l]
theorem toPss_mu : ∀ l : List Va, toPss (muR l) = some (enV l)
 | [] => rfl
 | v :: l => by
   have := toPss_mu l
   simp only [muR, enV, List.map_cons, toPss, toPs_mapP] at this ⊢
   rw [this]
theorem le_msR {σ : St} {n t m : Nat} {l : List Va} (h1 : σ[t]? = some (some (.row 3 (muR l)))) (h2 : m = l.length) : leA σ n [] (.ms t 3 0 m) (.p (.sl 3 (enV l))) := by
 subst h2
 refine .inr (.inr (.inr (.inr (.inr (.inr (.inr ⟨t, 3, 0, l.length, enV l, rfl, rfl, ?_⟩))))))
 simp only [frzRow, h1, List.getElem?_nil]
 rw [if_pos ⟨trivial, by rw [muR_len]; omega⟩, List.drop_zero, List.take_of_length_le (by rw [muR_len]; exact Nat.le_refl _)]
 exact toPss_mu l
theorem aworked (row : List Va) (xs : List Ex) (cs : List Int) (least : Int) (hx : xs.length ≤ cs.length) (hcs : ∀ c ∈ cs, 0 ≤ c ∧ c.toNat < row.length) (hl : row.length ≤ 4398046511104) (hxl : xs.length ≤ 4398046511104) (σ : St) : ACalls Tryz.prog 33 [.p (.sl 3 (enV row)), .p (.sl 8 (exL xs)), .p (.sl 1 (enI cs)), intV .i64 least] σ fun r s => s = σ ∧ r = .tup [.p (.sl 3 (enV (wrkS row xs cs least).1)), intV .i64 (wrkS row xs cs least).2] := by
 refine ACalls.pureF (R := fun r => r = .tup [.p (.sl 3 (enV (wrkS row xs cs least).1)), intV .i64 (wrkS row xs cs least).2]) ?_ rfl σ
 unfold wrkS
 have hzl : (xs.zip cs).length = xs.length := by simp; omega
 cases hrow : row with
 | nil =>
   subst hrow
   have hc0 : cs = [] := by
    cases cs with
    | nil => rfl
    | cons c cs => have := (hcs c (by simp)).2; simp at this
   have hx0 : xs = [] := by subst hc0; simpa using hx
   subst hc0 hx0
   refine acalls_of cx_ok dr_ok Tryz.func33 (by kernel_rfl) rfl (nt := 48) (rs := [.tmp 8, .tmp 9]) rfl rfl ?_
   repeat' first | ((with_reducible first | refine cond_split ?_ ?_ | refine ws ?_ ?_ | refine wd ?_ ?_ | refine wu ?_ ?_) <;> intro h <;> try simp only [h]) | simp only [↓wBA, tDw, convA, seval, pl33_8Dw, exL_len] | ((with_reducible show ACalls _ _ _ _ _); refine (aclone [] (by simp) _).eq ?_) | (with_reducible refine dP pl33_8Dw 8 (some 42) (by decide) (by kernel_rfl) ?_)
   refine awp_loopN (0) (fun i => [(3, intV .i64 least), (19, intV .i64 (i : Nat)), (11, .any), (12, .any), (13, .any), (14, .any), (20, .any), (21, .any), (22, .any), (23, .any), (24, .any), (25, .any), (26, .any), (27, .any), (28, .any), (29, .any), (30, .any), (31, .any), (32, .any), (33, .any), (34, .any), (35, .any), (36, .any), (37, .any), (38, .any), (39, .any), (40, .any), (41, .any), (42, .any), (43, .any), (44, .any), (45, .any), (46, .any), (47, .any), (48, .any), (49, .any)]) (fun i => []) (fun i => True) ?_ ?_ ?_
   ·trivial
   ·skip
    simp only [wR, Nat.reduceAdd, Nat.reduceLT, reduceIte]
    simp [wW]
   ·intro i hi _
    have : i = 0 := by omega
    subst this
    simp only [wR, Nat.reduceAdd, Nat.reduceLT, reduceIte]
    repeat' first | ((with_reducible first | refine cond_split ?_ ?_ | refine ws ?_ ?_ | refine wd ?_ ?_ | refine wu ?_ ?_) <;> intro h <;> try simp only [h]) | simp only [↓wBA, tDw, convA, seval, pl33_8Dw, exL, List.length_nil, decide_false, nc0] | (with_reducible refine dP pl33_8Dw 8 (some 42) (by decide) (by kernel_rfl) ?_)
    all_goals refine ret_is (a := _) ?_ rfl rfl
    all_goals simp only [↓wBA, tDw, convA, seval]
    all_goals simp_all [wS, enV]
 | cons v l =>
   have hrl : row.length = l.length + 1 := by rw [hrow]; rfl
   rw [← hrow]
   have hclone := acloneM v l (by omega)
   rw [← hrow] at hclone
   refine acalls_of cx_ok dr_ok Tryz.func33 (by kernel_rfl) rfl (nt := 48) (rs := [.tmp 8, .tmp 9]) rfl rfl ?_
   repeat' first | ((with_reducible first | refine cond_split ?_ ?_ | refine ws ?_ ?_ | refine wd ?_ ?_ | refine wu ?_ ?_) <;> intro h <;> try simp only [h]) | simp only [↓wBA, tDw, convA, seval, pl33_8Dw, exL_len] | ((with_reducible show ACalls _ _ _ _ _); refine (hclone _).mono ?_; rintro _ _ ⟨rfl,rfl⟩) | (with_reducible refine dP pl33_8Dw 8 (some 42) (by decide) (by kernel_rfl) ?_)
   refine awp_loopN (xs.length) (fun i => [(3, intV .i64 (((xs.zip cs).take i).foldl (wStep row) (row, least)).2), (19, intV .i64 (i : Nat)), (11, .any), (12, .any), (13, .any), (14, .any), (20, .any), (21, .any), (22, .any), (23, .any), (24, .any), (25, .any), (26, .any), (27, .any), (28, .any), (29, .any), (30, .any), (31, .any), (32, .any), (33, .any), (34, .any), (35, .any), (36, .any), (37, .any), (38, .any), (39, .any), (40, .any), (41, .any), (42, .any), (43, .any), (44, .any), (45, .any), (46, .any), (47, .any), (48, .any), (49, .any)]) (fun i => [(1, .row 3 (muR (((xs.zip cs).take i).foldl (wStep row) (row, least)).1))]) (fun i => True) ?_ ?_ ?_
   ·trivial
   ·skip
    simp only [wR, Nat.reduceAdd, Nat.reduceLT, reduceIte]
    simp [wW, mu_tok]
   ·intro i hi _
    simp only [wR, Nat.reduceAdd, Nat.reduceLT, reduceIte]
    by_cases hlt : i < xs.length
    ·have hdec := dT (i := i) (n := xs.length) (by omega)
     have hi0 := nnI i
     have hw := wI i (by omega)
     have hg := exL_at xs i hlt
     have hci : i < cs.length := by omega
     have hgc := enI_get cs i hci
     obtain ⟨hc0, hcl⟩ := hcs cs[i] (List.getElem_mem hci)
     have hc0' : ((0 : Int) ≤ cs[i]) = True := eq_true hc0
     have hc1' : (cs[i] < ((l.length + 1 : Nat) : Int)) = True := eq_true (by omega)
     have hst := take_step (wStep row) (row, least) (xs.zip cs) i (by omega)
     have hzi : (xs.zip cs)[i]'(by omega) = (xs[i], cs[i]) := by simp
     rw [hzi] at hst
     have hsl := wGo_len row ((xs.zip cs).take i) (row, least)
     have hE := aevalV row xs[i]
     simp only [wStep] at hst
     have hmg : (muR (((xs.zip cs).take i).foldl (wStep row) (row, least)).1)[cs[i].toNat]? = some ((vaC ((((xs.zip cs).take i).foldl (wStep row) (row, least)).1[cs[i].toNat]'(by rw [hsl]; exact hcl))).map .p) := muR_get _ _ _
     rcases hev : evalV row xs[i] with ⟨⟨v1, v2, v3⟩, e⟩
     simp only [hev, exA, vaA, vaC, List.map_cons, List.map_nil] at hE hst
     generalize hcc : ((((xs.zip cs).take i).foldl (wStep row) (row, least)).1[cs[i].toNat]'(by rw [hsl]; exact hcl)) = oldv at *
     have hvl : ((vaC oldv).map AV.p).length = 3 := rfl
     have hset : (muR (((xs.zip cs).take i).foldl (wStep row) (row, least)).1).set cs[i].toNat [.p (.v (.int .i64 v1)), .p (.v (.int .i64 v2)), .p (.v (.string v3))] = muR ((((xs.zip cs).take i).foldl (wStep row) (row, least)).1.set cs[i].toNat (v1, v2, v3)) := muR_set _ _ (v1, v2, v3)
     repeat' first | ((with_reducible first | refine cond_split ?_ ?_ | refine ws ?_ ?_ | refine wd ?_ ?_ | refine wu ?_ ?_) <;> intro h <;> try simp only [h]) | simp only [↓wBA, tDw, convA, seval, pl33_8Dw, exL_len, enI_len, hdec, hi0, hg, hw, hgc, hc0', hc1', hmg, hvl, hset, exC_len, List.length_map] | ((with_reducible show ACalls _ _ _ _ _); refine (hE _).eq ?_) | (with_reducible refine dP pl33_8Dw 8 (some 42) (by decide) (by kernel_rfl) ?_)
     all_goals refine ⟨⟨i + 1, by omega, trivial⟩, by show xs.length - (i + 1) < xs.length - i; omega, ?_⟩
     all_goals simp only [hst]
     all_goals simp [wW, mu_tok]
     all_goals grind [leastI]
    ·have hdec := dF (i := i) (n := xs.length) (by omega)
     have ht : (xs.zip cs).take i = xs.zip cs := List.take_of_length_le (by omega)
     have hsl := wGo_len row (xs.zip cs) (row, least)
     simp only [ht]
     repeat' first | ((with_reducible first | refine cond_split ?_ ?_ | refine ws ?_ ?_ | refine wd ?_ ?_ | refine wu ?_ ?_) <;> intro h <;> try simp only [h]) | simp only [↓wBA, tDw, convA, seval, pl33_8Dw, exL_len, hdec] | (with_reducible refine dP pl33_8Dw 8 (some 42) (by decide) (by kernel_rfl) ?_)
     refine ret_is (a := .tup [.p (.sl 3 (enV ((xs.zip cs).foldl (wStep row) (row, least)).1)), intV .i64 ((xs.zip cs).foldl (wStep row) (row, least)).2]) ?_ rfl rfl
     simp only [resA, resL, resV, List.getD_cons_zero, List.getD_cons_succ]
     exact .inr ⟨_, _, rfl, rfl, .inl (le_msR rfl (by rw [hsl]; exact hrl.symm)), .inl (.inr (.inl ⟨rfl, rfl⟩)), trivial⟩
end Go.Proofs.YtcnkmandddfdmaaGreatDoor
namespace Go.Proofs.YtcnkmandddfdmaaGreatDoor
open Go.RowKit
def tEi := aa wX <| aa wbu <| aa T3 <| aa T5 <| aa T92 T142
def eiB (u : Int) (i : Nat) : List PV := [.v (.int .u8 (IntKind.u8.wrap (u.fdiv (2 ^ (8 * i)))))]
def eightP (u : Int) (n : Nat) : List (List PV) := (List.range n).map (eiB u)
theorem eightP_len (u : Int) (n : Nat) : (eightP u n).length = n := by simp [eightP]
theorem eightP_succ (u : Int) (n : Nat) : eightP u (n + 1) = eightP u n ++ [eiB u n] := by simp [eightP, List.range_succ]
theorem aeight (u : Int) (σ : St) : ACalls Tryz.prog 117 [.p (.v (.int .u64 u)), boolV false] σ fun r s => s = σ ∧ r = .p (.sl 1 (eightP u 8)) := by
 obtain ⟨l8, hl8⟩ : ∃ l8, l8 = eightP u 8 := ⟨_, rfl⟩
 rw [← hl8]
 refine ACalls.pureF (R := fun r => r = .p (.sl 1 l8)) ?_ rfl σ
 refine acalls_of cx_ok dr_ok Tryz.func117 (by kernel_rfl) rfl (nt := 21) (rs := [.tmp 4]) rfl rfl ?_
 repeat' first | ((with_reducible first | refine cs ?_ ?_ | refine ws ?_ ?_) <;> intro h <;> try simp only [h]) | simp only [↓wBA, tEi, convA, seval]
 refine awp_loopN (8) (fun i => [(5, .nown 0 1 (eightP u i)), (7, intV .i64 (i : Nat)), (6, .any), (8, .any), (9, .any), (10, .any), (11, .any), (12, .any), (13, .any), (14, .any), (15, .any), (16, .any), (17, .any), (18, .any), (19, .any), (20, .any), (21, .any)]) (fun i => [(0, .nright 5 (i * 1))]) (fun i => True) ?_ ?_ ?_
 ·trivial
 ·skip
  simp only [wR, Nat.reduceAdd, Nat.reduceLT, reduceIte]
  simp [wW, eightP]
 ·intro i hi _
  simp only [wR, Nat.reduceAdd, Nat.reduceLT, reduceIte]
  by_cases hlt : i < 8
  ·have hdec : decide ((i : Int) < 8) = true := by simp; omega
   have hw := wI i (by omega)
   have hm : IntKind.i64.wrap (8 * (i : Int)) = ((8 * i : Nat) : Int) := by rw [wrap_i64 (by omega) (by omega)]; simp
   have hs0 : (((8 * i : Nat) : Int) < 0) = False := eq_false (by omega)
   have hmin : min (8 * i) 64 = 8 * i := by omega
   have hst := eightP_succ u i
   have htl := eightP_len u i
   have hlim1 := tL (n := (i + 1) * 1) (by omega)
   have hlim2 := lM (n := i + 1) (by omega)
   simp only [eiB] at hst
   repeat' first | ((with_reducible first | refine cs ?_ ?_ | refine ws ?_ ?_) <;> intro h <;> try simp only [h]) | simp only [↓wBA, tEi, convA, seval, hdec, hw, hm, hs0, htl, hlim1, hlim2, appendA, srcA, List.length_append, Int.toNat_natCast, IntKind.bits, hmin]
   refine ⟨⟨i + 1, by omega, ?_⟩, by show 8 - (i + 1) < 8 - i; omega, ?_⟩
   ·trivial
   ·simp only [hst]
    simp [wW]
  ·have hi8 : i = 8 := by omega
   subst hi8
   simp only [← hl8]
   have hdec : decide (((8 : Nat) : Int) < 8) = false := by decide
   repeat' first | ((with_reducible first | refine cs ?_ ?_ | refine ws ?_ ?_) <;> intro h <;> try simp only [h]) | simp only [↓wBA, tEi, convA, seval, hdec]
   all_goals refine ret_is (a := _) ?_ rfl rfl
   all_goals simp only [↓wBA, tEi, convA, seval]
   all_goals simp_all [wS]
end Go.Proofs.YtcnkmandddfdmaaGreatDoor
