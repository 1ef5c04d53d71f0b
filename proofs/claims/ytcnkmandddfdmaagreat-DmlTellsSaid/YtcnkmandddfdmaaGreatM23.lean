/- cadastreref17.Filter tells what the program's Filter does. -/
import Derived.Test.YtcnkmandddfdmaaGreatM22
set_option linter.unusedSimpArgs false
set_option linter.unusedVariables false
set_option linter.defProp false
set_option maxRecDepth 100000
set_option maxHeartbeats 32000000
namespace Go.Proofs.YtcnkmandddfdmaaGreat
open Go.RowKit
def pl64_6Fr : Plan := (.det 0 (.det 1 (.det 2 (.det 3 (.det 4 (.fin 5 (.det 6 (.det 7 (.det 8 (.det 9 (.det 10 .done)))))))))))
def tFr := aa wX <| aa wbu <| aa T3 <| aa T25 <| aa T39 <| aa T58 T70
theorem aleastR (l e : Int) (σ : St) : ACalls Tryz.prog 27 [intV .i64 l, intV .i64 e] σ fun r s => s = σ ∧ r = intV .i64 (leastI l e) := by
 refine ACalls.pureF (R := fun r => r = intV .i64 (leastI l e)) ?_ rfl σ
 refine acalls_of cx_ok dr_ok Tryz.func27 (by kernel_rfl) rfl (nt := 16) (rs := [.tmp 4]) rfl rfl ?_
 by_cases h0 : l = 0
 ·subst h0
  have hl : leastI 0 e = e := by unfold leastI; split <;> omega
  rw [hl]
  repeat' first | ((with_reducible first | refine cs ?_ ?_ | refine ws ?_ ?_) <;> intro h <;> try simp only [h]) | simp only [↓wBA, tFr, convA, seval, Int.reduceBEq]
  all_goals refine ret_is (a := _) ?_ rfl rfl
  all_goals simp only [↓wBA, tFr, convA, seval]
  all_goals simp_all [wS]
 ·have t0 : (l == 0) = false := by simpa using h0
  by_cases h1 : e ≠ 0 ∧ e < l
  ·have hl : leastI l e = e := by unfold leastI; rw [if_pos ⟨h1.1, .inr h1.2⟩]
   have t1 : (e != 0) = true := by simpa using h1.1
   have t2 : decide (e < l) = true := decide_eq_true h1.2
   rw [hl]
   repeat' first | ((with_reducible first | refine cs ?_ ?_ | refine ws ?_ ?_) <;> intro h <;> try simp only [h]) | simp only [↓wBA, tFr, convA, seval, t0, t1, t2]
   all_goals refine ret_is (a := _) ?_ rfl rfl
   all_goals simp only [↓wBA, tFr, convA, seval]
   all_goals simp_all [wS]
  ·have hl : leastI l e = l := by unfold leastI; rw [if_neg (by omega)]
   rw [hl]
   by_cases h2 : e = 0
   ·subst h2
    repeat' first | ((with_reducible first | refine cs ?_ ?_ | refine ws ?_ ?_) <;> intro h <;> try simp only [h]) | simp only [↓wBA, tFr, convA, seval, t0, bne_self_eq_false]
    all_goals refine ret_is (a := _) ?_ rfl rfl
    all_goals simp only [↓wBA, tFr, convA, seval]
    all_goals simp_all [wS]
   ·have t1 : (e != 0) = true := by simpa using h2
    have t2 : decide (e < l) = false := decide_eq_false (by omega)
    repeat' first | ((with_reducible first | refine cs ?_ ?_ | refine ws ?_ ?_) <;> intro h <;> try simp only [h]) | simp only [↓wBA, tFr, convA, seval, t0, t1, t2]
    all_goals refine ret_is (a := _) ?_ rfl rfl
    all_goals simp only [↓wBA, tFr, convA, seval]
    all_goals simp_all [wS]
theorem adoneR (rows : List (List Va)) (l : Int) (σ : St) : ACalls Tryz.prog 95 [.p (nilSl 1 (enVV rows)), intV .i64 l] σ fun r s => s = σ ∧ r = .tup [.p (.sl 1 (enVV (ansS l rows).1)), intV .i64 (ansS l rows).2] := by
 refine ACalls.pureF (R := fun r => r = .tup [.p (.sl 1 (enVV (ansS l rows).1)), intV .i64 (ansS l rows).2]) ?_ rfl σ
 cases rows with
 | nil =>
   refine acalls_of cx_ok dr_ok Tryz.func95 (by kernel_rfl) rfl (nt := 15) (rs := [.tmp 4, .tmp 5]) rfl rfl ?_
   simp only [nilSl, enVV, List.map_nil, List.isEmpty_nil, if_true]
   repeat' first | ((with_reducible first | refine cs ?_ ?_ | refine ws ?_ ?_) <;> intro h <;> try simp only [h]) | simp only [↓wBA, tFr, convA, seval]
   all_goals refine ret_is (a := _) ?_ rfl rfl
   all_goals simp only [↓wBA, tFr, convA, seval]
   all_goals simp_all [wS, ansS, enVV]
   all_goals grind
 | cons r rows =>
   refine acalls_of cx_ok dr_ok Tryz.func95 (by kernel_rfl) rfl (nt := 15) (rs := [.tmp 4, .tmp 5]) rfl rfl ?_
   simp only [nilSl, enVV, List.map_cons, List.isEmpty_cons, Bool.false_eq_true, if_false]
   repeat' first | ((with_reducible first | refine cs ?_ ?_ | refine ws ?_ ?_) <;> intro h <;> try simp only [h]) | simp only [↓wBA, tFr, convA, seval, List.length_map]
   all_goals refine ret_is (a := _) ?_ rfl rfl
   all_goals simp only [↓wBA, tFr, convA, seval]
   all_goals simp_all [wS, ansS, enVV]
   all_goals grind
theorem filGo_len (x : Ex) : ∀ (rows : List (List Va)) (s : List (List Va) × Int), (rows.foldl (filStep x) s).1.length ≤ s.1.length + rows.length
 | [], s => by simp
 | q :: rows, s => by
   have h1 := filGo_len x rows (filStep x s q)
   simp only [List.foldl_cons, List.length_cons]
   have : (filStep x s q).1.length ≤ s.1.length + 1 := by simp only [filStep]; split <;> simp
   omega
theorem afilterR (rows : List (List Va)) (x : Ex) (hx : rgE x) (hn : rows.length ≤ 10000) (hr : ∀ r ∈ rows, ∀ v ∈ r, i64R v.2.1) (σ : St) : ACalls Tryz.prog 64 [.p (.sl 1 (enVV rows)), exA x] σ fun r s => s = σ ∧ r = .tup [.p (.sl 1 (enVV (filS rows x).1)), intV .i64 (filS rows x).2] := by
 refine ACalls.pureF (R := fun r => r = .tup [.p (.sl 1 (enVV (filS rows x).1)), intV .i64 (filS rows x).2]) ?_ (by cases x; rfl) σ
 have hH := fun row h => aHoldsR row h x hx
 have hfl := fun l => filGo_len x l ([], 0)
 unfold filS
 generalize hst : filStep x = stp at *
 have hstp : ∀ s r, stp s r = (if (holdsV r x).1 = true ∧ s.1.length ≤ 10000 then s.1 ++ [r] else s.1, leastI s.2 (holdsV r x).2) := fun s r => by rw [← hst]; rfl
 generalize hhv : (fun r => holdsV r x) = hv at *
 have hhv' : ∀ r, holdsV r x = hv r := fun r => by rw [← hhv]
 simp only [hhv'] at hH hstp
 clear hst hhv hhv'
 obtain ⟨k, vk, vn, vs, tb, nm, s, kids⟩ := x
 simp only [exA, exC, List.map_cons, List.map_nil] at hH
 refine acalls_of cx_ok dr_ok Tryz.func64 (by kernel_rfl) rfl (nt := 40) (rs := [.tmp 4, .tmp 5]) rfl rfl ?_
 simp only [exA, exC, List.map_cons, List.map_nil]
 repeat' first | ((with_reducible first | refine cs ?_ ?_ | refine ws ?_ ?_ | refine wd ?_ ?_ | refine wu ?_ ?_) <;> intro h <;> try simp only [h]) | simp only [↓wBA, tFr, convA, seval, pl64_6Fr] | (with_reducible refine dP pl64_6Fr 11 (some 18) (by decide) (by kernel_rfl) ?_)
 refine awp_loopN (rows.length) (fun i => [(6, .nown 1 1 (enVV ((rows.take i).foldl stp ([], 0)).1)), (7, intV .i64 ((rows.take i).foldl stp ([], 0)).2), (8, intV .i64 (i : Nat)), (9, .any), (10, .any), (11, .any), (12, .any), (13, .any), (14, .any), (15, .any), (16, .any), (17, .any), (18, .any), (19, .any), (20, .any), (21, .any), (22, .any), (23, .any), (24, .any), (25, .any), (26, .any), (27, .any), (28, .any), (29, .any), (30, .any), (31, .any), (32, .any), (33, .any), (34, .any), (35, .any), (36, .any)]) (fun i => [(1, .nright 58 (((rows.take i).foldl stp ([], 0)).1.length * 1))]) (fun i => True) ?_ ?_ ?_
 ·trivial
 ·skip
  simp only [wR, Nat.reduceAdd, Nat.reduceLT, reduceIte]
  simp [wW, enVV]
 ·intro i hi _
  simp only [wR, Nat.reduceAdd, Nat.reduceLT, reduceIte]
  by_cases hlt : i < rows.length
  ·have hdec := dT (i := i) (n := rows.length) (by omega)
   have hi0 := nnI i
   have hw := wI i (by omega)
   have hg := enVV_get rows i hlt
   have hst := take_step stp ([], 0) rows i hlt
   have hH' := hH rows[i] (hr _ (List.getElem_mem hlt))
   have hol := hfl (rows.take i)
   rw [hstp] at hst
   generalize hs : (rows.take i).foldl stp ([], 0) = st at *
   obtain ⟨out, l⟩ := st
   simp only at hst hol
   have ho : out.length ≤ 10000 := by simp at hol; omega
   generalize hrow : rows[i] = row at *
   have hlim1 := tL (n := (out.length + 1) * 24) (by omega)
   have hlim2 := lM (n := out.length + 1) (by omega)
   generalize hv row = hp at *
   obtain ⟨b, e⟩ := hp
   simp only [ho, and_true] at hst hH'
   cases b
   ·simp only [Bool.false_eq_true, if_false] at hst
    repeat' first | ((with_reducible first | refine cs ?_ ?_ | refine ws ?_ ?_ | refine wd ?_ ?_ | refine wu ?_ ?_) <;> intro h <;> try simp only [h]) | simp only [↓wBA, tFr, convA, seval, pl64_6Fr, enVV_len, hdec, hi0, hg, hw] | ((with_reducible show ACalls _ _ _ _ _); first | refine (hH' _).eq ?_ | refine (aleastR _ _ _).eq ?_) | (with_reducible refine dP pl64_6Fr 11 (some 18) (by decide) (by kernel_rfl) ?_)
    refine ⟨⟨i + 1, by omega, ?_⟩, by show rows.length - (i + 1) < rows.length - i; omega, ?_⟩
    ·trivial
    ·simp only [hst]
     simp [wW]
   ·simp only [if_true] at hst
    repeat' first | ((with_reducible first | refine cs ?_ ?_ | refine ws ?_ ?_ | refine wd ?_ ?_ | refine wu ?_ ?_) <;> intro h <;> try simp only [h]) | simp only [↓wBA, tFr, convA, seval, pl64_6Fr, enVV_len, hdec, hi0, hg, hw, hlim1, hlim2, appendA, srcA, List.length_append] | ((with_reducible show ACalls _ _ _ _ _); first | refine (hH' _).eq ?_ | refine (aleastR _ _ _).eq ?_) | (with_reducible refine dP pl64_6Fr 11 (some 18) (by decide) (by kernel_rfl) ?_)
    refine ⟨⟨i + 1, by omega, ?_⟩, by show rows.length - (i + 1) < rows.length - i; omega, ?_⟩
    ·trivial
    ·simp only [hst, enVV_app]
     simp [wW, enVV]
  ·have hdec := dF (i := i) (n := rows.length) (by omega)
   have ht : rows.take i = rows := List.take_of_length_le (by omega)
   simp only [ht]
   repeat' first | ((with_reducible first | refine cs ?_ ?_ | refine ws ?_ ?_ | refine wd ?_ ?_ | refine wu ?_ ?_) <;> intro h <;> try simp only [h]) | simp only [↓wBA, tFr, convA, seval, pl64_6Fr, enVV_len, hdec] | ((with_reducible show ACalls _ _ _ _ _); refine ACalls.frzArgs ?_; simp only [frzL, frzA]; refine (adoneR _ _ _).eq ?_) | (with_reducible refine dP pl64_6Fr 11 (some 18) (by decide) (by kernel_rfl) ?_)
   all_goals refine ret_is (a := _) ?_ rfl rfl
   all_goals simp only [↓wBA, tFr, convA, seval]
   all_goals simp_all [wS]
end Go.Proofs.YtcnkmandddfdmaaGreat
