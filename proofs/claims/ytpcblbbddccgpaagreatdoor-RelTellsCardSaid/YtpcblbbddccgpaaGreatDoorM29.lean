/- cadastreref12: numbers. -/
import Derived.Test.YtpcblbbddccgpaaGreatDoorM21
import Derived.Test.YtpcblbbddccgpaaGreatDoorM28
set_option linter.unusedSimpArgs false
set_option linter.unusedVariables false
set_option linter.defProp false
set_option maxRecDepth 100000
set_option maxHeartbeats 32000000
namespace Go.Proofs.YtpcblbbddccgpaaGreatDoor
open Go.RowKit
def tEn := aa wX <| aa wbu <| aa T2 <| aa T3 <| aa T4 <| aa T24 T82
theorem asizeR (n : Int) (h : i64R n) (σ : St) : ACalls Tryz.prog 54 [.p (.v (.int .i64 n))] σ fun r s => s = σ ∧ r = .p (.v (.int .u64 (absI n))) := by
 refine ACalls.pureF (R := fun r => r = .p (.v (.int .u64 (absI n)))) ?_ rfl σ
 unfold absI
 obtain ⟨h1, h2⟩ := h
 refine acalls_of cx_ok dr_ok Tryz.func54 (by kernel_rfl) rfl (nt := 11) (rs := [.tmp 2]) rfl rfl ?_
 by_cases hn : n < 0
 ·have d : decide (n < 0) = true := by simpa using hn
  have w1 : IntKind.i64.wrap (n + 1) = n + 1 := wrap_i64 (by omega) (by omega)
  have w2 : IntKind.i64.wrap (0 - (n + 1)) = 0 - (n + 1) := wrap_i64 (by omega) (by omega)
  have w3 : IntKind.u64.wrap (0 - (n + 1)) = 0 - (n + 1) := wrap_u64 (by omega) (by omega)
  have w4 : IntKind.u64.wrap (0 - (n + 1) + 1) = 0 - n := by rw [wrap_u64 (by omega) (by omega)]; omega
  rw [if_pos hn]
  repeat' first | ((with_reducible first | refine cs ?_ ?_ | refine ws ?_ ?_) <;> intro h <;> try simp only [h]) | simp only [↓wBA, tEn, convA, seval, d, w1, w2, w3, w4]
  all_goals refine ret_is (a := _) ?_ rfl rfl
  all_goals simp only [↓wBA, tEn, convA, seval]
  all_goals simp_all [wS]
 ·have d : decide (n < 0) = false := by simp; omega
  have w1 : IntKind.u64.wrap n = n := wrap_u64 (by omega) (by omega)
  rw [if_neg hn]
  repeat' first | ((with_reducible first | refine cs ?_ ?_ | refine ws ?_ ?_) <;> intro h <;> try simp only [h]) | simp only [↓wBA, tEn, convA, seval, d, w1]
  all_goals refine ret_is (a := _) ?_ rfl rfl
  all_goals simp only [↓wBA, tEn, convA, seval]
  all_goals simp_all [wS]
theorem asigned (u : Int) (b : Bool) (σ : St) : ACalls Tryz.prog 53 [.p (.v (.int .u64 u)), boolV b] σ fun r s => s = σ ∧ r = .tup [intV .i64 (sgnN u b).1, boolV (sgnN u b).2] := by
 refine ACalls.pureF (R := fun r => r = .tup [intV .i64 (sgnN u b).1, boolV (sgnN u b).2]) ?_ rfl σ
 unfold sgnN
 refine acalls_of cx_ok dr_ok Tryz.func53 (by kernel_rfl) rfl (nt := 14) (rs := [.tmp 4, .tmp 5]) rfl rfl ?_
 cases b
 ·skip
  repeat' first | ((with_reducible first | refine cs ?_ ?_ | refine ws ?_ ?_) <;> intro h <;> try simp only [h]) | simp only [↓wBA, tEn, convA, seval]
  all_goals refine ret_is (a := _) ?_ rfl rfl
  all_goals simp only [↓wBA, tEn, convA, seval]
  all_goals simp_all [wS]
 ·skip
  repeat' first | ((with_reducible first | refine cs ?_ ?_ | refine ws ?_ ?_) <;> intro h <;> try simp only [h]) | simp only [↓wBA, tEn, convA, seval]
  all_goals refine ret_is (a := _) ?_ rfl rfl
  all_goals simp only [↓wBA, tEn, convA, seval]
  all_goals simp_all [wS]
theorem aaddN (a b : Int) (ha : i64R a) (hb : i64R b) (σ : St) : ACalls Tryz.prog 51 [.p (.v (.int .i64 a)), .p (.v (.int .i64 b))] σ fun r s => s = σ ∧ r = .tup [intV .i64 (addN a b).1, boolV (addN a b).2] := by
 refine ACalls.pureF (R := fun r => r = .tup [intV .i64 (addN a b).1, boolV (addN a b).2]) ?_ rfl σ
 have h1 := asizeR a ha
 have h2 := asizeR b hb
 have h3 := fun u => asigned u (decide (a < 0))
 unfold addN
 generalize absI a = u at *
 generalize absI b = v at *
 generalize hx : decide (a < 0) = x at *
 generalize hy : decide (b < 0) = y at *
 refine acalls_of cx_ok dr_ok Tryz.func51 (by kernel_rfl) rfl (nt := 38) (rs := [.tmp 4, .tmp 5]) rfl rfl ?_
 repeat' first | ((with_reducible first | refine cs ?_ ?_ | refine ws ?_ ?_) <;> intro h <;> try simp only [h]) | simp only [↓wBA, tEn, convA, seval, hx, hy] | ((with_reducible show ACalls _ _ _ _ _); first | refine (h1 _).eq ?_ | refine (h2 _).eq ?_ | refine (h3 _ _).eq ?_)
 all_goals refine ret_is (a := _) ?_ rfl rfl
 all_goals simp only [↓wBA, tEn, convA, seval]
 all_goals simp_all [wS]
 all_goals (try (rw [if_neg (by omega)]; exact ⟨rfl, rfl⟩))
 all_goals (try (rw [if_neg (by omega)]; done))
 all_goals (try (rw [if_neg (by omega)]; exact ⟨trivial, trivial⟩))
 all_goals (try (rw [if_neg (by omega)]; exact .inr ⟨rfl, rfl⟩))
theorem amulN (a b : Int) (ha : i64R a) (hb : i64R b) (σ : St) : ACalls Tryz.prog 52 [.p (.v (.int .i64 a)), .p (.v (.int .i64 b))] σ fun r s => s = σ ∧ r = .tup [intV .i64 (mulN a b).1, boolV (mulN a b).2] := by
 refine ACalls.pureF (R := fun r => r = .tup [intV .i64 (mulN a b).1, boolV (mulN a b).2]) ?_ rfl σ
 have h1 := asizeR a ha
 have h2 := asizeR b hb
 have h3 := fun u => asigned u (decide (a < 0) != decide (b < 0))
 have h3' : (decide (a < 0) != decide (b < 0)) = !(decide (a < 0) == decide (b < 0)) := rfl
 unfold mulN
 generalize absI a = u at *
 generalize absI b = v at *
 rw [h3'] at h3 ⊢
 generalize hx : decide (a < 0) = x at *
 generalize hy : decide (b < 0) = y at *
 refine acalls_of cx_ok dr_ok Tryz.func52 (by kernel_rfl) rfl (nt := 29) (rs := [.tmp 4, .tmp 5]) rfl rfl ?_
 by_cases hv : v > 0
 ·have hv0 : (v = 0) = False := eq_false (by omega)
  have hd : decide (v > 0) = true := by simpa using hv
  repeat' first | ((with_reducible first | refine cs ?_ ?_ | refine ws ?_ ?_) <;> intro h <;> try simp only [h]) | simp only [↓wBA, tEn, convA, seval, hx, hy, hv0, hd] | ((with_reducible show ACalls _ _ _ _ _); first | refine (h1 _).eq ?_ | refine (h2 _).eq ?_ | refine (h3 _ _).eq ?_)
  all_goals refine ret_is (a := _) ?_ rfl rfl
  all_goals simp only [↓wBA, tEn, convA, seval]
  all_goals simp_all [wS]
  all_goals (try (rw [if_neg (by omega)]; exact ⟨rfl, rfl⟩))
  all_goals (try (rw [if_neg (by omega)]; exact .inr ⟨rfl, rfl⟩))
 ·have hd : decide (v > 0) = false := by simpa using hv
  repeat' first | ((with_reducible first | refine cs ?_ ?_ | refine ws ?_ ?_) <;> intro h <;> try simp only [h]) | simp only [↓wBA, tEn, convA, seval, hx, hy, hd] | ((with_reducible show ACalls _ _ _ _ _); first | refine (h1 _).eq ?_ | refine (h2 _).eq ?_ | refine (h3 _ _).eq ?_)
  all_goals refine ret_is (a := _) ?_ rfl rfl
  all_goals simp only [↓wBA, tEn, convA, seval]
  all_goals simp_all [wS]
  all_goals (try (rw [if_neg (by omega)]; exact ⟨rfl, rfl⟩))
  all_goals (try (rw [if_neg (by omega)]; exact .inr ⟨rfl, rfl⟩))
theorem rng_yes (n : Int) (h : i64R n) : rngV n = ((1, n, emp), 0) := if_pos h
theorem rng_no (n : Int) (h : ¬ i64R n) : rngV n = (va0, 35) := if_neg h
theorem anumber (k a b : Int) (hk : k = 5 ∨ k = 6 ∨ k = 7 ∨ k = 8 ∨ k = 9) (ha : i64R a) (hb : i64R b) (σ : St) : ACalls Tryz.prog 40 [.p (.v (.int .i64 k)), .p (.v (.int .i64 a)), .p (.v (.int .i64 b))] σ fun r s => s = σ ∧ r = .tup [vaA (numS k a b).1, intV .i64 (numS k a b).2] := by
 refine ACalls.pureF (R := fun r => r = .tup [vaA (numS k a b).1, intV .i64 (numS k a b).2]) ?_ rfl σ
 have hA := aaddN a b ha hb
 have hM := amulN a b ha hb
 have hs1 := asizeR a ha
 have hs2 := asizeR b hb
 have hsd := fun u => asigned u (decide (a < 0) != decide (b < 0))
 have hsm := fun u => asigned u (decide (a < 0))
 refine acalls_of cx_ok dr_ok Tryz.func40 (by kernel_rfl) rfl (nt := 82) (rs := [.cell 6 24, .tmp 7]) rfl rfl ?_
 rcases hk with rfl | rfl | rfl | rfl | rfl
 ·obtain ⟨h1, h2⟩ := addN_say a b ha hb
  simp only [numS, if_true]
  generalize addN a b = s at *
  obtain ⟨n, ok⟩ := s
  simp only at h1 h2 hA
  by_cases hr : i64R (a + b)
  ·have hn := h2 hr
   rw [decide_eq_true hr] at h1
   subst h1 hn
   simp only [rng_yes _ hr]
   repeat' first | ((with_reducible first | refine cs ?_ ?_ | refine ws ?_ ?_) <;> intro h <;> try simp only [h]) | simp only [↓wBA, tEn, convA, seval, Int.reduceBEq] | ((with_reducible show ACalls _ _ _ _ _); refine (hA _).eq ?_)
   all_goals refine ret_is (a := _) ?_ rfl rfl
   all_goals simp only [↓wBA, tEn, convA, seval]
   all_goals simp_all [wS, vaA, vaC, emp]
  ·rw [decide_eq_false hr] at h1
   subst h1
   simp only [rng_no _ hr]
   repeat' first | ((with_reducible first | refine cs ?_ ?_ | refine ws ?_ ?_) <;> intro h <;> try simp only [h]) | simp only [↓wBA, tEn, convA, seval, Int.reduceBEq] | ((with_reducible show ACalls _ _ _ _ _); refine (hA _).eq ?_)
   all_goals refine ret_is (a := _) ?_ rfl rfl
   all_goals simp only [↓wBA, tEn, convA, seval]
   all_goals simp_all [wS, vaA, vaC, va0, emp]
 ·simp only [numS, Int.reduceEq, if_true, if_false]
  by_cases hm : b = -9223372036854775808
  ·subst hm
   by_cases ha0 : a < 0
   ·have hr : i64R (a - -9223372036854775808) := by unfold i64R at *; omega
    have d : decide (a < 0) = true := decide_eq_true ha0
    have w := wIn _ hr
    simp only [rng_yes _ hr]
    repeat' first | ((with_reducible first | refine cs ?_ ?_ | refine ws ?_ ?_) <;> intro h <;> try simp only [h]) | simp only [↓wBA, tEn, convA, seval, Int.reduceBEq, d, w]
    all_goals refine ret_is (a := _) ?_ rfl rfl
    all_goals simp only [↓wBA, tEn, convA, seval]
    all_goals simp_all [wS, vaA, vaC, emp]
   ·have hr : ¬ i64R (a - -9223372036854775808) := by unfold i64R at *; omega
    have d : decide (a < 0) = false := decide_eq_false ha0
    simp only [rng_no _ hr]
    repeat' first | ((with_reducible first | refine cs ?_ ?_ | refine ws ?_ ?_) <;> intro h <;> try simp only [h]) | simp only [↓wBA, tEn, convA, seval, Int.reduceBEq, d]
    all_goals refine ret_is (a := _) ?_ rfl rfl
    all_goals simp only [↓wBA, tEn, convA, seval]
    all_goals simp_all [wS, vaA, vaC, va0, emp]
  ·have hbm : (b == -9223372036854775808) = false := by simpa using hm
   have hb2 : i64R (0 - b) := by unfold i64R at *; omega
   have w : IntKind.i64.wrap (0 - b) = 0 - b := wIn _ hb2
   have hA2 := aaddN a (0 - b) ha hb2
   obtain ⟨h1, h2⟩ := addN_say a (0 - b) ha hb2
   have he : a + (0 - b) = a - b := by omega
   rw [he] at h1 h2
   generalize addN a (0 - b) = s at *
   obtain ⟨n, ok⟩ := s
   simp only at h1 h2 hA2
   by_cases hr : i64R (a - b)
   ·have hn := h2 hr
    rw [decide_eq_true hr] at h1
    subst h1 hn
    simp only [rng_yes _ hr]
    repeat' first | ((with_reducible first | refine cs ?_ ?_ | refine ws ?_ ?_) <;> intro h <;> try simp only [h]) | simp only [↓wBA, tEn, convA, seval, Int.reduceBEq, hbm, w] | ((with_reducible show ACalls _ _ _ _ _); refine (hA2 _).eq ?_)
    all_goals refine ret_is (a := _) ?_ rfl rfl
    all_goals simp only [↓wBA, tEn, convA, seval]
    all_goals simp_all [wS, vaA, vaC, emp]
   ·rw [decide_eq_false hr] at h1
    subst h1
    simp only [rng_no _ hr]
    repeat' first | ((with_reducible first | refine cs ?_ ?_ | refine ws ?_ ?_) <;> intro h <;> try simp only [h]) | simp only [↓wBA, tEn, convA, seval, Int.reduceBEq, hbm, w] | ((with_reducible show ACalls _ _ _ _ _); refine (hA2 _).eq ?_)
    all_goals refine ret_is (a := _) ?_ rfl rfl
    all_goals simp only [↓wBA, tEn, convA, seval]
    all_goals simp_all [wS, vaA, vaC, va0, emp]
 ·obtain ⟨h1, h2⟩ := mulN_say a b ha hb
  simp only [numS, Int.reduceEq, if_true, if_false]
  generalize mulN a b = s at *
  obtain ⟨n, ok⟩ := s
  simp only at h1 h2 hM
  by_cases hr : i64R (a * b)
  ·have hn := h2 hr
   rw [decide_eq_true hr] at h1
   subst h1 hn
   simp only [rng_yes _ hr]
   repeat' first | ((with_reducible first | refine cs ?_ ?_ | refine ws ?_ ?_) <;> intro h <;> try simp only [h]) | simp only [↓wBA, tEn, convA, seval, Int.reduceBEq] | ((with_reducible show ACalls _ _ _ _ _); refine (hM _).eq ?_)
   all_goals refine ret_is (a := _) ?_ rfl rfl
   all_goals simp only [↓wBA, tEn, convA, seval]
   all_goals simp_all [wS, vaA, vaC, emp]
  ·rw [decide_eq_false hr] at h1
   subst h1
   simp only [rng_no _ hr]
   repeat' first | ((with_reducible first | refine cs ?_ ?_ | refine ws ?_ ?_) <;> intro h <;> try simp only [h]) | simp only [↓wBA, tEn, convA, seval, Int.reduceBEq] | ((with_reducible show ACalls _ _ _ _ _); refine (hM _).eq ?_)
   all_goals refine ret_is (a := _) ?_ rfl rfl
   all_goals simp only [↓wBA, tEn, convA, seval]
   all_goals simp_all [wS, vaA, vaC, va0, emp]
 ·simp only [numS, Int.reduceEq, if_true, if_false]
  by_cases h0 : b = 0
  ·have hb0 : (b == 0) = true := by simpa using h0
   simp only [h0, if_true, failV]
   rw [h0] at hb0
   subst h0
   repeat' first | ((with_reducible first | refine cs ?_ ?_ | refine ws ?_ ?_) <;> intro h <;> try simp only [h]) | simp only [↓wBA, tEn, convA, seval, Int.reduceBEq, beq_self_eq_true]
   all_goals refine ret_is (a := _) ?_ rfl rfl
   all_goals simp only [↓wBA, tEn, convA, seval]
   all_goals simp_all [wS, vaA, vaC, va0, emp]
  ·have hb0 : (b == 0) = false := by simpa using h0
   have hv : absI b ≠ 0 := by unfold absI; split <;> omega
   have hv0 : (absI b = 0) = False := eq_false hv
   have hneg : (decide (a < 0) != decide (b < 0)) = !(decide (a < 0) == decide (b < 0)) := rfl
   have hD := hsd (IntKind.u64.wrap ((absI a).tdiv (absI b)))
   obtain ⟨h1, h2⟩ := divN_say a b ha hb h0
   simp only [h0, if_false]
   rw [hneg] at hD h1 h2
   generalize hS : sgnN (IntKind.u64.wrap ((absI a).tdiv (absI b))) (!(decide (a < 0) == decide (b < 0))) = s at *
   obtain ⟨n, ok⟩ := s
   simp only at h1 h2 hD
   by_cases hr : i64R (a.tdiv b)
   ·have hn := h2 hr
    rw [decide_eq_true hr] at h1
    subst h1
    rw [rng_yes _ hr, ← hn]
    repeat' first | ((with_reducible first | refine cs ?_ ?_ | refine ws ?_ ?_) <;> intro h <;> try simp only [h]) | simp only [↓wBA, tEn, convA, seval, Int.reduceBEq, hb0, hv0] | ((with_reducible show ACalls _ _ _ _ _); first | refine (hs1 _).eq ?_ | refine (hs2 _).eq ?_ | refine (hD _).eq ?_)
    all_goals refine ret_is (a := _) ?_ rfl rfl
    all_goals simp only [↓wBA, tEn, convA, seval]
    all_goals simp_all [wS, vaA, vaC, emp]
   ·rw [decide_eq_false hr] at h1
    subst h1
    rw [rng_no _ hr]
    repeat' first | ((with_reducible first | refine cs ?_ ?_ | refine ws ?_ ?_) <;> intro h <;> try simp only [h]) | simp only [↓wBA, tEn, convA, seval, Int.reduceBEq, hb0, hv0] | ((with_reducible show ACalls _ _ _ _ _); first | refine (hs1 _).eq ?_ | refine (hs2 _).eq ?_ | refine (hD _).eq ?_)
    all_goals refine ret_is (a := _) ?_ rfl rfl
    all_goals simp only [↓wBA, tEn, convA, seval]
    all_goals simp_all [wS, vaA, vaC, va0, emp]
 ·simp only [numS, Int.reduceEq, if_true, if_false]
  by_cases h0 : b = 0
  ·have hb0 : (b == 0) = true := by simpa using h0
   simp only [h0, if_true, failV]
   rw [h0] at hb0
   subst h0
   repeat' first | ((with_reducible first | refine cs ?_ ?_ | refine ws ?_ ?_) <;> intro h <;> try simp only [h]) | simp only [↓wBA, tEn, convA, seval, Int.reduceBEq, beq_self_eq_true]
   all_goals refine ret_is (a := _) ?_ rfl rfl
   all_goals simp only [↓wBA, tEn, convA, seval]
   all_goals simp_all [wS, vaA, vaC, va0, emp]
  ·have hb0 : (b == 0) = false := by simpa using h0
   have hv : absI b ≠ 0 := by unfold absI; split <;> omega
   have hv0 : (absI b = 0) = False := eq_false hv
   have hneg : (decide (a < 0) != decide (b < 0)) = !(decide (a < 0) == decide (b < 0)) := rfl
   have hD := hsd (IntKind.u64.wrap ((absI a).tdiv (absI b)))
   obtain ⟨h1, h2⟩ := divN_say a b ha hb h0
   simp only [h0, if_false]
   have hE := hsm ((absI a).tmod (absI b))
   have hm := modN_say a b ha hb h0
   rw [hneg] at hD
   generalize sgnN (IntKind.u64.wrap ((absI a).tdiv (absI b))) (!(decide (a < 0) == decide (b < 0))) = s at hD
   obtain ⟨n, ok⟩ := s
   generalize sgnN ((absI a).tmod (absI b)) (decide (a < 0)) = s2 at hE hm
   obtain ⟨n2, ok2⟩ := s2
   simp only at hD hE hm
   rw [← hm]
   repeat' first | ((with_reducible first | refine cs ?_ ?_ | refine ws ?_ ?_) <;> intro h <;> try simp only [h]) | simp only [↓wBA, tEn, convA, seval, Int.reduceBEq, hb0, hv0] | ((with_reducible show ACalls _ _ _ _ _); first | refine (hs1 _).eq ?_ | refine (hs2 _).eq ?_ | refine (hD _).eq ?_ | refine (hE _).eq ?_)
   all_goals refine ret_is (a := _) ?_ rfl rfl
   all_goals simp only [↓wBA, tEn, convA, seval]
   all_goals simp_all [wS, vaA, vaC, emp]
end Go.Proofs.YtpcblbbddccgpaaGreatDoor
