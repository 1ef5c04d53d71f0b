/- cadastreref01.Compare. cadastreref12.Eval tells what the program's Eval does. cadastreref12.Eval tells what the program's Eval does: kids. -/
import Derived.Test.YtpcblbbddccgpaaGreatDoorM31
set_option linter.unusedSimpArgs false
set_option linter.unusedVariables false
set_option linter.defProp false
set_option maxRecDepth 100000
set_option maxHeartbeats 32000000
namespace Go.Proofs.YtpcblbbddccgpaaGreatDoor
open Go.RowKit
def tEc := aa wX <| aa wbu <| aa T2 <| aa T3 <| aa T9 T24
theorem bytesLess_self : ∀ l : List UInt8, Op.bytesLess l l = false
 | [] => rfl
 | b :: l => by simp [Op.bytesLess, bytesLess_self l]
theorem acmpR (a b : Va) (σ : St) : ACalls Tryz.prog 41 [vaA a, vaA b] σ fun r s => s = σ ∧ r = intV .i64 (cmpV a b) := by
 refine ACalls.pureF (R := fun r => r = intV .i64 (cmpV a b)) ?_ rfl σ
 obtain ⟨a1, a2, a3⟩ := a
 obtain ⟨b1, b2, b3⟩ := b
 have ce := eqV_cells a1 a2 b1 b2 a3 b3
 refine acalls_of cx_ok dr_ok Tryz.func41 (by kernel_rfl) rfl (nt := 39) (rs := [.tmp 4]) rfl rfl ?_
 simp only [vaA, vaC, List.map_cons, List.map_nil]
 rcases (show eqV (a1, a2, a3) (b1, b2, b3) = false ∨ eqV (a1, a2, a3) (b1, b2, b3) = true by cases eqV (a1, a2, a3) (b1, b2, b3) <;> simp) with hq | hq
 ·rcases Int.lt_trichotomy a1 b1 with h1 | h1 | h1
  ·have d1 : decide (a1 < b1) = true := by simpa using h1
   have hc : cmpV (a1, a2, a3) (b1, b2, b3) = -1 := by simp [cmpV, cmpI, h1]
   rw [hc]
   repeat' first | ((with_reducible first | refine cs ?_ ?_ | refine ws ?_ ?_) <;> intro h <;> try simp only [h]) | simp only [↓wBA, tEc, convA, seval, ce, hq, d1]
   all_goals refine ret_is (a := _) ?_ rfl rfl
   all_goals simp only [↓wBA, tEc, convA, seval]
   all_goals simp_all [wS]
  ·subst h1
   have d1 : decide (a1 < a1) = false := by simp
   rcases Int.lt_trichotomy a2 b2 with h2 | h2 | h2
   ·have d2 : decide (a2 < b2) = true := by simpa using h2
    have hc : cmpV (a1, a2, a3) (a1, b2, b3) = -1 := by simp [cmpV, cmpI, h2]
    rw [hc]
    repeat' first | ((with_reducible first | refine cs ?_ ?_ | refine ws ?_ ?_) <;> intro h <;> try simp only [h]) | simp only [↓wBA, tEc, convA, seval, ce, hq, d1, d2, beq_self_eq_true]
    all_goals refine ret_is (a := _) ?_ rfl rfl
    all_goals simp only [↓wBA, tEc, convA, seval]
    all_goals simp_all [wS]
   ·subst h2
    have d2 : decide (a2 < a2) = false := by simp
    have hne : ¬ a3.toList = b3.toList := fun e => by simp [eqV, e] at hq
    rcases (show Op.bytesLess a3.toList b3.toList = false ∨ Op.bytesLess a3.toList b3.toList = true by cases Op.bytesLess a3.toList b3.toList <;> simp) with hb | hb
    ·have hc : cmpV (a1, a2, a3) (a1, a2, b3) = 1 := by simp [cmpV, cmpI, cmpS, hb, hne]
     rw [hc]
     repeat' first | ((with_reducible first | refine cs ?_ ?_ | refine ws ?_ ?_) <;> intro h <;> try simp only [h]) | simp only [↓wBA, tEc, convA, seval, ce, hq, d1, d2, beq_self_eq_true, binStr, hb]
     all_goals refine ret_is (a := _) ?_ rfl rfl
     all_goals simp only [↓wBA, tEc, convA, seval]
     all_goals simp_all [wS]
    ·have hc : cmpV (a1, a2, a3) (a1, a2, b3) = -1 := by simp [cmpV, cmpI, cmpS, hb]
     rw [hc]
     repeat' first | ((with_reducible first | refine cs ?_ ?_ | refine ws ?_ ?_) <;> intro h <;> try simp only [h]) | simp only [↓wBA, tEc, convA, seval, ce, hq, d1, d2, beq_self_eq_true, binStr, hb]
     all_goals refine ret_is (a := _) ?_ rfl rfl
     all_goals simp only [↓wBA, tEc, convA, seval]
     all_goals simp_all [wS]
   ·have d2 : decide (a2 < b2) = false := by simp; omega
    have e2 : (a2 == b2) = false := by simp; omega
    have hc : cmpV (a1, a2, a3) (a1, b2, b3) = 1 := by
     have g1 : ¬ a2 < b2 := by omega
     simp [cmpV, cmpI, g1, h2]
    rw [hc]
    repeat' first | ((with_reducible first | refine cs ?_ ?_ | refine ws ?_ ?_) <;> intro h <;> try simp only [h]) | simp only [↓wBA, tEc, convA, seval, ce, hq, d1, d2, e2, beq_self_eq_true]
    all_goals refine ret_is (a := _) ?_ rfl rfl
    all_goals simp only [↓wBA, tEc, convA, seval]
    all_goals simp_all [wS]
  ·have d1 : decide (a1 < b1) = false := by simp; omega
   have e1 : (a1 == b1) = false := by simp; omega
   have hc : cmpV (a1, a2, a3) (b1, b2, b3) = 1 := by
    have g1 : ¬ a1 < b1 := by omega
    simp [cmpV, cmpI, g1, h1]
   rw [hc]
   repeat' first | ((with_reducible first | refine cs ?_ ?_ | refine ws ?_ ?_) <;> intro h <;> try simp only [h]) | simp only [↓wBA, tEc, convA, seval, ce, hq, d1, e1]
   all_goals refine ret_is (a := _) ?_ rfl rfl
   all_goals simp only [↓wBA, tEc, convA, seval]
   all_goals simp_all [wS]
 ·have he := eqV_eq hq
  have hc : cmpV (a1, a2, a3) (b1, b2, b3) = 0 := by rw [← he]; simp [cmpV, cmpI, cmpS, bytesLess_self]
  rw [hc]
  repeat' first | ((with_reducible first | refine cs ?_ ?_ | refine ws ?_ ?_) <;> intro h <;> try simp only [h]) | simp only [↓wBA, tEc, convA, seval, ce, hq]
  all_goals refine ret_is (a := _) ?_ rfl rfl
  all_goals simp only [↓wBA, tEc, convA, seval]
  all_goals simp_all [wS]
end Go.Proofs.YtpcblbbddccgpaaGreatDoor
namespace Go.Proofs.YtpcblbbddccgpaaGreatDoor
open Go.RowKit
def tEv := aa wX <| aa wbu <| aa T2 <| aa T3 <| aa T4 <| aa T24 <| aa T25 <| aa T27 <| aa T30 <| aa T39 T70
theorem kids0 {k : Int} (h1 : k ≠ 1) (h2 : k ≠ 24) (h3 : k ≠ 2) : kidsV k ≠ 0 := by
 unfold kidsV
 rw [if_neg (by simp [h1, h2, h3])]
 split
 ·decide
 ·split <;> decide
theorem aEval0 (row : List Va) (k vk vn : Int) (vs tb nm : ByteArray) (s : Int) : EvOK row (.mk k vk vn vs tb nm s []) := fun σ => by
 refine ACalls.pureF (R := fun r => r = .tup [vaA (evalV row (.mk k vk vn vs tb nm s [])).1, intV .i64 (evalV row (.mk k vk vn vs tb nm s [])).2]) ?_ rfl σ
 rw [evalV_none]
 have hO := aokR (vk, vn, vs)
 simp only [vaA, vaC, List.map_cons, List.map_nil] at hO
 have n00 : (((0 : Nat) : Int) == 0) = true := rfl
 have n01 : (((0 : Nat) : Int) == 1) = false := rfl
 have n02 : (((0 : Nat) : Int) == 2) = false := rfl
 have n03 : (((0 : Nat) : Int) != 2) = true := rfl
 refine acalls_of cx_ok dr_ok Tryz.func30 (by kernel_rfl) rfl (nt := 228) (rs := [.cell 4 24, .tmp 5]) rfl rfl ?_
 simp only [exA, exC, exL, List.map_cons, List.map_nil]
 by_cases k1 : k = 1
 ·subst k1
  rw [if_neg (by decide)]
  cases hv : okV (vk, vn, vs)
  ·rw [hv] at hO
   have hl : leafV row 1 (vk, vn, vs) s 0 = failV 1 0 := by simp [leafV, hv]
   rw [hl]
   simp only [failV, clV, if_true, ne_eq, Int.reduceEq, not_false_eq_true]
   repeat' first | ((with_reducible first | refine cs ?_ ?_ | refine ws ?_ ?_) <;> intro h <;> try simp only [h]) | simp only [↓wBA, tEv, convA, seval, List.length_nil, Int.reduceBEq, n00, n01, n02, n03] | ((with_reducible show ACalls _ _ _ _ _); refine (hO _).eq ?_)
   all_goals refine ret_is (a := _) ?_ rfl rfl
   all_goals simp only [↓wBA, tEv, convA, seval]
   all_goals simp_all [wS, vaA, vaC, va0, emp]
  ·rw [hv] at hO
   have hl : leafV row 1 (vk, vn, vs) s 0 = ((vk, vn, vs), 0) := by simp [leafV, hv]
   rw [hl]
   simp only [clV, ne_eq, not_true_eq_false, if_false]
   repeat' first | ((with_reducible first | refine cs ?_ ?_ | refine ws ?_ ?_) <;> intro h <;> try simp only [h]) | simp only [↓wBA, tEv, convA, seval, List.length_nil, Int.reduceBEq, n00, n01, n02, n03] | ((with_reducible show ACalls _ _ _ _ _); refine (hO _).eq ?_)
   all_goals refine ret_is (a := _) ?_ rfl rfl
   all_goals simp only [↓wBA, tEv, convA, seval]
   all_goals simp_all [wS, vaA, vaC, va0, emp]
 have e1 : (k == 1) = false := by simpa using k1
 by_cases k2 : k = 2
 ·subst k2
  rw [if_neg (by decide)]
  have hl : leafV row 2 (vk, vn, vs) s 0 = failV 32 0 := by simp [leafV]
  rw [hl]
  simp only [failV, clV, if_true, ne_eq, Int.reduceEq, not_false_eq_true]
  repeat' first | ((with_reducible first | refine cs ?_ ?_ | refine ws ?_ ?_) <;> intro h <;> try simp only [h]) | simp only [↓wBA, tEv, convA, seval, List.length_nil, Int.reduceBEq, n00, n01, n02, n03]
  all_goals refine ret_is (a := _) ?_ rfl rfl
  all_goals simp only [↓wBA, tEv, convA, seval]
  all_goals simp_all [wS, vaA, vaC, va0, emp]
 have e2 : (k == 2) = false := by simpa using k2
 by_cases k24 : k = 24
 ·subst k24
  rw [if_neg (by decide)]
  by_cases s0 : s ≥ 0
  ·have t0 : decide (s ≥ 0) = true := decide_eq_true s0
   by_cases s1 : s < (row.length : Int)
   ·have t1 : decide (s < (row.length : Int)) = true := decide_eq_true s1
    have hlt : s.toNat < row.length := by omega
    have hg := enV_get row s.toNat hlt
    have hi0 : ((0 : Int) ≤ s) = True := eq_true s0
    have hO2 := aokR row[s.toNat]
    have hgd : row.getD s.toNat va0 = row[s.toNat] := by simp [List.getD, hlt]
    generalize hw : row[s.toNat] = w at *
    obtain ⟨w1, w2, w3⟩ := w
    simp only [vaA, vaC, List.map_cons, List.map_nil] at hO2 hg
    cases hv : okV (w1, w2, w3)
    ·rw [hv] at hO2
     have hl : leafV row 24 (vk, vn, vs) s 0 = failV 1 0 := by
      unfold leafV; rw [if_neg (by decide), if_neg (by simp), hgd, if_neg (by simp [hv])]
     rw [hl]
     simp only [failV, clV, if_true, ne_eq, Int.reduceEq, not_false_eq_true]
     repeat' first | ((with_reducible first | refine cs ?_ ?_ | refine ws ?_ ?_) <;> intro h <;> try simp only [h]) | simp only [↓wBA, tEv, convA, seval, List.length_nil, Int.reduceBEq, n00, n01, n02, n03, t0, t1, hg, hi0, enV_len] | ((with_reducible show ACalls _ _ _ _ _); refine (hO2 _).eq ?_)
     all_goals refine ret_is (a := _) ?_ rfl rfl
     all_goals simp only [↓wBA, tEv, convA, seval]
     all_goals simp_all [wS, vaA, vaC, va0, emp]
    ·rw [hv] at hO2
     have hl : leafV row 24 (vk, vn, vs) s 0 = ((w1, w2, w3), 0) := by
      unfold leafV; rw [if_neg (by decide), if_neg (by simp), hgd, if_pos ⟨rfl, s0, s1, hv⟩]
     rw [hl]
     simp only [clV, ne_eq, not_true_eq_false, if_false]
     repeat' first | ((with_reducible first | refine cs ?_ ?_ | refine ws ?_ ?_) <;> intro h <;> try simp only [h]) | simp only [↓wBA, tEv, convA, seval, List.length_nil, Int.reduceBEq, n00, n01, n02, n03, t0, t1, hg, hi0, enV_len] | ((with_reducible show ACalls _ _ _ _ _); refine (hO2 _).eq ?_)
     all_goals refine ret_is (a := _) ?_ rfl rfl
     all_goals simp only [↓wBA, tEv, convA, seval]
     all_goals simp_all [wS, vaA, vaC, va0, emp]
   ·have t1 : decide (s < (row.length : Int)) = false := decide_eq_false s1
    have hl : leafV row 24 (vk, vn, vs) s 0 = failV 1 0 := by
     unfold leafV; rw [if_neg (by decide), if_neg (by simp), if_neg (by simp [s1])]
    rw [hl]
    simp only [failV, clV, if_true, ne_eq, Int.reduceEq, not_false_eq_true]
    repeat' first | ((with_reducible first | refine cs ?_ ?_ | refine ws ?_ ?_) <;> intro h <;> try simp only [h]) | simp only [↓wBA, tEv, convA, seval, List.length_nil, Int.reduceBEq, n00, n01, n02, n03, t0, t1, enV_len]
    all_goals refine ret_is (a := _) ?_ rfl rfl
    all_goals simp only [↓wBA, tEv, convA, seval]
    all_goals simp_all [wS, vaA, vaC, va0, emp]
  ·have t0 : decide (s ≥ 0) = false := decide_eq_false s0
   have hl : leafV row 24 (vk, vn, vs) s 0 = failV 1 0 := by
    unfold leafV; rw [if_neg (by decide), if_neg (by simp), if_neg (fun h => s0 h.2.1)]
   rw [hl]
   simp only [failV, clV, if_true, ne_eq, Int.reduceEq, not_false_eq_true]
   repeat' first | ((with_reducible first | refine cs ?_ ?_ | refine ws ?_ ?_) <;> intro h <;> try simp only [h]) | simp only [↓wBA, tEv, convA, seval, List.length_nil, Int.reduceBEq, n00, n01, n02, n03, t0]
   all_goals refine ret_is (a := _) ?_ rfl rfl
   all_goals simp only [↓wBA, tEv, convA, seval]
   all_goals simp_all [wS, vaA, vaC, va0, emp]
 have e24 : (k == 24) = false := by simpa using k24
 rw [if_pos (kids0 k1 k24 k2)]
 repeat' first | ((with_reducible first | refine cs ?_ ?_ | refine ws ?_ ?_) <;> intro h <;> try simp only [h]) | simp only [↓wBA, tEv, convA, seval, List.length_nil, Int.reduceBEq, n00, n01, n02, n03, e1, e2, e24]
 all_goals refine ret_is (a := _) ?_ rfl rfl
 all_goals simp only [↓wBA, tEv, convA, seval]
 all_goals simp_all [wS, vaA, vaC, va0, emp]
end Go.Proofs.YtpcblbbddccgpaaGreatDoor
namespace Go.Proofs.YtpcblbbddccgpaaGreatDoor
open Go.RowKit
def tEw := aa wX <| aa wbu <| aa T2 <| aa T3 <| aa T4 <| aa T24 <| aa T25 <| aa T27 <| aa T30 <| aa T39 T70
theorem kids1n {k : Int} (h1 : k ≠ 3) (h2 : k ≠ 4) (h3 : k ≠ 18) (h4 : k ≠ 19) : kidsV k ≠ 1 := by
 unfold kidsV
 split
 ·decide
 ·rw [if_neg (by omega)]
  split <;> decide
theorem kids2n {k : Int} (h : k < 5 ∨ k > 17) : kidsV k ≠ 2 := by
 unfold kidsV
 split
 ·decide
 ·split
  ·decide
  ·rw [if_neg (by omega)]; decide
theorem kids2y {k : Int} (h : 5 ≤ k ∧ k ≤ 17) : kidsV k = 2 := by
 unfold kidsV
 rw [if_neg (by omega), if_neg (by omega), if_pos h]
theorem ok_kind {v : Va} (h : okV v = true) : v.1 = 0 ∨ v.1 = 1 ∨ v.1 = 2 ∨ v.1 = 3 := by
 unfold okV at h
 repeat' split at h
 all_goals first | omega | (simp only [Bool.and_eq_true, beq_iff_eq] at h; omega)
theorem exL_three (x y z : Ex) (l : List Ex) : exL (x :: y :: z :: l) = exC x :: exC y :: exC z :: exL l := rfl
theorem aEval1 (row : List Va) (k vk vn : Int) (vs tb nm : ByteArray) (s : Int) (x : Ex) (ih : EvOK row x) (hr : i64R (evalV row x).1.2.1) : EvOK row (.mk k vk vn vs tb nm s [x]) := fun σ => by
 refine ACalls.pureF (R := fun r => r = .tup [vaA (evalV row (.mk k vk vn vs tb nm s [x])).1, intV .i64 (evalV row (.mk k vk vn vs tb nm s [x])).2]) ?_ rfl σ
 have hOne := fun hk => aoneR row k vk vn vs tb nm s x hk ih hr
 have n0 : (((1 : Nat) : Int) == 0) = false := rfl
 have n1 : (((1 : Nat) : Int) == 1) = true := rfl
 have n2 : (((1 : Nat) : Int) == 2) = false := rfl
 have n3 : (((1 : Nat) : Int) != 2) = true := rfl
 by_cases hk : k = 3 ∨ k = 4 ∨ k = 18 ∨ k = 19
 ·have hO := hOne hk
  clear hOne
  generalize evalV row (.mk k vk vn vs tb nm s [x]) = q at *
  obtain ⟨⟨w1, w2, w3⟩, e⟩ := q
  simp only [exA, exC, exL_one, vaA, vaC, List.map_cons, List.map_nil] at hO
  refine acalls_of cx_ok dr_ok Tryz.func30 (by kernel_rfl) rfl (nt := 228) (rs := [.cell 4 24, .tmp 5]) rfl rfl ?_
  simp only [exA, exC, exL_one, List.map_cons, List.map_nil]
  rcases hk with rfl | rfl | rfl | rfl
  ·skip
   repeat' first | ((with_reducible first | refine cs ?_ ?_ | refine ws ?_ ?_) <;> intro h <;> try simp only [h]) | simp only [↓wBA, tEw, convA, seval, List.length_cons, List.length_nil, Int.reduceBEq, n0, n1, n2, n3] | ((with_reducible show ACalls _ _ _ _ _); refine (hO _).eq ?_)
   all_goals refine ret_is (a := _) ?_ rfl rfl
   all_goals simp only [↓wBA, tEw, convA, seval]
   all_goals simp_all [wS, vaA, vaC, va0, emp]
  ·skip
   repeat' first | ((with_reducible first | refine cs ?_ ?_ | refine ws ?_ ?_) <;> intro h <;> try simp only [h]) | simp only [↓wBA, tEw, convA, seval, List.length_cons, List.length_nil, Int.reduceBEq, n0, n1, n2, n3] | ((with_reducible show ACalls _ _ _ _ _); refine (hO _).eq ?_)
   all_goals refine ret_is (a := _) ?_ rfl rfl
   all_goals simp only [↓wBA, tEw, convA, seval]
   all_goals simp_all [wS, vaA, vaC, va0, emp]
  ·skip
   repeat' first | ((with_reducible first | refine cs ?_ ?_ | refine ws ?_ ?_) <;> intro h <;> try simp only [h]) | simp only [↓wBA, tEw, convA, seval, List.length_cons, List.length_nil, Int.reduceBEq, n0, n1, n2, n3] | ((with_reducible show ACalls _ _ _ _ _); refine (hO _).eq ?_)
   all_goals refine ret_is (a := _) ?_ rfl rfl
   all_goals simp only [↓wBA, tEw, convA, seval]
   all_goals simp_all [wS, vaA, vaC, va0, emp]
  ·skip
   repeat' first | ((with_reducible first | refine cs ?_ ?_ | refine ws ?_ ?_) <;> intro h <;> try simp only [h]) | simp only [↓wBA, tEw, convA, seval, List.length_cons, List.length_nil, Int.reduceBEq, n0, n1, n2, n3] | ((with_reducible show ACalls _ _ _ _ _); refine (hO _).eq ?_)
   all_goals refine ret_is (a := _) ?_ rfl rfl
   all_goals simp only [↓wBA, tEw, convA, seval]
   all_goals simp_all [wS, vaA, vaC, va0, emp]
 ·simp only [not_or] at hk
  obtain ⟨h3, h4, h18, h19⟩ := hk
  have e3 : (k == 3) = false := by simpa using h3
  have e4 : (k == 4) = false := by simpa using h4
  have e18 : (k == 18) = false := by simpa using h18
  have e19 : (k == 19) = false := by simpa using h19
  rw [evalV_one, if_pos (kids1n h3 h4 h18 h19)]
  refine acalls_of cx_ok dr_ok Tryz.func30 (by kernel_rfl) rfl (nt := 228) (rs := [.cell 4 24, .tmp 5]) rfl rfl ?_
  simp only [exA, exC, exL_one, List.map_cons, List.map_nil]
  repeat' first | ((with_reducible first | refine cs ?_ ?_ | refine ws ?_ ?_) <;> intro h <;> try simp only [h]) | simp only [↓wBA, tEw, convA, seval, List.length_cons, List.length_nil, Int.reduceBEq, n0, n1, n2, n3, e3, e4, e18, e19]
  all_goals refine ret_is (a := _) ?_ rfl rfl
  all_goals simp only [↓wBA, tEw, convA, seval]
  all_goals simp_all [wS, vaA, vaC, va0, emp]
theorem aEval3 (row : List Va) (k vk vn : Int) (vs tb nm : ByteArray) (s : Int) (x y z : Ex) (kids : List Ex) : EvOK row (.mk k vk vn vs tb nm s (x :: y :: z :: kids)) := fun σ => by
 refine ACalls.pureF (R := fun r => r = .tup [vaA (evalV row (.mk k vk vn vs tb nm s (x :: y :: z :: kids))).1, intV .i64 (evalV row (.mk k vk vn vs tb nm s (x :: y :: z :: kids))).2]) ?_ rfl σ
 have he : evalV row (.mk k vk vn vs tb nm s (x :: y :: z :: kids)) = (va0, 1) := by rw [evalV_cl]; simp only [findV]; rfl
 rw [he]
 have n0 : (((kids.length + 3 : Nat) : Int) == 0) = false := by simp; omega
 have n1 : (((kids.length + 3 : Nat) : Int) == 1) = false := by simp; omega
 have n2 : (((kids.length + 3 : Nat) : Int) == 2) = false := by simp; omega
 have n3 : (((kids.length + 3 : Nat) : Int) != 2) = true := by simp; omega
 refine acalls_of cx_ok dr_ok Tryz.func30 (by kernel_rfl) rfl (nt := 228) (rs := [.cell 4 24, .tmp 5]) rfl rfl ?_
 simp only [exA, exC, exL_three, List.map_cons, List.map_nil]
 repeat' first | ((with_reducible first | refine cs ?_ ?_ | refine ws ?_ ?_) <;> intro h <;> try simp only [h]) | simp only [↓wBA, tEw, convA, seval, List.length_cons, exL_len, Int.reduceBEq, n0, n1, n2, n3]
 all_goals refine ret_is (a := _) ?_ rfl rfl
 all_goals simp only [↓wBA, tEw, convA, seval]
 all_goals simp_all [wS, vaA, vaC, va0, emp]
end Go.Proofs.YtpcblbbddccgpaaGreatDoor
