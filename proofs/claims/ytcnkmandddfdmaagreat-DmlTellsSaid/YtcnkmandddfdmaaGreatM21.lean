/- cadastreref12.Eval tells what the program's Eval does. cadastreref12.Eval tells what the program's Eval does: kids. cadastreref12.Eval tells what the program's Eval does: two kids. cadastreref12.Eval tells what the program's Eval does: comparisons. cadastreref12.Eval tells what the program's Eval does: all. -/
import Derived.Test.YtcnkmandddfdmaaGreatM20
set_option linter.unusedSimpArgs false
set_option linter.unusedVariables false
set_option linter.defProp false
set_option maxRecDepth 100000
set_option maxHeartbeats 32000000
namespace Go.Proofs.YtcnkmandddfdmaaGreat
open Go.RowKit
def tEv := aa wX <| aa wbu <| aa T2 <| aa T3 <| aa T4 <| aa T33 <| aa T39 <| aa T56 <| aa T58 <| aa T70 T153
theorem kids0 {k : Int} (h1 : k ≠ 1) (h2 : k ≠ 24) (h3 : k ≠ 2) : kidsV k ≠ 0 := by
 unfold kidsV
 rw [if_neg (by simp [h1, h2, h3])]
 split
 ·decide
 ·split <;> decide
theorem aEval0 (row : List Va) (k vk vn : Int) (vs tb nm : ByteArray) (s : Int) : EvOK row (.mk k vk vn vs tb nm s []) := fun σ => by
 refine ACalls.pureF (R := fun r => r = .tup [vaA (evalV row (.mk k vk vn vs tb nm s [])).1, intV .i64 (evalV row (.mk k vk vn vs tb nm s [])).2]) ?_ rfl σ
 rw [evalV_none]
 have hO := aokR (vk, vn, vs)
 simp only [vaA, vaC, List.map_cons, List.map_nil] at hO
 have n00 : (((0 : Nat) : Int) == 0) = true := rfl
 have n01 : (((0 : Nat) : Int) == 1) = false := rfl
 have n02 : (((0 : Nat) : Int) == 2) = false := rfl
 have n03 : (((0 : Nat) : Int) != 2) = true := rfl
 refine acalls_of cx_ok dr_ok Tryz.func55 (by kernel_rfl) rfl (nt := 228) (rs := [.cell 4 56, .tmp 5]) rfl rfl ?_
 simp only [exA, exC, exL, List.map_cons, List.map_nil]
 by_cases k1 : k = 1
 ·subst k1
  rw [if_neg (by decide)]
  cases hv : okV (vk, vn, vs)
  ·rw [hv] at hO
   have hl : leafV row 1 (vk, vn, vs) s 0 = failV 1 0 := by simp [leafV, hv]
   rw [hl]
   simp only [failV, clV, if_true, ne_eq, Int.reduceEq, not_false_eq_true]
   repeat' first | ((with_reducible first | refine cs ?_ ?_ | refine ws ?_ ?_) <;> intro h <;> try simp only [h]) | simp only [↓wBA, tEv, convA, seval, List.length_nil, Int.reduceBEq, n00, n01, n02, n03] | ((with_reducible show ACalls _ _ _ _ _); refine (hO _).eq ?_)
   all_goals refine ret_is (a := _) ?_ rfl rfl
   all_goals simp only [↓wBA, tEv, convA, seval]
   all_goals simp_all [wS, vaA, vaC, va0, emp]
  ·rw [hv] at hO
   have hl : leafV row 1 (vk, vn, vs) s 0 = ((vk, vn, vs), 0) := by simp [leafV, hv]
   rw [hl]
   simp only [clV, ne_eq, not_true_eq_false, if_false]
   repeat' first | ((with_reducible first | refine cs ?_ ?_ | refine ws ?_ ?_) <;> intro h <;> try simp only [h]) | simp only [↓wBA, tEv, convA, seval, List.length_nil, Int.reduceBEq, n00, n01, n02, n03] | ((with_reducible show ACalls _ _ _ _ _); refine (hO _).eq ?_)
   all_goals refine ret_is (a := _) ?_ rfl rfl
   all_goals simp only [↓wBA, tEv, convA, seval]
   all_goals simp_all [wS, vaA, vaC, va0, emp]
 have e1 : (k == 1) = false := by simpa using k1
 by_cases k2 : k = 2
 ·subst k2
  rw [if_neg (by decide)]
  have hl : leafV row 2 (vk, vn, vs) s 0 = failV 32 0 := by simp [leafV]
  rw [hl]
  simp only [failV, clV, if_true, ne_eq, Int.reduceEq, not_false_eq_true]
  repeat' first | ((with_reducible first | refine cs ?_ ?_ | refine ws ?_ ?_) <;> intro h <;> try simp only [h]) | simp only [↓wBA, tEv, convA, seval, List.length_nil, Int.reduceBEq, n00, n01, n02, n03]
  all_goals refine ret_is (a := _) ?_ rfl rfl
  all_goals simp only [↓wBA, tEv, convA, seval]
  all_goals simp_all [wS, vaA, vaC, va0, emp]
 have e2 : (k == 2) = false := by simpa using k2
 by_cases k24 : k = 24
 ·subst k24
  rw [if_neg (by decide)]
  by_cases s0 : s ≥ 0
  ·have t0 : decide (s ≥ 0) = true := decide_eq_true s0
   by_cases s1 : s < (row.length : Int)
   ·have t1 : decide (s < (row.length : Int)) = true := decide_eq_true s1
    have hlt : s.toNat < row.length := by omega
    have hg := enV_get row s.toNat hlt
    have hi0 : ((0 : Int) ≤ s) = True := eq_true s0
    have hO2 := aokR row[s.toNat]
    have hgd : row.getD s.toNat va0 = row[s.toNat] := by simp [List.getD, hlt]
    generalize hw : row[s.toNat] = w at *
    obtain ⟨w1, w2, w3⟩ := w
    simp only [vaA, vaC, List.map_cons, List.map_nil] at hO2 hg
    cases hv : okV (w1, w2, w3)
    ·rw [hv] at hO2
     have hl : leafV row 24 (vk, vn, vs) s 0 = failV 1 0 := by
      unfold leafV; rw [if_neg (by decide), if_neg (by simp), hgd, if_neg (by simp [hv])]
     rw [hl]
     simp only [failV, clV, if_true, ne_eq, Int.reduceEq, not_false_eq_true]
     repeat' first | ((with_reducible first | refine cs ?_ ?_ | refine ws ?_ ?_) <;> intro h <;> try simp only [h]) | simp only [↓wBA, tEv, convA, seval, List.length_nil, Int.reduceBEq, n00, n01, n02, n03, t0, t1, hg, hi0, enV_len] | ((with_reducible show ACalls _ _ _ _ _); refine (hO2 _).eq ?_)
     all_goals refine ret_is (a := _) ?_ rfl rfl
     all_goals simp only [↓wBA, tEv, convA, seval]
     all_goals simp_all [wS, vaA, vaC, va0, emp]
    ·rw [hv] at hO2
     have hl : leafV row 24 (vk, vn, vs) s 0 = ((w1, w2, w3), 0) := by
      unfold leafV; rw [if_neg (by decide), if_neg (by simp), hgd, if_pos ⟨rfl, s0, s1, hv⟩]
     rw [hl]
     simp only [clV, ne_eq, not_true_eq_false, if_false]
     repeat' first | ((with_reducible first | refine cs ?_ ?_ | refine ws ?_ ?_) <;> intro h <;> try simp only [h]) | simp only [↓wBA, tEv, convA, seval, List.length_nil, Int.reduceBEq, n00, n01, n02, n03, t0, t1, hg, hi0, enV_len] | ((with_reducible show ACalls _ _ _ _ _); refine (hO2 _).eq ?_)
     all_goals refine ret_is (a := _) ?_ rfl rfl
     all_goals simp only [↓wBA, tEv, convA, seval]
     all_goals simp_all [wS, vaA, vaC, va0, emp]
   ·have t1 : decide (s < (row.length : Int)) = false := decide_eq_false s1
    have hl : leafV row 24 (vk, vn, vs) s 0 = failV 1 0 := by
     unfold leafV; rw [if_neg (by decide), if_neg (by simp), if_neg (by simp [s1])]
    rw [hl]
    simp only [failV, clV, if_true, ne_eq, Int.reduceEq, not_false_eq_true]
    repeat' first | ((with_reducible first | refine cs ?_ ?_ | refine ws ?_ ?_) <;> intro h <;> try simp only [h]) | simp only [↓wBA, tEv, convA, seval, List.length_nil, Int.reduceBEq, n00, n01, n02, n03, t0, t1, enV_len]
    all_goals refine ret_is (a := _) ?_ rfl rfl
    all_goals simp only [↓wBA, tEv, convA, seval]
    all_goals simp_all [wS, vaA, vaC, va0, emp]
  ·have t0 : decide (s ≥ 0) = false := decide_eq_false s0
   have hl : leafV row 24 (vk, vn, vs) s 0 = failV 1 0 := by
    unfold leafV; rw [if_neg (by decide), if_neg (by simp), if_neg (fun h => s0 h.2.1)]
   rw [hl]
   simp only [failV, clV, if_true, ne_eq, Int.reduceEq, not_false_eq_true]
   repeat' first | ((with_reducible first | refine cs ?_ ?_ | refine ws ?_ ?_) <;> intro h <;> try simp only [h]) | simp only [↓wBA, tEv, convA, seval, List.length_nil, Int.reduceBEq, n00, n01, n02, n03, t0]
   all_goals refine ret_is (a := _) ?_ rfl rfl
   all_goals simp only [↓wBA, tEv, convA, seval]
   all_goals simp_all [wS, vaA, vaC, va0, emp]
 have e24 : (k == 24) = false := by simpa using k24
 rw [if_pos (kids0 k1 k24 k2)]
 repeat' first | ((with_reducible first | refine cs ?_ ?_ | refine ws ?_ ?_) <;> intro h <;> try simp only [h]) | simp only [↓wBA, tEv, convA, seval, List.length_nil, Int.reduceBEq, n00, n01, n02, n03, e1, e2, e24]
 all_goals refine ret_is (a := _) ?_ rfl rfl
 all_goals simp only [↓wBA, tEv, convA, seval]
 all_goals simp_all [wS, vaA, vaC, va0, emp]
end Go.Proofs.YtcnkmandddfdmaaGreat
namespace Go.Proofs.YtcnkmandddfdmaaGreat
open Go.RowKit
def tEw := aa wX <| aa wbu <| aa T2 <| aa T3 <| aa T4 <| aa T33 <| aa T39 <| aa T56 <| aa T58 <| aa T70 T153
theorem kids1n {k : Int} (h1 : k ≠ 3) (h2 : k ≠ 4) (h3 : k ≠ 18) (h4 : k ≠ 19) : kidsV k ≠ 1 := by
 unfold kidsV
 split
 ·decide
 ·rw [if_neg (by omega)]
  split <;> decide
theorem kids2n {k : Int} (h : k < 5 ∨ k > 17) : kidsV k ≠ 2 := by
 unfold kidsV
 split
 ·decide
 ·split
  ·decide
  ·rw [if_neg (by omega)]; decide
theorem kids2y {k : Int} (h : 5 ≤ k ∧ k ≤ 17) : kidsV k = 2 := by
 unfold kidsV
 rw [if_neg (by omega), if_neg (by omega), if_pos h]
theorem ok_kind {v : Va} (h : okV v = true) : v.1 = 0 ∨ v.1 = 1 ∨ v.1 = 2 ∨ v.1 = 3 := by
 unfold okV at h
 repeat' split at h
 all_goals first | omega | (simp only [Bool.and_eq_true, beq_iff_eq] at h; omega)
theorem exL_three (x y z : Ex) (l : List Ex) : exL (x :: y :: z :: l) = exC x :: exC y :: exC z :: exL l := rfl
theorem aEval1 (row : List Va) (k vk vn : Int) (vs tb nm : ByteArray) (s : Int) (x : Ex) (ih : EvOK row x) (hr : i64R (evalV row x).1.2.1) : EvOK row (.mk k vk vn vs tb nm s [x]) := fun σ => by
 refine ACalls.pureF (R := fun r => r = .tup [vaA (evalV row (.mk k vk vn vs tb nm s [x])).1, intV .i64 (evalV row (.mk k vk vn vs tb nm s [x])).2]) ?_ rfl σ
 have hOne := fun hk => aoneR row k vk vn vs tb nm s x hk ih hr
 have n0 : (((1 : Nat) : Int) == 0) = false := rfl
 have n1 : (((1 : Nat) : Int) == 1) = true := rfl
 have n2 : (((1 : Nat) : Int) == 2) = false := rfl
 have n3 : (((1 : Nat) : Int) != 2) = true := rfl
 by_cases hk : k = 3 ∨ k = 4 ∨ k = 18 ∨ k = 19
 ·have hO := hOne hk
  clear hOne
  generalize evalV row (.mk k vk vn vs tb nm s [x]) = q at *
  obtain ⟨⟨w1, w2, w3⟩, e⟩ := q
  simp only [exA, exC, exL_one, vaA, vaC, List.map_cons, List.map_nil] at hO
  refine acalls_of cx_ok dr_ok Tryz.func55 (by kernel_rfl) rfl (nt := 228) (rs := [.cell 4 56, .tmp 5]) rfl rfl ?_
  simp only [exA, exC, exL_one, List.map_cons, List.map_nil]
  rcases hk with rfl | rfl | rfl | rfl
  ·skip
   repeat' first | ((with_reducible first | refine cs ?_ ?_ | refine ws ?_ ?_) <;> intro h <;> try simp only [h]) | simp only [↓wBA, tEw, convA, seval, List.length_cons, List.length_nil, Int.reduceBEq, n0, n1, n2, n3] | ((with_reducible show ACalls _ _ _ _ _); refine (hO _).eq ?_)
   all_goals refine ret_is (a := _) ?_ rfl rfl
   all_goals simp only [↓wBA, tEw, convA, seval]
   all_goals simp_all [wS, vaA, vaC, va0, emp]
  ·skip
   repeat' first | ((with_reducible first | refine cs ?_ ?_ | refine ws ?_ ?_) <;> intro h <;> try simp only [h]) | simp only [↓wBA, tEw, convA, seval, List.length_cons, List.length_nil, Int.reduceBEq, n0, n1, n2, n3] | ((with_reducible show ACalls _ _ _ _ _); refine (hO _).eq ?_)
   all_goals refine ret_is (a := _) ?_ rfl rfl
   all_goals simp only [↓wBA, tEw, convA, seval]
   all_goals simp_all [wS, vaA, vaC, va0, emp]
  ·skip
   repeat' first | ((with_reducible first | refine cs ?_ ?_ | refine ws ?_ ?_) <;> intro h <;> try simp only [h]) | simp only [↓wBA, tEw, convA, seval, List.length_cons, List.length_nil, Int.reduceBEq, n0, n1, n2, n3] | ((with_reducible show ACalls _ _ _ _ _); refine (hO _).eq ?_)
   all_goals refine ret_is (a := _) ?_ rfl rfl
   all_goals simp only [↓wBA, tEw, convA, seval]
   all_goals simp_all [wS, vaA, vaC, va0, emp]
  ·skip
   repeat' first | ((with_reducible first | refine cs ?_ ?_ | refine ws ?_ ?_) <;> intro h <;> try simp only [h]) | simp only [↓wBA, tEw, convA, seval, List.length_cons, List.length_nil, Int.reduceBEq, n0, n1, n2, n3] | ((with_reducible show ACalls _ _ _ _ _); refine (hO _).eq ?_)
   all_goals refine ret_is (a := _) ?_ rfl rfl
   all_goals simp only [↓wBA, tEw, convA, seval]
   all_goals simp_all [wS, vaA, vaC, va0, emp]
 ·simp only [not_or] at hk
  obtain ⟨h3, h4, h18, h19⟩ := hk
  have e3 : (k == 3) = false := by simpa using h3
  have e4 : (k == 4) = false := by simpa using h4
  have e18 : (k == 18) = false := by simpa using h18
  have e19 : (k == 19) = false := by simpa using h19
  rw [evalV_one, if_pos (kids1n h3 h4 h18 h19)]
  refine acalls_of cx_ok dr_ok Tryz.func55 (by kernel_rfl) rfl (nt := 228) (rs := [.cell 4 56, .tmp 5]) rfl rfl ?_
  simp only [exA, exC, exL_one, List.map_cons, List.map_nil]
  repeat' first | ((with_reducible first | refine cs ?_ ?_ | refine ws ?_ ?_) <;> intro h <;> try simp only [h]) | simp only [↓wBA, tEw, convA, seval, List.length_cons, List.length_nil, Int.reduceBEq, n0, n1, n2, n3, e3, e4, e18, e19]
  all_goals refine ret_is (a := _) ?_ rfl rfl
  all_goals simp only [↓wBA, tEw, convA, seval]
  all_goals simp_all [wS, vaA, vaC, va0, emp]
theorem aEval3 (row : List Va) (k vk vn : Int) (vs tb nm : ByteArray) (s : Int) (x y z : Ex) (kids : List Ex) : EvOK row (.mk k vk vn vs tb nm s (x :: y :: z :: kids)) := fun σ => by
 refine ACalls.pureF (R := fun r => r = .tup [vaA (evalV row (.mk k vk vn vs tb nm s (x :: y :: z :: kids))).1, intV .i64 (evalV row (.mk k vk vn vs tb nm s (x :: y :: z :: kids))).2]) ?_ rfl σ
 have he : evalV row (.mk k vk vn vs tb nm s (x :: y :: z :: kids)) = (va0, 1) := by rw [evalV_cl]; simp only [findV]; rfl
 rw [he]
 have n0 : (((kids.length + 3 : Nat) : Int) == 0) = false := by simp; omega
 have n1 : (((kids.length + 3 : Nat) : Int) == 1) = false := by simp; omega
 have n2 : (((kids.length + 3 : Nat) : Int) == 2) = false := by simp; omega
 have n3 : (((kids.length + 3 : Nat) : Int) != 2) = true := by simp; omega
 refine acalls_of cx_ok dr_ok Tryz.func55 (by kernel_rfl) rfl (nt := 228) (rs := [.cell 4 56, .tmp 5]) rfl rfl ?_
 simp only [exA, exC, exL_three, List.map_cons, List.map_nil]
 repeat' first | ((with_reducible first | refine cs ?_ ?_ | refine ws ?_ ?_) <;> intro h <;> try simp only [h]) | simp only [↓wBA, tEw, convA, seval, List.length_cons, exL_len, Int.reduceBEq, n0, n1, n2, n3]
 all_goals refine ret_is (a := _) ?_ rfl rfl
 all_goals simp only [↓wBA, tEw, convA, seval]
 all_goals simp_all [wS, vaA, vaC, va0, emp]
end Go.Proofs.YtcnkmandddfdmaaGreat
namespace Go.Proofs.YtcnkmandddfdmaaGreat
open Go.RowKit
def tEy := aa wX <| aa wbu <| aa T2 <| aa T3 <| aa T4 <| aa T33 <| aa T39 <| aa T56 <| aa T58 <| aa T70 T153
theorem aEval2n (row : List Va) (k vk vn : Int) (vs tb nm : ByteArray) (s : Int) (x y : Ex) (ihx : EvOK row x) (ihy : EvOK row y) (fx : fine (evalV row x)) (fy : fine (evalV row y)) (h10 : ¬ (10 ≤ k ∧ k ≤ 15)) : EvOK row (.mk k vk vn vs tb nm s [x, y]) := fun σ => by
 refine ACalls.pureF (R := fun r => r = .tup [vaA (evalV row (.mk k vk vn vs tb nm s [x, y])).1, intV .i64 (evalV row (.mk k vk vn vs tb nm s [x, y])).2]) ?_ rfl σ
 have n0 : (((2 : Nat) : Int) == 0) = false := rfl
 have n1 : (((2 : Nat) : Int) == 1) = false := rfl
 have n2 : (((2 : Nat) : Int) == 2) = true := rfl
 have n3 : (((2 : Nat) : Int) != 2) = false := rfl
 by_cases hk : k = 16 ∨ k = 17
 ·have hO := alogicR row k vk vn vs tb nm s x y hk ihx ihy fx fy
  generalize evalV row (.mk k vk vn vs tb nm s [x, y]) = q at *
  obtain ⟨⟨w1, w2, w3⟩, e⟩ := q
  simp only [exA, exC, exL_two, vaA, vaC, List.map_cons, List.map_nil] at hO
  refine acalls_of cx_ok dr_ok Tryz.func55 (by kernel_rfl) rfl (nt := 228) (rs := [.cell 4 56, .tmp 5]) rfl rfl ?_
  simp only [exA, exC, exL_two, List.map_cons, List.map_nil]
  rcases hk with rfl | rfl
  ·skip
   repeat' first | ((with_reducible first | refine cs ?_ ?_ | refine ws ?_ ?_) <;> intro h <;> try simp only [h]) | simp only [↓wBA, tEy, convA, seval, List.length_cons, List.length_nil, Int.reduceBEq, n0, n1, n2, n3] | ((with_reducible show ACalls _ _ _ _ _); refine (hO _).eq ?_)
   all_goals refine ret_is (a := _) ?_ rfl rfl
   all_goals simp only [↓wBA, tEy, convA, seval]
   all_goals simp_all [wS, vaA, vaC, va0, emp]
  ·skip
   repeat' first | ((with_reducible first | refine cs ?_ ?_ | refine ws ?_ ?_) <;> intro h <;> try simp only [h]) | simp only [↓wBA, tEy, convA, seval, List.length_cons, List.length_nil, Int.reduceBEq, n0, n1, n2, n3] | ((with_reducible show ACalls _ _ _ _ _); refine (hO _).eq ?_)
   all_goals refine ret_is (a := _) ?_ rfl rfl
   all_goals simp only [↓wBA, tEy, convA, seval]
   all_goals simp_all [wS, vaA, vaC, va0, emp]
 have e16 : (k == 16) = false := by simp; omega
 have e17 : (k == 17) = false := by simp; omega
 by_cases hr : k < 5 ∨ k > 15
 ·have hkn : kidsV k ≠ 2 := kids2n (by omega)
  have he : evalV row (.mk k vk vn vs tb nm s [x, y]) = (va0, 1) := by rw [evalV_cl]; simp only [findV]; rw [if_pos hkn]; rfl
  rw [he]
  refine acalls_of cx_ok dr_ok Tryz.func55 (by kernel_rfl) rfl (nt := 228) (rs := [.cell 4 56, .tmp 5]) rfl rfl ?_
  simp only [exA, exC, exL_two, List.map_cons, List.map_nil]
  by_cases h5 : k < 5
  ·have d5 : decide (k < 5) = true := decide_eq_true h5
   repeat' first | ((with_reducible first | refine cs ?_ ?_ | refine ws ?_ ?_) <;> intro h <;> try simp only [h]) | simp only [↓wBA, tEy, convA, seval, List.length_cons, List.length_nil, Int.reduceBEq, n0, n1, n2, n3, e16, e17, d5]
   all_goals refine ret_is (a := _) ?_ rfl rfl
   all_goals simp only [↓wBA, tEy, convA, seval]
   all_goals simp_all [wS, vaA, vaC, va0, emp]
  ·have d5 : decide (k < 5) = false := decide_eq_false h5
   have d15 : decide (k > 15) = true := decide_eq_true (by omega)
   repeat' first | ((with_reducible first | refine cs ?_ ?_ | refine ws ?_ ?_) <;> intro h <;> try simp only [h]) | simp only [↓wBA, tEy, convA, seval, List.length_cons, List.length_nil, Int.reduceBEq, n0, n1, n2, n3, e16, e17, d5, d15]
   all_goals refine ret_is (a := _) ?_ rfl rfl
   all_goals simp only [↓wBA, tEy, convA, seval]
   all_goals simp_all [wS, vaA, vaC, va0, emp]
 have hk5 : 5 ≤ k ∧ k ≤ 15 := by omega
 have d5 : decide (k < 5) = false := decide_eq_false (by omega)
 have d15 : decide (k > 15) = false := decide_eq_false (by omega)
 have e1 : (k == 1) = false := by simp; omega
 have e2 : (k == 2) = false := by simp; omega
 have e24 : (k == 24) = false := by simp; omega
 rw [evalV_two _ _ _ _ _ _ _ _ _ _ (by omega), if_neg (by simp [kids2y (show 5 ≤ k ∧ k ≤ 17 by omega)])]
 unfold EvOK at ihx ihy
 generalize evalV row x = q at *
 generalize evalV row y = p at *
 obtain ⟨⟨a1, a2, a3⟩, ea⟩ := q
 obtain ⟨⟨b1, b2, b3⟩, eb⟩ := p
 obtain ⟨x1, x2, x3, x4, x5, x6, x7, x8⟩ := x
 obtain ⟨y1, y2, y3, y4, y5, y6, y7, y8⟩ := y
 simp only [exA, exC, vaA, vaC, List.map_cons, List.map_nil] at ihx ihy
 by_cases hea : ea = 0
 case neg =>
  have ea' : (ea != 0) = true := by simpa using hea
  simp only [ne_eq, hea, not_false_eq_true, if_true]
  refine acalls_of cx_ok dr_ok Tryz.func55 (by kernel_rfl) rfl (nt := 228) (rs := [.cell 4 56, .tmp 5]) rfl rfl ?_
  simp only [exA, exC, exL_two, List.map_cons, List.map_nil]
  repeat' first | ((with_reducible first | refine cs ?_ ?_ | refine ws ?_ ?_) <;> intro h <;> try simp only [h]) | simp only [↓wBA, tEy, convA, seval, List.length_cons, List.length_nil, Int.reduceBEq, n0, n1, n2, n3, e1, e2, e24, e16, e17, d5, d15, bne_self_eq_false, ea'] | ((with_reducible show ACalls _ _ _ _ _); refine (ihx _).eq ?_)
  all_goals refine ret_is (a := _) ?_ rfl rfl
  all_goals simp only [↓wBA, tEy, convA, seval]
  all_goals simp_all [wS, vaA, vaC, va0, emp]
 subst hea
 simp only [ne_eq, not_true_eq_false, if_false]
 by_cases heb : eb = 0
 case neg =>
  have eb' : (eb != 0) = true := by simpa using heb
  simp only [heb, not_false_eq_true, if_true]
  refine acalls_of cx_ok dr_ok Tryz.func55 (by kernel_rfl) rfl (nt := 228) (rs := [.cell 4 56, .tmp 5]) rfl rfl ?_
  simp only [exA, exC, exL_two, List.map_cons, List.map_nil]
  repeat' first | ((with_reducible first | refine cs ?_ ?_ | refine ws ?_ ?_) <;> intro h <;> try simp only [h]) | simp only [↓wBA, tEy, convA, seval, List.length_cons, List.length_nil, Int.reduceBEq, n0, n1, n2, n3, e1, e2, e24, e16, e17, d5, d15, bne_self_eq_false, eb'] | ((with_reducible show ACalls _ _ _ _ _); first | refine (ihx _).eq ?_ | refine (ihy _).eq ?_)
  all_goals refine ret_is (a := _) ?_ rfl rfl
  all_goals simp only [↓wBA, tEy, convA, seval]
  all_goals simp_all [wS, vaA, vaC, va0, emp]
 subst heb
 simp only [not_true_eq_false, if_false]
 obtain ⟨oka, ra⟩ := fx rfl
 obtain ⟨okb, rb⟩ := fy rfl
 have ka := ok_kind oka
 have kb := ok_kind okb
 simp only at ka kb ra rb
 clear fx fy
 have k9 : k ≤ 9 := by omega
 have d9 : decide (k ≤ 9) = true := decide_eq_true k9
 have hN := anumber k a2 b2 (by omega) ra rb
 have hfin : resV2 k (a1, a2, a3) (b1, b2, b3) = if a1 > 1 ∨ b1 > 1 then (va0, 33) else if a1 = 0 ∨ b1 = 0 then (va0, 0) else clV (numS k a2 b2) := by
  unfold resV2 twoV
  rw [if_neg (by simp), if_pos k9, numV_eq k a2 b2 ra rb]
  split
  ·rfl
  ·split <;> rfl
 have hcl : clV (numS k a2 b2) = ((numS k a2 b2).1, (numS k a2 b2).2) ∨ (numS k a2 b2).2 ≠ 0 := by
  unfold clV
  by_cases h : (numS k a2 b2).2 = 0
  ·left; rw [if_neg (by simp [h]), h]
  ·right; exact h
 have hcl2 : clV (numS k a2 b2) = numS k a2 b2 := by
  unfold clV numS rngV failV
  repeat' split
  all_goals simp_all
 rw [hfin, hcl2]
 clear hfin hcl hcl2
 generalize numS k a2 b2 = ns at *
 obtain ⟨⟨m1, m2, m3⟩, em⟩ := ns
 simp only [vaA, vaC, List.map_cons, List.map_nil] at hN
 refine acalls_of cx_ok dr_ok Tryz.func55 (by kernel_rfl) rfl (nt := 228) (rs := [.cell 4 56, .tmp 5]) rfl rfl ?_
 simp only [exA, exC, exL_two, List.map_cons, List.map_nil]
 by_cases A2 : a1 > 1
 ·have t0 : (a1 != 0) = true := by simp; omega
  have t1 : (a1 != 1) = true := by simp; omega
  have t2 : (a1 == 0) = false := by simp; omega
  rw [if_pos (.inl A2)]
  repeat' first | ((with_reducible first | refine cs ?_ ?_ | refine ws ?_ ?_) <;> intro h <;> try simp only [h]) | simp only [↓wBA, tEy, convA, seval, List.length_cons, List.length_nil, Int.reduceBEq, n0, n1, n2, n3, e1, e2, e24, e16, e17, d5, d15, bne_self_eq_false, d9, t0, t1, t2] | ((with_reducible show ACalls _ _ _ _ _); first | refine (ihx _).eq ?_ | refine (ihy _).eq ?_)
  all_goals refine ret_is (a := _) ?_ rfl rfl
  all_goals simp only [↓wBA, tEy, convA, seval]
  all_goals simp_all [wS, vaA, vaC, va0, emp]
 have A01 : a1 = 0 ∨ a1 = 1 := by omega
 by_cases B2 : b1 > 1
 ·have s0 : (b1 != 0) = true := by simp; omega
  have s1 : (b1 != 1) = true := by simp; omega
  have s2 : (b1 == 0) = false := by simp; omega
  rw [if_pos (.inr B2)]
  rcases A01 with rfl | rfl
  ·skip
   repeat' first | ((with_reducible first | refine cs ?_ ?_ | refine ws ?_ ?_) <;> intro h <;> try simp only [h]) | simp only [↓wBA, tEy, convA, seval, List.length_cons, List.length_nil, Int.reduceBEq, n0, n1, n2, n3, e1, e2, e24, e16, e17, d5, d15, bne_self_eq_false, d9, s0, s1, s2] | ((with_reducible show ACalls _ _ _ _ _); first | refine (ihx _).eq ?_ | refine (ihy _).eq ?_)
   all_goals refine ret_is (a := _) ?_ rfl rfl
   all_goals simp only [↓wBA, tEy, convA, seval]
   all_goals simp_all [wS, vaA, vaC, va0, emp]
  ·skip
   repeat' first | ((with_reducible first | refine cs ?_ ?_ | refine ws ?_ ?_) <;> intro h <;> try simp only [h]) | simp only [↓wBA, tEy, convA, seval, List.length_cons, List.length_nil, Int.reduceBEq, n0, n1, n2, n3, e1, e2, e24, e16, e17, d5, d15, bne_self_eq_false, d9, s0, s1, s2] | ((with_reducible show ACalls _ _ _ _ _); first | refine (ihx _).eq ?_ | refine (ihy _).eq ?_)
   all_goals refine ret_is (a := _) ?_ rfl rfl
   all_goals simp only [↓wBA, tEy, convA, seval]
   all_goals simp_all [wS, vaA, vaC, va0, emp]
 have B01 : b1 = 0 ∨ b1 = 1 := by omega
 rw [if_neg (by omega)]
 rcases A01 with rfl | rfl <;> rcases B01 with rfl | rfl
 ·skip
  simp only [Int.reduceEq, or_self, or_true, true_or, or_false, if_true, if_false]
  repeat' first | ((with_reducible first | refine cs ?_ ?_ | refine ws ?_ ?_) <;> intro h <;> try simp only [h]) | simp only [↓wBA, tEy, convA, seval, List.length_cons, List.length_nil, Int.reduceBEq, n0, n1, n2, n3, e1, e2, e24, e16, e17, d5, d15, bne_self_eq_false, d9] | ((with_reducible show ACalls _ _ _ _ _); first | refine (ihx _).eq ?_ | refine (ihy _).eq ?_ | refine (hN _).eq ?_)
  all_goals refine ret_is (a := _) ?_ rfl rfl
  all_goals simp only [↓wBA, tEy, convA, seval]
  all_goals simp_all [wS, vaA, vaC, va0, emp]
 ·skip
  simp only [Int.reduceEq, or_self, or_true, true_or, or_false, if_true, if_false]
  repeat' first | ((with_reducible first | refine cs ?_ ?_ | refine ws ?_ ?_) <;> intro h <;> try simp only [h]) | simp only [↓wBA, tEy, convA, seval, List.length_cons, List.length_nil, Int.reduceBEq, n0, n1, n2, n3, e1, e2, e24, e16, e17, d5, d15, bne_self_eq_false, d9] | ((with_reducible show ACalls _ _ _ _ _); first | refine (ihx _).eq ?_ | refine (ihy _).eq ?_ | refine (hN _).eq ?_)
  all_goals refine ret_is (a := _) ?_ rfl rfl
  all_goals simp only [↓wBA, tEy, convA, seval]
  all_goals simp_all [wS, vaA, vaC, va0, emp]
 ·skip
  simp only [Int.reduceEq, or_self, or_true, true_or, or_false, if_true, if_false]
  repeat' first | ((with_reducible first | refine cs ?_ ?_ | refine ws ?_ ?_) <;> intro h <;> try simp only [h]) | simp only [↓wBA, tEy, convA, seval, List.length_cons, List.length_nil, Int.reduceBEq, n0, n1, n2, n3, e1, e2, e24, e16, e17, d5, d15, bne_self_eq_false, d9] | ((with_reducible show ACalls _ _ _ _ _); first | refine (ihx _).eq ?_ | refine (ihy _).eq ?_ | refine (hN _).eq ?_)
  all_goals refine ret_is (a := _) ?_ rfl rfl
  all_goals simp only [↓wBA, tEy, convA, seval]
  all_goals simp_all [wS, vaA, vaC, va0, emp]
 ·skip
  simp only [Int.reduceEq, or_self, or_true, true_or, or_false, if_true, if_false]
  repeat' first | ((with_reducible first | refine cs ?_ ?_ | refine ws ?_ ?_) <;> intro h <;> try simp only [h]) | simp only [↓wBA, tEy, convA, seval, List.length_cons, List.length_nil, Int.reduceBEq, n0, n1, n2, n3, e1, e2, e24, e16, e17, d5, d15, bne_self_eq_false, d9] | ((with_reducible show ACalls _ _ _ _ _); first | refine (ihx _).eq ?_ | refine (ihy _).eq ?_ | refine (hN _).eq ?_)
  all_goals refine ret_is (a := _) ?_ rfl rfl
  all_goals simp only [↓wBA, tEy, convA, seval]
  all_goals simp_all [wS, vaA, vaC, va0, emp]
end Go.Proofs.YtcnkmandddfdmaaGreat
namespace Go.Proofs.YtcnkmandddfdmaaGreat
open Go.RowKit
open Nat renaming reduceBEq → ZA, reducePow → ZB, reduceAdd → ZC, reduceSub → ZD, reduceMul → ZE, reduceEqDiff → ZF, reduceLeDiff → ZG, reduceLT → ZH
open Int renaming reduceLT → ZI, reduceLE → ZJ, reduceToNat → ZK
def tEr := aa wX <| aa wbu <| aa T2 <| aa T3 <| aa T4 <| aa T33 <| aa T39 <| aa T56 <| aa T58 <| aa T70 T153
theorem aEval2r (row : List Va) (k vk vn : Int) (vs tb nm : ByteArray) (s : Int) (x y : Ex) (ihx : EvOK row x) (ihy : EvOK row y) (fx : fine (evalV row x)) (fy : fine (evalV row y)) (h10 : 10 ≤ k ∧ k ≤ 15) : EvOK row (.mk k vk vn vs tb nm s [x, y]) := fun σ => by
 refine ACalls.pureF (R := fun r => r = .tup [vaA (evalV row (.mk k vk vn vs tb nm s [x, y])).1, intV .i64 (evalV row (.mk k vk vn vs tb nm s [x, y])).2]) ?_ rfl σ
 have n0 : (((2 : Nat) : Int) == 0) = false := rfl
 have n1 : (((2 : Nat) : Int) == 1) = false := rfl
 have n2 : (((2 : Nat) : Int) == 2) = true := rfl
 have n3 : (((2 : Nat) : Int) != 2) = false := rfl
 have e16 : (k == 16) = false := by simp; omega
 have e17 : (k == 17) = false := by simp; omega
 have hk5 : 5 ≤ k ∧ k ≤ 15 := by omega
 have d5 : decide (k < 5) = false := decide_eq_false (by omega)
 have d15 : decide (k > 15) = false := decide_eq_false (by omega)
 have e1 : (k == 1) = false := by simp; omega
 have e2 : (k == 2) = false := by simp; omega
 have e24 : (k == 24) = false := by simp; omega
 rw [evalV_two _ _ _ _ _ _ _ _ _ _ (by omega), if_neg (by simp [kids2y (show 5 ≤ k ∧ k ≤ 17 by omega)])]
 unfold EvOK at ihx ihy
 generalize evalV row x = q at *
 generalize evalV row y = p at *
 obtain ⟨⟨a1, a2, a3⟩, ea⟩ := q
 obtain ⟨⟨b1, b2, b3⟩, eb⟩ := p
 obtain ⟨x1, x2, x3, x4, x5, x6, x7, x8⟩ := x
 obtain ⟨y1, y2, y3, y4, y5, y6, y7, y8⟩ := y
 simp only [exA, exC, vaA, vaC, List.map_cons, List.map_nil] at ihx ihy
 by_cases hea : ea = 0
 case neg =>
  have ea' : (ea != 0) = true := by simpa using hea
  simp only [ne_eq, hea, not_false_eq_true, if_true]
  refine acalls_of cx_ok dr_ok Tryz.func55 (by kernel_rfl) rfl (nt := 228) (rs := [.cell 4 56, .tmp 5]) rfl rfl ?_
  simp only [exA, exC, exL_two, List.map_cons, List.map_nil]
  repeat' first | ((with_reducible first | refine cs ?_ ?_ | refine ws ?_ ?_) <;> intro h <;> try simp only [h]) | simp only [↓wBA, tEr, convA, ZA, reduceIte, reduceCtorEq, ZB, ZC, ZD, ZE, ZF, ZG, ZH, ZI, ZJ, ZK, List.length_cons, List.length_nil, Int.reduceBEq, n0, n1, n2, n3, e1, e2, e24, e16, e17, d5, d15, bne_self_eq_false, ea'] | ((with_reducible show ACalls _ _ _ _ _); refine (ihx _).eq ?_)
  all_goals refine ret_is (a := _) ?_ rfl rfl
  all_goals simp only [↓wBA, tEr, convA, ZA, reduceIte, reduceCtorEq, ZB, ZC, ZD, ZE, ZF, ZG, ZH, ZI, ZJ, ZK]
  all_goals simp_all [wS, vaA, vaC, va0, emp]
 subst hea
 simp only [ne_eq, not_true_eq_false, if_false]
 by_cases heb : eb = 0
 case neg =>
  have eb' : (eb != 0) = true := by simpa using heb
  simp only [heb, not_false_eq_true, if_true]
  refine acalls_of cx_ok dr_ok Tryz.func55 (by kernel_rfl) rfl (nt := 228) (rs := [.cell 4 56, .tmp 5]) rfl rfl ?_
  simp only [exA, exC, exL_two, List.map_cons, List.map_nil]
  repeat' first | ((with_reducible first | refine cs ?_ ?_ | refine ws ?_ ?_) <;> intro h <;> try simp only [h]) | simp only [↓wBA, tEr, convA, ZA, reduceIte, reduceCtorEq, ZB, ZC, ZD, ZE, ZF, ZG, ZH, ZI, ZJ, ZK, List.length_cons, List.length_nil, Int.reduceBEq, n0, n1, n2, n3, e1, e2, e24, e16, e17, d5, d15, bne_self_eq_false, eb'] | ((with_reducible show ACalls _ _ _ _ _); first | refine (ihx _).eq ?_ | refine (ihy _).eq ?_)
  all_goals refine ret_is (a := _) ?_ rfl rfl
  all_goals simp only [↓wBA, tEr, convA, ZA, reduceIte, reduceCtorEq, ZB, ZC, ZD, ZE, ZF, ZG, ZH, ZI, ZJ, ZK]
  all_goals simp_all [wS, vaA, vaC, va0, emp]
 subst heb
 simp only [not_true_eq_false, if_false]
 obtain ⟨oka, ra⟩ := fx rfl
 obtain ⟨okb, rb⟩ := fy rfl
 have ka := ok_kind oka
 have kb := ok_kind okb
 simp only at ka kb ra rb
 clear fx fy
 have k9 : ¬ k ≤ 9 := by omega
 have d9 : decide (k ≤ 9) = false := decide_eq_false k9
 have hC := acmpR (a1, a2, a3) (b1, b2, b3)
 have hfin : resV2 k (a1, a2, a3) (b1, b2, b3) = if a1 = 0 ∨ b1 = 0 then (va0, 0) else if a1 ≠ b1 then (va0, 33) else (trV (relV k (cmpV (a1, a2, a3) (b1, b2, b3))), 0) := by
  unfold resV2 twoV
  rw [if_neg (by simp), if_neg k9]
  split
  ·rfl
  ·split <;> rfl
 rw [hfin]
 clear hfin
 generalize cmpV (a1, a2, a3) (b1, b2, b3) = c at *
 simp only [vaA, vaC, List.map_cons, List.map_nil] at hC
 refine acalls_of cx_ok dr_ok Tryz.func55 (by kernel_rfl) rfl (nt := 228) (rs := [.cell 4 56, .tmp 5]) rfl rfl ?_
 simp only [exA, exC, exL_two, List.map_cons, List.map_nil]
 by_cases a0 : a1 = 0
 ·subst a0
  rw [if_pos (.inl rfl)]
  repeat' first | ((with_reducible first | refine cs ?_ ?_ | refine ws ?_ ?_) <;> intro h <;> try simp only [h]) | simp only [↓wBA, tEr, convA, ZA, reduceIte, reduceCtorEq, ZB, ZC, ZD, ZE, ZF, ZG, ZH, ZI, ZJ, ZK, List.length_cons, List.length_nil, Int.reduceBEq, n0, n1, n2, n3, e1, e2, e24, e16, e17, d5, d15, bne_self_eq_false, d9] | ((with_reducible show ACalls _ _ _ _ _); first | refine (ihx _).eq ?_ | refine (ihy _).eq ?_)
  all_goals refine ret_is (a := _) ?_ rfl rfl
  all_goals simp only [↓wBA, tEr, convA, ZA, reduceIte, reduceCtorEq, ZB, ZC, ZD, ZE, ZF, ZG, ZH, ZI, ZJ, ZK]
  all_goals simp_all [wS, vaA, vaC, va0, emp]
 have ta : (a1 == 0) = false := by simpa using a0
 by_cases b0 : b1 = 0
 ·subst b0
  rw [if_pos (.inr rfl)]
  repeat' first | ((with_reducible first | refine cs ?_ ?_ | refine ws ?_ ?_) <;> intro h <;> try simp only [h]) | simp only [↓wBA, tEr, convA, ZA, reduceIte, reduceCtorEq, ZB, ZC, ZD, ZE, ZF, ZG, ZH, ZI, ZJ, ZK, List.length_cons, List.length_nil, Int.reduceBEq, n0, n1, n2, n3, e1, e2, e24, e16, e17, d5, d15, bne_self_eq_false, d9, ta] | ((with_reducible show ACalls _ _ _ _ _); first | refine (ihx _).eq ?_ | refine (ihy _).eq ?_)
  all_goals refine ret_is (a := _) ?_ rfl rfl
  all_goals simp only [↓wBA, tEr, convA, ZA, reduceIte, reduceCtorEq, ZB, ZC, ZD, ZE, ZF, ZG, ZH, ZI, ZJ, ZK]
  all_goals simp_all [wS, vaA, vaC, va0, emp]
 have tb0 : (b1 == 0) = false := by simpa using b0
 rw [if_neg (by omega)]
 by_cases hab : a1 = b1
 case neg =>
  have tn : (a1 != b1) = true := by simpa using hab
  rw [if_pos hab]
  repeat' first | ((with_reducible first | refine cs ?_ ?_ | refine ws ?_ ?_) <;> intro h <;> try simp only [h]) | simp only [↓wBA, tEr, convA, ZA, reduceIte, reduceCtorEq, ZB, ZC, ZD, ZE, ZF, ZG, ZH, ZI, ZJ, ZK, List.length_cons, List.length_nil, Int.reduceBEq, n0, n1, n2, n3, e1, e2, e24, e16, e17, d5, d15, bne_self_eq_false, d9, ta, tb0, tn] | ((with_reducible show ACalls _ _ _ _ _); first | refine (ihx _).eq ?_ | refine (ihy _).eq ?_)
  all_goals refine ret_is (a := _) ?_ rfl rfl
  all_goals simp only [↓wBA, tEr, convA, ZA, reduceIte, reduceCtorEq, ZB, ZC, ZD, ZE, ZF, ZG, ZH, ZI, ZJ, ZK]
  all_goals simp_all [wS, vaA, vaC, va0, emp]
 subst hab
 rw [if_neg (by simp)]
 have hk6 : k = 10 ∨ k = 11 ∨ k = 12 ∨ k = 13 ∨ k = 14 ∨ k = 15 := by omega
 rcases hk6 with rfl | rfl | rfl | rfl | rfl | rfl
 ·have hT := atruthR ((c == 0))
  have hrel : relV 10 c = (c == 0) := rfl
  rw [hrel]
  generalize trV ((c == 0)) = w at *
  obtain ⟨w1, w2, w3⟩ := w
  simp only [vaA, vaC, List.map_cons, List.map_nil] at hT
  have wk : IntKind.i64.wrap (10 - 10) = 0 := by decide
  have b6 : ((0 : Int) < ((6 : Nat) : Int)) = True := eq_true (by decide)
  repeat' first | ((with_reducible first | refine cs ?_ ?_ | refine ws ?_ ?_) <;> intro h <;> try simp only [h]) | simp only [↓wBA, tEr, convA, ZA, reduceIte, reduceCtorEq, ZB, ZC, ZD, ZE, ZF, ZG, ZH, ZI, ZJ, ZK, List.length_cons, List.length_nil, Int.reduceBEq, n0, n1, n2, n3, e1, e2, e24, e16, e17, d5, d15, bne_self_eq_false, d9, ta, tb0, wk, b6] | ((with_reducible show ACalls _ _ _ _ _); first | refine (ihx _).eq ?_ | refine (ihy _).eq ?_ | refine (hC _).eq ?_ | refine (hT _).eq ?_)
  all_goals refine ret_is (a := _) ?_ rfl rfl
  all_goals simp only [↓wBA, tEr, convA, ZA, reduceIte, reduceCtorEq, ZB, ZC, ZD, ZE, ZF, ZG, ZH, ZI, ZJ, ZK]
  all_goals simp_all [wS, vaA, vaC, va0, emp]
 ·have hT := atruthR ((c != 0))
  have hrel : relV 11 c = (c != 0) := by simp [relV, bne]; rfl
  rw [hrel]
  generalize trV ((c != 0)) = w at *
  obtain ⟨w1, w2, w3⟩ := w
  simp only [vaA, vaC, List.map_cons, List.map_nil] at hT
  have wk : IntKind.i64.wrap (11 - 10) = 1 := by decide
  have b6 : ((1 : Int) < ((6 : Nat) : Int)) = True := eq_true (by decide)
  repeat' first | ((with_reducible first | refine cs ?_ ?_ | refine ws ?_ ?_) <;> intro h <;> try simp only [h]) | simp only [↓wBA, tEr, convA, ZA, reduceIte, reduceCtorEq, ZB, ZC, ZD, ZE, ZF, ZG, ZH, ZI, ZJ, ZK, List.length_cons, List.length_nil, Int.reduceBEq, n0, n1, n2, n3, e1, e2, e24, e16, e17, d5, d15, bne_self_eq_false, d9, ta, tb0, wk, b6] | ((with_reducible show ACalls _ _ _ _ _); first | refine (ihx _).eq ?_ | refine (ihy _).eq ?_ | refine (hC _).eq ?_ | refine (hT _).eq ?_)
  all_goals refine ret_is (a := _) ?_ rfl rfl
  all_goals simp only [↓wBA, tEr, convA, ZA, reduceIte, reduceCtorEq, ZB, ZC, ZD, ZE, ZF, ZG, ZH, ZI, ZJ, ZK]
  all_goals simp_all [wS, vaA, vaC, va0, emp]
 ·have hT := atruthR (decide (c < 0))
  have hrel : relV 12 c = decide (c < 0) := by simp [relV]
  rw [hrel]
  generalize trV (decide (c < 0)) = w at *
  obtain ⟨w1, w2, w3⟩ := w
  simp only [vaA, vaC, List.map_cons, List.map_nil] at hT
  have wk : IntKind.i64.wrap (12 - 10) = 2 := by decide
  have b6 : ((2 : Int) < ((6 : Nat) : Int)) = True := eq_true (by decide)
  repeat' first | ((with_reducible first | refine cs ?_ ?_ | refine ws ?_ ?_) <;> intro h <;> try simp only [h]) | simp only [↓wBA, tEr, convA, ZA, reduceIte, reduceCtorEq, ZB, ZC, ZD, ZE, ZF, ZG, ZH, ZI, ZJ, ZK, List.length_cons, List.length_nil, Int.reduceBEq, n0, n1, n2, n3, e1, e2, e24, e16, e17, d5, d15, bne_self_eq_false, d9, ta, tb0, wk, b6] | ((with_reducible show ACalls _ _ _ _ _); first | refine (ihx _).eq ?_ | refine (ihy _).eq ?_ | refine (hC _).eq ?_ | refine (hT _).eq ?_)
  all_goals refine ret_is (a := _) ?_ rfl rfl
  all_goals simp only [↓wBA, tEr, convA, ZA, reduceIte, reduceCtorEq, ZB, ZC, ZD, ZE, ZF, ZG, ZH, ZI, ZJ, ZK]
  all_goals simp_all [wS, vaA, vaC, va0, emp]
 ·have hT := atruthR (decide (c ≤ 0))
  have hrel : relV 13 c = decide (c ≤ 0) := by simp [relV]
  rw [hrel]
  generalize trV (decide (c ≤ 0)) = w at *
  obtain ⟨w1, w2, w3⟩ := w
  simp only [vaA, vaC, List.map_cons, List.map_nil] at hT
  have wk : IntKind.i64.wrap (13 - 10) = 3 := by decide
  have b6 : ((3 : Int) < ((6 : Nat) : Int)) = True := eq_true (by decide)
  repeat' first | ((with_reducible first | refine cs ?_ ?_ | refine ws ?_ ?_) <;> intro h <;> try simp only [h]) | simp only [↓wBA, tEr, convA, ZA, reduceIte, reduceCtorEq, ZB, ZC, ZD, ZE, ZF, ZG, ZH, ZI, ZJ, ZK, List.length_cons, List.length_nil, Int.reduceBEq, n0, n1, n2, n3, e1, e2, e24, e16, e17, d5, d15, bne_self_eq_false, d9, ta, tb0, wk, b6] | ((with_reducible show ACalls _ _ _ _ _); first | refine (ihx _).eq ?_ | refine (ihy _).eq ?_ | refine (hC _).eq ?_ | refine (hT _).eq ?_)
  all_goals refine ret_is (a := _) ?_ rfl rfl
  all_goals simp only [↓wBA, tEr, convA, ZA, reduceIte, reduceCtorEq, ZB, ZC, ZD, ZE, ZF, ZG, ZH, ZI, ZJ, ZK]
  all_goals simp_all [wS, vaA, vaC, va0, emp]
 ·have hT := atruthR (decide (c > 0))
  have hrel : relV 14 c = decide (c > 0) := by simp [relV]
  rw [hrel]
  generalize trV (decide (c > 0)) = w at *
  obtain ⟨w1, w2, w3⟩ := w
  simp only [vaA, vaC, List.map_cons, List.map_nil] at hT
  have wk : IntKind.i64.wrap (14 - 10) = 4 := by decide
  have b6 : ((4 : Int) < ((6 : Nat) : Int)) = True := eq_true (by decide)
  repeat' first | ((with_reducible first | refine cs ?_ ?_ | refine ws ?_ ?_) <;> intro h <;> try simp only [h]) | simp only [↓wBA, tEr, convA, ZA, reduceIte, reduceCtorEq, ZB, ZC, ZD, ZE, ZF, ZG, ZH, ZI, ZJ, ZK, List.length_cons, List.length_nil, Int.reduceBEq, n0, n1, n2, n3, e1, e2, e24, e16, e17, d5, d15, bne_self_eq_false, d9, ta, tb0, wk, b6] | ((with_reducible show ACalls _ _ _ _ _); first | refine (ihx _).eq ?_ | refine (ihy _).eq ?_ | refine (hC _).eq ?_ | refine (hT _).eq ?_)
  all_goals refine ret_is (a := _) ?_ rfl rfl
  all_goals simp only [↓wBA, tEr, convA, ZA, reduceIte, reduceCtorEq, ZB, ZC, ZD, ZE, ZF, ZG, ZH, ZI, ZJ, ZK]
  all_goals simp_all [wS, vaA, vaC, va0, emp]
 ·have hT := atruthR (decide (c ≥ 0))
  have hrel : relV 15 c = decide (c ≥ 0) := by simp [relV]
  rw [hrel]
  generalize trV (decide (c ≥ 0)) = w at *
  obtain ⟨w1, w2, w3⟩ := w
  simp only [vaA, vaC, List.map_cons, List.map_nil] at hT
  have wk : IntKind.i64.wrap (15 - 10) = 5 := by decide
  have b6 : ((5 : Int) < ((6 : Nat) : Int)) = True := eq_true (by decide)
  repeat' first | ((with_reducible first | refine cs ?_ ?_ | refine ws ?_ ?_) <;> intro h <;> try simp only [h]) | simp only [↓wBA, tEr, convA, ZA, reduceIte, reduceCtorEq, ZB, ZC, ZD, ZE, ZF, ZG, ZH, ZI, ZJ, ZK, List.length_cons, List.length_nil, Int.reduceBEq, n0, n1, n2, n3, e1, e2, e24, e16, e17, d5, d15, bne_self_eq_false, d9, ta, tb0, wk, b6] | ((with_reducible show ACalls _ _ _ _ _); first | refine (ihx _).eq ?_ | refine (ihy _).eq ?_ | refine (hC _).eq ?_ | refine (hT _).eq ?_)
  all_goals refine ret_is (a := _) ?_ rfl rfl
  all_goals simp only [↓wBA, tEr, convA, ZA, reduceIte, reduceCtorEq, ZB, ZC, ZD, ZE, ZF, ZG, ZH, ZI, ZJ, ZK]
  all_goals simp_all [wS, vaA, vaC, va0, emp]
end Go.Proofs.YtcnkmandddfdmaaGreat
namespace Go.Proofs.YtcnkmandddfdmaaGreat
open Go.RowKit
theorem aEvalR (row : List Va) (hrow : ∀ v ∈ row, i64R v.2.1) : ∀ x : Ex, rgE x → EvOK row x
 | .mk k vk vn vs tb nm s [], _ => aEval0 row k vk vn vs tb nm s
 | .mk k vk vn vs tb nm s [x], h => by
   simp only [rgE, rgL] at h
   have ih := aEvalR row hrow x h.2.1
   refine aEval1 row k vk vn vs tb nm s x ih ?_
   by_cases h0 : (evalV row x).2 = 0
   ·exact (evalV_fine row hrow x h.2.1 h0).2
   ·rw [(evalV_bad row x h0).2]; show i64R 0; decide
 | .mk k vk vn vs tb nm s [x, y], h => by
   simp only [rgE, rgL] at h
   have ix := aEvalR row hrow x h.2.1
   have iy := aEvalR row hrow y h.2.2.1
   have fx := evalV_fine row hrow x h.2.1
   have fy := evalV_fine row hrow y h.2.2.1
   by_cases h10 : 10 ≤ k ∧ k ≤ 15
   ·exact aEval2r row k vk vn vs tb nm s x y ix iy fx fy h10
   ·exact aEval2n row k vk vn vs tb nm s x y ix iy fx fy h10
 | .mk k vk vn vs tb nm s (x :: y :: z :: l), _ => aEval3 row k vk vn vs tb nm s x y z l
end Go.Proofs.YtcnkmandddfdmaaGreat
