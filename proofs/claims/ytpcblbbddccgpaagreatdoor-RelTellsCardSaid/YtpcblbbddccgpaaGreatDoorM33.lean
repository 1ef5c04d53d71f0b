/- cadastreref12.Eval tells what the program's Eval does: two kids. -/
import Derived.Test.YtpcblbbddccgpaaGreatDoorM32
set_option linter.unusedSimpArgs false
set_option linter.unusedVariables false
set_option linter.defProp false
set_option maxRecDepth 100000
set_option maxHeartbeats 32000000
namespace Go.Proofs.YtpcblbbddccgpaaGreatDoor
open Go.RowKit
def tEy := aa wX <| aa wbu <| aa T2 <| aa T3 <| aa T4 <| aa T24 <| aa T25 <| aa T27 <| aa T30 <| aa T39 T70
theorem aEval2n (row : List Va) (k vk vn : Int) (vs tb nm : ByteArray) (s : Int) (x y : Ex) (ihx : EvOK row x) (ihy : EvOK row y) (fx : fine (evalV row x)) (fy : fine (evalV row y)) (h10 : ¬ (10 ≤ k ∧ k ≤ 15)) : EvOK row (.mk k vk vn vs tb nm s [x, y]) := fun σ => by
 refine ACalls.pureF (R := fun r => r = .tup [vaA (evalV row (.mk k vk vn vs tb nm s [x, y])).1, intV .i64 (evalV row (.mk k vk vn vs tb nm s [x, y])).2]) ?_ rfl σ
 have n0 : (((2 : Nat) : Int) == 0) = false := rfl
 have n1 : (((2 : Nat) : Int) == 1) = false := rfl
 have n2 : (((2 : Nat) : Int) == 2) = true := rfl
 have n3 : (((2 : Nat) : Int) != 2) = false := rfl
 by_cases hk : k = 16 ∨ k = 17
 ·have hO := alogicR row k vk vn vs tb nm s x y hk ihx ihy fx fy
  generalize evalV row (.mk k vk vn vs tb nm s [x, y]) = q at *
  obtain ⟨⟨w1, w2, w3⟩, e⟩ := q
  simp only [exA, exC, exL_two, vaA, vaC, List.map_cons, List.map_nil] at hO
  refine acalls_of cx_ok dr_ok Tryz.func30 (by kernel_rfl) rfl (nt := 228) (rs := [.cell 4 24, .tmp 5]) rfl rfl ?_
  simp only [exA, exC, exL_two, List.map_cons, List.map_nil]
  rcases hk with rfl | rfl
  ·skip
   repeat' first | ((with_reducible first | refine cs ?_ ?_ | refine ws ?_ ?_) <;> intro h <;> try simp only [h]) | simp only [↓wBA, tEy, convA, seval, List.length_cons, List.length_nil, Int.reduceBEq, n0, n1, n2, n3] | ((with_reducible show ACalls _ _ _ _ _); refine (hO _).eq ?_)
   all_goals refine ret_is (a := _) ?_ rfl rfl
   all_goals simp only [↓wBA, tEy, convA, seval]
   all_goals simp_all [wS, vaA, vaC, va0, emp]
  ·skip
   repeat' first | ((with_reducible first | refine cs ?_ ?_ | refine ws ?_ ?_) <;> intro h <;> try simp only [h]) | simp only [↓wBA, tEy, convA, seval, List.length_cons, List.length_nil, Int.reduceBEq, n0, n1, n2, n3] | ((with_reducible show ACalls _ _ _ _ _); refine (hO _).eq ?_)
   all_goals refine ret_is (a := _) ?_ rfl rfl
   all_goals simp only [↓wBA, tEy, convA, seval]
   all_goals simp_all [wS, vaA, vaC, va0, emp]
 have e16 : (k == 16) = false := by simp; omega
 have e17 : (k == 17) = false := by simp; omega
 by_cases hr : k < 5 ∨ k > 15
 ·have hkn : kidsV k ≠ 2 := kids2n (by omega)
  have he : evalV row (.mk k vk vn vs tb nm s [x, y]) = (va0, 1) := by rw [evalV_cl]; simp only [findV]; rw [if_pos hkn]; rfl
  rw [he]
  refine acalls_of cx_ok dr_ok Tryz.func30 (by kernel_rfl) rfl (nt := 228) (rs := [.cell 4 24, .tmp 5]) rfl rfl ?_
  simp only [exA, exC, exL_two, List.map_cons, List.map_nil]
  by_cases h5 : k < 5
  ·have d5 : decide (k < 5) = true := decide_eq_true h5
   repeat' first | ((with_reducible first | refine cs ?_ ?_ | refine ws ?_ ?_) <;> intro h <;> try simp only [h]) | simp only [↓wBA, tEy, convA, seval, List.length_cons, List.length_nil, Int.reduceBEq, n0, n1, n2, n3, e16, e17, d5]
   all_goals refine ret_is (a := _) ?_ rfl rfl
   all_goals simp only [↓wBA, tEy, convA, seval]
   all_goals simp_all [wS, vaA, vaC, va0, emp]
  ·have d5 : decide (k < 5) = false := decide_eq_false h5
   have d15 : decide (k > 15) = true := decide_eq_true (by omega)
   repeat' first | ((with_reducible first | refine cs ?_ ?_ | refine ws ?_ ?_) <;> intro h <;> try simp only [h]) | simp only [↓wBA, tEy, convA, seval, List.length_cons, List.length_nil, Int.reduceBEq, n0, n1, n2, n3, e16, e17, d5, d15]
   all_goals refine ret_is (a := _) ?_ rfl rfl
   all_goals simp only [↓wBA, tEy, convA, seval]
   all_goals simp_all [wS, vaA, vaC, va0, emp]
 have hk5 : 5 ≤ k ∧ k ≤ 15 := by omega
 have d5 : decide (k < 5) = false := decide_eq_false (by omega)
 have d15 : decide (k > 15) = false := decide_eq_false (by omega)
 have e1 : (k == 1) = false := by simp; omega
 have e2 : (k == 2) = false := by simp; omega
 have e24 : (k == 24) = false := by simp; omega
 rw [evalV_two _ _ _ _ _ _ _ _ _ _ (by omega), if_neg (by simp [kids2y (show 5 ≤ k ∧ k ≤ 17 by omega)])]
 unfold EvOK at ihx ihy
 generalize evalV row x = q at *
 generalize evalV row y = p at *
 obtain ⟨⟨a1, a2, a3⟩, ea⟩ := q
 obtain ⟨⟨b1, b2, b3⟩, eb⟩ := p
 obtain ⟨x1, x2, x3, x4, x5, x6, x7, x8⟩ := x
 obtain ⟨y1, y2, y3, y4, y5, y6, y7, y8⟩ := y
 simp only [exA, exC, vaA, vaC, List.map_cons, List.map_nil] at ihx ihy
 by_cases hea : ea = 0
 case neg =>
  have ea' : (ea != 0) = true := by simpa using hea
  simp only [ne_eq, hea, not_false_eq_true, if_true]
  refine acalls_of cx_ok dr_ok Tryz.func30 (by kernel_rfl) rfl (nt := 228) (rs := [.cell 4 24, .tmp 5]) rfl rfl ?_
  simp only [exA, exC, exL_two, List.map_cons, List.map_nil]
  repeat' first | ((with_reducible first | refine cs ?_ ?_ | refine ws ?_ ?_) <;> intro h <;> try simp only [h]) | simp only [↓wBA, tEy, convA, seval, List.length_cons, List.length_nil, Int.reduceBEq, n0, n1, n2, n3, e1, e2, e24, e16, e17, d5, d15, bne_self_eq_false, ea'] | ((with_reducible show ACalls _ _ _ _ _); refine (ihx _).eq ?_)
  all_goals refine ret_is (a := _) ?_ rfl rfl
  all_goals simp only [↓wBA, tEy, convA, seval]
  all_goals simp_all [wS, vaA, vaC, va0, emp]
 subst hea
 simp only [ne_eq, not_true_eq_false, if_false]
 by_cases heb : eb = 0
 case neg =>
  have eb' : (eb != 0) = true := by simpa using heb
  simp only [heb, not_false_eq_true, if_true]
  refine acalls_of cx_ok dr_ok Tryz.func30 (by kernel_rfl) rfl (nt := 228) (rs := [.cell 4 24, .tmp 5]) rfl rfl ?_
  simp only [exA, exC, exL_two, List.map_cons, List.map_nil]
  repeat' first | ((with_reducible first | refine cs ?_ ?_ | refine ws ?_ ?_) <;> intro h <;> try simp only [h]) | simp only [↓wBA, tEy, convA, seval, List.length_cons, List.length_nil, Int.reduceBEq, n0, n1, n2, n3, e1, e2, e24, e16, e17, d5, d15, bne_self_eq_false, eb'] | ((with_reducible show ACalls _ _ _ _ _); first | refine (ihx _).eq ?_ | refine (ihy _).eq ?_)
  all_goals refine ret_is (a := _) ?_ rfl rfl
  all_goals simp only [↓wBA, tEy, convA, seval]
  all_goals simp_all [wS, vaA, vaC, va0, emp]
 subst heb
 simp only [not_true_eq_false, if_false]
 obtain ⟨oka, ra⟩ := fx rfl
 obtain ⟨okb, rb⟩ := fy rfl
 have ka := ok_kind oka
 have kb := ok_kind okb
 simp only at ka kb ra rb
 clear fx fy
 have k9 : k ≤ 9 := by omega
 have d9 : decide (k ≤ 9) = true := decide_eq_true k9
 have hN := anumber k a2 b2 (by omega) ra rb
 have hfin : resV2 k (a1, a2, a3) (b1, b2, b3) = if a1 > 1 ∨ b1 > 1 then (va0, 33) else if a1 = 0 ∨ b1 = 0 then (va0, 0) else clV (numS k a2 b2) := by
  unfold resV2 twoV
  rw [if_neg (by simp), if_pos k9, numV_eq k a2 b2 ra rb]
  split
  ·rfl
  ·split <;> rfl
 have hcl : clV (numS k a2 b2) = ((numS k a2 b2).1, (numS k a2 b2).2) ∨ (numS k a2 b2).2 ≠ 0 := by
  unfold clV
  by_cases h : (numS k a2 b2).2 = 0
  ·left; rw [if_neg (by simp [h]), h]
  ·right; exact h
 have hcl2 : clV (numS k a2 b2) = numS k a2 b2 := by
  unfold clV numS rngV failV
  repeat' split
  all_goals simp_all
 rw [hfin, hcl2]
 clear hfin hcl hcl2
 generalize numS k a2 b2 = ns at *
 obtain ⟨⟨m1, m2, m3⟩, em⟩ := ns
 simp only [vaA, vaC, List.map_cons, List.map_nil] at hN
 refine acalls_of cx_ok dr_ok Tryz.func30 (by kernel_rfl) rfl (nt := 228) (rs := [.cell 4 24, .tmp 5]) rfl rfl ?_
 simp only [exA, exC, exL_two, List.map_cons, List.map_nil]
 by_cases A2 : a1 > 1
 ·have t0 : (a1 != 0) = true := by simp; omega
  have t1 : (a1 != 1) = true := by simp; omega
  have t2 : (a1 == 0) = false := by simp; omega
  rw [if_pos (.inl A2)]
  repeat' first | ((with_reducible first | refine cs ?_ ?_ | refine ws ?_ ?_) <;> intro h <;> try simp only [h]) | simp only [↓wBA, tEy, convA, seval, List.length_cons, List.length_nil, Int.reduceBEq, n0, n1, n2, n3, e1, e2, e24, e16, e17, d5, d15, bne_self_eq_false, d9, t0, t1, t2] | ((with_reducible show ACalls _ _ _ _ _); first | refine (ihx _).eq ?_ | refine (ihy _).eq ?_)
  all_goals refine ret_is (a := _) ?_ rfl rfl
  all_goals simp only [↓wBA, tEy, convA, seval]
  all_goals simp_all [wS, vaA, vaC, va0, emp]
 have A01 : a1 = 0 ∨ a1 = 1 := by omega
 by_cases B2 : b1 > 1
 ·have s0 : (b1 != 0) = true := by simp; omega
  have s1 : (b1 != 1) = true := by simp; omega
  have s2 : (b1 == 0) = false := by simp; omega
  rw [if_pos (.inr B2)]
  rcases A01 with rfl | rfl
  ·skip
   repeat' first | ((with_reducible first | refine cs ?_ ?_ | refine ws ?_ ?_) <;> intro h <;> try simp only [h]) | simp only [↓wBA, tEy, convA, seval, List.length_cons, List.length_nil, Int.reduceBEq, n0, n1, n2, n3, e1, e2, e24, e16, e17, d5, d15, bne_self_eq_false, d9, s0, s1, s2] | ((with_reducible show ACalls _ _ _ _ _); first | refine (ihx _).eq ?_ | refine (ihy _).eq ?_)
   all_goals refine ret_is (a := _) ?_ rfl rfl
   all_goals simp only [↓wBA, tEy, convA, seval]
   all_goals simp_all [wS, vaA, vaC, va0, emp]
  ·skip
   repeat' first | ((with_reducible first | refine cs ?_ ?_ | refine ws ?_ ?_) <;> intro h <;> try simp only [h]) | simp only [↓wBA, tEy, convA, seval, List.length_cons, List.length_nil, Int.reduceBEq, n0, n1, n2, n3, e1, e2, e24, e16, e17, d5, d15, bne_self_eq_false, d9, s0, s1, s2] | ((with_reducible show ACalls _ _ _ _ _); first | refine (ihx _).eq ?_ | refine (ihy _).eq ?_)
   all_goals refine ret_is (a := _) ?_ rfl rfl
   all_goals simp only [↓wBA, tEy, convA, seval]
   all_goals simp_all [wS, vaA, vaC, va0, emp]
 have B01 : b1 = 0 ∨ b1 = 1 := by omega
 rw [if_neg (by omega)]
 rcases A01 with rfl | rfl <;> rcases B01 with rfl | rfl
 ·skip
  simp only [Int.reduceEq, or_self, or_true, true_or, or_false, if_true, if_false]
  repeat' first | ((with_reducible first | refine cs ?_ ?_ | refine ws ?_ ?_) <;> intro h <;> try simp only [h]) | simp only [↓wBA, tEy, convA, seval, List.length_cons, List.length_nil, Int.reduceBEq, n0, n1, n2, n3, e1, e2, e24, e16, e17, d5, d15, bne_self_eq_false, d9] | ((with_reducible show ACalls _ _ _ _ _); first | refine (ihx _).eq ?_ | refine (ihy _).eq ?_ | refine (hN _).eq ?_)
  all_goals refine ret_is (a := _) ?_ rfl rfl
  all_goals simp only [↓wBA, tEy, convA, seval]
  all_goals simp_all [wS, vaA, vaC, va0, emp]
 ·skip
  simp only [Int.reduceEq, or_self, or_true, true_or, or_false, if_true, if_false]
  repeat' first | ((with_reducible first | refine cs ?_ ?_ | refine ws ?_ ?_) <;> intro h <;> try simp only [h]) | simp only [↓wBA, tEy, convA, seval, List.length_cons, List.length_nil, Int.reduceBEq, n0, n1, n2, n3, e1, e2, e24, e16, e17, d5, d15, bne_self_eq_false, d9] | ((with_reducible show ACalls _ _ _ _ _); first | refine (ihx _).eq ?_ | refine (ihy _).eq ?_ | refine (hN _).eq ?_)
  all_goals refine ret_is (a := _) ?_ rfl rfl
  all_goals simp only [↓wBA, tEy, convA, seval]
  all_goals simp_all [wS, vaA, vaC, va0, emp]
 ·skip
  simp only [Int.reduceEq, or_self, or_true, true_or, or_false, if_true, if_false]
  repeat' first | ((with_reducible first | refine cs ?_ ?_ | refine ws ?_ ?_) <;> intro h <;> try simp only [h]) | simp only [↓wBA, tEy, convA, seval, List.length_cons, List.length_nil, Int.reduceBEq, n0, n1, n2, n3, e1, e2, e24, e16, e17, d5, d15, bne_self_eq_false, d9] | ((with_reducible show ACalls _ _ _ _ _); first | refine (ihx _).eq ?_ | refine (ihy _).eq ?_ | refine (hN _).eq ?_)
  all_goals refine ret_is (a := _) ?_ rfl rfl
  all_goals simp only [↓wBA, tEy, convA, seval]
  all_goals simp_all [wS, vaA, vaC, va0, emp]
 ·skip
  simp only [Int.reduceEq, or_self, or_true, true_or, or_false, if_true, if_false]
  repeat' first | ((with_reducible first | refine cs ?_ ?_ | refine ws ?_ ?_) <;> intro h <;> try simp only [h]) | simp only [↓wBA, tEy, convA, seval, List.length_cons, List.length_nil, Int.reduceBEq, n0, n1, n2, n3, e1, e2, e24, e16, e17, d5, d15, bne_self_eq_false, d9] | ((with_reducible show ACalls _ _ _ _ _); first | refine (ihx _).eq ?_ | refine (ihy _).eq ?_ | refine (hN _).eq ?_)
  all_goals refine ret_is (a := _) ?_ rfl rfl
  all_goals simp only [↓wBA, tEy, convA, seval]
  all_goals simp_all [wS, vaA, vaC, va0, emp]
end Go.Proofs.YtpcblbbddccgpaaGreatDoor
