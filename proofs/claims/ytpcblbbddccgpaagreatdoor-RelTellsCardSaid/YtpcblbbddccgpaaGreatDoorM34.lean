/- cadastreref12.Eval tells what the program's Eval does: comparisons. cadastreref12.Eval tells what the program's Eval does: all. cadastreref12.Holds tells what the program's Holds does. cadastreref17.Filter tells what the program's Filter does. -/
import Derived.Test.YtpcblbbddccgpaaGreatDoorM32
import Derived.Test.YtpcblbbddccgpaaGreatDoorM33
import Derived.Test.YtpcblbbddccgpaaGreatDoorM23
set_option linter.unusedSimpArgs false
set_option linter.unusedVariables false
set_option linter.defProp false
set_option maxRecDepth 100000
set_option maxHeartbeats 32000000
namespace Go.Proofs.YtpcblbbddccgpaaGreatDoor
open Go.RowKit
open Nat renaming reduceBEq → ZA, reducePow → ZB, reduceAdd → ZC, reduceSub → ZD, reduceMul → ZE, reduceEqDiff → ZF, reduceLeDiff → ZG, reduceLT → ZH
open Int renaming reduceLT → ZI, reduceLE → ZJ, reduceToNat → ZK
def tEr := aa wX <| aa wbu <| aa T2 <| aa T3 <| aa T4 <| aa T24 <| aa T25 <| aa T27 <| aa T30 <| aa T39 T70
theorem aEval2r (row : List Va) (k vk vn : Int) (vs tb nm : ByteArray) (s : Int) (x y : Ex) (ihx : EvOK row x) (ihy : EvOK row y) (fx : fine (evalV row x)) (fy : fine (evalV row y)) (h10 : 10 ≤ k ∧ k ≤ 15) : EvOK row (.mk k vk vn vs tb nm s [x, y]) := fun σ => by
 refine ACalls.pureF (R := fun r => r = .tup [vaA (evalV row (.mk k vk vn vs tb nm s [x, y])).1, intV .i64 (evalV row (.mk k vk vn vs tb nm s [x, y])).2]) ?_ rfl σ
 have n0 : (((2 : Nat) : Int) == 0) = false := rfl
 have n1 : (((2 : Nat) : Int) == 1) = false := rfl
 have n2 : (((2 : Nat) : Int) == 2) = true := rfl
 have n3 : (((2 : Nat) : Int) != 2) = false := rfl
 have e16 : (k == 16) = false := by simp; omega
 have e17 : (k == 17) = false := by simp; omega
 have hk5 : 5 ≤ k ∧ k ≤ 15 := by omega
 have d5 : decide (k < 5) = false := decide_eq_false (by omega)
 have d15 : decide (k > 15) = false := decide_eq_false (by omega)
 have e1 : (k == 1) = false := by simp; omega
 have e2 : (k == 2) = false := by simp; omega
 have e24 : (k == 24) = false := by simp; omega
 rw [evalV_two _ _ _ _ _ _ _ _ _ _ (by omega), if_neg (by simp [kids2y (show 5 ≤ k ∧ k ≤ 17 by omega)])]
 unfold EvOK at ihx ihy
 generalize evalV row x = q at *
 generalize evalV row y = p at *
 obtain ⟨⟨a1, a2, a3⟩, ea⟩ := q
 obtain ⟨⟨b1, b2, b3⟩, eb⟩ := p
 obtain ⟨x1, x2, x3, x4, x5, x6, x7, x8⟩ := x
 obtain ⟨y1, y2, y3, y4, y5, y6, y7, y8⟩ := y
 simp only [exA, exC, vaA, vaC, List.map_cons, List.map_nil] at ihx ihy
 by_cases hea : ea = 0
 case neg =>
  have ea' : (ea != 0) = true := by simpa using hea
  simp only [ne_eq, hea, not_false_eq_true, if_true]
  refine acalls_of cx_ok dr_ok Tryz.func30 (by kernel_rfl) rfl (nt := 228) (rs := [.cell 4 24, .tmp 5]) rfl rfl ?_
  simp only [exA, exC, exL_two, List.map_cons, List.map_nil]
  repeat' first | ((with_reducible first | refine cs ?_ ?_ | refine ws ?_ ?_) <;> intro h <;> try simp only [h]) | simp only [↓wBA, tEr, convA, ZA, reduceIte, reduceCtorEq, ZB, ZC, ZD, ZE, ZF, ZG, ZH, ZI, ZJ, ZK, List.length_cons, List.length_nil, Int.reduceBEq, n0, n1, n2, n3, e1, e2, e24, e16, e17, d5, d15, bne_self_eq_false, ea'] | ((with_reducible show ACalls _ _ _ _ _); refine (ihx _).eq ?_)
  all_goals refine ret_is (a := _) ?_ rfl rfl
  all_goals simp only [↓wBA, tEr, convA, ZA, reduceIte, reduceCtorEq, ZB, ZC, ZD, ZE, ZF, ZG, ZH, ZI, ZJ, ZK]
  all_goals simp_all [wS, vaA, vaC, va0, emp]
 subst hea
 simp only [ne_eq, not_true_eq_false, if_false]
 by_cases heb : eb = 0
 case neg =>
  have eb' : (eb != 0) = true := by simpa using heb
  simp only [heb, not_false_eq_true, if_true]
  refine acalls_of cx_ok dr_ok Tryz.func30 (by kernel_rfl) rfl (nt := 228) (rs := [.cell 4 24, .tmp 5]) rfl rfl ?_
  simp only [exA, exC, exL_two, List.map_cons, List.map_nil]
  repeat' first | ((with_reducible first | refine cs ?_ ?_ | refine ws ?_ ?_) <;> intro h <;> try simp only [h]) | simp only [↓wBA, tEr, convA, ZA, reduceIte, reduceCtorEq, ZB, ZC, ZD, ZE, ZF, ZG, ZH, ZI, ZJ, ZK, List.length_cons, List.length_nil, Int.reduceBEq, n0, n1, n2, n3, e1, e2, e24, e16, e17, d5, d15, bne_self_eq_false, eb'] | ((with_reducible show ACalls _ _ _ _ _); first | refine (ihx _).eq ?_ | refine (ihy _).eq ?_)
  all_goals refine ret_is (a := _) ?_ rfl rfl
  all_goals simp only [↓wBA, tEr, convA, ZA, reduceIte, reduceCtorEq, ZB, ZC, ZD, ZE, ZF, ZG, ZH, ZI, ZJ, ZK]
  all_goals simp_all [wS, vaA, vaC, va0, emp]
 subst heb
 simp only [not_true_eq_false, if_false]
 obtain ⟨oka, ra⟩ := fx rfl
 obtain ⟨okb, rb⟩ := fy rfl
 have ka := ok_kind oka
 have kb := ok_kind okb
 simp only at ka kb ra rb
 clear fx fy
 have k9 : ¬ k ≤ 9 := by omega
 have d9 : decide (k ≤ 9) = false := decide_eq_false k9
 have hC := acmpR (a1, a2, a3) (b1, b2, b3)
 have hfin : resV2 k (a1, a2, a3) (b1, b2, b3) = if a1 = 0 ∨ b1 = 0 then (va0, 0) else if a1 ≠ b1 then (va0, 33) else (trV (relV k (cmpV (a1, a2, a3) (b1, b2, b3))), 0) := by
  unfold resV2 twoV
  rw [if_neg (by simp), if_neg k9]
  split
  ·rfl
  ·split <;> rfl
 rw [hfin]
 clear hfin
 generalize cmpV (a1, a2, a3) (b1, b2, b3) = c at *
 simp only [vaA, vaC, List.map_cons, List.map_nil] at hC
 refine acalls_of cx_ok dr_ok Tryz.func30 (by kernel_rfl) rfl (nt := 228) (rs := [.cell 4 24, .tmp 5]) rfl rfl ?_
 simp only [exA, exC, exL_two, List.map_cons, List.map_nil]
 by_cases a0 : a1 = 0
 ·subst a0
  rw [if_pos (.inl rfl)]
  repeat' first | ((with_reducible first | refine cs ?_ ?_ | refine ws ?_ ?_) <;> intro h <;> try simp only [h]) | simp only [↓wBA, tEr, convA, ZA, reduceIte, reduceCtorEq, ZB, ZC, ZD, ZE, ZF, ZG, ZH, ZI, ZJ, ZK, List.length_cons, List.length_nil, Int.reduceBEq, n0, n1, n2, n3, e1, e2, e24, e16, e17, d5, d15, bne_self_eq_false, d9] | ((with_reducible show ACalls _ _ _ _ _); first | refine (ihx _).eq ?_ | refine (ihy _).eq ?_)
  all_goals refine ret_is (a := _) ?_ rfl rfl
  all_goals simp only [↓wBA, tEr, convA, ZA, reduceIte, reduceCtorEq, ZB, ZC, ZD, ZE, ZF, ZG, ZH, ZI, ZJ, ZK]
  all_goals simp_all [wS, vaA, vaC, va0, emp]
 have ta : (a1 == 0) = false := by simpa using a0
 by_cases b0 : b1 = 0
 ·subst b0
  rw [if_pos (.inr rfl)]
  repeat' first | ((with_reducible first | refine cs ?_ ?_ | refine ws ?_ ?_) <;> intro h <;> try simp only [h]) | simp only [↓wBA, tEr, convA, ZA, reduceIte, reduceCtorEq, ZB, ZC, ZD, ZE, ZF, ZG, ZH, ZI, ZJ, ZK, List.length_cons, List.length_nil, Int.reduceBEq, n0, n1, n2, n3, e1, e2, e24, e16, e17, d5, d15, bne_self_eq_false, d9, ta] | ((with_reducible show ACalls _ _ _ _ _); first | refine (ihx _).eq ?_ | refine (ihy _).eq ?_)
  all_goals refine ret_is (a := _) ?_ rfl rfl
  all_goals simp only [↓wBA, tEr, convA, ZA, reduceIte, reduceCtorEq, ZB, ZC, ZD, ZE, ZF, ZG, ZH, ZI, ZJ, ZK]
  all_goals simp_all [wS, vaA, vaC, va0, emp]
 have tb0 : (b1 == 0) = false := by simpa using b0
 rw [if_neg (by omega)]
 by_cases hab : a1 = b1
 case neg =>
  have tn : (a1 != b1) = true := by simpa using hab
  rw [if_pos hab]
  repeat' first | ((with_reducible first | refine cs ?_ ?_ | refine ws ?_ ?_) <;> intro h <;> try simp only [h]) | simp only [↓wBA, tEr, convA, ZA, reduceIte, reduceCtorEq, ZB, ZC, ZD, ZE, ZF, ZG, ZH, ZI, ZJ, ZK, List.length_cons, List.length_nil, Int.reduceBEq, n0, n1, n2, n3, e1, e2, e24, e16, e17, d5, d15, bne_self_eq_false, d9, ta, tb0, tn] | ((with_reducible show ACalls _ _ _ _ _); first | refine (ihx _).eq ?_ | refine (ihy _).eq ?_)
  all_goals refine ret_is (a := _) ?_ rfl rfl
  all_goals simp only [↓wBA, tEr, convA, ZA, reduceIte, reduceCtorEq, ZB, ZC, ZD, ZE, ZF, ZG, ZH, ZI, ZJ, ZK]
  all_goals simp_all [wS, vaA, vaC, va0, emp]
 subst hab
 rw [if_neg (by simp)]
 have hk6 : k = 10 ∨ k = 11 ∨ k = 12 ∨ k = 13 ∨ k = 14 ∨ k = 15 := by omega
 rcases hk6 with rfl | rfl | rfl | rfl | rfl | rfl
 ·have hT := atruthR ((c == 0))
  have hrel : relV 10 c = (c == 0) := rfl
  rw [hrel]
  generalize trV ((c == 0)) = w at *
  obtain ⟨w1, w2, w3⟩ := w
  simp only [vaA, vaC, List.map_cons, List.map_nil] at hT
  have wk : IntKind.i64.wrap (10 - 10) = 0 := by decide
  have b6 : ((0 : Int) < ((6 : Nat) : Int)) = True := eq_true (by decide)
  repeat' first | ((with_reducible first | refine cs ?_ ?_ | refine ws ?_ ?_) <;> intro h <;> try simp only [h]) | simp only [↓wBA, tEr, convA, ZA, reduceIte, reduceCtorEq, ZB, ZC, ZD, ZE, ZF, ZG, ZH, ZI, ZJ, ZK, List.length_cons, List.length_nil, Int.reduceBEq, n0, n1, n2, n3, e1, e2, e24, e16, e17, d5, d15, bne_self_eq_false, d9, ta, tb0, wk, b6] | ((with_reducible show ACalls _ _ _ _ _); first | refine (ihx _).eq ?_ | refine (ihy _).eq ?_ | refine (hC _).eq ?_ | refine (hT _).eq ?_)
  all_goals refine ret_is (a := _) ?_ rfl rfl
  all_goals simp only [↓wBA, tEr, convA, ZA, reduceIte, reduceCtorEq, ZB, ZC, ZD, ZE, ZF, ZG, ZH, ZI, ZJ, ZK]
  all_goals simp_all [wS, vaA, vaC, va0, emp]
 ·have hT := atruthR ((c != 0))
  have hrel : relV 11 c = (c != 0) := by simp [relV, bne]; rfl
  rw [hrel]
  generalize trV ((c != 0)) = w at *
  obtain ⟨w1, w2, w3⟩ := w
  simp only [vaA, vaC, List.map_cons, List.map_nil] at hT
  have wk : IntKind.i64.wrap (11 - 10) = 1 := by decide
  have b6 : ((1 : Int) < ((6 : Nat) : Int)) = True := eq_true (by decide)
  repeat' first | ((with_reducible first | refine cs ?_ ?_ | refine ws ?_ ?_) <;> intro h <;> try simp only [h]) | simp only [↓wBA, tEr, convA, ZA, reduceIte, reduceCtorEq, ZB, ZC, ZD, ZE, ZF, ZG, ZH, ZI, ZJ, ZK, List.length_cons, List.length_nil, Int.reduceBEq, n0, n1, n2, n3, e1, e2, e24, e16, e17, d5, d15, bne_self_eq_false, d9, ta, tb0, wk, b6] | ((with_reducible show ACalls _ _ _ _ _); first | refine (ihx _).eq ?_ | refine (ihy _).eq ?_ | refine (hC _).eq ?_ | refine (hT _).eq ?_)
  all_goals refine ret_is (a := _) ?_ rfl rfl
  all_goals simp only [↓wBA, tEr, convA, ZA, reduceIte, reduceCtorEq, ZB, ZC, ZD, ZE, ZF, ZG, ZH, ZI, ZJ, ZK]
  all_goals simp_all [wS, vaA, vaC, va0, emp]
 ·have hT := atruthR (decide (c < 0))
  have hrel : relV 12 c = decide (c < 0) := by simp [relV]
  rw [hrel]
  generalize trV (decide (c < 0)) = w at *
  obtain ⟨w1, w2, w3⟩ := w
  simp only [vaA, vaC, List.map_cons, List.map_nil] at hT
  have wk : IntKind.i64.wrap (12 - 10) = 2 := by decide
  have b6 : ((2 : Int) < ((6 : Nat) : Int)) = True := eq_true (by decide)
  repeat' first | ((with_reducible first | refine cs ?_ ?_ | refine ws ?_ ?_) <;> intro h <;> try simp only [h]) | simp only [↓wBA, tEr, convA, ZA, reduceIte, reduceCtorEq, ZB, ZC, ZD, ZE, ZF, ZG, ZH, ZI, ZJ, ZK, List.length_cons, List.length_nil, Int.reduceBEq, n0, n1, n2, n3, e1, e2, e24, e16, e17, d5, d15, bne_self_eq_false, d9, ta, tb0, wk, b6] | ((with_reducible show ACalls _ _ _ _ _); first | refine (ihx _).eq ?_ | refine (ihy _).eq ?_ | refine (hC _).eq ?_ | refine (hT _).eq ?_)
  all_goals refine ret_is (a := _) ?_ rfl rfl
  all_goals simp only [↓wBA, tEr, convA, ZA, reduceIte, reduceCtorEq, ZB, ZC, ZD, ZE, ZF, ZG, ZH, ZI, ZJ, ZK]
  all_goals simp_all [wS, vaA, vaC, va0, emp]
 ·have hT := atruthR (decide (c ≤ 0))
  have hrel : relV 13 c = decide (c ≤ 0) := by simp [relV]
  rw [hrel]
  generalize trV (decide (c ≤ 0)) = w at *
  obtain ⟨w1, w2, w3⟩ := w
  simp only [vaA, vaC, List.map_cons, List.map_nil] at hT
  have wk : IntKind.i64.wrap (13 - 10) = 3 := by decide
  have b6 : ((3 : Int) < ((6 : Nat) : Int)) = True := eq_true (by decide)
  repeat' first | ((with_reducible first | refine cs ?_ ?_ | refine ws ?_ ?_) <;> intro h <;> try simp only [h]) | simp only [↓wBA, tEr, convA, ZA, reduceIte, reduceCtorEq, ZB, ZC, ZD, ZE, ZF, ZG, ZH, ZI, ZJ, ZK, List.length_cons, List.length_nil, Int.reduceBEq, n0, n1, n2, n3, e1, e2, e24, e16, e17, d5, d15, bne_self_eq_false, d9, ta, tb0, wk, b6] | ((with_reducible show ACalls _ _ _ _ _); first | refine (ihx _).eq ?_ | refine (ihy _).eq ?_ | refine (hC _).eq ?_ | refine (hT _).eq ?_)
  all_goals refine ret_is (a := _) ?_ rfl rfl
  all_goals simp only [↓wBA, tEr, convA, ZA, reduceIte, reduceCtorEq, ZB, ZC, ZD, ZE, ZF, ZG, ZH, ZI, ZJ, ZK]
  all_goals simp_all [wS, vaA, vaC, va0, emp]
 ·have hT := atruthR (decide (c > 0))
  have hrel : relV 14 c = decide (c > 0) := by simp [relV]
  rw [hrel]
  generalize trV (decide (c > 0)) = w at *
  obtain ⟨w1, w2, w3⟩ := w
  simp only [vaA, vaC, List.map_cons, List.map_nil] at hT
  have wk : IntKind.i64.wrap (14 - 10) = 4 := by decide
  have b6 : ((4 : Int) < ((6 : Nat) : Int)) = True := eq_true (by decide)
  repeat' first | ((with_reducible first | refine cs ?_ ?_ | refine ws ?_ ?_) <;> intro h <;> try simp only [h]) | simp only [↓wBA, tEr, convA, ZA, reduceIte, reduceCtorEq, ZB, ZC, ZD, ZE, ZF, ZG, ZH, ZI, ZJ, ZK, List.length_cons, List.length_nil, Int.reduceBEq, n0, n1, n2, n3, e1, e2, e24, e16, e17, d5, d15, bne_self_eq_false, d9, ta, tb0, wk, b6] | ((with_reducible show ACalls _ _ _ _ _); first | refine (ihx _).eq ?_ | refine (ihy _).eq ?_ | refine (hC _).eq ?_ | refine (hT _).eq ?_)
  all_goals refine ret_is (a := _) ?_ rfl rfl
  all_goals simp only [↓wBA, tEr, convA, ZA, reduceIte, reduceCtorEq, ZB, ZC, ZD, ZE, ZF, ZG, ZH, ZI, ZJ, ZK]
  all_goals simp_all [wS, vaA, vaC, va0, emp]
 ·have hT := atruthR (decide (c ≥ 0))
  have hrel : relV 15 c = decide (c ≥ 0) := by simp [relV]
  rw [hrel]
  generalize trV (decide (c ≥ 0)) = w at *
  obtain ⟨w1, w2, w3⟩ := w
  simp only [vaA, vaC, List.map_cons, List.map_nil] at hT
  have wk : IntKind.i64.wrap (15 - 10) = 5 := by decide
  have b6 : ((5 : Int) < ((6 : Nat) : Int)) = True := eq_true (by decide)
  repeat' first | ((with_reducible first | refine cs ?_ ?_ | refine ws ?_ ?_) <;> intro h <;> try simp only [h]) | simp only [↓wBA, tEr, convA, ZA, reduceIte, reduceCtorEq, ZB, ZC, ZD, ZE, ZF, ZG, ZH, ZI, ZJ, ZK, List.length_cons, List.length_nil, Int.reduceBEq, n0, n1, n2, n3, e1, e2, e24, e16, e17, d5, d15, bne_self_eq_false, d9, ta, tb0, wk, b6] | ((with_reducible show ACalls _ _ _ _ _); first | refine (ihx _).eq ?_ | refine (ihy _).eq ?_ | refine (hC _).eq ?_ | refine (hT _).eq ?_)
  all_goals refine ret_is (a := _) ?_ rfl rfl
  all_goals simp only [↓wBA, tEr, convA, ZA, reduceIte, reduceCtorEq, ZB, ZC, ZD, ZE, ZF, ZG, ZH, ZI, ZJ, ZK]
  all_goals simp_all [wS, vaA, vaC, va0, emp]
end Go.Proofs.YtpcblbbddccgpaaGreatDoor
namespace Go.Proofs.YtpcblbbddccgpaaGreatDoor
open Go.RowKit
theorem aEvalR (row : List Va) (hrow : ∀ v ∈ row, i64R v.2.1) : ∀ x : Ex, rgE x → EvOK row x
 | .mk k vk vn vs tb nm s [], _ => aEval0 row k vk vn vs tb nm s
 | .mk k vk vn vs tb nm s [x], h => by
   simp only [rgE, rgL] at h
   have ih := aEvalR row hrow x h.2.1
   refine aEval1 row k vk vn vs tb nm s x ih ?_
   by_cases h0 : (evalV row x).2 = 0
   ·exact (evalV_fine row hrow x h.2.1 h0).2
   ·rw [(evalV_bad row x h0).2]; show i64R 0; decide
 | .mk k vk vn vs tb nm s [x, y], h => by
   simp only [rgE, rgL] at h
   have ix := aEvalR row hrow x h.2.1
   have iy := aEvalR row hrow y h.2.2.1
   have fx := evalV_fine row hrow x h.2.1
   have fy := evalV_fine row hrow y h.2.2.1
   by_cases h10 : 10 ≤ k ∧ k ≤ 15
   ·exact aEval2r row k vk vn vs tb nm s x y ix iy fx fy h10
   ·exact aEval2n row k vk vn vs tb nm s x y ix iy fx fy h10
 | .mk k vk vn vs tb nm s (x :: y :: z :: l), _ => aEval3 row k vk vn vs tb nm s x y z l
end Go.Proofs.YtpcblbbddccgpaaGreatDoor
namespace Go.Proofs.YtpcblbbddccgpaaGreatDoor
open Go.RowKit
def pl24_6Hr : Plan := (.det 0 (.act 1 (.det 2 (.det 3 (.det 4 .done)))))
def tHr := aa wX <| aa wbu <| aa T3 <| aa T4 <| aa T24 <| aa T27 <| aa T30 T39
theorem holds_eqR (v : Va) (h : okV v = true) : eqV v (trV true) = (decide (v.1 = 2) && decide (v.2.1 = 1)) := by
 obtain ⟨k, n, t⟩ := v
 by_cases hk : k = 2
 ·subst hk
  simp only [okV, Int.reduceEq, if_true, if_false, Bool.and_eq_true, beq_iff_eq] at h
  have ht : t = emp := ba_ext h.2
  subst ht
  simp [eqV, trV]
 ·simp [eqV, trV, hk]
theorem aHoldsR (row : List Va) (hrow : ∀ v ∈ row, i64R v.2.1) (x : Ex) (hx : rgE x) (σ : St) : ACalls Tryz.prog 24 [exA x, .p (.sl 3 (enV row))] σ fun r s => s = σ ∧ r = .tup [boolV (holdsV row x).1, intV .i64 (holdsV row x).2] := by
 refine ACalls.pureF (R := fun r => r = .tup [boolV (holdsV row x).1, intV .i64 (holdsV row x).2]) ?_ (by cases x; rfl) σ
 have hE := aEvalR row hrow x hx
 have hf := evalV_fine row hrow x hx
 have hT := atruthR true
 unfold EvOK at hE
 unfold holdsV
 generalize evalV row x = q at *
 obtain ⟨⟨v1, v2, v3⟩, e⟩ := q
 obtain ⟨x1, x2, x3, x4, x5, x6, x7, x8⟩ := x
 simp only [exA, exC, vaA, vaC, List.map_cons, List.map_nil] at hE
 simp only [trV, if_true, vaA, vaC, List.map_cons, List.map_nil] at hT
 refine acalls_of cx_ok dr_ok Tryz.func24 (by kernel_rfl) rfl (nt := 26) (rs := [.tmp 4, .tmp 5]) rfl rfl ?_
 simp only [exA, exC, List.map_cons, List.map_nil]
 by_cases he : e = 0
 ·subst he
  obtain ⟨ho, _⟩ := hf rfl
  have hq := holds_eqR _ ho
  have hc := eqV_cells v1 v2 2 1 v3 emp
  have ht : trV true = (2, 1, emp) := rfl
  rw [ht] at hq
  rw [hq] at hc
  by_cases k0 : v1 = 0
  ·subst k0
   repeat' first | ((with_reducible first | refine cs ?_ ?_ | refine ws ?_ ?_ | refine wd ?_ ?_ | refine wu ?_ ?_) <;> intro h <;> try simp only [h]) | simp only [↓wBA, tHr, convA, seval, pl24_6Hr, Int.reduceBEq, bne_self_eq_false, hc] | ((with_reducible show ACalls _ _ _ _ _); first | refine (hE _).eq ?_ | refine (hT _).eq ?_) | (with_reducible refine dP pl24_6Hr 5 (some 25) (by decide) (by kernel_rfl) ?_)
   all_goals refine ret_is (a := _) ?_ rfl rfl
   all_goals simp only [↓wBA, tHr, convA, seval]
   all_goals simp_all [wS]
  ·have t0 : (v1 != 0) = true := by simpa using k0
   by_cases k2 : v1 = 2
   ·subst k2
    repeat' first | ((with_reducible first | refine cs ?_ ?_ | refine ws ?_ ?_ | refine wd ?_ ?_ | refine wu ?_ ?_) <;> intro h <;> try simp only [h]) | simp only [↓wBA, tHr, convA, seval, pl24_6Hr, Int.reduceBEq, bne_self_eq_false, t0, hc] | ((with_reducible show ACalls _ _ _ _ _); first | refine (hE _).eq ?_ | refine (hT _).eq ?_) | (with_reducible refine dP pl24_6Hr 5 (some 25) (by decide) (by kernel_rfl) ?_)
    all_goals refine ret_is (a := _) ?_ rfl rfl
    all_goals simp only [↓wBA, tHr, convA, seval]
    all_goals simp_all [wS]
   ·have t2 : (v1 != 2) = true := by simpa using k2
    repeat' first | ((with_reducible first | refine cs ?_ ?_ | refine ws ?_ ?_ | refine wd ?_ ?_ | refine wu ?_ ?_) <;> intro h <;> try simp only [h]) | simp only [↓wBA, tHr, convA, seval, pl24_6Hr, Int.reduceBEq, bne_self_eq_false, t0, t2] | ((with_reducible show ACalls _ _ _ _ _); first | refine (hE _).eq ?_ | refine (hT _).eq ?_) | (with_reducible refine dP pl24_6Hr 5 (some 25) (by decide) (by kernel_rfl) ?_)
    all_goals refine ret_is (a := _) ?_ rfl rfl
    all_goals simp only [↓wBA, tHr, convA, seval]
    all_goals simp_all [wS]
 ·have he' : (e != 0) = true := by simpa using he
  repeat' first | ((with_reducible first | refine cs ?_ ?_ | refine ws ?_ ?_ | refine wd ?_ ?_ | refine wu ?_ ?_) <;> intro h <;> try simp only [h]) | simp only [↓wBA, tHr, convA, seval, pl24_6Hr, he'] | ((with_reducible show ACalls _ _ _ _ _); first | refine (hE _).eq ?_ | refine (hT _).eq ?_) | (with_reducible refine dP pl24_6Hr 5 (some 25) (by decide) (by kernel_rfl) ?_)
  all_goals refine ret_is (a := _) ?_ rfl rfl
  all_goals simp only [↓wBA, tHr, convA, seval]
  all_goals simp_all [wS]
end Go.Proofs.YtpcblbbddccgpaaGreatDoor
namespace Go.Proofs.YtpcblbbddccgpaaGreatDoor
open Go.RowKit
def tFr := aa wX <| aa wbu <| aa T3 <| aa T22 <| aa T27 <| aa T30 T39
theorem aleastR (l e : Int) (σ : St) : ACalls Tryz.prog 25 [intV .i64 l, intV .i64 e] σ fun r s => s = σ ∧ r = intV .i64 (leastI l e) := by
 refine ACalls.pureF (R := fun r => r = intV .i64 (leastI l e)) ?_ rfl σ
 refine acalls_of cx_ok dr_ok Tryz.func25 (by kernel_rfl) rfl (nt := 16) (rs := [.tmp 4]) rfl rfl ?_
 by_cases h0 : l = 0
 ·subst h0
  have hl : leastI 0 e = e := by unfold leastI; split <;> omega
  rw [hl]
  repeat' first | ((with_reducible first | refine cs ?_ ?_ | refine ws ?_ ?_) <;> intro h <;> try simp only [h]) | simp only [↓wBA, tFr, convA, seval, Int.reduceBEq]
  all_goals refine ret_is (a := _) ?_ rfl rfl
  all_goals simp only [↓wBA, tFr, convA, seval]
  all_goals simp_all [wS]
 ·have t0 : (l == 0) = false := by simpa using h0
  by_cases h1 : e ≠ 0 ∧ e < l
  ·have hl : leastI l e = e := by unfold leastI; rw [if_pos ⟨h1.1, .inr h1.2⟩]
   have t1 : (e != 0) = true := by simpa using h1.1
   have t2 : decide (e < l) = true := decide_eq_true h1.2
   rw [hl]
   repeat' first | ((with_reducible first | refine cs ?_ ?_ | refine ws ?_ ?_) <;> intro h <;> try simp only [h]) | simp only [↓wBA, tFr, convA, seval, t0, t1, t2]
   all_goals refine ret_is (a := _) ?_ rfl rfl
   all_goals simp only [↓wBA, tFr, convA, seval]
   all_goals simp_all [wS]
  ·have hl : leastI l e = l := by unfold leastI; rw [if_neg (by omega)]
   rw [hl]
   by_cases h2 : e = 0
   ·subst h2
    repeat' first | ((with_reducible first | refine cs ?_ ?_ | refine ws ?_ ?_) <;> intro h <;> try simp only [h]) | simp only [↓wBA, tFr, convA, seval, t0, bne_self_eq_false]
    all_goals refine ret_is (a := _) ?_ rfl rfl
    all_goals simp only [↓wBA, tFr, convA, seval]
    all_goals simp_all [wS]
   ·have t1 : (e != 0) = true := by simpa using h2
    have t2 : decide (e < l) = false := decide_eq_false (by omega)
    repeat' first | ((with_reducible first | refine cs ?_ ?_ | refine ws ?_ ?_) <;> intro h <;> try simp only [h]) | simp only [↓wBA, tFr, convA, seval, t0, t1, t2]
    all_goals refine ret_is (a := _) ?_ rfl rfl
    all_goals simp only [↓wBA, tFr, convA, seval]
    all_goals simp_all [wS]
theorem adoneR (rows : List (List Va)) (l : Int) (σ : St) : ACalls Tryz.prog 26 [.p (nilSl 1 (enVV rows)), intV .i64 l] σ fun r s => s = σ ∧ r = .tup [.p (.sl 1 (enVV (ansS l rows).1)), intV .i64 (ansS l rows).2] := by
 refine ACalls.pureF (R := fun r => r = .tup [.p (.sl 1 (enVV (ansS l rows).1)), intV .i64 (ansS l rows).2]) ?_ rfl σ
 cases rows with
 | nil =>
   refine acalls_of cx_ok dr_ok Tryz.func26 (by kernel_rfl) rfl (nt := 15) (rs := [.tmp 4, .tmp 5]) rfl rfl ?_
   simp only [nilSl, enVV, List.map_nil, List.isEmpty_nil, if_true]
   repeat' first | ((with_reducible first | refine cs ?_ ?_ | refine ws ?_ ?_) <;> intro h <;> try simp only [h]) | simp only [↓wBA, tFr, convA, seval]
   all_goals refine ret_is (a := _) ?_ rfl rfl
   all_goals simp only [↓wBA, tFr, convA, seval]
   all_goals simp_all [wS, ansS, enVV]
   all_goals grind
 | cons r rows =>
   refine acalls_of cx_ok dr_ok Tryz.func26 (by kernel_rfl) rfl (nt := 15) (rs := [.tmp 4, .tmp 5]) rfl rfl ?_
   simp only [nilSl, enVV, List.map_cons, List.isEmpty_cons, Bool.false_eq_true, if_false]
   repeat' first | ((with_reducible first | refine cs ?_ ?_ | refine ws ?_ ?_) <;> intro h <;> try simp only [h]) | simp only [↓wBA, tFr, convA, seval, List.length_map]
   all_goals refine ret_is (a := _) ?_ rfl rfl
   all_goals simp only [↓wBA, tFr, convA, seval]
   all_goals simp_all [wS, ansS, enVV]
   all_goals grind
end Go.Proofs.YtpcblbbddccgpaaGreatDoor
