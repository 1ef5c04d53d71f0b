/- The finder: what expressions come to. What expressions come to: Eval, Holds. Rows cloned. Rows filtered. Loops and states: of general use. -/
import Derived.Test.YtcnkmandddfdmaaGreatDoorM20
import Derived.Test.YtcnkmandddfdmaaGreatDoorM19
import Derived.Test.YtcnkmandddfdmaaGreatDoorM16
set_option linter.unusedSimpArgs false
set_option linter.unusedVariables false
set_option linter.defProp false
set_option maxRecDepth 100000
set_option maxHeartbeats 32000000
namespace Go.Proofs.YtcnkmandddfdmaaGreatDoor
open Go.RowKit
def tFe := aa wX <| aa wbu <| aa T2 <| aa T3 <| aa T4 <| aa T33 <| aa T41 <| aa T45 <| aa T78 <| aa T168 <| aa T170 T213
def FindOK (row : List Va) (x : Ex) : Prop := ∀ e, OCalls (fdO row) 91 (fun t => [.mp t 2 0 0, exA x]) e fun r e' => r = vaA (findV row x e).1 ∧ e' = (findV row x e).2
theorem asomeV (v : Va) (σ : St) : ACalls Tryz.prog 134 [vaA v] σ fun r s => s = σ ∧ r = boolV (someV v) := by
 refine ACalls.pureF (R := fun r => r = boolV (someV v)) ?_ rfl σ
 obtain ⟨k, n, t⟩ := v
 refine acalls_of cx_ok dr_ok Tryz.func134 (by kernel_rfl) rfl (nt := 10) (rs := [.tmp 2]) rfl rfl ?_
 simp only [vaA, vaC, List.map_cons, List.map_nil]
 repeat' first | ((with_reducible first | refine cs ?_ ?_ | refine ws ?_ ?_) <;> intro h <;> try simp only [h]) | simp only [↓wBA, tFe, convA, seval]
 all_goals refine ret_is (a := _) ?_ rfl rfl
 all_goals simp only [↓wBA, tFe, convA, seval]
 all_goals simp_all [wS, someV]
 all_goals grind
theorem alogV (row : List Va) (k vk vn : Int) (vs tb nm : ByteArray) (s : Int) (x y : Ex) (hy : FindOK row y) (a : Va) (e : Int) : OCalls (fdO row) 129 (fun t => [.mp t 2 0 0, exA (.mk k vk vn vs tb nm s [x, y]), vaA a]) e fun r e' => r = vaA (match logA k a e with | some r => r | none => logB k a (findV row y e).1 (findV row y e).2).1 ∧ e' = (match logA k a e with | some r => r | none => logB k a (findV row y e).1 (findV row y e).2).2 := by
 refine OCalls.of (fdP row) (fun t => rfl) rfl ?_
 obtain ⟨a1, a2, a3⟩ := a
 refine acalls_of cx_ok dr_ok Tryz.func129 (by kernel_rfl) rfl (nt := 64) (rs := [.cell 6 41]) rfl rfl ?_
 simp only [fdO, exA, exC, exL, vaA, vaC, List.map_cons, List.map_nil]
 have hb : findV row y e = ((findV row y e).1, (findV row y e).2) := rfl
 generalize hb1 : (findV row y e).1 = b at *
 generalize hb2 : (findV row y e).2 = e2 at *
 repeat' first | ((with_reducible first | refine cs ?_ ?_ | refine ws ?_ ?_) <;> intro h <;> try simp only [h]) | simp only [↓wBA, tFe, convA, seval, exC_len] | ((with_reducible show ACalls _ _ _ _ _); first | (refine (afail row _ _ _ 0 rfl).mono ?_; rintro _ _ ⟨_, ⟨rfl, rfl⟩, rfl⟩; simp only [fdO, vaA, vaC, List.map_cons, List.map_nil]) | (refine (atruth _ _).eq ?_; simp only [vaA, vaC, trV, List.map_cons, List.map_nil]) | refine (asomeV (_, _, _) _).eq ?_ | (refine (hy _ _ 0 rfl).mono ?_; rintro _ _ ⟨_, ⟨rfl, rfl⟩, rfl⟩; simp only [hb1, hb2]; obtain ⟨b1, b2, b3⟩ := b; simp only [fdO, vaA, vaC, List.map_cons, List.map_nil]))
 all_goals refine ret_obI (a := _) (b := _) (fdP _ _) ?_ rfl rfl
 all_goals simp only [↓wBA, tFe, convA, seval]
 all_goals simp_all [wS, fdO, vaA, vaC, logA, logB, eqV, trV, failV, va0, emp]
 all_goals grind
theorem aoneV (row : List Va) (k vk vn : Int) (vs tb nm : ByteArray) (s : Int) (x : Ex) (hx : FindOK row x) (e : Int) : OCalls (fdO row) 115 (fun t => [.mp t 2 0 0, exA (.mk k vk vn vs tb nm s [x])]) e fun r e' => r = vaA (oneV k (findV row x e).1 (findV row x e).2).1 ∧ e' = (oneV k (findV row x e).1 (findV row x e).2).2 := by
 refine OCalls.of (fdP row) (fun t => rfl) rfl ?_
 refine acalls_of cx_ok dr_ok Tryz.func115 (by kernel_rfl) rfl (nt := 63) (rs := [.cell 4 41]) rfl rfl ?_
 simp only [fdO, exA, exC, exL, List.map_cons, List.map_nil]
 generalize hb1 : (findV row x e).1 = b at *
 generalize hb2 : (findV row x e).2 = e2 at *
 repeat' first | ((with_reducible first | refine cs ?_ ?_ | refine ws ?_ ?_) <;> intro h <;> try simp only [h]) | simp only [↓wBA, tFe, convA, seval, exC_len, List.length_map] | ((with_reducible show ACalls _ _ _ _ _); first | (refine (afail row _ _ _ 0 rfl).mono ?_; rintro _ _ ⟨_, ⟨rfl, rfl⟩, rfl⟩; simp only [fdO, vaA, vaC, List.map_cons, List.map_nil]) | (refine (atruth _ _).eq ?_; simp only [vaA, vaC, trV, List.map_cons, List.map_nil]) | (refine (hx _ _ 0 rfl).mono ?_; rintro _ _ ⟨_, ⟨rfl, rfl⟩, rfl⟩; simp only [hb1, hb2]; obtain ⟨b1, b2, b3⟩ := b; simp only [fdO, vaA, vaC, List.map_cons, List.map_nil]))
 all_goals refine ret_obI (a := _) (b := _) (fdP _ _) ?_ rfl rfl
 all_goals simp only [↓wBA, tFe, convA, seval]
 all_goals simp_all [wS, fdO, vaA, vaC, oneV, trV, failV, va0, emp]
 all_goals grind
theorem rel_get (k c : Int) (h : 10 ≤ k) (h' : k ≤ 15) : ([[PV.v (.bool (c == 0))], [.v (.bool (c != 0))], [.v (.bool (decide (c < 0)))], [.v (.bool (decide (c ≤ 0)))], [.v (.bool (decide (c > 0)))], [.v (.bool (decide (c ≥ 0)))]] : List (List PV))[(k - 10).toNat]? = some [.v (.bool (relV k c))] := by
 have : k = 10 ∨ k = 11 ∨ k = 12 ∨ k = 13 ∨ k = 14 ∨ k = 15 := by omega
 rcases this with rfl | rfl | rfl | rfl | rfl | rfl <;> simp [relV, bne] <;> grind
theorem atwoV (row : List Va) (k vk vn : Int) (vs tb nm : ByteArray) (s : Int) (hk : 5 ≤ k ∧ k ≤ 17) (x y : Ex) (hx : FindOK row x) (hy : FindOK row y) (e : Int) : OCalls (fdO row) 116 (fun t => [.mp t 2 0 0, exA (.mk k vk vn vs tb nm s [x, y])]) e fun r e' => r = vaA (findV row (.mk k vk vn vs tb nm s [x, y]) e).1 ∧ e' = (findV row (.mk k vk vn vs tb nm s [x, y]) e).2 := by
 refine OCalls.of (fdP row) (fun t => rfl) rfl ?_
 refine acalls_of cx_ok dr_ok Tryz.func116 (by kernel_rfl) rfl (nt := 98) (rs := [.cell 4 41]) rfl rfl ?_
 simp only [fdO, exA, exC, exL, List.map_cons, List.map_nil]
 have hL := fun a e => alogV row k vk vn vs tb nm s x y hy a e
 have hk2 : kidsV k = 2 := by unfold kidsV; rw [if_neg (by omega), if_neg (by omega), if_pos hk]
 simp only [findV, hk2]
 generalize hb1 : (findV row x e).1 = a at *
 generalize hb2 : (findV row x e).2 = e2 at *
 obtain ⟨a1, a2, a3⟩ := a
 generalize hc1 : (findV row y e2).1 = b at *
 generalize hc2 : (findV row y e2).2 = e3 at *
 obtain ⟨b1, b2, b3⟩ := b
 rcases (by omega : k ≤ 9 ∨ (10 ≤ k ∧ k ≤ 15) ∨ 16 ≤ k) with h9 | ⟨h10, h15⟩ | h16
 ·have d1 : decide (k ≥ 16) = false := by simp; omega
  have d2 : decide (k ≤ 9) = true := by simp; omega
  have d3 : ¬ 16 ≤ k := by omega
  repeat' first | ((with_reducible first | refine cs ?_ ?_ | refine ws ?_ ?_) <;> intro h <;> try simp only [h]) | simp only [↓wBA, tFe, convA, seval, exC_len, List.length_map, d1, d2] | ((with_reducible show ACalls _ _ _ _ _); first | (refine (afail row _ _ _ 0 rfl).mono ?_; rintro _ _ ⟨_, ⟨rfl, rfl⟩, rfl⟩; simp only [fdO, vaA, vaC, List.map_cons, List.map_nil]) | (refine (hx _ _ 0 rfl).mono ?_; rintro _ _ ⟨_, ⟨rfl, rfl⟩, rfl⟩; simp only [hb1, hb2]; simp only [fdO, vaA, vaC, List.map_cons, List.map_nil]) | (refine (hy _ _ 0 rfl).mono ?_; rintro _ _ ⟨_, ⟨rfl, rfl⟩, rfl⟩; simp only [hc1, hc2]; simp only [fdO, vaA, vaC, List.map_cons, List.map_nil]) | (refine (anumV row _ _ _ _ _ 0 rfl).mono ?_; rintro _ _ ⟨_, ⟨rfl, rfl⟩, rfl⟩; simp only [fdO, vaA, vaC, List.map_cons, List.map_nil]))
  all_goals simp only [d3, ne_eq, not_true_eq_false, if_false]
  all_goals refine ret_obI (a := _) (b := _) (fdP _ _) ?_ rfl rfl
  all_goals simp only [↓wBA, tFe, convA, seval]
  all_goals simp_all [wS, fdO, vaA, vaC, twoV, trV, failV, va0, emp]
  all_goals grind
 ·have d1 : decide (k ≥ 16) = false := by simp; omega
  have d2 : decide (k ≤ 9) = false := by simp; omega
  have d3 : ¬ 16 ≤ k := by omega
  have d4 : ¬ k ≤ 9 := by omega
  have hw : IntKind.i64.wrap (k - 10) = k - 10 := wrap_i64 (by omega) (by omega)
  have h0 : ((0 : Int) ≤ k - 10) = True := eq_true (by omega)
  have hg := fun c => rel_get k c h10 h15
  repeat' first | ((with_reducible first | refine cs ?_ ?_ | refine ws ?_ ?_) <;> intro h <;> try simp only [h]) | simp only [↓wBA, tFe, convA, seval, exC_len, List.length_map, d1, d2, hw, h0, hg] | ((with_reducible show ACalls _ _ _ _ _); first | (refine (afail row _ _ _ 0 rfl).mono ?_; rintro _ _ ⟨_, ⟨rfl, rfl⟩, rfl⟩; simp only [fdO, vaA, vaC, List.map_cons, List.map_nil]) | (refine (atruth _ _).eq ?_; simp only [vaA, vaC, trV, List.map_cons, List.map_nil]) | (refine (hx _ _ 0 rfl).mono ?_; rintro _ _ ⟨_, ⟨rfl, rfl⟩, rfl⟩; simp only [hb1, hb2]; simp only [fdO, vaA, vaC, List.map_cons, List.map_nil]) | (refine (hy _ _ 0 rfl).mono ?_; rintro _ _ ⟨_, ⟨rfl, rfl⟩, rfl⟩; simp only [hc1, hc2]; simp only [fdO, vaA, vaC, List.map_cons, List.map_nil]) | refine (acmpV (_, _, _) (_, _, _) _).eq ?_)
  all_goals simp only [d3, d4, ne_eq, not_true_eq_false, if_false]
  all_goals refine ret_obI (a := _) (b := _) (fdP _ _) ?_ rfl rfl
  all_goals simp only [↓wBA, tFe, convA, seval]
  all_goals simp_all [wS, fdO, vaA, vaC, twoV, trV, failV, va0, emp]
  all_goals grind
 ·have d1 : decide (k ≥ 16) = true := by simp; omega
  repeat' first | ((with_reducible first | refine cs ?_ ?_ | refine ws ?_ ?_) <;> intro h <;> try simp only [h]) | simp only [↓wBA, tFe, convA, seval, exC_len, List.length_map, d1] | ((with_reducible show ACalls _ _ _ _ _); first | (refine (hx _ _ 0 rfl).mono ?_; rintro _ _ ⟨_, ⟨rfl, rfl⟩, rfl⟩; simp only [hb1, hb2]; simp only [fdO, vaA, vaC, List.map_cons, List.map_nil]) | (refine (hL (_, _, _) _ _ 0 rfl).mono ?_; rintro _ _ ⟨_, ⟨rfl, rfl⟩, rfl⟩; simp only [fdO, vaA, vaC, List.map_cons, List.map_nil]))
  all_goals simp only [h16, ne_eq, not_true_eq_false, if_false, if_true]
  all_goals refine ret_obI (a := _) (b := _) (fdP _ _) ?_ rfl rfl
  all_goals simp only [↓wBA, tFe, convA, seval]
  all_goals simp_all [wS, fdO, vaA, vaC]
  all_goals grind
end Go.Proofs.YtcnkmandddfdmaaGreatDoor
namespace Go.Proofs.YtcnkmandddfdmaaGreatDoor
open Go.RowKit
def pl91_1Ff : Plan := (.det 0 (.det 1 (.det 2 (.det 3 (.det 4 (.act 5 (.det 6 .done)))))))
def pl91_3Ff : Plan := (.det 0 (.det 1 (.det 2 (.det 3 (.det 4 (.det 5 (.det 7 (.det 8 (.det 9 (.det 12 (.act 6 (.det 10 (.det 11 (.fin 13 (.fin 14 .done)))))))))))))))
def pl64_4Ff : Plan := (.det 0 (.det 1 (.det 2 (.det 3 (.det 4 (.act 5 (.det 6 .done)))))))
def tFf := aa wX <| aa wbu <| aa T2 <| aa T3 <| aa T33 <| aa T39 <| aa T41 <| aa T45 <| aa T78 <| aa T168 <| aa T170 <| aa T171 T197
theorem nc0 : ((0 : Nat) : Int) = 0 := nr rfl
theorem nc1 : ((1 : Nat) : Int) = 1 := nr rfl
theorem nc2 : ((2 : Nat) : Int) = 2 := nr rfl
theorem nc3 : ((3 : Nat) : Int) = 3 := nr rfl
theorem kidsV_le (k : Int) : kidsV k ≤ 2 := by unfold kidsV; split <;> (try split) <;> (try split) <;> omega
theorem find_nil (row : List Va) (k vk vn : Int) (vs tb nm : ByteArray) (s : Int) : FindOK row (.mk k vk vn vs tb nm s []) := by
 intro e
 refine OCalls.of (fdP row) (fun t => rfl) rfl ?_
 refine acalls_of cx_ok dr_ok Tryz.func91 (by kernel_rfl) rfl (nt := 26) (rs := [.cell 4 41]) rfl rfl ?_
 simp only [fdO, exA, exC, exL, List.map_cons, List.map_nil]
 have hf := afail row 1 e
 by_cases hk : kidsV k = 0
 ·have d : ((0 : Int) != kidsV k) = false := by simp [hk]
  repeat' first | ((with_reducible first | refine cs ?_ ?_ | refine ws ?_ ?_ | refine wd ?_ ?_ | refine wu ?_ ?_) <;> intro h <;> try simp only [h]) | simp only [↓wBA, tFf, convA, seval, pl91_1Ff, pl91_3Ff, exL, List.length_cons, List.length_nil, d, nc0, nc1, nc2, nc3] | ((with_reducible show ACalls _ _ _ _ _); first | (refine (afail row _ _ _ 0 rfl).mono ?_; rintro _ _ ⟨_, ⟨rfl, rfl⟩, rfl⟩; simp only [fdO, vaA, vaC, List.map_cons, List.map_nil]) | refine (akidsV _ _).eq ?_ | (refine (aleafV row k vk vn vs tb nm s [] _ _ 0 rfl).mono ?_; rintro _ _ ⟨_, ⟨rfl, rfl⟩, rfl⟩; simp only [fdO, vaA, vaC, List.map_cons, List.map_nil])) | (with_reducible refine dP pl91_1Ff 7 (some 5) (by decide) (by kernel_rfl) ?_) | (with_reducible refine dP pl91_3Ff 15 (some 14) (by decide) (by kernel_rfl) ?_)
  all_goals refine ret_obI (a := _) (b := _) (fdP _ _) ?_ rfl rfl
  all_goals simp only [↓wBA, tFf, convA, seval]
  all_goals simp_all [wS, fdO, vaA, vaC, findV, failV, va0, emp]
 ·have d : ((0 : Int) != kidsV k) = true := by simp; omega
  repeat' first | ((with_reducible first | refine cs ?_ ?_ | refine ws ?_ ?_ | refine wd ?_ ?_ | refine wu ?_ ?_) <;> intro h <;> try simp only [h]) | simp only [↓wBA, tFf, convA, seval, pl91_1Ff, pl91_3Ff, exL, List.length_cons, List.length_nil, d, nc0, nc1, nc2, nc3] | ((with_reducible show ACalls _ _ _ _ _); first | (refine (afail row _ _ _ 0 rfl).mono ?_; rintro _ _ ⟨_, ⟨rfl, rfl⟩, rfl⟩; simp only [fdO, vaA, vaC, List.map_cons, List.map_nil]) | refine (akidsV _ _).eq ?_) | (with_reducible refine dP pl91_1Ff 7 (some 5) (by decide) (by kernel_rfl) ?_) | (with_reducible refine dP pl91_3Ff 15 (some 14) (by decide) (by kernel_rfl) ?_)
  all_goals refine ret_obI (a := _) (b := _) (fdP _ _) ?_ rfl rfl
  all_goals simp only [↓wBA, tFf, convA, seval]
  all_goals simp_all [wS, fdO, vaA, vaC, findV, failV, va0, emp]
theorem find_one (row : List Va) (k vk vn : Int) (vs tb nm : ByteArray) (s : Int) (x : Ex) (hx : FindOK row x) : FindOK row (.mk k vk vn vs tb nm s [x]) := by
 intro e
 refine OCalls.of (fdP row) (fun t => rfl) rfl ?_
 refine acalls_of cx_ok dr_ok Tryz.func91 (by kernel_rfl) rfl (nt := 26) (rs := [.cell 4 41]) rfl rfl ?_
 simp only [fdO, exA, exC, exL, List.map_cons, List.map_nil]
 have hf := afail row 1 e
 by_cases hk : kidsV k = 1
 ·have d : ((1 : Int) != kidsV k) = false := by simp [hk]
  repeat' first | ((with_reducible first | refine cs ?_ ?_ | refine ws ?_ ?_ | refine wd ?_ ?_ | refine wu ?_ ?_) <;> intro h <;> try simp only [h]) | simp only [↓wBA, tFf, convA, seval, pl91_1Ff, pl91_3Ff, exL, List.length_cons, List.length_nil, d, nc0, nc1, nc2, nc3] | ((with_reducible show ACalls _ _ _ _ _); first | (refine (afail row _ _ _ 0 rfl).mono ?_; rintro _ _ ⟨_, ⟨rfl, rfl⟩, rfl⟩; simp only [fdO, vaA, vaC, List.map_cons, List.map_nil]) | refine (akidsV _ _).eq ?_ | (refine (aoneV row k vk vn vs tb nm s x hx _ _ 0 rfl).mono ?_; rintro _ _ ⟨_, ⟨rfl, rfl⟩, rfl⟩; simp only [fdO, vaA, vaC, List.map_cons, List.map_nil])) | (with_reducible refine dP pl91_1Ff 7 (some 5) (by decide) (by kernel_rfl) ?_) | (with_reducible refine dP pl91_3Ff 15 (some 14) (by decide) (by kernel_rfl) ?_)
  all_goals refine ret_obI (a := _) (b := _) (fdP _ _) ?_ rfl rfl
  all_goals simp only [↓wBA, tFf, convA, seval]
  all_goals simp_all [wS, fdO, vaA, vaC, findV, failV, va0, emp]
 ·have d : ((1 : Int) != kidsV k) = true := by simp; omega
  repeat' first | ((with_reducible first | refine cs ?_ ?_ | refine ws ?_ ?_ | refine wd ?_ ?_ | refine wu ?_ ?_) <;> intro h <;> try simp only [h]) | simp only [↓wBA, tFf, convA, seval, pl91_1Ff, pl91_3Ff, exL, List.length_cons, List.length_nil, d, nc0, nc1, nc2, nc3] | ((with_reducible show ACalls _ _ _ _ _); first | (refine (afail row _ _ _ 0 rfl).mono ?_; rintro _ _ ⟨_, ⟨rfl, rfl⟩, rfl⟩; simp only [fdO, vaA, vaC, List.map_cons, List.map_nil]) | refine (akidsV _ _).eq ?_) | (with_reducible refine dP pl91_1Ff 7 (some 5) (by decide) (by kernel_rfl) ?_) | (with_reducible refine dP pl91_3Ff 15 (some 14) (by decide) (by kernel_rfl) ?_)
  all_goals refine ret_obI (a := _) (b := _) (fdP _ _) ?_ rfl rfl
  all_goals simp only [↓wBA, tFf, convA, seval]
  all_goals simp_all [wS, fdO, vaA, vaC, findV, failV, va0, emp]
theorem find_two (row : List Va) (k vk vn : Int) (vs tb nm : ByteArray) (s : Int) (x y : Ex) (hx : FindOK row x) (hy : FindOK row y) : FindOK row (.mk k vk vn vs tb nm s [x, y]) := by
 intro e
 refine OCalls.of (fdP row) (fun t => rfl) rfl ?_
 refine acalls_of cx_ok dr_ok Tryz.func91 (by kernel_rfl) rfl (nt := 26) (rs := [.cell 4 41]) rfl rfl ?_
 simp only [fdO, exA, exC, exL, List.map_cons, List.map_nil]
 have hf := afail row 1 e
 by_cases hk : kidsV k = 2
 ·have d : ((2 : Int) != kidsV k) = false := by simp [hk]
  have hk5 : 5 ≤ k ∧ k ≤ 17 := by
   by_cases h5 : 5 ≤ k ∧ k ≤ 17
   ·exact h5
   ·exfalso
    unfold kidsV at hk
    rw [if_neg h5] at hk
    split at hk <;> (try split at hk) <;> omega
  repeat' first | ((with_reducible first | refine cs ?_ ?_ | refine ws ?_ ?_ | refine wd ?_ ?_ | refine wu ?_ ?_) <;> intro h <;> try simp only [h]) | simp only [↓wBA, tFf, convA, seval, pl91_1Ff, pl91_3Ff, exL, List.length_cons, List.length_nil, d, nc0, nc1, nc2, nc3] | ((with_reducible show ACalls _ _ _ _ _); first | (refine (afail row _ _ _ 0 rfl).mono ?_; rintro _ _ ⟨_, ⟨rfl, rfl⟩, rfl⟩; simp only [fdO, vaA, vaC, List.map_cons, List.map_nil]) | refine (akidsV _ _).eq ?_ | (refine (atwoV row k vk vn vs tb nm s hk5 x y hx hy _ _ 0 rfl).mono ?_; rintro _ _ ⟨_, ⟨rfl, rfl⟩, rfl⟩; simp only [fdO, vaA, vaC, List.map_cons, List.map_nil])) | (with_reducible refine dP pl91_1Ff 7 (some 5) (by decide) (by kernel_rfl) ?_) | (with_reducible refine dP pl91_3Ff 15 (some 14) (by decide) (by kernel_rfl) ?_)
  all_goals refine ret_obI (a := _) (b := _) (fdP _ _) ?_ rfl rfl
  all_goals simp only [↓wBA, tFf, convA, seval]
  all_goals simp_all [wS, fdO, vaA, vaC, findV, failV, va0, emp]
 ·have d : ((2 : Int) != kidsV k) = true := by simp; omega
  repeat' first | ((with_reducible first | refine cs ?_ ?_ | refine ws ?_ ?_ | refine wd ?_ ?_ | refine wu ?_ ?_) <;> intro h <;> try simp only [h]) | simp only [↓wBA, tFf, convA, seval, pl91_1Ff, pl91_3Ff, exL, List.length_cons, List.length_nil, d, nc0, nc1, nc2, nc3] | ((with_reducible show ACalls _ _ _ _ _); first | (refine (afail row _ _ _ 0 rfl).mono ?_; rintro _ _ ⟨_, ⟨rfl, rfl⟩, rfl⟩; simp only [fdO, vaA, vaC, List.map_cons, List.map_nil]) | refine (akidsV _ _).eq ?_) | (with_reducible refine dP pl91_1Ff 7 (some 5) (by decide) (by kernel_rfl) ?_) | (with_reducible refine dP pl91_3Ff 15 (some 14) (by decide) (by kernel_rfl) ?_)
  all_goals refine ret_obI (a := _) (b := _) (fdP _ _) ?_ rfl rfl
  all_goals simp only [↓wBA, tFf, convA, seval]
  all_goals simp_all [wS, fdO, vaA, vaC, findV, failV, va0, emp]
theorem find_more (row : List Va) (k vk vn : Int) (vs tb nm : ByteArray) (s : Int) (x y z : Ex) (l : List Ex) : FindOK row (.mk k vk vn vs tb nm s (x :: y :: z :: l)) := by
 intro e
 refine OCalls.of (fdP row) (fun t => rfl) rfl ?_
 refine acalls_of cx_ok dr_ok Tryz.func91 (by kernel_rfl) rfl (nt := 26) (rs := [.cell 4 41]) rfl rfl ?_
 simp only [fdO, exA, exC, exL, List.map_cons, List.map_nil]
 have hf := afail row 1 e
 have d : ((((exL l).length + 1 + 1 + 1 : Nat) : Int) != kidsV k) = true := by have := kidsV_le k; simp; omega
 repeat' first | ((with_reducible first | refine cs ?_ ?_ | refine ws ?_ ?_ | refine wd ?_ ?_ | refine wu ?_ ?_) <;> intro h <;> try simp only [h]) | simp only [↓wBA, tFf, convA, seval, pl91_1Ff, pl91_3Ff, d] | ((with_reducible show ACalls _ _ _ _ _); first | (refine (afail row _ _ _ 0 rfl).mono ?_; rintro _ _ ⟨_, ⟨rfl, rfl⟩, rfl⟩; simp only [fdO, vaA, vaC, List.map_cons, List.map_nil]) | refine (akidsV _ _).eq ?_) | (with_reducible refine dP pl91_1Ff 7 (some 5) (by decide) (by kernel_rfl) ?_) | (with_reducible refine dP pl91_3Ff 15 (some 14) (by decide) (by kernel_rfl) ?_)
 all_goals refine ret_obI (a := _) (b := _) (fdP _ _) ?_ rfl rfl
 all_goals simp only [↓wBA, tFf, convA, seval]
 all_goals simp_all [wS, fdO, vaA, vaC, findV, failV, va0, emp]
mutual
theorem afind (row : List Va) : ∀ x : Ex, FindOK row x
 | .mk k vk vn vs tb nm s [] => find_nil row k vk vn vs tb nm s
 | .mk k vk vn vs tb nm s [x] => find_one row k vk vn vs tb nm s x (afind row x)
 | .mk k vk vn vs tb nm s [x, y] => find_two row k vk vn vs tb nm s x y (afind row x) (afind row y)
 | .mk k vk vn vs tb nm s (x :: y :: z :: l) => find_more row k vk vn vs tb nm s x y z l
end
theorem aevalV (row : List Va) (x : Ex) (σ : St) : ACalls Tryz.prog 64 [exA x, .p (.sl 3 (enV row))] σ fun r s => s = σ ∧ r = .tup [vaA (evalV row x).1, intV .i64 (evalV row x).2] := by
 refine ACalls.pureF (R := fun r => r = .tup [vaA (evalV row x).1, intV .i64 (evalV row x).2]) ?_ (by cases x; rfl) σ
 have hx := afind row x 0
 generalize hb : findV row x 0 = b at *
 obtain ⟨⟨b1, b2, b3⟩, e2⟩ := b
 obtain ⟨k, vk, vn, vs, tb, nm, s, kids⟩ := x
 refine acalls_of cx_ok dr_ok Tryz.func64 (by kernel_rfl) rfl (nt := 23) (rs := [.cell 4 41, .tmp 5]) rfl rfl ?_
 simp only [exA, exC, List.map_cons, List.map_nil]
 have hc : ∀ σ t, σ[t]? = some (some (.row 2 [[.p (.sl 3 (enV row)), .p (.v (.int .i64 0))]])) → ACalls Tryz.prog 91 [.mp t 2 0 0, .agg ((exC (.mk k vk vn vs tb nm s kids)).map .p)] σ fun r σ' => r = vaA (b1, b2, b3) ∧ σ' = σ.set t (some (fdO row e2)) := fun σ t ht => (hx σ t ht).mono fun r σ' ⟨e', ⟨h1, h2⟩, h3⟩ => by subst h1 h2 h3; exact ⟨rfl, rfl⟩
 simp only [exC, List.map_cons, List.map_nil] at hc
 repeat' first | ((with_reducible first | refine cs ?_ ?_ | refine ws ?_ ?_ | refine wd ?_ ?_ | refine wu ?_ ?_) <;> intro h <;> try simp only [h]) | simp only [↓wBA, tFf, convA, seval, pl64_4Ff] | ((with_reducible show ACalls _ _ _ _ _); refine (hc _ 2 rfl).mono ?_; rintro _ _ ⟨rfl,rfl⟩; simp only [fdO, vaA, vaC, List.map_cons, List.map_nil]) | (with_reducible refine dP pl64_4Ff 7 (some 19) (by decide) (by kernel_rfl) ?_)
 all_goals refine ret_is (a := _) ?_ rfl rfl
 all_goals simp only [↓wBA, tFf, convA, seval]
 all_goals simp_all [wS, vaA, vaC, evalV, va0, emp]
theorem aholdsV (row : List Va) (x : Ex) (σ : St) : ACalls Tryz.prog 93 [exA x, .p (.sl 3 (enV row))] σ fun r s => s = σ ∧ r = .tup [boolV (holdsV row x).1, intV .i64 (holdsV row x).2] := by
 refine ACalls.pureF (R := fun r => r = .tup [boolV (holdsV row x).1, intV .i64 (holdsV row x).2]) ?_ (by cases x; rfl) σ
 have hx := aevalV row x
 generalize hb : evalV row x = b at *
 obtain ⟨⟨b1, b2, b3⟩, e2⟩ := b
 obtain ⟨k, vk, vn, vs, tb, nm, s, kids⟩ := x
 simp only [exA, exC, vaA, vaC, List.map_cons, List.map_nil] at hx
 refine acalls_of cx_ok dr_ok Tryz.func93 (by kernel_rfl) rfl (nt := 37) (rs := [.tmp 4, .tmp 5]) rfl rfl ?_
 simp only [exA, exC, List.map_cons, List.map_nil]
 repeat' first | ((with_reducible first | refine cs ?_ ?_ | refine ws ?_ ?_) <;> intro h <;> try simp only [h]) | simp only [↓wBA, tFf, convA, seval] | ((with_reducible show ACalls _ _ _ _ _); refine (hx _).eq ?_)
 all_goals refine ret_is (a := _) ?_ rfl rfl
 all_goals simp only [↓wBA, tFf, convA, seval]
 all_goals simp_all [wS, holdsV]
 all_goals grind
end Go.Proofs.YtcnkmandddfdmaaGreatDoor
namespace Go.Proofs.YtcnkmandddfdmaaGreatDoor
open Go.RowKit
def tCl := aa wX <| aa wbu T39
theorem enV_cons (v : Va) (l : List Va) : enV (v :: l) = vaC v :: enV l := rfl
theorem aclone (l : List Va) (hl : l.length ≤ 4398046511104) (σ : St) : ACalls Tryz.prog 63 [.p (.sl 3 (enV l))] σ fun r s => s = σ ∧ r = .p (.sl 3 (enV l)) := by
 refine ACalls.pureF (R := fun r => r = .p (.sl 3 (enV l))) ?_ rfl σ
 cases l with
 | nil =>
   refine ACalls.nilSplit ?_ fun ad c => ?_
   ·skip
    refine acalls_of cx_ok dr_ok Tryz.func63 (by kernel_rfl) rfl (nt := 7) (rs := [.tmp 2]) rfl rfl ?_
    repeat' first | ((with_reducible first | refine cs ?_ ?_ | refine ws ?_ ?_) <;> intro h <;> try simp only [h]) | simp only [↓wBA, tCl, convA, seval, appendA, srcA]
    all_goals refine ret_is (a := _) ?_ rfl rfl
    all_goals simp only [↓wBA, tCl, convA, seval]
    all_goals simp_all [wS, enV]
   ·skip
    refine acalls_of cx_ok dr_ok Tryz.func63 (by kernel_rfl) rfl (nt := 7) (rs := [.tmp 2]) rfl rfl ?_
    have hlim2 : (0 ≤ maxLen) = True := eq_true (Nat.zero_le _)
    repeat' first | ((with_reducible first | refine cs ?_ ?_ | refine ws ?_ ?_) <;> intro h <;> try simp only [h]) | simp only [↓wBA, tCl, convA, seval, appendA, srcA, hlim2, Nat.zero_le, Nat.zero_mul]
    all_goals refine ret_is (a := _) ?_ rfl rfl
    all_goals simp only [↓wBA, tCl, convA, seval]
    all_goals simp_all [wS, enV]
 | cons v l =>
   simp only [List.length_cons] at hl
   have hlim1 := tL (n := (l.length + 1) * 32) (by omega)
   have hlim2 := lM (n := l.length + 1) (by omega)
   refine acalls_of cx_ok dr_ok Tryz.func63 (by kernel_rfl) rfl (nt := 7) (rs := [.tmp 2]) rfl rfl ?_
   simp only [enV_cons]
   repeat' first | ((with_reducible first | refine cs ?_ ?_ | refine ws ?_ ?_) <;> intro h <;> try simp only [h]) | simp only [↓wBA, tCl, convA, seval, appendA, srcA, enV_len, hlim1, hlim2]
   all_goals refine ret_is (a := _) ?_ rfl rfl
   all_goals simp only [↓wBA, tCl, convA, seval]
   all_goals simp_all [wS, enV]
def cxM : Ctx := { cx with muts := [39 * 100000 + 7] }
theorem cxM_ok : cxM.ok Tryz.prog := cx_ok
theorem drM_ok : DrawOk Tryz.prog (aDraw Tryz.prog cxM) := aDraw_ok cxM_ok (by kernel_rfl)
theorem kindM (t : TypeId) : cxM.kind t = cx.kind t := nr rfl
theorem tyM (t : TypeId) : cxM.ty t = cx.ty t := nr rfl
theorem mutsM : cxM.muts = [39 * 100000 + 7] := nr rfl
theorem get_concat {σ : St} {x : Option Ob} : (σ ++ [x])[σ.length]? = some x := by simp
theorem set_concat {σ : St} {x y : Option Ob} : (σ ++ [x]).set σ.length y = σ ++ [y] := by simp
theorem len_concat {σ : St} {x : Option Ob} : (σ ++ [x]).length = σ.length + 1 := by simp
theorem app_concat {σ : St} {x y : Option Ob} : σ ++ [x] ++ [y] = σ ++ [x, y] := by simp
def muR (l : List Va) : List (List AV) := l.map fun v => (vaC v).map .p
theorem muR_len (l : List Va) : (muR l).length = l.length := by simp [muR]
theorem acloneM (v : Va) (l : List Va) (hl : l.length + 1 ≤ 4398046511104) (σ : St) : ACalls Tryz.prog 63 [.p (.sl 3 (enV (v :: l)))] σ fun r s => r = .ms (σ.length + 1) 3 0 (l.length + 1) ∧ s = σ ++ [none, some (.row 3 (muR (v :: l)))] := by
 have hlim1 := tL (n := (l.length + 1) * 32) (by omega)
 have hlim2 := lM (n := l.length + 1) (by omega)
 refine acalls_of cxM_ok drM_ok Tryz.func63 (by kernel_rfl) rfl (nt := 7) (rs := [.tmp 2]) rfl rfl ?_
 simp only [enV_cons]
 repeat' first | ((with_reducible first | refine cs ?_ ?_ | refine ws ?_ ?_) <;> intro h <;> try simp only [h]) | simp only [↓wBA, tCl, convA, seval, appendM, srcM, srcA, enV_len, hlim1, hlim2, kindM, tyM, mutsM, get_concat, set_concat, len_concat, app_concat]
 refine ⟨.inl rfl, _, _, _, rfl, .inl ⟨rfl, rfl⟩, by simp, rfl, ?_⟩
 simp [muR, enV]
end Go.Proofs.YtcnkmandddfdmaaGreatDoor
namespace Go.Proofs.YtcnkmandddfdmaaGreatDoor
open Go.RowKit
def tFi := aa wX <| aa wbu <| aa T3 <| aa T25 <| aa T39 <| aa T45 <| aa T78 T174
def leastI (l e : Int) : Int := if e ≠ 0 ∧ (l = 0 ∨ e < l) then e else l
def lsO (e : Int) : Ob := .row 1 [[intV .i64 e]]
theorem lsP (e : Int) : PlainOb (lsO e) := ⟨fun g => by simp [renOb, lsO, renL, renA, intV], fun n => by simp [tokOb, lsO, tokLtL, tokLt, intV], 1, _, rfl⟩
theorem asee (l e : Int) : OCalls lsO 94 (fun t => [.mp t 1 0 0, intV .i64 e]) l fun r l' => r = .tup [] ∧ l' = leastI l e := by
 refine OCalls.of lsP (fun t => rfl) rfl ?_
 refine acalls_of cx_ok dr_ok Tryz.func94 (by kernel_rfl) rfl (nt := 20) (rs := []) rfl rfl ?_
 simp only [lsO]
 repeat' first | ((with_reducible first | refine cs ?_ ?_ | refine ws ?_ ?_) <;> intro h <;> try simp only [h]) | simp only [↓wBA, tFi, convA, seval]
 all_goals refine ret_obI (a := _) (b := _) (lsP _) ?_ rfl rfl
 all_goals simp only [↓wBA, tFi, convA, seval]
 all_goals simp_all [wS, lsO, leastI]
 all_goals grind
def ansS (l : Int) (rows : List (List Va)) : List (List Va) × Int := if l ≠ 0 then ([], l) else if rows.length > 10000 then ([], 20) else (rows, 0)
theorem aanswer (l : Int) (rows : List (List Va)) (σ : St) : ACalls Tryz.prog 95 [intV .i64 l, .p (nilSl 1 (enVV rows))] σ fun r s => s = σ ∧ r = .tup [.p (.sl 1 (enVV (ansS l rows).1)), intV .i64 (ansS l rows).2] := by
 refine ACalls.pureF (R := fun r => r = .tup [.p (.sl 1 (enVV (ansS l rows).1)), intV .i64 (ansS l rows).2]) ?_ rfl σ
 cases rows with
 | nil =>
   refine acalls_of cx_ok dr_ok Tryz.func95 (by kernel_rfl) rfl (nt := 13) (rs := [.tmp 4, .tmp 5]) rfl rfl ?_
   simp only [nilSl, enVV, List.map_nil, List.isEmpty_nil, if_true]
   repeat' first | ((with_reducible first | refine cs ?_ ?_ | refine ws ?_ ?_) <;> intro h <;> try simp only [h]) | simp only [↓wBA, tFi, convA, seval]
   all_goals refine ret_is (a := _) ?_ rfl rfl
   all_goals simp only [↓wBA, tFi, convA, seval]
   all_goals simp_all [wS, ansS, enVV]
   all_goals grind
 | cons r rows =>
   refine acalls_of cx_ok dr_ok Tryz.func95 (by kernel_rfl) rfl (nt := 13) (rs := [.tmp 4, .tmp 5]) rfl rfl ?_
   simp only [nilSl, enVV, List.map_cons, List.isEmpty_cons, Bool.false_eq_true, if_false]
   repeat' first | ((with_reducible first | refine cs ?_ ?_ | refine ws ?_ ?_) <;> intro h <;> try simp only [h]) | simp only [↓wBA, tFi, convA, seval, List.length_map]
   all_goals refine ret_is (a := _) ?_ rfl rfl
   all_goals simp only [↓wBA, tFi, convA, seval]
   all_goals simp_all [wS, ansS, enVV]
   all_goals grind
def filStep (x : Ex) (s : List (List Va) × Int) (r : List Va) : List (List Va) × Int := (if (holdsV r x).1 = true ∧ s.1.length ≤ 10000 then s.1 ++ [r] else s.1, leastI s.2 (holdsV r x).2)
def filS (rows : List (List Va)) (x : Ex) : List (List Va) × Int := ansS (rows.foldl (filStep x) ([], 0)).2 (rows.foldl (filStep x) ([], 0)).1
theorem take_step {α β : Type} (f : β → α → β) (b : β) (l : List α) (i : Nat) (h : i < l.length) : (l.take (i + 1)).foldl f b = f ((l.take i).foldl f b) l[i] := by
 rw [List.take_succ_eq_append_getElem h, List.foldl_append]; rfl
def OkRows (rows : List (List Va)) : Prop := rows.length ≤ 4398046511104 ∧ ∀ r ∈ rows, r.length ≤ 4398046511104
theorem afilter (rows : List (List Va)) (x : Ex) (hr : OkRows rows) (σ : St) : ACalls Tryz.prog 67 [.p (.sl 1 (enVV rows)), exA x] σ fun r s => s = σ ∧ r = .tup [.p (.sl 1 (enVV (filS rows x).1)), intV .i64 (filS rows x).2] := by
 refine ACalls.pureF (R := fun r => r = .tup [.p (.sl 1 (enVV (filS rows x).1)), intV .i64 (filS rows x).2]) ?_ (by cases x; rfl) σ
 obtain ⟨hn, hr⟩ := hr
 have hH := fun row => aholdsV row x
 unfold filS
 generalize hst : filStep x = stp at *
 have hstp : ∀ s r, stp s r = (if (holdsV r x).1 = true ∧ s.1.length ≤ 10000 then s.1 ++ [r] else s.1, leastI s.2 (holdsV r x).2) := fun s r => by rw [← hst]; rfl
 generalize hhv : (fun r => holdsV r x) = hv at *
 have hhv' : ∀ r, holdsV r x = hv r := fun r => by rw [← hhv]
 simp only [hhv'] at hH hstp
 clear hst hhv hhv'
 obtain ⟨k, vk, vn, vs, tb, nm, s, kids⟩ := x
 simp only [exA, exC, List.map_cons, List.map_nil] at hH
 refine acalls_of cx_ok dr_ok Tryz.func67 (by kernel_rfl) rfl (nt := 41) (rs := [.tmp 4, .tmp 5]) rfl rfl ?_
 simp only [exA, exC, List.map_cons, List.map_nil]
 simp only [↓wBA, tFi, convA, seval, enVV_len]
 refine awp_loopN (rows.length) (fun i => [(7, .nown 2 1 (enVV ((rows.take i).foldl stp ([], 0)).1)), (14, intV .i64 (i : Nat)), (9, .any), (10, .any), (11, .any), (15, .any), (16, .any), (17, .any), (18, .any), (19, .any), (20, .any), (21, .any), (22, .any), (23, .any), (24, .any), (25, .any), (26, .any), (27, .any), (28, .any), (29, .any), (30, .any), (31, .any), (32, .any), (33, .any), (34, .any), (35, .any), (36, .any), (37, .any)]) (fun i => [(1, .row 1 [[intV .i64 ((rows.take i).foldl stp ([], 0)).2]]), (2, .nright 39 (((rows.take i).foldl stp ([], 0)).1.length * 1))]) (fun i => True) ?_ ?_ ?_
 ·trivial
 ·skip
  simp only [wR, Nat.reduceAdd, Nat.reduceLT, reduceIte]
  simp [wW, enVV]
 ·intro i hi _
  simp only [wR, Nat.reduceAdd, Nat.reduceLT, reduceIte]
  by_cases hlt : i < rows.length
  ·have hdec := dT (i := i) (n := rows.length) (by omega)
   have hi0 := nnI i
   have hw := wI i (by omega)
   have hg := enVV_get rows i hlt
   have hst := take_step stp ([], 0) rows i hlt
   have hrl := hr rows[i] (List.getElem_mem hlt)
   rw [hstp] at hst
   generalize hs : (rows.take i).foldl stp ([], 0) = st at *
   obtain ⟨out, l⟩ := st
   simp only at hst
   generalize hrow : rows[i] = row at *
   by_cases ho : out.length ≤ 10000
   ·have hd : decide ((out.length : Int) ≤ 10000) = true := by simp; omega
    have hlim1 := tL (n := (out.length + 1) * 24) (by omega)
    have hlim2 := lM (n := out.length + 1) (by omega)
    repeat' first | ((with_reducible first | refine cs ?_ ?_ | refine ws ?_ ?_) <;> intro h <;> try simp only [h]) | simp only [↓wBA, tFi, convA, seval, enVV_len, hdec, hi0, hg, hw, hd, hlim1, hlim2, appendA, srcA, List.length_append] | ((with_reducible show ACalls _ _ _ _ _); first | refine (hH _ _).eq ?_ | (refine (asee _ _ _ 1 rfl).mono ?_; rintro _ _ ⟨_, ⟨rfl, rfl⟩, rfl⟩; simp only [lsO]) | refine (aclone _ hrl _).eq ?_)
    all_goals refine ⟨⟨i + 1, by omega, trivial⟩, by show rows.length - (i + 1) < rows.length - i; omega, ?_⟩
    all_goals simp only [wR, Nat.reduceAdd, Nat.reduceLT, reduceIte]
    all_goals simp_all [wW, enVV]
   ·have hd : decide ((out.length : Int) ≤ 10000) = false := by simp; omega
    repeat' first | ((with_reducible first | refine cs ?_ ?_ | refine ws ?_ ?_) <;> intro h <;> try simp only [h]) | simp only [↓wBA, tFi, convA, seval, enVV_len, hdec, hi0, hg, hw, hd] | ((with_reducible show ACalls _ _ _ _ _); first | refine (hH _ _).eq ?_ | (refine (asee _ _ _ 1 rfl).mono ?_; rintro _ _ ⟨_, ⟨rfl, rfl⟩, rfl⟩; simp only [lsO]))
    all_goals refine ⟨⟨i + 1, by omega, trivial⟩, by show rows.length - (i + 1) < rows.length - i; omega, ?_⟩
    all_goals simp only [wR, Nat.reduceAdd, Nat.reduceLT, reduceIte]
    all_goals simp_all [wW, enVV]
  ·have hdec := dF (i := i) (n := rows.length) (by omega)
   have ht : rows.take i = rows := List.take_of_length_le (by omega)
   simp only [ht]
   repeat' first | ((with_reducible first | refine cs ?_ ?_ | refine ws ?_ ?_) <;> intro h <;> try simp only [h]) | simp only [↓wBA, tFi, convA, seval, enVV_len, hdec] | ((with_reducible show ACalls _ _ _ _ _); refine ACalls.frzArgs ?_; simp only [frzL, frzA]; refine (aanswer _ _ _).eq ?_)
   all_goals refine ret_is (a := _) ?_ rfl rfl
   all_goals simp only [↓wBA, tFi, convA, seval]
   all_goals simp_all [wS]
end Go.Proofs.YtcnkmandddfdmaaGreatDoor
namespace Go.Proofs.YtcnkmandddfdmaaGreatDoor
open Go.RowKit
theorem awp_loopG {P : Program} {C : Ctx} {fr : List AV} {σ : St} {Q : Exit → List AV → St → Prop} {c : Code} {X : Type} (m : X → Nat) (D : X → List (Nat × AV)) (T : X → St) (x0 : X) (hl : ∀ x, σ.length ≤ (T x).length) (h2 : WeakE fr σ (setsF fr (D x0)) (T x0))
 (h3 : ∀ x, AWp P C (aDraw P C) c (setsF fr (D x)) (T x) (roundA (fun x => (setsF fr (D x), T x)) m x Q)) : AWp P C (aDraw P C) (.loop c) fr σ Q :=
 awp_loop' (X := X) (fun x => (setsF fr (D x), T x)) m x0 hl h2 h3
end Go.Proofs.YtcnkmandddfdmaaGreatDoor
