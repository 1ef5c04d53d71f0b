/- The finder: what expressions come to. What expressions come to: Eval, Holds. Rows cloned. Rows filtered. Are the values of a column of one kind? Rows in groups by a text: a map of slices that are appended to. -/
import Derived.Test.YtpcblbbddccgpaaDoorM11
set_option linter.unusedSimpArgs false
set_option linter.unusedVariables false
set_option linter.defProp false
set_option maxRecDepth 100000
set_option maxHeartbeats 32000000
namespace Go.Proofs.YtpcblbbddccgpaaDoor
open Go.RowKit
def tFe := aa wX <| aa wbu <| aa T2 <| aa T3 <| aa T4 <| aa T24 <| aa T25 <| aa T27 <| aa T31 <| aa T58 <| aa T69 T71
def FindOK (row : List Va) (x : Ex) : Prop := ∀ e, OCalls (fdO row) 36 (fun t => [.mp t 2 0 0, exA x]) e fun r e' => r = vaA (findV row x e).1 ∧ e' = (findV row x e).2
theorem asomeV (v : Va) (σ : St) : ACalls Tryd.prog 72 [vaA v] σ fun r s => s = σ ∧ r = boolV (someV v) := by
 refine ACalls.pureF (R := fun r => r = boolV (someV v)) ?_ rfl σ
 obtain ⟨k, n, t⟩ := v
 refine acalls_of cx_ok dr_ok Tryd.func72 (by kernel_rfl) rfl (nt := 10) (rs := [.tmp 2]) rfl rfl ?_
 simp only [vaA, vaC, List.map_cons, List.map_nil]
 repeat' first | ((with_reducible first | refine cs ?_ ?_ | refine ws ?_ ?_) <;> intro h <;> try simp only [h]) | simp only [↓wBA, tFe, convA, seval]
 all_goals refine ret_is (a := _) ?_ rfl rfl
 all_goals simp only [↓wBA, tFe, convA, seval]
 all_goals simp_all [wS, someV]
 all_goals grind
theorem alogV (row : List Va) (k vk vn : Int) (vs tb nm : ByteArray) (s : Int) (x y : Ex) (hy : FindOK row y) (a : Va) (e : Int) : OCalls (fdO row) 56 (fun t => [.mp t 2 0 0, exA (.mk k vk vn vs tb nm s [x, y]), vaA a]) e fun r e' => r = vaA (match logA k a e with | some r => r | none => logB k a (findV row y e).1 (findV row y e).2).1 ∧ e' = (match logA k a e with | some r => r | none => logB k a (findV row y e).1 (findV row y e).2).2 := by
 refine OCalls.of (fdP row) (fun t => rfl) rfl ?_
 obtain ⟨a1, a2, a3⟩ := a
 refine acalls_of cx_ok dr_ok Tryd.func56 (by kernel_rfl) rfl (nt := 64) (rs := [.cell 6 24]) rfl rfl ?_
 simp only [fdO, exA, exC, exL, vaA, vaC, List.map_cons, List.map_nil]
 have hb : findV row y e = ((findV row y e).1, (findV row y e).2) := rfl
 generalize hb1 : (findV row y e).1 = b at *
 generalize hb2 : (findV row y e).2 = e2 at *
 repeat' first | ((with_reducible first | refine cs ?_ ?_ | refine ws ?_ ?_) <;> intro h <;> try simp only [h]) | simp only [↓wBA, tFe, convA, seval, exC_len] | ((with_reducible show ACalls _ _ _ _ _); first | (refine (afail row _ _ _ 0 rfl).mono ?_; rintro _ _ ⟨_, ⟨rfl, rfl⟩, rfl⟩; simp only [fdO, vaA, vaC, List.map_cons, List.map_nil]) | (refine (atruth _ _).eq ?_; simp only [vaA, vaC, trV, List.map_cons, List.map_nil]) | refine (asomeV (_, _, _) _).eq ?_ | (refine (hy _ _ 0 rfl).mono ?_; rintro _ _ ⟨_, ⟨rfl, rfl⟩, rfl⟩; simp only [hb1, hb2]; obtain ⟨b1, b2, b3⟩ := b; simp only [fdO, vaA, vaC, List.map_cons, List.map_nil]))
 all_goals refine ret_obI (a := _) (b := _) (fdP _ _) ?_ rfl rfl
 all_goals simp only [↓wBA, tFe, convA, seval]
 all_goals simp_all [wS, fdO, vaA, vaC, logA, logB, eqV, trV, failV, va0, emp]
 all_goals grind
theorem aoneV (row : List Va) (k vk vn : Int) (vs tb nm : ByteArray) (s : Int) (x : Ex) (hx : FindOK row x) (e : Int) : OCalls (fdO row) 44 (fun t => [.mp t 2 0 0, exA (.mk k vk vn vs tb nm s [x])]) e fun r e' => r = vaA (oneV k (findV row x e).1 (findV row x e).2).1 ∧ e' = (oneV k (findV row x e).1 (findV row x e).2).2 := by
 refine OCalls.of (fdP row) (fun t => rfl) rfl ?_
 refine acalls_of cx_ok dr_ok Tryd.func44 (by kernel_rfl) rfl (nt := 63) (rs := [.cell 4 24]) rfl rfl ?_
 simp only [fdO, exA, exC, exL, List.map_cons, List.map_nil]
 generalize hb1 : (findV row x e).1 = b at *
 generalize hb2 : (findV row x e).2 = e2 at *
 repeat' first | ((with_reducible first | refine cs ?_ ?_ | refine ws ?_ ?_) <;> intro h <;> try simp only [h]) | simp only [↓wBA, tFe, convA, seval, exC_len, List.length_map] | ((with_reducible show ACalls _ _ _ _ _); first | (refine (afail row _ _ _ 0 rfl).mono ?_; rintro _ _ ⟨_, ⟨rfl, rfl⟩, rfl⟩; simp only [fdO, vaA, vaC, List.map_cons, List.map_nil]) | (refine (atruth _ _).eq ?_; simp only [vaA, vaC, trV, List.map_cons, List.map_nil]) | (refine (hx _ _ 0 rfl).mono ?_; rintro _ _ ⟨_, ⟨rfl, rfl⟩, rfl⟩; simp only [hb1, hb2]; obtain ⟨b1, b2, b3⟩ := b; simp only [fdO, vaA, vaC, List.map_cons, List.map_nil]))
 all_goals refine ret_obI (a := _) (b := _) (fdP _ _) ?_ rfl rfl
 all_goals simp only [↓wBA, tFe, convA, seval]
 all_goals simp_all [wS, fdO, vaA, vaC, oneV, trV, failV, va0, emp]
 all_goals grind
theorem rel_get (k c : Int) (h : 10 ≤ k) (h' : k ≤ 15) : ([[PV.v (.bool (c == 0))], [.v (.bool (c != 0))], [.v (.bool (decide (c < 0)))], [.v (.bool (decide (c ≤ 0)))], [.v (.bool (decide (c > 0)))], [.v (.bool (decide (c ≥ 0)))]] : List (List PV))[(k - 10).toNat]? = some [.v (.bool (relV k c))] := by
 have : k = 10 ∨ k = 11 ∨ k = 12 ∨ k = 13 ∨ k = 14 ∨ k = 15 := by omega
 rcases this with rfl | rfl | rfl | rfl | rfl | rfl <;> simp [relV, bne] <;> grind
theorem atwoV (row : List Va) (k vk vn : Int) (vs tb nm : ByteArray) (s : Int) (hk : 5 ≤ k ∧ k ≤ 17) (x y : Ex) (hx : FindOK row x) (hy : FindOK row y) (e : Int) : OCalls (fdO row) 45 (fun t => [.mp t 2 0 0, exA (.mk k vk vn vs tb nm s [x, y])]) e fun r e' => r = vaA (findV row (.mk k vk vn vs tb nm s [x, y]) e).1 ∧ e' = (findV row (.mk k vk vn vs tb nm s [x, y]) e).2 := by
 refine OCalls.of (fdP row) (fun t => rfl) rfl ?_
 refine acalls_of cx_ok dr_ok Tryd.func45 (by kernel_rfl) rfl (nt := 98) (rs := [.cell 4 24]) rfl rfl ?_
 simp only [fdO, exA, exC, exL, List.map_cons, List.map_nil]
 have hL := fun a e => alogV row k vk vn vs tb nm s x y hy a e
 have hk2 : kidsV k = 2 := by unfold kidsV; rw [if_neg (by omega), if_neg (by omega), if_pos hk]
 simp only [findV, hk2]
 generalize hb1 : (findV row x e).1 = a at *
 generalize hb2 : (findV row x e).2 = e2 at *
 obtain ⟨a1, a2, a3⟩ := a
 generalize hc1 : (findV row y e2).1 = b at *
 generalize hc2 : (findV row y e2).2 = e3 at *
 obtain ⟨b1, b2, b3⟩ := b
 rcases (by omega : k ≤ 9 ∨ (10 ≤ k ∧ k ≤ 15) ∨ 16 ≤ k) with h9 | ⟨h10, h15⟩ | h16
 ·have d1 : decide (k ≥ 16) = false := by simp; omega
  have d2 : decide (k ≤ 9) = true := by simp; omega
  have d3 : ¬ 16 ≤ k := by omega
  repeat' first | ((with_reducible first | refine cs ?_ ?_ | refine ws ?_ ?_) <;> intro h <;> try simp only [h]) | simp only [↓wBA, tFe, convA, seval, exC_len, List.length_map, d1, d2] | ((with_reducible show ACalls _ _ _ _ _); first | (refine (afail row _ _ _ 0 rfl).mono ?_; rintro _ _ ⟨_, ⟨rfl, rfl⟩, rfl⟩; simp only [fdO, vaA, vaC, List.map_cons, List.map_nil]) | (refine (hx _ _ 0 rfl).mono ?_; rintro _ _ ⟨_, ⟨rfl, rfl⟩, rfl⟩; simp only [hb1, hb2]; simp only [fdO, vaA, vaC, List.map_cons, List.map_nil]) | (refine (hy _ _ 0 rfl).mono ?_; rintro _ _ ⟨_, ⟨rfl, rfl⟩, rfl⟩; simp only [hc1, hc2]; simp only [fdO, vaA, vaC, List.map_cons, List.map_nil]) | (refine (anumV row _ _ _ _ _ 0 rfl).mono ?_; rintro _ _ ⟨_, ⟨rfl, rfl⟩, rfl⟩; simp only [fdO, vaA, vaC, List.map_cons, List.map_nil]))
  all_goals simp only [d3, ne_eq, not_true_eq_false, if_false]
  all_goals refine ret_obI (a := _) (b := _) (fdP _ _) ?_ rfl rfl
  all_goals simp only [↓wBA, tFe, convA, seval]
  all_goals simp_all [wS, fdO, vaA, vaC, twoV, trV, failV, va0, emp]
  all_goals grind
 ·have d1 : decide (k ≥ 16) = false := by simp; omega
  have d2 : decide (k ≤ 9) = false := by simp; omega
  have d3 : ¬ 16 ≤ k := by omega
  have d4 : ¬ k ≤ 9 := by omega
  have hw : IntKind.i64.wrap (k - 10) = k - 10 := wrap_i64 (by omega) (by omega)
  have h0 : ((0 : Int) ≤ k - 10) = True := eq_true (by omega)
  have hg := fun c => rel_get k c h10 h15
  repeat' first | ((with_reducible first | refine cs ?_ ?_ | refine ws ?_ ?_) <;> intro h <;> try simp only [h]) | simp only [↓wBA, tFe, convA, seval, exC_len, List.length_map, d1, d2, hw, h0, hg] | ((with_reducible show ACalls _ _ _ _ _); first | (refine (afail row _ _ _ 0 rfl).mono ?_; rintro _ _ ⟨_, ⟨rfl, rfl⟩, rfl⟩; simp only [fdO, vaA, vaC, List.map_cons, List.map_nil]) | (refine (atruth _ _).eq ?_; simp only [vaA, vaC, trV, List.map_cons, List.map_nil]) | (refine (hx _ _ 0 rfl).mono ?_; rintro _ _ ⟨_, ⟨rfl, rfl⟩, rfl⟩; simp only [hb1, hb2]; simp only [fdO, vaA, vaC, List.map_cons, List.map_nil]) | (refine (hy _ _ 0 rfl).mono ?_; rintro _ _ ⟨_, ⟨rfl, rfl⟩, rfl⟩; simp only [hc1, hc2]; simp only [fdO, vaA, vaC, List.map_cons, List.map_nil]) | refine (acmpV (_, _, _) (_, _, _) _).eq ?_)
  all_goals simp only [d3, d4, ne_eq, not_true_eq_false, if_false]
  all_goals refine ret_obI (a := _) (b := _) (fdP _ _) ?_ rfl rfl
  all_goals simp only [↓wBA, tFe, convA, seval]
  all_goals simp_all [wS, fdO, vaA, vaC, twoV, trV, failV, va0, emp]
  all_goals grind
 ·have d1 : decide (k ≥ 16) = true := by simp; omega
  repeat' first | ((with_reducible first | refine cs ?_ ?_ | refine ws ?_ ?_) <;> intro h <;> try simp only [h]) | simp only [↓wBA, tFe, convA, seval, exC_len, List.length_map, d1] | ((with_reducible show ACalls _ _ _ _ _); first | (refine (hx _ _ 0 rfl).mono ?_; rintro _ _ ⟨_, ⟨rfl, rfl⟩, rfl⟩; simp only [hb1, hb2]; simp only [fdO, vaA, vaC, List.map_cons, List.map_nil]) | (refine (hL (_, _, _) _ _ 0 rfl).mono ?_; rintro _ _ ⟨_, ⟨rfl, rfl⟩, rfl⟩; simp only [fdO, vaA, vaC, List.map_cons, List.map_nil]))
  all_goals simp only [h16, ne_eq, not_true_eq_false, if_false, if_true]
  all_goals refine ret_obI (a := _) (b := _) (fdP _ _) ?_ rfl rfl
  all_goals simp only [↓wBA, tFe, convA, seval]
  all_goals simp_all [wS, fdO, vaA, vaC]
  all_goals grind
end Go.Proofs.YtpcblbbddccgpaaDoor
namespace Go.Proofs.YtpcblbbddccgpaaDoor
open Go.RowKit
def pl36_1Ff : Plan := (.det 0 (.det 1 (.det 2 (.det 3 (.det 4 (.act 5 (.det 6 .done)))))))
def pl36_3Ff : Plan := (.det 0 (.det 1 (.det 2 (.det 3 (.det 4 (.det 5 (.det 7 (.det 8 (.det 9 (.det 12 (.act 6 (.det 10 (.det 11 (.fin 13 (.fin 14 .done)))))))))))))))
def pl28_4Ff : Plan := (.det 0 (.det 1 (.det 2 (.det 3 (.det 4 (.act 5 (.det 6 .done)))))))
def tFf := aa wX <| aa wbu <| aa T2 <| aa T3 <| aa T24 <| aa T25 <| aa T27 <| aa T31 <| aa T36 <| aa T69 <| aa T71 <| aa T72 T80
theorem nc0 : ((0 : Nat) : Int) = 0 := nr rfl
theorem nc1 : ((1 : Nat) : Int) = 1 := nr rfl
theorem nc2 : ((2 : Nat) : Int) = 2 := nr rfl
theorem nc3 : ((3 : Nat) : Int) = 3 := nr rfl
theorem kidsV_le (k : Int) : kidsV k ≤ 2 := by unfold kidsV; split <;> (try split) <;> (try split) <;> omega
theorem find_nil (row : List Va) (k vk vn : Int) (vs tb nm : ByteArray) (s : Int) : FindOK row (.mk k vk vn vs tb nm s []) := by
 intro e
 refine OCalls.of (fdP row) (fun t => rfl) rfl ?_
 refine acalls_of cx_ok dr_ok Tryd.func36 (by kernel_rfl) rfl (nt := 26) (rs := [.cell 4 24]) rfl rfl ?_
 simp only [fdO, exA, exC, exL, List.map_cons, List.map_nil]
 have hf := afail row 1 e
 by_cases hk : kidsV k = 0
 ·have d : ((0 : Int) != kidsV k) = false := by simp [hk]
  repeat' first | ((with_reducible first | refine cs ?_ ?_ | refine ws ?_ ?_ | refine wd ?_ ?_ | refine wu ?_ ?_) <;> intro h <;> try simp only [h]) | simp only [↓wBA, tFf, convA, seval, pl36_1Ff, pl36_3Ff, exL, List.length_cons, List.length_nil, d, nc0, nc1, nc2, nc3] | ((with_reducible show ACalls _ _ _ _ _); first | (refine (afail row _ _ _ 0 rfl).mono ?_; rintro _ _ ⟨_, ⟨rfl, rfl⟩, rfl⟩; simp only [fdO, vaA, vaC, List.map_cons, List.map_nil]) | refine (akidsV _ _).eq ?_ | (refine (aleafV row k vk vn vs tb nm s [] _ _ 0 rfl).mono ?_; rintro _ _ ⟨_, ⟨rfl, rfl⟩, rfl⟩; simp only [fdO, vaA, vaC, List.map_cons, List.map_nil])) | (with_reducible refine dP pl36_1Ff 7 (some 5) (by decide) (by kernel_rfl) ?_) | (with_reducible refine dP pl36_3Ff 15 (some 14) (by decide) (by kernel_rfl) ?_)
  all_goals refine ret_obI (a := _) (b := _) (fdP _ _) ?_ rfl rfl
  all_goals simp only [↓wBA, tFf, convA, seval]
  all_goals simp_all [wS, fdO, vaA, vaC, findV, failV, va0, emp]
 ·have d : ((0 : Int) != kidsV k) = true := by simp; omega
  repeat' first | ((with_reducible first | refine cs ?_ ?_ | refine ws ?_ ?_ | refine wd ?_ ?_ | refine wu ?_ ?_) <;> intro h <;> try simp only [h]) | simp only [↓wBA, tFf, convA, seval, pl36_1Ff, pl36_3Ff, exL, List.length_cons, List.length_nil, d, nc0, nc1, nc2, nc3] | ((with_reducible show ACalls _ _ _ _ _); first | (refine (afail row _ _ _ 0 rfl).mono ?_; rintro _ _ ⟨_, ⟨rfl, rfl⟩, rfl⟩; simp only [fdO, vaA, vaC, List.map_cons, List.map_nil]) | refine (akidsV _ _).eq ?_) | (with_reducible refine dP pl36_1Ff 7 (some 5) (by decide) (by kernel_rfl) ?_) | (with_reducible refine dP pl36_3Ff 15 (some 14) (by decide) (by kernel_rfl) ?_)
  all_goals refine ret_obI (a := _) (b := _) (fdP _ _) ?_ rfl rfl
  all_goals simp only [↓wBA, tFf, convA, seval]
  all_goals simp_all [wS, fdO, vaA, vaC, findV, failV, va0, emp]
theorem find_one (row : List Va) (k vk vn : Int) (vs tb nm : ByteArray) (s : Int) (x : Ex) (hx : FindOK row x) : FindOK row (.mk k vk vn vs tb nm s [x]) := by
 intro e
 refine OCalls.of (fdP row) (fun t => rfl) rfl ?_
 refine acalls_of cx_ok dr_ok Tryd.func36 (by kernel_rfl) rfl (nt := 26) (rs := [.cell 4 24]) rfl rfl ?_
 simp only [fdO, exA, exC, exL, List.map_cons, List.map_nil]
 have hf := afail row 1 e
 by_cases hk : kidsV k = 1
 ·have d : ((1 : Int) != kidsV k) = false := by simp [hk]
  repeat' first | ((with_reducible first | refine cs ?_ ?_ | refine ws ?_ ?_ | refine wd ?_ ?_ | refine wu ?_ ?_) <;> intro h <;> try simp only [h]) | simp only [↓wBA, tFf, convA, seval, pl36_1Ff, pl36_3Ff, exL, List.length_cons, List.length_nil, d, nc0, nc1, nc2, nc3] | ((with_reducible show ACalls _ _ _ _ _); first | (refine (afail row _ _ _ 0 rfl).mono ?_; rintro _ _ ⟨_, ⟨rfl, rfl⟩, rfl⟩; simp only [fdO, vaA, vaC, List.map_cons, List.map_nil]) | refine (akidsV _ _).eq ?_ | (refine (aoneV row k vk vn vs tb nm s x hx _ _ 0 rfl).mono ?_; rintro _ _ ⟨_, ⟨rfl, rfl⟩, rfl⟩; simp only [fdO, vaA, vaC, List.map_cons, List.map_nil])) | (with_reducible refine dP pl36_1Ff 7 (some 5) (by decide) (by kernel_rfl) ?_) | (with_reducible refine dP pl36_3Ff 15 (some 14) (by decide) (by kernel_rfl) ?_)
  all_goals refine ret_obI (a := _) (b := _) (fdP _ _) ?_ rfl rfl
  all_goals simp only [↓wBA, tFf, convA, seval]
  all_goals simp_all [wS, fdO, vaA, vaC, findV, failV, va0, emp]
 ·have d : ((1 : Int) != kidsV k) = true := by simp; omega
  repeat' first | ((with_reducible first | refine cs ?_ ?_ | refine ws ?_ ?_ | refine wd ?_ ?_ | refine wu ?_ ?_) <;> intro h <;> try simp only [h]) | simp only [↓wBA, tFf, convA, seval, pl36_1Ff, pl36_3Ff, exL, List.length_cons, List.length_nil, d, nc0, nc1, nc2, nc3] | ((with_reducible show ACalls _ _ _ _ _); first | (refine (afail row _ _ _ 0 rfl).mono ?_; rintro _ _ ⟨_, ⟨rfl, rfl⟩, rfl⟩; simp only [fdO, vaA, vaC, List.map_cons, List.map_nil]) | refine (akidsV _ _).eq ?_) | (with_reducible refine dP pl36_1Ff 7 (some 5) (by decide) (by kernel_rfl) ?_) | (with_reducible refine dP pl36_3Ff 15 (some 14) (by decide) (by kernel_rfl) ?_)
  all_goals refine ret_obI (a := _) (b := _) (fdP _ _) ?_ rfl rfl
  all_goals simp only [↓wBA, tFf, convA, seval]
  all_goals simp_all [wS, fdO, vaA, vaC, findV, failV, va0, emp]
theorem find_two (row : List Va) (k vk vn : Int) (vs tb nm : ByteArray) (s : Int) (x y : Ex) (hx : FindOK row x) (hy : FindOK row y) : FindOK row (.mk k vk vn vs tb nm s [x, y]) := by
 intro e
 refine OCalls.of (fdP row) (fun t => rfl) rfl ?_
 refine acalls_of cx_ok dr_ok Tryd.func36 (by kernel_rfl) rfl (nt := 26) (rs := [.cell 4 24]) rfl rfl ?_
 simp only [fdO, exA, exC, exL, List.map_cons, List.map_nil]
 have hf := afail row 1 e
 by_cases hk : kidsV k = 2
 ·have d : ((2 : Int) != kidsV k) = false := by simp [hk]
  have hk5 : 5 ≤ k ∧ k ≤ 17 := by
   by_cases h5 : 5 ≤ k ∧ k ≤ 17
   ·exact h5
   ·exfalso
    unfold kidsV at hk
    rw [if_neg h5] at hk
    split at hk <;> (try split at hk) <;> omega
  repeat' first | ((with_reducible first | refine cs ?_ ?_ | refine ws ?_ ?_ | refine wd ?_ ?_ | refine wu ?_ ?_) <;> intro h <;> try simp only [h]) | simp only [↓wBA, tFf, convA, seval, pl36_1Ff, pl36_3Ff, exL, List.length_cons, List.length_nil, d, nc0, nc1, nc2, nc3] | ((with_reducible show ACalls _ _ _ _ _); first | (refine (afail row _ _ _ 0 rfl).mono ?_; rintro _ _ ⟨_, ⟨rfl, rfl⟩, rfl⟩; simp only [fdO, vaA, vaC, List.map_cons, List.map_nil]) | refine (akidsV _ _).eq ?_ | (refine (atwoV row k vk vn vs tb nm s hk5 x y hx hy _ _ 0 rfl).mono ?_; rintro _ _ ⟨_, ⟨rfl, rfl⟩, rfl⟩; simp only [fdO, vaA, vaC, List.map_cons, List.map_nil])) | (with_reducible refine dP pl36_1Ff 7 (some 5) (by decide) (by kernel_rfl) ?_) | (with_reducible refine dP pl36_3Ff 15 (some 14) (by decide) (by kernel_rfl) ?_)
  all_goals refine ret_obI (a := _) (b := _) (fdP _ _) ?_ rfl rfl
  all_goals simp only [↓wBA, tFf, convA, seval]
  all_goals simp_all [wS, fdO, vaA, vaC, findV, failV, va0, emp]
 ·have d : ((2 : Int) != kidsV k) = true := by simp; omega
  repeat' first | ((with_reducible first | refine cs ?_ ?_ | refine ws ?_ ?_ | refine wd ?_ ?_ | refine wu ?_ ?_) <;> intro h <;> try simp only [h]) | simp only [↓wBA, tFf, convA, seval, pl36_1Ff, pl36_3Ff, exL, List.length_cons, List.length_nil, d, nc0, nc1, nc2, nc3] | ((with_reducible show ACalls _ _ _ _ _); first | (refine (afail row _ _ _ 0 rfl).mono ?_; rintro _ _ ⟨_, ⟨rfl, rfl⟩, rfl⟩; simp only [fdO, vaA, vaC, List.map_cons, List.map_nil]) | refine (akidsV _ _).eq ?_) | (with_reducible refine dP pl36_1Ff 7 (some 5) (by decide) (by kernel_rfl) ?_) | (with_reducible refine dP pl36_3Ff 15 (some 14) (by decide) (by kernel_rfl) ?_)
  all_goals refine ret_obI (a := _) (b := _) (fdP _ _) ?_ rfl rfl
  all_goals simp only [↓wBA, tFf, convA, seval]
  all_goals simp_all [wS, fdO, vaA, vaC, findV, failV, va0, emp]
theorem find_more (row : List Va) (k vk vn : Int) (vs tb nm : ByteArray) (s : Int) (x y z : Ex) (l : List Ex) : FindOK row (.mk k vk vn vs tb nm s (x :: y :: z :: l)) := by
 intro e
 refine OCalls.of (fdP row) (fun t => rfl) rfl ?_
 refine acalls_of cx_ok dr_ok Tryd.func36 (by kernel_rfl) rfl (nt := 26) (rs := [.cell 4 24]) rfl rfl ?_
 simp only [fdO, exA, exC, exL, List.map_cons, List.map_nil]
 have hf := afail row 1 e
 have d : ((((exL l).length + 1 + 1 + 1 : Nat) : Int) != kidsV k) = true := by have := kidsV_le k; simp; omega
 repeat' first | ((with_reducible first | refine cs ?_ ?_ | refine ws ?_ ?_ | refine wd ?_ ?_ | refine wu ?_ ?_) <;> intro h <;> try simp only [h]) | simp only [↓wBA, tFf, convA, seval, pl36_1Ff, pl36_3Ff, d] | ((with_reducible show ACalls _ _ _ _ _); first | (refine (afail row _ _ _ 0 rfl).mono ?_; rintro _ _ ⟨_, ⟨rfl, rfl⟩, rfl⟩; simp only [fdO, vaA, vaC, List.map_cons, List.map_nil]) | refine (akidsV _ _).eq ?_) | (with_reducible refine dP pl36_1Ff 7 (some 5) (by decide) (by kernel_rfl) ?_) | (with_reducible refine dP pl36_3Ff 15 (some 14) (by decide) (by kernel_rfl) ?_)
 all_goals refine ret_obI (a := _) (b := _) (fdP _ _) ?_ rfl rfl
 all_goals simp only [↓wBA, tFf, convA, seval]
 all_goals simp_all [wS, fdO, vaA, vaC, findV, failV, va0, emp]
mutual
theorem afind (row : List Va) : ∀ x : Ex, FindOK row x
 | .mk k vk vn vs tb nm s [] => find_nil row k vk vn vs tb nm s
 | .mk k vk vn vs tb nm s [x] => find_one row k vk vn vs tb nm s x (afind row x)
 | .mk k vk vn vs tb nm s [x, y] => find_two row k vk vn vs tb nm s x y (afind row x) (afind row y)
 | .mk k vk vn vs tb nm s (x :: y :: z :: l) => find_more row k vk vn vs tb nm s x y z l
end
theorem aevalV (row : List Va) (x : Ex) (σ : St) : ACalls Tryd.prog 28 [exA x, .p (.sl 3 (enV row))] σ fun r s => s = σ ∧ r = .tup [vaA (evalV row x).1, intV .i64 (evalV row x).2] := by
 refine ACalls.pureF (R := fun r => r = .tup [vaA (evalV row x).1, intV .i64 (evalV row x).2]) ?_ (by cases x; rfl) σ
 have hx := afind row x 0
 generalize hb : findV row x 0 = b at *
 obtain ⟨⟨b1, b2, b3⟩, e2⟩ := b
 obtain ⟨k, vk, vn, vs, tb, nm, s, kids⟩ := x
 refine acalls_of cx_ok dr_ok Tryd.func28 (by kernel_rfl) rfl (nt := 23) (rs := [.cell 4 24, .tmp 5]) rfl rfl ?_
 simp only [exA, exC, List.map_cons, List.map_nil]
 have hc : ∀ σ t, σ[t]? = some (some (.row 2 [[.p (.sl 3 (enV row)), .p (.v (.int .i64 0))]])) → ACalls Tryd.prog 36 [.mp t 2 0 0, .agg ((exC (.mk k vk vn vs tb nm s kids)).map .p)] σ fun r σ' => r = vaA (b1, b2, b3) ∧ σ' = σ.set t (some (fdO row e2)) := fun σ t ht => (hx σ t ht).mono fun r σ' ⟨e', ⟨h1, h2⟩, h3⟩ => by subst h1 h2 h3; exact ⟨rfl, rfl⟩
 simp only [exC, List.map_cons, List.map_nil] at hc
 repeat' first | ((with_reducible first | refine cs ?_ ?_ | refine ws ?_ ?_ | refine wd ?_ ?_ | refine wu ?_ ?_) <;> intro h <;> try simp only [h]) | simp only [↓wBA, tFf, convA, seval, pl28_4Ff] | ((with_reducible show ACalls _ _ _ _ _); refine (hc _ 2 rfl).mono ?_; rintro _ _ ⟨rfl,rfl⟩; simp only [fdO, vaA, vaC, List.map_cons, List.map_nil]) | (with_reducible refine dP pl28_4Ff 7 (some 19) (by decide) (by kernel_rfl) ?_)
 all_goals refine ret_is (a := _) ?_ rfl rfl
 all_goals simp only [↓wBA, tFf, convA, seval]
 all_goals simp_all [wS, vaA, vaC, evalV, va0, emp]
theorem aholdsV (row : List Va) (x : Ex) (σ : St) : ACalls Tryd.prog 17 [exA x, .p (.sl 3 (enV row))] σ fun r s => s = σ ∧ r = .tup [boolV (holdsV row x).1, intV .i64 (holdsV row x).2] := by
 refine ACalls.pureF (R := fun r => r = .tup [boolV (holdsV row x).1, intV .i64 (holdsV row x).2]) ?_ (by cases x; rfl) σ
 have hx := aevalV row x
 generalize hb : evalV row x = b at *
 obtain ⟨⟨b1, b2, b3⟩, e2⟩ := b
 obtain ⟨k, vk, vn, vs, tb, nm, s, kids⟩ := x
 simp only [exA, exC, vaA, vaC, List.map_cons, List.map_nil] at hx
 refine acalls_of cx_ok dr_ok Tryd.func17 (by kernel_rfl) rfl (nt := 37) (rs := [.tmp 4, .tmp 5]) rfl rfl ?_
 simp only [exA, exC, List.map_cons, List.map_nil]
 repeat' first | ((with_reducible first | refine cs ?_ ?_ | refine ws ?_ ?_) <;> intro h <;> try simp only [h]) | simp only [↓wBA, tFf, convA, seval] | ((with_reducible show ACalls _ _ _ _ _); refine (hx _).eq ?_)
 all_goals refine ret_is (a := _) ?_ rfl rfl
 all_goals simp only [↓wBA, tFf, convA, seval]
 all_goals simp_all [wS, holdsV]
 all_goals grind
end Go.Proofs.YtpcblbbddccgpaaDoor
namespace Go.Proofs.YtpcblbbddccgpaaDoor
open Go.RowKit
def tCl := aa wX <| aa wbu T36
theorem enV_cons (v : Va) (l : List Va) : enV (v :: l) = vaC v :: enV l := rfl
theorem aclone (l : List Va) (hl : l.length ≤ 4398046511104) (σ : St) : ACalls Tryd.prog 19 [.p (.sl 3 (enV l))] σ fun r s => s = σ ∧ r = .p (.sl 3 (enV l)) := by
 refine ACalls.pureF (R := fun r => r = .p (.sl 3 (enV l))) ?_ rfl σ
 cases l with
 | nil =>
   refine ACalls.nilSplit ?_ fun ad c => ?_
   ·skip
    refine acalls_of cx_ok dr_ok Tryd.func19 (by kernel_rfl) rfl (nt := 7) (rs := [.tmp 2]) rfl rfl ?_
    repeat' first | ((with_reducible first | refine cs ?_ ?_ | refine ws ?_ ?_) <;> intro h <;> try simp only [h]) | simp only [↓wBA, tCl, convA, seval, appendA, srcA]
    all_goals refine ret_is (a := _) ?_ rfl rfl
    all_goals simp only [↓wBA, tCl, convA, seval]
    all_goals simp_all [wS, enV]
   ·skip
    refine acalls_of cx_ok dr_ok Tryd.func19 (by kernel_rfl) rfl (nt := 7) (rs := [.tmp 2]) rfl rfl ?_
    have hlim2 : (0 ≤ maxLen) = True := eq_true (Nat.zero_le _)
    repeat' first | ((with_reducible first | refine cs ?_ ?_ | refine ws ?_ ?_) <;> intro h <;> try simp only [h]) | simp only [↓wBA, tCl, convA, seval, appendA, srcA, hlim2, Nat.zero_le, Nat.zero_mul]
    all_goals refine ret_is (a := _) ?_ rfl rfl
    all_goals simp only [↓wBA, tCl, convA, seval]
    all_goals simp_all [wS, enV]
 | cons v l =>
   simp only [List.length_cons] at hl
   have hlim1 := tL (n := (l.length + 1) * 32) (by omega)
   have hlim2 := lM (n := l.length + 1) (by omega)
   refine acalls_of cx_ok dr_ok Tryd.func19 (by kernel_rfl) rfl (nt := 7) (rs := [.tmp 2]) rfl rfl ?_
   simp only [enV_cons]
   repeat' first | ((with_reducible first | refine cs ?_ ?_ | refine ws ?_ ?_) <;> intro h <;> try simp only [h]) | simp only [↓wBA, tCl, convA, seval, appendA, srcA, enV_len, hlim1, hlim2]
   all_goals refine ret_is (a := _) ?_ rfl rfl
   all_goals simp only [↓wBA, tCl, convA, seval]
   all_goals simp_all [wS, enV]
end Go.Proofs.YtpcblbbddccgpaaDoor
namespace Go.Proofs.YtpcblbbddccgpaaDoor
open Go.RowKit
def tFi := aa wX <| aa wbu <| aa T3 <| aa T22 <| aa T27 <| aa T31 <| aa T36 T45
def leastI (l e : Int) : Int := if e ≠ 0 ∧ (l = 0 ∨ e < l) then e else l
def lsO (e : Int) : Ob := .row 1 [[intV .i64 e]]
theorem lsP (e : Int) : PlainOb (lsO e) := ⟨fun g => by simp [renOb, lsO, renL, renA, intV], fun n => by simp [tokOb, lsO, tokLtL, tokLt, intV], 1, _, rfl⟩
theorem asee (l e : Int) : OCalls lsO 18 (fun t => [.mp t 1 0 0, intV .i64 e]) l fun r l' => r = .tup [] ∧ l' = leastI l e := by
 refine OCalls.of lsP (fun t => rfl) rfl ?_
 refine acalls_of cx_ok dr_ok Tryd.func18 (by kernel_rfl) rfl (nt := 20) (rs := []) rfl rfl ?_
 simp only [lsO]
 repeat' first | ((with_reducible first | refine cs ?_ ?_ | refine ws ?_ ?_) <;> intro h <;> try simp only [h]) | simp only [↓wBA, tFi, convA, seval]
 all_goals refine ret_obI (a := _) (b := _) (lsP _) ?_ rfl rfl
 all_goals simp only [↓wBA, tFi, convA, seval]
 all_goals simp_all [wS, lsO, leastI]
 all_goals grind
def ansS (l : Int) (rows : List (List Va)) : List (List Va) × Int := if l ≠ 0 then ([], l) else if rows.length > 10000 then ([], 20) else (rows, 0)
theorem aanswer (l : Int) (rows : List (List Va)) (σ : St) : ACalls Tryd.prog 20 [intV .i64 l, .p (nilSl 1 (enVV rows))] σ fun r s => s = σ ∧ r = .tup [.p (.sl 1 (enVV (ansS l rows).1)), intV .i64 (ansS l rows).2] := by
 refine ACalls.pureF (R := fun r => r = .tup [.p (.sl 1 (enVV (ansS l rows).1)), intV .i64 (ansS l rows).2]) ?_ rfl σ
 cases rows with
 | nil =>
   refine acalls_of cx_ok dr_ok Tryd.func20 (by kernel_rfl) rfl (nt := 13) (rs := [.tmp 4, .tmp 5]) rfl rfl ?_
   simp only [nilSl, enVV, List.map_nil, List.isEmpty_nil, if_true]
   repeat' first | ((with_reducible first | refine cs ?_ ?_ | refine ws ?_ ?_) <;> intro h <;> try simp only [h]) | simp only [↓wBA, tFi, convA, seval]
   all_goals refine ret_is (a := _) ?_ rfl rfl
   all_goals simp only [↓wBA, tFi, convA, seval]
   all_goals simp_all [wS, ansS, enVV]
   all_goals grind
 | cons r rows =>
   refine acalls_of cx_ok dr_ok Tryd.func20 (by kernel_rfl) rfl (nt := 13) (rs := [.tmp 4, .tmp 5]) rfl rfl ?_
   simp only [nilSl, enVV, List.map_cons, List.isEmpty_cons, Bool.false_eq_true, if_false]
   repeat' first | ((with_reducible first | refine cs ?_ ?_ | refine ws ?_ ?_) <;> intro h <;> try simp only [h]) | simp only [↓wBA, tFi, convA, seval, List.length_map]
   all_goals refine ret_is (a := _) ?_ rfl rfl
   all_goals simp only [↓wBA, tFi, convA, seval]
   all_goals simp_all [wS, ansS, enVV]
   all_goals grind
def filStep (x : Ex) (s : List (List Va) × Int) (r : List Va) : List (List Va) × Int := (if (holdsV r x).1 = true ∧ s.1.length ≤ 10000 then s.1 ++ [r] else s.1, leastI s.2 (holdsV r x).2)
def filS (rows : List (List Va)) (x : Ex) : List (List Va) × Int := ansS (rows.foldl (filStep x) ([], 0)).2 (rows.foldl (filStep x) ([], 0)).1
theorem take_step {α β : Type} (f : β → α → β) (b : β) (l : List α) (i : Nat) (h : i < l.length) : (l.take (i + 1)).foldl f b = f ((l.take i).foldl f b) l[i] := by
 rw [List.take_succ_eq_append_getElem h, List.foldl_append]; rfl
def OkRows (rows : List (List Va)) : Prop := rows.length ≤ 4398046511104 ∧ ∀ r ∈ rows, r.length ≤ 4398046511104
theorem afilter (rows : List (List Va)) (x : Ex) (hr : OkRows rows) (σ : St) : ACalls Tryd.prog 8 [.p (.sl 1 (enVV rows)), exA x] σ fun r s => s = σ ∧ r = .tup [.p (.sl 1 (enVV (filS rows x).1)), intV .i64 (filS rows x).2] := by
 refine ACalls.pureF (R := fun r => r = .tup [.p (.sl 1 (enVV (filS rows x).1)), intV .i64 (filS rows x).2]) ?_ (by cases x; rfl) σ
 obtain ⟨hn, hr⟩ := hr
 have hH := fun row => aholdsV row x
 unfold filS
 generalize hst : filStep x = stp at *
 have hstp : ∀ s r, stp s r = (if (holdsV r x).1 = true ∧ s.1.length ≤ 10000 then s.1 ++ [r] else s.1, leastI s.2 (holdsV r x).2) := fun s r => by rw [← hst]; rfl
 generalize hhv : (fun r => holdsV r x) = hv at *
 have hhv' : ∀ r, holdsV r x = hv r := fun r => by rw [← hhv]
 simp only [hhv'] at hH hstp
 clear hst hhv hhv'
 obtain ⟨k, vk, vn, vs, tb, nm, s, kids⟩ := x
 simp only [exA, exC, List.map_cons, List.map_nil] at hH
 refine acalls_of cx_ok dr_ok Tryd.func8 (by kernel_rfl) rfl (nt := 41) (rs := [.tmp 4, .tmp 5]) rfl rfl ?_
 simp only [exA, exC, List.map_cons, List.map_nil]
 simp only [↓wBA, tFi, convA, seval, enVV_len]
 refine awp_loopN (rows.length) (fun i => [(7, .nown 2 1 (enVV ((rows.take i).foldl stp ([], 0)).1)), (14, intV .i64 (i : Nat)), (9, .any), (10, .any), (11, .any), (15, .any), (16, .any), (17, .any), (18, .any), (19, .any), (20, .any), (21, .any), (22, .any), (23, .any), (24, .any), (25, .any), (26, .any), (27, .any), (28, .any), (29, .any), (30, .any), (31, .any), (32, .any), (33, .any), (34, .any), (35, .any), (36, .any), (37, .any)]) (fun i => [(1, .row 1 [[intV .i64 ((rows.take i).foldl stp ([], 0)).2]]), (2, .nright 36 (((rows.take i).foldl stp ([], 0)).1.length * 1))]) (fun i => True) ?_ ?_ ?_
 ·trivial
 ·skip
  simp only [wR, Nat.reduceAdd, Nat.reduceLT, reduceIte]
  simp [wW, enVV]
 ·intro i hi _
  simp only [wR, Nat.reduceAdd, Nat.reduceLT, reduceIte]
  by_cases hlt : i < rows.length
  ·have hdec := dT (i := i) (n := rows.length) (by omega)
   have hi0 := nnI i
   have hw := wI i (by omega)
   have hg := enVV_get rows i hlt
   have hst := take_step stp ([], 0) rows i hlt
   have hrl := hr rows[i] (List.getElem_mem hlt)
   rw [hstp] at hst
   generalize hs : (rows.take i).foldl stp ([], 0) = st at *
   obtain ⟨out, l⟩ := st
   simp only at hst
   generalize hrow : rows[i] = row at *
   by_cases ho : out.length ≤ 10000
   ·have hd : decide ((out.length : Int) ≤ 10000) = true := by simp; omega
    have hlim1 := tL (n := (out.length + 1) * 24) (by omega)
    have hlim2 := lM (n := out.length + 1) (by omega)
    repeat' first | ((with_reducible first | refine cs ?_ ?_ | refine ws ?_ ?_) <;> intro h <;> try simp only [h]) | simp only [↓wBA, tFi, convA, seval, enVV_len, hdec, hi0, hg, hw, hd, hlim1, hlim2, appendA, srcA, List.length_append] | ((with_reducible show ACalls _ _ _ _ _); first | refine (hH _ _).eq ?_ | (refine (asee _ _ _ 1 rfl).mono ?_; rintro _ _ ⟨_, ⟨rfl, rfl⟩, rfl⟩; simp only [lsO]) | refine (aclone _ hrl _).eq ?_)
    all_goals refine ⟨⟨i + 1, by omega, trivial⟩, by show rows.length - (i + 1) < rows.length - i; omega, ?_⟩
    all_goals simp only [wR, Nat.reduceAdd, Nat.reduceLT, reduceIte]
    all_goals simp_all [wW, enVV]
   ·have hd : decide ((out.length : Int) ≤ 10000) = false := by simp; omega
    repeat' first | ((with_reducible first | refine cs ?_ ?_ | refine ws ?_ ?_) <;> intro h <;> try simp only [h]) | simp only [↓wBA, tFi, convA, seval, enVV_len, hdec, hi0, hg, hw, hd] | ((with_reducible show ACalls _ _ _ _ _); first | refine (hH _ _).eq ?_ | (refine (asee _ _ _ 1 rfl).mono ?_; rintro _ _ ⟨_, ⟨rfl, rfl⟩, rfl⟩; simp only [lsO]))
    all_goals refine ⟨⟨i + 1, by omega, trivial⟩, by show rows.length - (i + 1) < rows.length - i; omega, ?_⟩
    all_goals simp only [wR, Nat.reduceAdd, Nat.reduceLT, reduceIte]
    all_goals simp_all [wW, enVV]
  ·have hdec := dF (i := i) (n := rows.length) (by omega)
   have ht : rows.take i = rows := List.take_of_length_le (by omega)
   simp only [ht]
   repeat' first | ((with_reducible first | refine cs ?_ ?_ | refine ws ?_ ?_) <;> intro h <;> try simp only [h]) | simp only [↓wBA, tFi, convA, seval, enVV_len, hdec] | ((with_reducible show ACalls _ _ _ _ _); refine ACalls.frzArgs ?_; simp only [frzL, frzA]; refine (aanswer _ _ _).eq ?_)
   all_goals refine ret_is (a := _) ?_ rfl rfl
   all_goals simp only [↓wBA, tFi, convA, seval]
   all_goals simp_all [wS]
end Go.Proofs.YtpcblbbddccgpaaDoor
namespace Go.Proofs.YtpcblbbddccgpaaDoor
open Go.RowKit
def pl30_9Gd : Plan := (.det 0 (.det 1 (.det 2 (.det 3 (.det 4 (.det 5 (.det 6 (.fin 7 .done))))))))
def tGd := aa wX <| aa wbu <| aa T3 <| aa T4 <| aa T22 <| aa T24 T36
def kdS (a : Nat) (k : Int) (r : List Va) : Int := if (r.getD a va0).1 > k then (r.getD a va0).1 else k
def rowG (w : Int) (a : Nat) (k : Int) (r : List Va) : Bool := decide (a < r.length) && (decide (w < 0) || decide ((r.length : Int) = w)) && okV (r.getD a va0) && (decide ((r.getD a va0).1 = 0) || decide (k = 0) || decide ((r.getD a va0).1 = k))
def goodS (w : Int) (a : Nat) : List (List Va) → Int → Bool × Int
 | [], k => (true, k)
 | r :: rows, k => if rowG w a k r = true then goodS w a rows (kdS a k r) else (false, k)
theorem goodS_drop (w : Int) (a : Nat) (rows : List (List Va)) (k : Int) (i : Nat) (h : i < rows.length) : goodS w a (rows.drop i) k = if rowG w a k rows[i] = true then goodS w a (rows.drop (i + 1)) (kdS a k rows[i]) else (false, k) := by
 rw [List.drop_eq_getElem_cons h]; rfl
theorem goodS_all (w : Int) (a : Nat) : ∀ (rows : List (List Va)) (k : Int), (goodS w a rows k).1 = true → ∀ r ∈ rows, a < r.length ∧ okV (r.getD a va0) = true
 | [], k, h, r, hr => by simp at hr
 | q :: rows, k, h, r, hr => by
   simp only [goodS] at h
   split at h
   ·rename_i hg
    rcases List.mem_cons.1 hr with rfl | hr
    ·simp only [rowG, Bool.and_eq_true, decide_eq_true_eq] at hg
     exact ⟨hg.1.1.1, hg.1.2⟩
    ·exact goodS_all w a rows _ h r hr
   ·simp at h
theorem agood (rows : List (List Va)) (a : Nat) (w : Int) (hn : rows.length ≤ 4398046511104) (k : Int) : OCalls lsO 30 (fun t => [.p (.sl 1 (enVV rows)), intV .i64 (a : Int), intV .i64 w, .mp t 1 0 0]) k fun r k' => r = boolV (goodS w a rows k).1 ∧ k' = (goodS w a rows k).2 := by
 refine OCalls.of lsP (fun t => rfl) rfl ?_
 have hok := aokV
 refine acalls_of cx_ok dr_ok Tryd.func30 (by kernel_rfl) rfl (nt := 59) (rs := [.tmp 7]) rfl rfl ?_
 simp only [lsO]
 repeat' first | ((with_reducible first | refine cs ?_ ?_ | refine ws ?_ ?_ | refine wd ?_ ?_ | refine wu ?_ ?_) <;> intro h <;> try simp only [h]) | simp only [↓wBA, tGd, convA, seval, pl30_9Gd, enVV_len] | (with_reducible refine dP pl30_9Gd 8 (some 55) (by decide) (by kernel_rfl) ?_)
 refine awp_loopN (rows.length) (fun i => [(13, intV .i64 (i : Nat)), (7, .any), (9, .any), (10, .any), (14, .any), (15, .any), (16, .any), (17, .any), (18, .any), (19, .any), (20, .any), (21, .any), (22, .any), (23, .any), (24, .any), (25, .any), (26, .any), (27, .any), (28, .any), (29, .any), (30, .any), (31, .any), (32, .any), (33, .any), (34, .any), (35, .any), (36, .any), (37, .any), (38, .any), (39, .any), (40, .any), (41, .any), (42, .any), (43, .any), (44, .any), (45, .any), (46, .any), (47, .any), (48, .any), (49, .any), (50, .any), (51, .any), (52, .any), (53, .any), (54, .any), (55, .any), (56, .any), (57, .any), (58, .any), (59, .any), (60, .any), (61, .any), (62, .any)]) (fun i => [(0, .row 1 [[intV .i64 ((rows.take i).foldl (kdS a) k)]])]) (fun i => goodS w a rows k = goodS w a (rows.drop i) ((rows.take i).foldl (kdS a) k)) ?_ ?_ ?_
 ·rfl
 ·skip
  simp only [wR, Nat.reduceAdd, Nat.reduceLT, reduceIte]
  simp [wW]
 ·intro i hi hI
  simp only [wR, Nat.reduceAdd, Nat.reduceLT, reduceIte]
  by_cases hlt : i < rows.length
  ·have hdec := dT (i := i) (n := rows.length) (by omega)
   have hi0 := nnI i
   have ha0 := nnI a
   have hw := wI i (by omega)
   have hg := enVV_get rows i hlt
   have hst := take_step (kdS a) k rows i hlt
   rw [goodS_drop w a rows _ i hlt] at hI
   generalize hr : rows[i] = r at *
   simp only [kdS] at hst
   by_cases hal : a < r.length
   ·have h1 : decide ((a : Int) ≥ (r.length : Int)) = false := decide_eq_false (by omega)
    have hrg : (enV r)[a]? = some (vaC (r.getD a va0)) := by rw [enV_get r a hal]; simp [List.getD, hal]
    have hok' := hok (r.getD a va0)
    simp only [rowG, kdS, hal, decide_true, Bool.true_and] at hI
    generalize hv : r.getD a va0 = v at *
    obtain ⟨vk, vn, vs⟩ := v
    simp only [vaA, vaC, List.map_cons, List.map_nil] at hok' hrg
    simp only at hI hst
    generalize okV (vk, vn, vs) = o at *
    by_cases hG : ((decide (w < 0) || decide ((r.length : Int) = w)) && o && (decide (vk = 0) || decide ((rows.take i).foldl (kdS a) k = 0) || decide (vk = (rows.take i).foldl (kdS a) k))) = true
    ·rw [if_pos hG] at hI
     repeat' first | ((with_reducible first | refine cs ?_ ?_ | refine ws ?_ ?_ | refine wd ?_ ?_ | refine wu ?_ ?_) <;> intro h <;> try simp only [h]) | simp only [↓wBA, tGd, convA, seval, pl30_9Gd, enVV_len, enV_len, hdec, hi0, ha0, hw, hg, h1, hrg] | ((with_reducible show ACalls _ _ _ _ _); refine (hok' _).eq ?_) | (with_reducible refine dP pl30_9Gd 8 (some 55) (by decide) (by kernel_rfl) ?_)
     all_goals first | (show retA _ _ _ _ _ _ _; exfalso; grind) | skip
     all_goals refine ⟨⟨i + 1, by omega, ?_⟩, by show rows.length - (i + 1) < rows.length - i; omega, ?_⟩
     all_goals first | (show goodS _ _ _ _ = _; rw [hI, hst]) | skip
     all_goals simp only [hst]
     all_goals simp [wW]
    ·rw [if_neg hG] at hI
     repeat' first | ((with_reducible first | refine cs ?_ ?_ | refine ws ?_ ?_ | refine wd ?_ ?_ | refine wu ?_ ?_) <;> intro h <;> try simp only [h]) | simp only [↓wBA, tGd, convA, seval, pl30_9Gd, enVV_len, enV_len, hdec, hi0, ha0, hw, hg, h1, hrg] | ((with_reducible show ACalls _ _ _ _ _); refine (hok' _).eq ?_) | (with_reducible refine dP pl30_9Gd 8 (some 55) (by decide) (by kernel_rfl) ?_)
     all_goals first | (show retA _ _ _ _ _ _ _; skip) | (exfalso; grind)
     all_goals refine ret_obI (a := _) (b := _) (lsP _) ?_ rfl rfl
     all_goals simp only [↓wBA, tGd, convA, seval]
     all_goals simp_all [wS, lsO, hI]
     all_goals grind
   ·have h1 : decide ((a : Int) ≥ (r.length : Int)) = true := decide_eq_true (by omega)
    have hG : rowG w a ((rows.take i).foldl (kdS a) k) r = false := by simp [rowG, hal]
    rw [hG] at hI
    simp only [Bool.false_eq_true, if_false] at hI
    repeat' first | ((with_reducible first | refine cs ?_ ?_ | refine ws ?_ ?_ | refine wd ?_ ?_ | refine wu ?_ ?_) <;> intro h <;> try simp only [h]) | simp only [↓wBA, tGd, convA, seval, pl30_9Gd, enVV_len, enV_len, hdec, hi0, ha0, hw, hg, h1] | (with_reducible refine dP pl30_9Gd 8 (some 55) (by decide) (by kernel_rfl) ?_)
    all_goals refine ret_obI (a := _) (b := _) (lsP _) ?_ rfl rfl
    all_goals simp only [↓wBA, tGd, convA, seval]
    all_goals simp_all [wS, lsO, hI]
    all_goals grind
  ·have hdec := dF (i := i) (n := rows.length) (by omega)
   rw [List.drop_eq_nil_of_le (by omega)] at hI
   simp only [goodS] at hI
   repeat' first | ((with_reducible first | refine cs ?_ ?_ | refine ws ?_ ?_ | refine wd ?_ ?_ | refine wu ?_ ?_) <;> intro h <;> try simp only [h]) | simp only [↓wBA, tGd, convA, seval, pl30_9Gd, enVV_len, hdec] | (with_reducible refine dP pl30_9Gd 8 (some 55) (by decide) (by kernel_rfl) ?_)
   all_goals refine ret_obI (a := _) (b := _) (lsP _) ?_ rfl rfl
   all_goals simp only [↓wBA, tGd, convA, seval]
   all_goals simp_all [wS, lsO, hI]
   all_goals grind
end Go.Proofs.YtpcblbbddccgpaaDoor
namespace Go.Proofs.YtpcblbbddccgpaaDoor
open Go.RowKit Go.MapKept
abbrev Gr := List (ByteArray × List (List Va))
def addG (k : ByteArray) (r : List Va) : Gr → Gr
 | [] => [(k, [r])]
 | (k', l) :: gs => if k' = k then (k', l ++ [r]) :: gs else (k', l) :: addG k r gs
def findG (k : ByteArray) : Gr → Option (Nat × List (List Va))
 | [] => none
 | (k', l) :: gs => if k' = k then some (0, l) else (findG k gs).map fun x => (x.1 + 1, x.2)
def esG (b : Nat) : Gr → List (Value × AV)
 | [] => []
 | (k, l) :: gs => (.string k, .own (b + 1) 1 (enVV l)) :: esG (b + 2) gs
def rsG (E : Nat) : Gr → St
 | [] => []
 | (k, l) :: gs => none :: some (.right E (l.length * 1)) :: rsG E gs
theorem rsG_len (E : Nat) : ∀ gs : Gr, (rsG E gs).length = 2 * gs.length
 | [] => rfl
 | (k, l) :: gs => by simp [rsG, rsG_len E gs]; omega
theorem esG_len : ∀ (gs : Gr) (b : Nat), (esG b gs).length = gs.length
 | [], b => rfl
 | (k, l) :: gs, b => by simp [esG, esG_len gs]
theorem findMK_G (k : ByteArray) : ∀ (gs : Gr) (b i : Nat), findMK .string (.string k) (esG b gs) i = some ((findG k gs).map fun x => (i + x.1, .own (2 * x.1 + 1 + b) 1 (enVV x.2)))
 | [], b, i => rfl
 | (k', l) :: gs, b, i => by
   simp only [esG, findMK, Instr.sameNow, findG]
   by_cases h : k' = k
   ·subst h
    have : (k' == k') = true := (bytes_beq k' k').2 rfl
    simp [this]; omega
   ·have hb : (k == k') = false := by
     cases hh : (k == k') with
     | false => rfl
     | true => rw [bytes_beq] at hh; exact (h hh.symm).elim
    rw [hb, findMK_G k gs (b + 2) (i + 1), if_neg h]
    cases findG k gs with
    | none => rfl
    | some x => simp only [Option.map_some, show i + 1 + x.1 = i + (x.1 + 1) by omega, show 2 * x.1 + 1 + (b + 2) = 2 * (x.1 + 1) + 1 + b by omega]
theorem findG_right (E : Nat) (k : ByteArray) : ∀ (gs : Gr) (j : Nat) (l : List (List Va)), findG k gs = some (j, l) → (rsG E gs)[2 * j + 1]? = some (some (.right E (l.length * 1)))
 | [], j, l, h => by simp [findG] at h
 | (k', l') :: gs, j, l, h => by
   simp only [findG] at h
   split at h
   ·simp only [Option.some.injEq, Prod.mk.injEq] at h; obtain ⟨rfl, rfl⟩ := h; rfl
   ·cases hf : findG k gs with
    | none => rw [hf] at h; simp at h
    | some x =>
      rw [hf] at h; simp at h
      obtain ⟨rfl, rfl⟩ := h
      rw [show 2 * (x.1 + 1) + 1 = (2 * x.1 + 1) + 1 + 1 by omega]
      simp only [rsG, List.getElem?_cons_succ]
      exact findG_right E k gs x.1 x.2 hf
theorem addG_old (E : Nat) (k : ByteArray) (r : List Va) : ∀ (gs : Gr) (b j : Nat) (l : List (List Va)), findG k gs = some (j, l) →
 esG b (addG k r gs) = (esG b gs).set j (.string k, .own (2 * j + 1 + b) 1 (enVV (l ++ [r]))) ∧ rsG E (addG k r gs) = (rsG E gs).set (2 * j + 1) (some (.right E ((l ++ [r]).length * 1)))
 | [], b, j, l, h => by simp [findG] at h
 | (k', l') :: gs, b, j, l, h => by
   simp only [findG] at h
   split at h
   ·rename_i hk
    simp only [Option.some.injEq, Prod.mk.injEq] at h; obtain ⟨rfl, rfl⟩ := h
    simp only [addG, hk, if_true, esG, rsG, List.set_cons_zero, Nat.mul_zero, Nat.zero_add, List.set_cons_succ]
    exact ⟨by rw [show 1 + b = b + 1 by omega], trivial⟩
   ·rename_i hk
    cases hf : findG k gs with
    | none => rw [hf] at h; simp at h
    | some x =>
      rw [hf] at h; simp at h
      obtain ⟨rfl, rfl⟩ := h
      obtain ⟨h1, h2⟩ := addG_old E k r gs (b + 2) x.1 x.2 hf
      simp only [addG, hk, if_false, esG, rsG, h1, h2]
      refine ⟨?_, ?_⟩
      ·rw [List.set_cons_succ, show 2 * (x.1 + 1) + 1 + b = 2 * x.1 + 1 + (b + 2) by omega]
      ·rw [show 2 * (x.1 + 1) + 1 = (2 * x.1 + 1) + 1 + 1 by omega]; rfl
theorem addG_new (E : Nat) (k : ByteArray) (r : List Va) : ∀ (gs : Gr) (b : Nat), findG k gs = none →
 esG b (addG k r gs) = esG b gs ++ [(.string k, .own (2 * gs.length + 1 + b) 1 (enVV [r]))] ∧ rsG E (addG k r gs) = rsG E gs ++ [none, some (.right E 1)]
 | [], b, h => by simp [addG, esG, rsG]; omega
 | (k', l') :: gs, b, h => by
   simp only [findG] at h
   split at h
   ·simp at h
   ·rename_i hk
    have hf : findG k gs = none := by cases hf : findG k gs with
     | none => rfl
     | some x => rw [hf] at h; simp at h
    obtain ⟨h1, h2⟩ := addG_new E k r gs (b + 2) hf
    simp only [addG, hk, if_false, esG, rsG, h1, h2, List.length_cons, List.cons_append]
    rw [show 2 * (gs.length + 1) + 1 + b = 2 * gs.length + 1 + (b + 2) by omega]
    exact ⟨rfl, trivial⟩
def contG (k : ByteArray) (gs : Gr) : List (List Va) := match findG k gs with
 | none => []
 | some x => x.2
theorem contG_cons (k k' : ByteArray) (l : List (List Va)) (gs : Gr) : contG k ((k', l) :: gs) = if k' = k then l else contG k gs := by
 simp only [contG, findG]
 by_cases h : k' = k
 ·simp only [h, if_true]
 ·simp only [h, if_false]
  cases findG k gs <;> rfl
theorem contG_add (k k' : ByteArray) (r : List Va) : ∀ gs : Gr, contG k (addG k' r gs) = if k' = k then contG k gs ++ [r] else contG k gs
 | [] => by
   simp only [addG, contG_cons]
   split <;> simp [contG, findG]
 | (k'', l) :: gs => by
   simp only [addG]
   split
   ·rename_i h; subst h
    simp only [contG_cons]
    split <;> rfl
   ·rename_i h
    simp only [contG_cons, contG_add k k' r gs]
    by_cases h1 : k'' = k
    ·subst h1
     have : ¬ k' = k'' := fun e => h e.symm
     simp [this]
    ·simp [h1]
def allG (kf : List Va → ByteArray) (rows : List (List Va)) : Gr := rows.foldl (fun gs r => addG (kf r) r gs) []
theorem contG_fold (kf : List Va → ByteArray) (k : ByteArray) : ∀ (rows : List (List Va)) (gs : Gr), contG k (rows.foldl (fun gs r => addG (kf r) r gs) gs) = contG k gs ++ rows.filter (fun r => decide (kf r = k))
 | [], gs => by simp
 | r :: rows, gs => by
   rw [List.foldl_cons, contG_fold kf k rows, contG_add, List.filter_cons]
   by_cases h : kf r = k <;> simp [h]
theorem contG_all (kf : List Va → ByteArray) (k : ByteArray) (rows : List (List Va)) : contG k (allG kf rows) = rows.filter (fun r => decide (kf r = k)) := by
 rw [allG, contG_fold]; rfl
theorem addG_len (k : ByteArray) (r : List Va) : ∀ gs : Gr, (addG k r gs).length ≤ gs.length + 1 ∧ ∀ x ∈ addG k r gs, ∀ q, (∀ y ∈ gs, y.2.length ≤ q) → x.2.length ≤ q + 1
 | [] => by simp [addG]
 | (k', l) :: gs => by
   simp only [addG]
   split
   ·refine ⟨by simp, fun x hx q hq => ?_⟩
    rcases List.mem_cons.1 hx with rfl | hx
    ·have := hq (k', l) (by simp); simp at this ⊢; omega
    ·have := hq x (by simp [hx]); omega
   ·obtain ⟨h1, h2⟩ := addG_len k r gs
    refine ⟨by simp; omega, fun x hx q hq => ?_⟩
    rcases List.mem_cons.1 hx with rfl | hx
    ·have := hq (k', l) (by simp); simp at this ⊢; omega
    ·exact h2 x hx q fun y hy => hq y (by simp [hy])
theorem findG_mem (k : ByteArray) : ∀ (gs : Gr) (j : Nat) (l : List (List Va)), findG k gs = some (j, l) → j < gs.length ∧ ∃ x ∈ gs, x.2 = l
 | [], j, l, h => by simp [findG] at h
 | (k', l') :: gs, j, l, h => by
   simp only [findG] at h
   split at h
   ·simp only [Option.some.injEq, Prod.mk.injEq] at h; obtain ⟨rfl, rfl⟩ := h; exact ⟨by simp, (k', l'), by simp, rfl⟩
   ·cases hf : findG k gs with
    | none => rw [hf] at h; simp at h
    | some x =>
      rw [hf] at h; simp at h
      obtain ⟨rfl, rfl⟩ := h
      obtain ⟨h1, y, h2, h3⟩ := findG_mem k gs x.1 x.2 hf
      exact ⟨by simp; omega, y, by simp [h2], h3⟩
theorem allG_len (kf : List Va → ByteArray) (rows : List (List Va)) : ∀ (i : Nat), (allG kf (rows.take i)).length ≤ i ∧ ∀ x ∈ allG kf (rows.take i), x.2.length ≤ i := by
 intro i
 induction i with
 | zero => simp [allG]
 | succ i ih =>
   by_cases h : i < rows.length
   ·have e : allG kf (rows.take (i + 1)) = addG (kf rows[i]) rows[i] (allG kf (rows.take i)) := by
     unfold allG; rw [List.take_succ_eq_append_getElem h, List.foldl_append]; rfl
    rw [e]
    obtain ⟨h1, h2⟩ := addG_len (kf rows[i]) rows[i] (allG kf (rows.take i))
    exact ⟨by omega, fun x hx => h2 x hx i ih.2⟩
   ·have e : rows.take (i + 1) = rows.take i := by rw [List.take_of_length_le (by omega), List.take_of_length_le (by omega)]
    rw [e]
    exact ⟨by omega, fun x hx => by have := ih.2 x hx; omega⟩
theorem allG_step (kf : List Va → ByteArray) (rows : List (List Va)) (i : Nat) (h : i < rows.length) : allG kf (rows.take (i + 1)) = addG (kf rows[i]) rows[i] (allG kf (rows.take i)) := by
 unfold allG; rw [List.take_succ_eq_append_getElem h, List.foldl_append]; rfl
theorem esG_tok : ∀ (gs : Gr) (b n : Nat), b + 2 * gs.length ≤ n → (esG b gs).all (fun q => tokLt n q.2) = true
 | [], b, n, h => rfl
 | (k, l) :: gs, b, n, h => by
   simp only [List.length_cons] at h
   simp only [esG, List.all_cons, tokLt, Bool.and_eq_true, decide_eq_true_eq]
   exact ⟨by omega, esG_tok gs (b + 2) n (by omega)⟩
theorem leS_rs {σ0 τ : St} {n : Nat} (E : Nat) {m m' : St} (h : leS σ0 n τ m m') : ∀ (gs : Gr), leS σ0 n τ (rsG E gs ++ m) (rsG E gs ++ m')
 | [] => by simpa [rsG] using h
 | (k, l) :: gs => by
   simp only [rsG, List.cons_append, leS, leO, true_and, and_self]
   exact leS_rs E h gs
theorem leS_rs0 {σ0 τ : St} {n : Nat} (E : Nat) (gs : Gr) : leS σ0 n τ (rsG E gs) (rsG E gs) := by
 have := leS_rs (σ0 := σ0) (τ := τ) (n := n) E (m := []) (m' := []) (by simp [leS]) gs
 simpa using this
theorem leS_rs1 {σ0 τ : St} {n : Nat} (E : Nat) (o : Option Ob) (gs : Gr) : leS σ0 n τ (rsG E gs ++ [o]) (rsG E gs) := by
 have := leS_rs (σ0 := σ0) (τ := τ) (n := n) E (m := [o]) (m' := []) (by simp [leS]) gs
 simpa using this
theorem get8 {α : Type} {a0 a1 a2 a3 a4 a5 a6 a7 : α} {l : List α} {n : Nat} : (a0 :: a1 :: a2 :: a3 :: a4 :: a5 :: a6 :: a7 :: l)[n + 8]? = l[n]? := by simp only [List.getElem?_cons_succ]
theorem set8 {α : Type} {a0 a1 a2 a3 a4 a5 a6 a7 x : α} {l : List α} {n : Nat} : (a0 :: a1 :: a2 :: a3 :: a4 :: a5 :: a6 :: a7 :: l).set (n + 8) x = a0 :: a1 :: a2 :: a3 :: a4 :: a5 :: a6 :: a7 :: l.set n x := by simp only [List.set_cons_succ]
theorem lookG (k : ByteArray) (gs : Gr) (b : Nat) : lookA .string (.slice none 0 0) (.string k) false (esG b gs) = some (match findG k gs with | none => nilA | some x => .own (2 * x.1 + 1 + b) 1 (enVV x.2)) := by
 simp only [lookA, keyOk, if_true, findMK_G]
 cases findG k gs with
 | none => rfl
 | some x => rfl
theorem updG (k : ByteArray) (gs : Gr) (b : Nat) (x : AV) : updK .string (.string k) x (esG b gs) = some (match findG k gs with | none => esG b gs ++ [(.string k, x)] | some y => (esG b gs).set y.1 (.string k, x)) := by
 simp only [updK, keyOk, if_true, findMK_G]
 cases findG k gs with
 | none => rfl
 | some x => simp
end Go.Proofs.YtpcblbbddccgpaaDoor
