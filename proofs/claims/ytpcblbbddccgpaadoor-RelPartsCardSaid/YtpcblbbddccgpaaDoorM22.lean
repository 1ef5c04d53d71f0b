/- The finder's methods: what expressions come to. The finder: what expressions come to. -/
import Derived.Test.YtpcblbbddccgpaaDoorM21
set_option linter.unusedSimpArgs false
set_option linter.unusedVariables false
set_option linter.defProp false
set_option maxRecDepth 100000
set_option maxHeartbeats 32000000
namespace Go.Proofs.YtpcblbbddccgpaaDoor
open Go.RowKit
def pl43_5Fd : Plan := (.det 0 (.det 1 (.det 2 (.det 3 (.det 4 (.det 5 (.det 6 (.det 7 (.det 8 (.det 9 (.det 10 (.det 11 (.det 12 (.det 13 (.det 14 (.det 15 (.det 16 (.det 17 (.det 18 (.det 19 (.det 20 (.det 21 (.det 22 (.det 23 (.det 24 (.det 25 (.det 26 (.fin 27 (.det 28 (.det 29 .done))))))))))))))))))))))))))))))
def pl43_6Fd : Plan := (.det 0 (.det 1 (.det 2 (.det 3 (.det 4 (.det 5 (.det 6 (.det 7 (.fin 8 .done)))))))))
def tFd := aa wX <| aa wbu <| aa T2 <| aa T3 <| aa T4 <| aa T24 <| aa T27 <| aa T31 <| aa T36 <| aa T69 T71
def fdO (row : List Va) (e : Int) : Ob := .row 2 [[.p (.sl 3 (enV row)), intV .i64 e]]
theorem fdP (row : List Va) (e : Int) : PlainOb (fdO row e) := ⟨fun g => by simp [renOb, fdO, renL, renA, intV], fun n => by simp [tokOb, fdO, tokLtL, tokLt, intV], 2, _, rfl⟩
theorem afail (row : List Va) (c e : Int) : OCalls (fdO row) 42 (fun t => [.mp t 2 0 0, intV .i64 c]) e fun r e' => r = vaA (failV c e).1 ∧ e' = (failV c e).2 := by
 refine OCalls.of (fdP row) (fun t => rfl) rfl ?_
 refine acalls_of cx_ok dr_ok Tryd.func42 (by kernel_rfl) rfl (nt := 13) (rs := [.cell 4 24]) rfl rfl ?_
 simp only [fdO]
 repeat' first | ((with_reducible first | refine cs ?_ ?_ | refine ws ?_ ?_) <;> intro h <;> try simp only [h]) | simp only [↓wBA, tFd, convA, seval]
 all_goals refine ret_obI (a := _) (b := _) (fdP _ _) ?_ rfl rfl
 all_goals simp only [↓wBA, tFd, convA, seval]
 all_goals simp_all [wS, fdO, vaA, vaC, failV, va0, emp]
theorem anumV (row : List Va) (k a b e : Int) : OCalls (fdO row) 57 (fun t => [.mp t 2 0 0, intV .i64 k, intV .i64 a, intV .i64 b]) e fun r e' => r = vaA (numV k a b e).1 ∧ e' = (numV k a b e).2 := by
 refine OCalls.of (fdP row) (fun t => rfl) rfl ?_
 refine acalls_of cx_ok dr_ok Tryd.func57 (by kernel_rfl) rfl (nt := 79) (rs := [.cell 8 24]) rfl rfl ?_
 simp only [fdO]
 have ha : (a == 0) = true ∨ ((a == 0) = false ∧ (a = 0) = False) := by by_cases h : a = 0 <;> simp [h]
 have hb : (b == 0) = true ∨ ((b == 0) = false ∧ (b = 0) = False) := by by_cases h : b = 0 <;> simp [h]
 rcases ha with ha | ⟨ha, ha2⟩ <;> rcases hb with hb | ⟨hb, hb2⟩
 ·skip
  repeat' first | ((with_reducible first | refine cs ?_ ?_ | refine ws ?_ ?_) <;> intro h <;> try simp only [h]) | simp only [↓wBA, tFd, convA, seval, ha, hb] | ((with_reducible show ACalls _ _ _ _ _); refine (afail row _ _ _ 0 rfl).mono ?_; rintro _ _ ⟨_, ⟨rfl, rfl⟩, rfl⟩; simp only [fdO, vaA, vaC, List.map_cons, List.map_nil])
  all_goals refine ret_obI (a := _) (b := _) (fdP _ _) ?_ rfl rfl
  all_goals simp only [↓wBA, tFd, convA, seval]
  all_goals simp_all [wS, fdO, vaA, vaC, numV, failV, va0, emp]
 ·skip
  repeat' first | ((with_reducible first | refine cs ?_ ?_ | refine ws ?_ ?_) <;> intro h <;> try simp only [h]) | simp only [↓wBA, tFd, convA, seval, ha, hb, hb2] | ((with_reducible show ACalls _ _ _ _ _); refine (afail row _ _ _ 0 rfl).mono ?_; rintro _ _ ⟨_, ⟨rfl, rfl⟩, rfl⟩; simp only [fdO, vaA, vaC, List.map_cons, List.map_nil])
  all_goals refine ret_obI (a := _) (b := _) (fdP _ _) ?_ rfl rfl
  all_goals simp only [↓wBA, tFd, convA, seval]
  all_goals simp_all [wS, fdO, vaA, vaC, numV, failV, va0, emp]
 ·skip
  repeat' first | ((with_reducible first | refine cs ?_ ?_ | refine ws ?_ ?_) <;> intro h <;> try simp only [h]) | simp only [↓wBA, tFd, convA, seval, ha, ha2, hb] | ((with_reducible show ACalls _ _ _ _ _); refine (afail row _ _ _ 0 rfl).mono ?_; rintro _ _ ⟨_, ⟨rfl, rfl⟩, rfl⟩; simp only [fdO, vaA, vaC, List.map_cons, List.map_nil])
  all_goals refine ret_obI (a := _) (b := _) (fdP _ _) ?_ rfl rfl
  all_goals simp only [↓wBA, tFd, convA, seval]
  all_goals simp_all [wS, fdO, vaA, vaC, numV, failV, va0, emp]
 ·skip
  repeat' first | ((with_reducible first | refine cs ?_ ?_ | refine ws ?_ ?_) <;> intro h <;> try simp only [h]) | simp only [↓wBA, tFd, convA, seval, ha, ha2, hb, hb2] | ((with_reducible show ACalls _ _ _ _ _); refine (afail row _ _ _ 0 rfl).mono ?_; rintro _ _ ⟨_, ⟨rfl, rfl⟩, rfl⟩; simp only [fdO, vaA, vaC, List.map_cons, List.map_nil])
  all_goals refine ret_obI (a := _) (b := _) (fdP _ _) ?_ rfl rfl
  all_goals simp only [↓wBA, tFd, convA, seval]
  all_goals simp_all [wS, fdO, vaA, vaC, numV, failV, va0, emp]
theorem aleafV (row : List Va) (k vk vn : Int) (vs tb nm : ByteArray) (s : Int) (kids : List Ex) (e : Int) : OCalls (fdO row) 43 (fun t => [.mp t 2 0 0, exA (.mk k vk vn vs tb nm s kids)]) e fun r e' => r = vaA (leafV row k (vk, vn, vs) s e).1 ∧ e' = (leafV row k (vk, vn, vs) s e).2 := by
 refine OCalls.of (fdP row) (fun t => rfl) rfl ?_
 refine acalls_of cx_ok dr_ok Tryd.func43 (by kernel_rfl) rfl (nt := 60) (rs := [.cell 4 24]) rfl rfl ?_
 simp only [fdO, exA, exC, List.map_cons, List.map_nil]
 have hs : (0 ≤ s ∧ s < (row.length : Int)) ∨ ¬ (0 ≤ s) ∨ (0 ≤ s ∧ ¬ s < (row.length : Int)) := by omega
 rcases hs with ⟨hs, hs2⟩ | hs | ⟨hs, hs2⟩
 ·have hg : (enV row)[s.toNat]? = some (vaC (row.getD s.toNat va0)) := by rw [enV_get row s.toNat (by omega)]; simp [List.getD, show s.toNat < row.length by omega]
  have h1 : decide (s ≥ 0) = true := by simp; omega
  have h2 : decide (s < (row.length : Int)) = true := by simp; omega
  have h0 : ((0 : Int) ≤ s) = True := eq_true hs
  repeat' first | ((with_reducible first | refine cs ?_ ?_ | refine ws ?_ ?_ | refine wd ?_ ?_ | refine wu ?_ ?_) <;> intro h <;> try simp only [h]) | simp only [↓wBA, tFd, convA, seval, pl43_5Fd, pl43_6Fd, enV_len, hg, h1, h2, h0, vaC_len, List.length_map] | ((with_reducible show ACalls _ _ _ _ _); first | (refine (afail row _ _ _ 0 rfl).mono ?_; rintro _ _ ⟨_, ⟨rfl, rfl⟩, rfl⟩; simp only [fdO, vaA, vaC, List.map_cons, List.map_nil]) | refine (aokV (_, _, _) _).eq ?_ | refine (aokV _ _).eq ?_) | (with_reducible refine dP pl43_5Fd 30 (some 23) (by decide) (by kernel_rfl) ?_) | (with_reducible refine dP pl43_6Fd 9 (some 52) (by decide) (by kernel_rfl) ?_)
  all_goals refine ret_obI (a := _) (b := _) (fdP _ _) ?_ rfl rfl
  all_goals simp only [↓wBA, tFd, convA, seval]
  all_goals simp_all [wS, fdO, vaA, vaC, leafV, failV, va0, emp]
  all_goals grind
 ·have h1 : decide (s ≥ 0) = false := by simp; omega
  repeat' first | ((with_reducible first | refine cs ?_ ?_ | refine ws ?_ ?_ | refine wd ?_ ?_ | refine wu ?_ ?_) <;> intro h <;> try simp only [h]) | simp only [↓wBA, tFd, convA, seval, pl43_5Fd, pl43_6Fd, enV_len, h1, vaC_len, List.length_map] | ((with_reducible show ACalls _ _ _ _ _); first | (refine (afail row _ _ _ 0 rfl).mono ?_; rintro _ _ ⟨_, ⟨rfl, rfl⟩, rfl⟩; simp only [fdO, vaA, vaC, List.map_cons, List.map_nil]) | refine (aokV (_, _, _) _).eq ?_) | (with_reducible refine dP pl43_5Fd 30 (some 23) (by decide) (by kernel_rfl) ?_) | (with_reducible refine dP pl43_6Fd 9 (some 52) (by decide) (by kernel_rfl) ?_)
  all_goals refine ret_obI (a := _) (b := _) (fdP _ _) ?_ rfl rfl
  all_goals simp only [↓wBA, tFd, convA, seval]
  all_goals simp_all [wS, fdO, vaA, vaC, leafV, failV, va0, emp]
  all_goals grind
 ·have h1 : decide (s ≥ 0) = true := by simp; omega
  have h2 : decide (s < (row.length : Int)) = false := by simp; omega
  repeat' first | ((with_reducible first | refine cs ?_ ?_ | refine ws ?_ ?_ | refine wd ?_ ?_ | refine wu ?_ ?_) <;> intro h <;> try simp only [h]) | simp only [↓wBA, tFd, convA, seval, pl43_5Fd, pl43_6Fd, enV_len, h1, h2, vaC_len, List.length_map] | ((with_reducible show ACalls _ _ _ _ _); first | (refine (afail row _ _ _ 0 rfl).mono ?_; rintro _ _ ⟨_, ⟨rfl, rfl⟩, rfl⟩; simp only [fdO, vaA, vaC, List.map_cons, List.map_nil]) | refine (aokV (_, _, _) _).eq ?_) | (with_reducible refine dP pl43_5Fd 30 (some 23) (by decide) (by kernel_rfl) ?_) | (with_reducible refine dP pl43_6Fd 9 (some 52) (by decide) (by kernel_rfl) ?_)
  all_goals refine ret_obI (a := _) (b := _) (fdP _ _) ?_ rfl rfl
  all_goals simp only [↓wBA, tFd, convA, seval]
  all_goals simp_all [wS, fdO, vaA, vaC, leafV, failV, va0, emp]
  all_goals grind
end Go.Proofs.YtpcblbbddccgpaaDoor
namespace Go.Proofs.YtpcblbbddccgpaaDoor
open Go.RowKit
def tFe := aa wX <| aa wbu <| aa T2 <| aa T3 <| aa T4 <| aa T24 <| aa T25 <| aa T27 <| aa T31 <| aa T58 <| aa T69 T71
def FindOK (row : List Va) (x : Ex) : Prop := ∀ e, OCalls (fdO row) 36 (fun t => [.mp t 2 0 0, exA x]) e fun r e' => r = vaA (findV row x e).1 ∧ e' = (findV row x e).2
theorem asomeV (v : Va) (σ : St) : ACalls Tryd.prog 72 [vaA v] σ fun r s => s = σ ∧ r = boolV (someV v) := by
 refine ACalls.pureF (R := fun r => r = boolV (someV v)) ?_ rfl σ
 obtain ⟨k, n, t⟩ := v
 refine acalls_of cx_ok dr_ok Tryd.func72 (by kernel_rfl) rfl (nt := 10) (rs := [.tmp 2]) rfl rfl ?_
 simp only [vaA, vaC, List.map_cons, List.map_nil]
 repeat' first | ((with_reducible first | refine cs ?_ ?_ | refine ws ?_ ?_) <;> intro h <;> try simp only [h]) | simp only [↓wBA, tFe, convA, seval]
 all_goals refine ret_is (a := _) ?_ rfl rfl
 all_goals simp only [↓wBA, tFe, convA, seval]
 all_goals simp_all [wS, someV]
 all_goals grind
theorem alogV (row : List Va) (k vk vn : Int) (vs tb nm : ByteArray) (s : Int) (x y : Ex) (hy : FindOK row y) (a : Va) (e : Int) : OCalls (fdO row) 56 (fun t => [.mp t 2 0 0, exA (.mk k vk vn vs tb nm s [x, y]), vaA a]) e fun r e' => r = vaA (match logA k a e with | some r => r | none => logB k a (findV row y e).1 (findV row y e).2).1 ∧ e' = (match logA k a e with | some r => r | none => logB k a (findV row y e).1 (findV row y e).2).2 := by
 refine OCalls.of (fdP row) (fun t => rfl) rfl ?_
 obtain ⟨a1, a2, a3⟩ := a
 refine acalls_of cx_ok dr_ok Tryd.func56 (by kernel_rfl) rfl (nt := 64) (rs := [.cell 6 24]) rfl rfl ?_
 simp only [fdO, exA, exC, exL, vaA, vaC, List.map_cons, List.map_nil]
 have hb : findV row y e = ((findV row y e).1, (findV row y e).2) := rfl
 generalize hb1 : (findV row y e).1 = b at *
 generalize hb2 : (findV row y e).2 = e2 at *
 repeat' first | ((with_reducible first | refine cs ?_ ?_ | refine ws ?_ ?_) <;> intro h <;> try simp only [h]) | simp only [↓wBA, tFe, convA, seval, exC_len] | ((with_reducible show ACalls _ _ _ _ _); first | (refine (afail row _ _ _ 0 rfl).mono ?_; rintro _ _ ⟨_, ⟨rfl, rfl⟩, rfl⟩; simp only [fdO, vaA, vaC, List.map_cons, List.map_nil]) | (refine (atruth _ _).eq ?_; simp only [vaA, vaC, trV, List.map_cons, List.map_nil]) | refine (asomeV (_, _, _) _).eq ?_ | (refine (hy _ _ 0 rfl).mono ?_; rintro _ _ ⟨_, ⟨rfl, rfl⟩, rfl⟩; simp only [hb1, hb2]; obtain ⟨b1, b2, b3⟩ := b; simp only [fdO, vaA, vaC, List.map_cons, List.map_nil]))
 all_goals refine ret_obI (a := _) (b := _) (fdP _ _) ?_ rfl rfl
 all_goals simp only [↓wBA, tFe, convA, seval]
 all_goals simp_all [wS, fdO, vaA, vaC, logA, logB, eqV, trV, failV, va0, emp]
 all_goals grind
theorem aoneV (row : List Va) (k vk vn : Int) (vs tb nm : ByteArray) (s : Int) (x : Ex) (hx : FindOK row x) (e : Int) : OCalls (fdO row) 44 (fun t => [.mp t 2 0 0, exA (.mk k vk vn vs tb nm s [x])]) e fun r e' => r = vaA (oneV k (findV row x e).1 (findV row x e).2).1 ∧ e' = (oneV k (findV row x e).1 (findV row x e).2).2 := by
 refine OCalls.of (fdP row) (fun t => rfl) rfl ?_
 refine acalls_of cx_ok dr_ok Tryd.func44 (by kernel_rfl) rfl (nt := 63) (rs := [.cell 4 24]) rfl rfl ?_
 simp only [fdO, exA, exC, exL, List.map_cons, List.map_nil]
 generalize hb1 : (findV row x e).1 = b at *
 generalize hb2 : (findV row x e).2 = e2 at *
 repeat' first | ((with_reducible first | refine cs ?_ ?_ | refine ws ?_ ?_) <;> intro h <;> try simp only [h]) | simp only [↓wBA, tFe, convA, seval, exC_len, List.length_map] | ((with_reducible show ACalls _ _ _ _ _); first | (refine (afail row _ _ _ 0 rfl).mono ?_; rintro _ _ ⟨_, ⟨rfl, rfl⟩, rfl⟩; simp only [fdO, vaA, vaC, List.map_cons, List.map_nil]) | (refine (atruth _ _).eq ?_; simp only [vaA, vaC, trV, List.map_cons, List.map_nil]) | (refine (hx _ _ 0 rfl).mono ?_; rintro _ _ ⟨_, ⟨rfl, rfl⟩, rfl⟩; simp only [hb1, hb2]; obtain ⟨b1, b2, b3⟩ := b; simp only [fdO, vaA, vaC, List.map_cons, List.map_nil]))
 all_goals refine ret_obI (a := _) (b := _) (fdP _ _) ?_ rfl rfl
 all_goals simp only [↓wBA, tFe, convA, seval]
 all_goals simp_all [wS, fdO, vaA, vaC, oneV, trV, failV, va0, emp]
 all_goals grind
theorem rel_get (k c : Int) (h : 10 ≤ k) (h' : k ≤ 15) : ([[PV.v (.bool (c == 0))], [.v (.bool (c != 0))], [.v (.bool (decide (c < 0)))], [.v (.bool (decide (c ≤ 0)))], [.v (.bool (decide (c > 0)))], [.v (.bool (decide (c ≥ 0)))]] : List (List PV))[(k - 10).toNat]? = some [.v (.bool (relV k c))] := by
 have : k = 10 ∨ k = 11 ∨ k = 12 ∨ k = 13 ∨ k = 14 ∨ k = 15 := by omega
 rcases this with rfl | rfl | rfl | rfl | rfl | rfl <;> simp [relV, bne] <;> grind
theorem atwoV (row : List Va) (k vk vn : Int) (vs tb nm : ByteArray) (s : Int) (hk : 5 ≤ k ∧ k ≤ 17) (x y : Ex) (hx : FindOK row x) (hy : FindOK row y) (e : Int) : OCalls (fdO row) 45 (fun t => [.mp t 2 0 0, exA (.mk k vk vn vs tb nm s [x, y])]) e fun r e' => r = vaA (findV row (.mk k vk vn vs tb nm s [x, y]) e).1 ∧ e' = (findV row (.mk k vk vn vs tb nm s [x, y]) e).2 := by
 refine OCalls.of (fdP row) (fun t => rfl) rfl ?_
 refine acalls_of cx_ok dr_ok Tryd.func45 (by kernel_rfl) rfl (nt := 98) (rs := [.cell 4 24]) rfl rfl ?_
 simp only [fdO, exA, exC, exL, List.map_cons, List.map_nil]
 have hL := fun a e => alogV row k vk vn vs tb nm s x y hy a e
 have hk2 : kidsV k = 2 := by unfold kidsV; rw [if_neg (by omega), if_neg (by omega), if_pos hk]
 simp only [findV, hk2]
 generalize hb1 : (findV row x e).1 = a at *
 generalize hb2 : (findV row x e).2 = e2 at *
 obtain ⟨a1, a2, a3⟩ := a
 generalize hc1 : (findV row y e2).1 = b at *
 generalize hc2 : (findV row y e2).2 = e3 at *
 obtain ⟨b1, b2, b3⟩ := b
 rcases (by omega : k ≤ 9 ∨ (10 ≤ k ∧ k ≤ 15) ∨ 16 ≤ k) with h9 | ⟨h10, h15⟩ | h16
 ·have d1 : decide (k ≥ 16) = false := by simp; omega
  have d2 : decide (k ≤ 9) = true := by simp; omega
  have d3 : ¬ 16 ≤ k := by omega
  repeat' first | ((with_reducible first | refine cs ?_ ?_ | refine ws ?_ ?_) <;> intro h <;> try simp only [h]) | simp only [↓wBA, tFe, convA, seval, exC_len, List.length_map, d1, d2] | ((with_reducible show ACalls _ _ _ _ _); first | (refine (afail row _ _ _ 0 rfl).mono ?_; rintro _ _ ⟨_, ⟨rfl, rfl⟩, rfl⟩; simp only [fdO, vaA, vaC, List.map_cons, List.map_nil]) | (refine (hx _ _ 0 rfl).mono ?_; rintro _ _ ⟨_, ⟨rfl, rfl⟩, rfl⟩; simp only [hb1, hb2]; simp only [fdO, vaA, vaC, List.map_cons, List.map_nil]) | (refine (hy _ _ 0 rfl).mono ?_; rintro _ _ ⟨_, ⟨rfl, rfl⟩, rfl⟩; simp only [hc1, hc2]; simp only [fdO, vaA, vaC, List.map_cons, List.map_nil]) | (refine (anumV row _ _ _ _ _ 0 rfl).mono ?_; rintro _ _ ⟨_, ⟨rfl, rfl⟩, rfl⟩; simp only [fdO, vaA, vaC, List.map_cons, List.map_nil]))
  all_goals simp only [d3, ne_eq, not_true_eq_false, if_false]
  all_goals refine ret_obI (a := _) (b := _) (fdP _ _) ?_ rfl rfl
  all_goals simp only [↓wBA, tFe, convA, seval]
  all_goals simp_all [wS, fdO, vaA, vaC, twoV, trV, failV, va0, emp]
  all_goals grind
 ·have d1 : decide (k ≥ 16) = false := by simp; omega
  have d2 : decide (k ≤ 9) = false := by simp; omega
  have d3 : ¬ 16 ≤ k := by omega
  have d4 : ¬ k ≤ 9 := by omega
  have hw : IntKind.i64.wrap (k - 10) = k - 10 := wrap_i64 (by omega) (by omega)
  have h0 : ((0 : Int) ≤ k - 10) = True := eq_true (by omega)
  have hg := fun c => rel_get k c h10 h15
  repeat' first | ((with_reducible first | refine cs ?_ ?_ | refine ws ?_ ?_) <;> intro h <;> try simp only [h]) | simp only [↓wBA, tFe, convA, seval, exC_len, List.length_map, d1, d2, hw, h0, hg] | ((with_reducible show ACalls _ _ _ _ _); first | (refine (afail row _ _ _ 0 rfl).mono ?_; rintro _ _ ⟨_, ⟨rfl, rfl⟩, rfl⟩; simp only [fdO, vaA, vaC, List.map_cons, List.map_nil]) | (refine (atruth _ _).eq ?_; simp only [vaA, vaC, trV, List.map_cons, List.map_nil]) | (refine (hx _ _ 0 rfl).mono ?_; rintro _ _ ⟨_, ⟨rfl, rfl⟩, rfl⟩; simp only [hb1, hb2]; simp only [fdO, vaA, vaC, List.map_cons, List.map_nil]) | (refine (hy _ _ 0 rfl).mono ?_; rintro _ _ ⟨_, ⟨rfl, rfl⟩, rfl⟩; simp only [hc1, hc2]; simp only [fdO, vaA, vaC, List.map_cons, List.map_nil]) | refine (acmpV (_, _, _) (_, _, _) _).eq ?_)
  all_goals simp only [d3, d4, ne_eq, not_true_eq_false, if_false]
  all_goals refine ret_obI (a := _) (b := _) (fdP _ _) ?_ rfl rfl
  all_goals simp only [↓wBA, tFe, convA, seval]
  all_goals simp_all [wS, fdO, vaA, vaC, twoV, trV, failV, va0, emp]
  all_goals grind
 ·have d1 : decide (k ≥ 16) = true := by simp; omega
  repeat' first | ((with_reducible first | refine cs ?_ ?_ | refine ws ?_ ?_) <;> intro h <;> try simp only [h]) | simp only [↓wBA, tFe, convA, seval, exC_len, List.length_map, d1] | ((with_reducible show ACalls _ _ _ _ _); first | (refine (hx _ _ 0 rfl).mono ?_; rintro _ _ ⟨_, ⟨rfl, rfl⟩, rfl⟩; simp only [hb1, hb2]; simp only [fdO, vaA, vaC, List.map_cons, List.map_nil]) | (refine (hL (_, _, _) _ _ 0 rfl).mono ?_; rintro _ _ ⟨_, ⟨rfl, rfl⟩, rfl⟩; simp only [fdO, vaA, vaC, List.map_cons, List.map_nil]))
  all_goals simp only [h16, ne_eq, not_true_eq_false, if_false, if_true]
  all_goals refine ret_obI (a := _) (b := _) (fdP _ _) ?_ rfl rfl
  all_goals simp only [↓wBA, tFe, convA, seval]
  all_goals simp_all [wS, fdO, vaA, vaC]
  all_goals grind
end Go.Proofs.YtpcblbbddccgpaaDoor
