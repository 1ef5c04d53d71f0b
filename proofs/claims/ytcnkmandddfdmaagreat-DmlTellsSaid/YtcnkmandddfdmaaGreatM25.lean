/- cadastreref14.Bind tells what the program's Bind does: one kid, many. cadastreref14.Bind tells what the program's Bind does: one kid. cadastreref14.Bind tells what the program's Bind does: two kids. -/
import Derived.Test.YtcnkmandddfdmaaGreatM24
set_option linter.unusedSimpArgs false
set_option linter.unusedVariables false
set_option linter.defProp false
set_option maxRecDepth 100000
set_option maxHeartbeats 32000000
namespace Go.Proofs.YtcnkmandddfdmaaGreat
open Go.RowKit
def pl54_8Bs : Plan := (.det 0 (.det 1 (.det 2 (.det 3 (.det 4 (.det 5 (.act 6 (.det 7 (.det 8 .done)))))))))
def pl54_13Bs : Plan := (.det 0 (.det 1 (.det 2 (.det 3 (.det 4 (.det 5 (.det 6 (.act 7 (.det 8 (.det 9 .done))))))))))
def tBs := aa wX <| aa wbu <| aa T3 <| aa T4 <| aa T9 <| aa T33 <| aa T39 <| aa T56 <| aa T70 <| aa T80 <| aa T114 T149
theorem bndS_one (cols : List Bc) (k vk vn : Int) (vs tb nm : ByteArray) (s : Int) (x : Ex) : bndS cols (.mk k vk vn vs tb nm s [x]) = if aggB k = true then bErr 33 else if ¬ (k = 3 ∨ k = 4 ∨ k = 18 ∨ k = 19) then bErr 1 else if (bndS cols x).2.2 ≠ 0 then bErr (bndS cols x).2.2 else if (typedS k [(bndS cols x).2.1]).2 = false then bErr 33 else (.mk k 0 0 emp emp emp 0 [(bndS cols x).1], (typedS k [(bndS cols x).2.1]).1, 0) := by
 simp only [bndS, List.length_cons, List.length_nil]
 by_cases ha : aggB k = true
 ·rw [if_pos ha, if_pos ha]
 rw [if_neg ha, if_neg ha]
 by_cases hk : k = 3 ∨ k = 4 ∨ k = 18 ∨ k = 19
 ·have h1 : ¬ ((((0 + 1 : Nat) : Int)) ≠ kidsB k) := by rcases hk with rfl | rfl | rfl | rfl <;> decide
  rw [if_neg h1, if_neg (by omega), if_neg (by omega)]
  by_cases he : (bndS cols x).2.2 = 0
  ·have hL : bndL cols [x] = ([(bndS cols x).1], [(bndS cols x).2.1], 0) := by simp [bndL, he]
   rw [hL]; simp [hk, he]
  ·have hL : bndL cols [x] = ([], [], (bndS cols x).2.2) := by simp [bndL, he]
   rw [hL]; simp [hk, he]
 ·have h1 : (((0 + 1 : Nat) : Int)) ≠ kidsB k := by
   unfold kidsB
   by_cases h12 : k = 1 ∨ k = 2
   ·rw [if_pos h12]; decide
   ·rw [if_neg h12, if_neg hk]; split <;> decide
  rw [if_pos h1, if_pos hk]
theorem afitsT (t w : Int) (σ : St) : ACalls Tryz.prog 82 [intV .i64 t, intV .i64 w] σ fun r s => s = σ ∧ r = boolV (decide (t = 0 ∨ t = w)) := by
 refine ACalls.pureF (R := fun r => r = boolV (decide (t = 0 ∨ t = w))) ?_ rfl σ
 refine acalls_of cx_ok dr_ok Tryz.func82 (by kernel_rfl) rfl (nt := 10) (rs := [.tmp 4]) rfl rfl ?_
 repeat' first | ((with_reducible first | refine cs ?_ ?_ | refine ws ?_ ?_) <;> intro h <;> try simp only [h]) | simp only [↓wBA, tBs, convA, seval]
 all_goals refine ret_is (a := _) ?_ rfl rfl
 all_goals simp only [↓wBA, tBs, convA, seval]
 all_goals simp_all [wS]
 all_goals (try rfl)
theorem aBind1n (cols : List Bc) (k vk vn : Int) (vs tb nm : ByteArray) (s : Int) (x : Ex) (hk : ¬ (k = 3 ∨ k = 4 ∨ k = 18 ∨ k = 19)) : BrOK cols (.mk k vk vn vs tb nm s [x]) := fun σ => by
 refine ACalls.pureF (R := fun r => r = .tup [exA (bndS cols (.mk k vk vn vs tb nm s [x])).1, intV .i64 (bndS cols (.mk k vk vn vs tb nm s [x])).2.1, intV .i64 (bndS cols (.mk k vk vn vs tb nm s [x])).2.2]) ?_ rfl σ
 rw [bndS_one]
 have n0 : (((1 : Nat) : Int) == 0) = false := rfl
 have n1 : (((1 : Nat) : Int) == 1) = true := rfl
 have n3 : (((1 : Nat) : Int) != 2) = true := rfl
 obtain ⟨x1, x2, x3, x4, x5, x6, x7, x8⟩ := x
 refine acalls_of cx_ok dr_ok Tryz.func54 (by kernel_rfl) rfl (nt := 225) (rs := [.cell 4 70, .tmp 5, .tmp 6]) rfl rfl ?_
 simp only [exA, exC, exL_one, List.map_cons, List.map_nil]
 by_cases h20 : k ≥ 20
 ·have t20 : decide (k ≥ 20) = true := decide_eq_true h20
  by_cases h23 : k ≤ 23
  ·have t23 : decide (k ≤ 23) = true := decide_eq_true h23
   rw [if_pos (by unfold aggB; simp; omega)]
   repeat' first | ((with_reducible first | refine cs ?_ ?_ | refine ws ?_ ?_ | refine wd ?_ ?_ | refine wu ?_ ?_) <;> intro h <;> try simp only [h]) | simp only [↓wBA, tBs, convA, seval, pl54_8Bs, pl54_13Bs, List.length_cons, List.length_nil, t20, t23] | (with_reducible refine dP pl54_8Bs 9 (some 49) (by decide) (by kernel_rfl) ?_) | (with_reducible refine dP pl54_13Bs 10 (some 76) (by decide) (by kernel_rfl) ?_)
   all_goals refine ret_is (a := _) ?_ rfl rfl
   all_goals simp only [↓wBA, tBs, convA, seval]
   all_goals simp_all [wS, bErr, ex0, exC, exL, emp]
  ·have t23 : decide (k ≤ 23) = false := decide_eq_false h23
   have e1 : (k == 1) = false := by simp; omega
   have e2 : (k == 2) = false := by simp; omega
   have e3 : (k == 3) = false := by simp; omega
   have e4 : (k == 4) = false := by simp; omega
   have e18 : (k == 18) = false := by simp; omega
   have e19 : (k == 19) = false := by simp; omega
   rw [if_neg (by unfold aggB; simp; omega), if_pos (by omega)]
   repeat' first | ((with_reducible first | refine cs ?_ ?_ | refine ws ?_ ?_ | refine wd ?_ ?_ | refine wu ?_ ?_) <;> intro h <;> try simp only [h]) | simp only [↓wBA, tBs, convA, seval, pl54_8Bs, pl54_13Bs, List.length_cons, List.length_nil, t20, t23, e1, e2, e3, e4, e18, e19, n0, n1, n3] | (with_reducible refine dP pl54_8Bs 9 (some 49) (by decide) (by kernel_rfl) ?_) | (with_reducible refine dP pl54_13Bs 10 (some 76) (by decide) (by kernel_rfl) ?_)
   all_goals refine ret_is (a := _) ?_ rfl rfl
   all_goals simp only [↓wBA, tBs, convA, seval]
   all_goals simp_all [wS, bErr, ex0, exC, exL, emp]
 have t20 : decide (k ≥ 20) = false := decide_eq_false h20
 rw [if_neg (by unfold aggB; simp; omega)]
 rw [if_pos hk]
 simp only [not_or] at hk
 obtain ⟨k3, k4, k18, k19⟩ := hk
 have e3 : (k == 3) = false := by simpa using k3
 have e4 : (k == 4) = false := by simpa using k4
 have e18 : (k == 18) = false := by simpa using k18
 have e19 : (k == 19) = false := by simpa using k19
 repeat' first | ((with_reducible first | refine cs ?_ ?_ | refine ws ?_ ?_ | refine wd ?_ ?_ | refine wu ?_ ?_) <;> intro h <;> try simp only [h]) | simp only [↓wBA, tBs, convA, seval, pl54_8Bs, pl54_13Bs, List.length_cons, List.length_nil, t20, e3, e4, e18, e19, n0, n1, n3] | (with_reducible refine dP pl54_8Bs 9 (some 49) (by decide) (by kernel_rfl) ?_) | (with_reducible refine dP pl54_13Bs 10 (some 76) (by decide) (by kernel_rfl) ?_)
 all_goals refine ret_is (a := _) ?_ rfl rfl
 all_goals simp only [↓wBA, tBs, convA, seval]
 all_goals simp_all [wS, bErr, ex0, exC, exL, emp]
end Go.Proofs.YtcnkmandddfdmaaGreat
namespace Go.Proofs.YtcnkmandddfdmaaGreat
open Go.RowKit
def pl54_8Bu : Plan := (.det 0 (.det 1 (.det 2 (.det 3 (.det 4 (.det 5 (.act 6 (.det 7 (.det 8 .done)))))))))
def pl54_13Bu : Plan := (.det 0 (.det 1 (.det 2 (.det 3 (.det 4 (.det 5 (.det 6 (.act 7 (.det 8 (.det 9 .done))))))))))
def tBu := aa wX <| aa wbu <| aa T3 <| aa T4 <| aa T9 <| aa T33 <| aa T39 <| aa T56 <| aa T70 <| aa T80 <| aa T114 T149
theorem only_one (m t : Int) : onlyS m [t] = decide (t = 0 ∨ t = m) := by
 simp only [onlyS, List.any_cons, List.any_nil, Bool.or_false, badT]
 by_cases h1 : t = 0 <;> by_cases h2 : t = m <;> simp [h1, h2, bne]
theorem aBind1s (cols : List Bc) (k vk vn : Int) (vs tb nm : ByteArray) (s : Int) (x : Ex) (hk : k = 3 ∨ k = 4 ∨ k = 18 ∨ k = 19) (ih : BrOK cols x) : BrOK cols (.mk k vk vn vs tb nm s [x]) := fun σ => by
 refine ACalls.pureF (R := fun r => r = .tup [exA (bndS cols (.mk k vk vn vs tb nm s [x])).1, intV .i64 (bndS cols (.mk k vk vn vs tb nm s [x])).2.1, intV .i64 (bndS cols (.mk k vk vn vs tb nm s [x])).2.2]) ?_ rfl σ
 rw [bndS_one, if_neg (by unfold aggB; simp; omega), if_neg (fun h => h hk)]
 have n0 : (((1 : Nat) : Int) == 0) = false := rfl
 have n1 : (((1 : Nat) : Int) == 1) = true := rfl
 have n3 : (((1 : Nat) : Int) != 2) = true := rfl
 have m3 : (3 : Int).tmod 2 = 1 := rfl
 have m4 : (4 : Int).tmod 2 = 0 := rfl
 have m5 : (18 : Int).tmod 2 = 0 := rfl
 have m6 : (19 : Int).tmod 2 = 1 := rfl
 have z2 : ((2 : Int) = 0) = False := eq_false (by decide)
 have x11 : IntKind.i64.wrap ((BitVec.ofInt IntKind.i64.bits 1 ^^^ BitVec.ofInt IntKind.i64.bits 1).toNat : Int) = 0 := by decide
 have x01 : IntKind.i64.wrap ((BitVec.ofInt IntKind.i64.bits 0 ^^^ BitVec.ofInt IntKind.i64.bits 1).toNat : Int) = 1 := by decide
 have b2 : ((0 : Int) < ((2 : Nat) : Int)) = True := eq_true (by decide)
 have b3 : ((1 : Int) < ((2 : Nat) : Int)) = True := eq_true (by decide)
 unfold BrOK at ih
 generalize bndS cols x = q at *
 obtain ⟨y, t, e⟩ := q
 obtain ⟨x1, x2, x3, x4, x5, x6, x7, x8⟩ := x
 obtain ⟨⟨⟨r1, r2, r3, r4, r5, r6, r7, r8⟩, rt, re⟩, hR⟩ : ∃ R : BR, (if e ≠ 0 then bErr e else if (typedS k [t]).2 = false then bErr 33 else (.mk k 0 0 emp emp emp 0 [y], (typedS k [t]).1, 0)) = R := ⟨_, rfl⟩
 rw [hR]
 obtain ⟨y1, y2, y3, y4, y5, y6, y7, y8⟩ := y
 simp only [bErr, ex0] at hR
 simp only [exA, exC, List.map_cons, List.map_nil] at ih
 refine acalls_of cx_ok dr_ok Tryz.func54 (by kernel_rfl) rfl (nt := 225) (rs := [.cell 4 70, .tmp 5, .tmp 6]) rfl rfl ?_
 simp only [exA, exC, exL_one, List.map_cons, List.map_nil]
 have d1 : decide ((3 : Int) ≥ 20) = false ∧ decide ((4 : Int) ≥ 20) = false ∧ decide ((18 : Int) ≥ 20) = false ∧ decide ((19 : Int) ≥ 20) = false := by decide
 have d2 : decide ((3 : Int) < 5) = true ∧ decide ((4 : Int) < 5) = true ∧ decide ((18 : Int) < 5) = false ∧ decide ((19 : Int) < 5) = false := by decide
 have d3 : decide ((3 : Int) ≥ 5) = false ∧ decide ((4 : Int) ≥ 5) = false ∧ decide ((18 : Int) ≥ 5) = true ∧ decide ((19 : Int) ≥ 5) = true := by decide
 rcases hk with rfl | rfl | rfl | rfl
 all_goals
  repeat' first | ((with_reducible first | refine cs ?_ ?_ | refine ws ?_ ?_ | refine wd ?_ ?_ | refine wu ?_ ?_) <;> intro h <;> try simp only [h]) | simp only [↓wBA, tBu, convA, seval, pl54_8Bu, pl54_13Bu, List.length_cons, List.length_nil, Int.reduceBEq, d1, d2, d3, n0, n1, n3, z2, m3, m4, m5, m6, x11, x01, b2, b3, bne_self_eq_false] | ((with_reducible show ACalls _ _ _ _ _); first | refine (ih _).eq ?_ | refine (afitsT _ _ _).eq ?_) | (with_reducible refine dP pl54_8Bu 9 (some 49) (by decide) (by kernel_rfl) ?_) | (with_reducible refine dP pl54_13Bu 10 (some 76) (by decide) (by kernel_rfl) ?_)
  all_goals simp only [typedS, only_one, Int.reduceEq, Int.reduceLE, or_self, or_true, true_or, or_false, false_or, and_true, and_self, false_and, if_true, if_false, reduceCtorEq, Bool.true_eq_false, decide_eq_false_iff_not] at hR
  all_goals (repeat' split at hR)
  all_goals (simp only [Prod.mk.injEq, Ex.mk.injEq] at hR; obtain ⟨⟨rfl, rfl, rfl, rfl, rfl, rfl, rfl, rfl⟩, rfl, rfl⟩ := hR)
  all_goals refine ret_is (a := _) ?_ rfl rfl
  all_goals simp only [↓wBA, tBu, convA, seval]
  all_goals simp_all [wS, exC, exL, emp]
  all_goals grind
end Go.Proofs.YtcnkmandddfdmaaGreat
namespace Go.Proofs.YtcnkmandddfdmaaGreat
open Go.RowKit
def pl54_8Bv : Plan := (.det 0 (.det 1 (.det 2 (.det 3 (.det 4 (.det 5 (.act 6 (.det 7 (.det 8 .done)))))))))
def pl54_13Bv : Plan := (.det 0 (.det 1 (.det 2 (.det 3 (.det 4 (.det 5 (.det 6 (.act 7 (.det 8 (.det 9 .done))))))))))
def tBv := aa wX <| aa wbu <| aa T3 <| aa T4 <| aa T9 <| aa T33 <| aa T39 <| aa T56 <| aa T70 <| aa T80 <| aa T114 T149
theorem kidsB_two (k : Int) : (((0 + 1 + 1 : Nat) : Int)) ≠ kidsB k ↔ ¬ (5 ≤ k ∧ k ≤ 17) := by
 unfold kidsB
 split
 ·rename_i h; refine iff_of_true (by decide) (by omega)
 ·split
  ·rename_i h; refine iff_of_true (by decide) (by omega)
  ·split
   ·rename_i h; refine iff_of_false (by decide) (by omega)
   ·rename_i h; exact iff_of_true (by decide) h
theorem bndS_two (cols : List Bc) (k vk vn : Int) (vs tb nm : ByteArray) (s : Int) (x y : Ex) : bndS cols (.mk k vk vn vs tb nm s [x, y]) = if aggB k = true then bErr 33 else if ¬ (5 ≤ k ∧ k ≤ 17) then bErr 1 else if (bndS cols x).2.2 ≠ 0 then bErr (bndS cols x).2.2 else if (bndS cols y).2.2 ≠ 0 then bErr (bndS cols y).2.2 else if (typedS k [(bndS cols x).2.1, (bndS cols y).2.1]).2 = false then bErr 33 else (.mk k 0 0 emp emp emp 0 [(bndS cols x).1, (bndS cols y).1], (typedS k [(bndS cols x).2.1, (bndS cols y).2.1]).1, 0) := by
 simp only [bndS, List.length_cons, List.length_nil, kidsB_two]
 by_cases ha : aggB k = true
 ·rw [if_pos ha, if_pos ha]
 rw [if_neg ha, if_neg ha]
 by_cases hk : ¬ (5 ≤ k ∧ k ≤ 17)
 ·rw [if_pos hk, if_pos hk]
 rw [if_neg hk, if_neg hk, if_neg (by omega), if_neg (by omega)]
 by_cases hx : (bndS cols x).2.2 = 0
 ·by_cases hy : (bndS cols y).2.2 = 0
  ·have hL : bndL cols [x, y] = ([(bndS cols x).1, (bndS cols y).1], [(bndS cols x).2.1, (bndS cols y).2.1], 0) := by simp [bndL, hx, hy]
   rw [hL]; simp [hx, hy]
  ·have hL : (bndL cols [x, y]).2.2 = (bndS cols y).2.2 := by simp [bndL, hx, hy]
   rw [hL]; simp [hx, hy]
 ·have hL : (bndL cols [x, y]).2.2 = (bndS cols x).2.2 := by simp [bndL, hx]
  rw [hL]; simp [hx]
theorem only_two (m t u : Int) : onlyS m [t, u] = (decide (t = 0 ∨ t = m) && decide (u = 0 ∨ u = m)) := by
 simp only [onlyS, List.any_cons, List.any_nil, Bool.or_false, badT]
 by_cases h1 : t = 0 <;> by_cases h2 : t = m <;> by_cases h3 : u = 0 <;> by_cases h4 : u = m <;> simp [h1, h2, h3, h4, bne]
theorem typed_two (k t u : Int) (hk : 5 ≤ k ∧ k ≤ 17) (ht : 0 ≤ t) (hu : 0 ≤ u) : typedS k [t, u] = if k ≤ 9 then (1, decide (t = 0 ∨ t = 1) && decide (u = 0 ∨ u = 1)) else if k ≥ 16 then (2, decide (t = 0 ∨ t = 2) && decide (u = 0 ∨ u = 2)) else (2, decide (t = 0 ∨ u = 0 ∨ t = u)) := by
 unfold typedS
 by_cases h9 : k ≤ 9
 ·rw [if_pos (by omega), if_pos h9, only_two]
 ·rw [if_neg (by omega), if_neg h9]
  by_cases h16 : k ≥ 16
  ·rw [if_pos (by omega), if_pos h16, only_two]
  ·rw [if_neg (by omega), if_neg (by omega), if_neg h16, only_two]
   simp only [List.getD_cons_succ, List.getD_cons_zero, Prod.mk.injEq, true_and]
   rw [← Bool.decide_and, decide_eq_decide]
   split <;> omega
def tyOk (cols : List Bc) : Prop := ∀ c ∈ cols, 0 ≤ c.2.2
theorem bndS_ty (cols : List Bc) (hc : tyOk cols) : ∀ x : Ex, 0 ≤ (bndS cols x).2.1
 | .mk k vk vn vs tb nm s kids => by
   simp only [bndS]
   repeat' split
   all_goals first | (simp only [bErr]; omega) | skip
   ·rename_i h
    simp only [okV] at h
    grind
   ·rename_i h
    have h0 : (findS tb nm cols).2 = 0 := by simpa using h
    obtain ⟨g0, g1⟩ := findS_lt h0
    simp only [List.getD, List.getElem?_eq_getElem g1, Option.getD_some]
    exact hc _ (List.getElem_mem g1)
   ·simp only [typedS]
    repeat' split
    all_goals simp
theorem aBind2n (cols : List Bc) (k vk vn : Int) (vs tb nm : ByteArray) (s : Int) (x y : Ex) (hk : ¬ (5 ≤ k ∧ k ≤ 17)) : BrOK cols (.mk k vk vn vs tb nm s [x, y]) := fun σ => by
 refine ACalls.pureF (R := fun r => r = .tup [exA (bndS cols (.mk k vk vn vs tb nm s [x, y])).1, intV .i64 (bndS cols (.mk k vk vn vs tb nm s [x, y])).2.1, intV .i64 (bndS cols (.mk k vk vn vs tb nm s [x, y])).2.2]) ?_ rfl σ
 rw [bndS_two, if_pos hk]
 have ha : aggB k = (decide (k ≥ 20) && decide (k ≤ 23)) := by simp [aggB]
 rw [ha]
 obtain ⟨⟨⟨r1, r2, r3, r4, r5, r6, r7, r8⟩, rt, re⟩, hR⟩ : ∃ R : BR, (if (decide (k ≥ 20) && decide (k ≤ 23)) = true then bErr 33 else bErr 1) = R := ⟨_, rfl⟩
 rw [hR]
 simp only [bErr, ex0] at hR
 have n0 : (((2 : Nat) : Int) == 0) = false := rfl
 have n1 : (((2 : Nat) : Int) == 1) = false := rfl
 have n3 : (((2 : Nat) : Int) != 2) = false := rfl
 obtain ⟨x1, x2, x3, x4, x5, x6, x7, x8⟩ := x
 obtain ⟨y1, y2, y3, y4, y5, y6, y7, y8⟩ := y
 refine acalls_of cx_ok dr_ok Tryz.func54 (by kernel_rfl) rfl (nt := 225) (rs := [.cell 4 70, .tmp 5, .tmp 6]) rfl rfl ?_
 simp only [exA, exC, exL, List.map_cons, List.map_nil]
 repeat' first | ((with_reducible first | refine cs ?_ ?_ | refine ws ?_ ?_ | refine wd ?_ ?_ | refine wu ?_ ?_) <;> intro h <;> try simp only [h]) | simp only [↓wBA, tBv, convA, seval, pl54_8Bv, pl54_13Bv, List.length_cons, List.length_nil, n0, n1, n3] | (with_reducible refine dP pl54_8Bv 9 (some 49) (by decide) (by kernel_rfl) ?_) | (with_reducible refine dP pl54_13Bv 10 (some 76) (by decide) (by kernel_rfl) ?_)
 all_goals first | (exfalso; simp at *; omega) | skip
 all_goals (repeat' split at hR)
 all_goals (simp only [Prod.mk.injEq, Ex.mk.injEq] at hR; obtain ⟨⟨rfl, rfl, rfl, rfl, rfl, rfl, rfl, rfl⟩, rfl, rfl⟩ := hR)
 all_goals refine ret_is (a := _) ?_ rfl rfl
 all_goals simp only [↓wBA, tBv, convA, seval]
 all_goals simp_all [wS, exC, exL, emp]
 all_goals grind
theorem aBind2 (cols : List Bc) (hc : tyOk cols) (k vk vn : Int) (vs tb nm : ByteArray) (s : Int) (x y : Ex) (hk : 5 ≤ k ∧ k ≤ 17) (ihx : BrOK cols x) (ihy : BrOK cols y) : BrOK cols (.mk k vk vn vs tb nm s [x, y]) := fun σ => by
 refine ACalls.pureF (R := fun r => r = .tup [exA (bndS cols (.mk k vk vn vs tb nm s [x, y])).1, intV .i64 (bndS cols (.mk k vk vn vs tb nm s [x, y])).2.1, intV .i64 (bndS cols (.mk k vk vn vs tb nm s [x, y])).2.2]) ?_ rfl σ
 rw [bndS_two, if_neg (by unfold aggB; simp; omega), if_neg (fun h => h hk)]
 have hx0 := bndS_ty cols hc x
 have hy0 := bndS_ty cols hc y
 rw [typed_two k _ _ hk hx0 hy0]
 have n0 : (((2 : Nat) : Int) == 0) = false := rfl
 have n1 : (((2 : Nat) : Int) == 1) = false := rfl
 have n3 : (((2 : Nat) : Int) != 2) = false := rfl
 have t20 : decide (k ≥ 20) = false := decide_eq_false (by omega)
 have e1 : (k == 1) = false := by simp; omega
 have e2 : (k == 2) = false := by simp; omega
 have l5 : decide (k < 5) = false := decide_eq_false (by omega)
 have l17 : decide (k > 17) = false := decide_eq_false (by omega)
 unfold BrOK at ihx ihy
 generalize bndS cols x = q at *
 generalize bndS cols y = p at *
 obtain ⟨z, t, e⟩ := q
 obtain ⟨w, u, f⟩ := p
 obtain ⟨ty, hty⟩ : ∃ ty : Int × Bool, (if k ≤ 9 then (1, decide (t = 0 ∨ t = 1) && decide (u = 0 ∨ u = 1)) else if k ≥ 16 then (2, decide (t = 0 ∨ t = 2) && decide (u = 0 ∨ u = 2)) else (2, decide (t = 0 ∨ u = 0 ∨ t = u))) = ty := ⟨_, rfl⟩
 simp only [hty]
 obtain ⟨⟨⟨r1, r2, r3, r4, r5, r6, r7, r8⟩, rt, re⟩, hR⟩ : ∃ R : BR, (if e ≠ 0 then bErr e else if f ≠ 0 then bErr f else if ty.2 = false then bErr 33 else (.mk k 0 0 emp emp emp 0 [z, w], ty.1, 0)) = R := ⟨_, rfl⟩
 rw [hR]
 subst hty
 simp only [bErr, ex0] at hR
 obtain ⟨x1, x2, x3, x4, x5, x6, x7, x8⟩ := x
 obtain ⟨y1, y2, y3, y4, y5, y6, y7, y8⟩ := y
 obtain ⟨z1, z2, z3, z4, z5, z6, z7, z8⟩ := z
 obtain ⟨w1, w2, w3, w4, w5, w6, w7, w8⟩ := w
 simp only [exA, exC, List.map_cons, List.map_nil] at ihx ihy
 refine acalls_of cx_ok dr_ok Tryz.func54 (by kernel_rfl) rfl (nt := 225) (rs := [.cell 4 70, .tmp 5, .tmp 6]) rfl rfl ?_
 simp only [exA, exC, exL, List.map_cons, List.map_nil]
 by_cases h9 : k ≤ 9
 ·have l9 : decide (k ≤ 9) = true := decide_eq_true h9
  simp only [if_pos h9] at hR
  repeat' first | ((with_reducible first | refine cs ?_ ?_ | refine ws ?_ ?_ | refine wd ?_ ?_ | refine wu ?_ ?_) <;> intro h <;> try simp only [h]) | simp only [↓wBA, tBv, convA, seval, pl54_8Bv, pl54_13Bv, List.length_cons, List.length_nil, n0, n1, n3, t20, e1, e2, l5, l17, l9] | ((with_reducible show ACalls _ _ _ _ _); first | refine (ihx _).eq ?_ | refine (ihy _).eq ?_ | refine (afitsT _ _ _).eq ?_) | (with_reducible refine dP pl54_8Bv 9 (some 49) (by decide) (by kernel_rfl) ?_) | (with_reducible refine dP pl54_13Bv 10 (some 76) (by decide) (by kernel_rfl) ?_)
  all_goals (repeat' split at hR)
  all_goals (simp only [Prod.mk.injEq, Ex.mk.injEq] at hR; obtain ⟨⟨rfl, rfl, rfl, rfl, rfl, rfl, rfl, rfl⟩, rfl, rfl⟩ := hR)
  all_goals refine ret_is (a := _) ?_ rfl rfl
  all_goals simp only [↓wBA, tBv, convA, seval]
  all_goals simp_all [wS, exC, exL, emp]
  all_goals grind
 have l9 : decide (k ≤ 9) = false := decide_eq_false h9
 simp only [if_neg h9] at hR
 by_cases h16 : k ≥ 16
 ·have l16 : decide (k ≥ 16) = true := decide_eq_true h16
  simp only [if_pos h16] at hR
  repeat' first | ((with_reducible first | refine cs ?_ ?_ | refine ws ?_ ?_ | refine wd ?_ ?_ | refine wu ?_ ?_) <;> intro h <;> try simp only [h]) | simp only [↓wBA, tBv, convA, seval, pl54_8Bv, pl54_13Bv, List.length_cons, List.length_nil, n0, n1, n3, t20, e1, e2, l5, l17, l9, l16] | ((with_reducible show ACalls _ _ _ _ _); first | refine (ihx _).eq ?_ | refine (ihy _).eq ?_ | refine (afitsT _ _ _).eq ?_) | (with_reducible refine dP pl54_8Bv 9 (some 49) (by decide) (by kernel_rfl) ?_) | (with_reducible refine dP pl54_13Bv 10 (some 76) (by decide) (by kernel_rfl) ?_)
  all_goals (repeat' split at hR)
  all_goals (simp only [Prod.mk.injEq, Ex.mk.injEq] at hR; obtain ⟨⟨rfl, rfl, rfl, rfl, rfl, rfl, rfl, rfl⟩, rfl, rfl⟩ := hR)
  all_goals refine ret_is (a := _) ?_ rfl rfl
  all_goals simp only [↓wBA, tBv, convA, seval]
  all_goals simp_all [wS, exC, exL, emp]
  all_goals grind
 ·have l16 : decide (k ≥ 16) = false := decide_eq_false h16
  simp only [if_neg h16] at hR
  repeat' first | ((with_reducible first | refine cs ?_ ?_ | refine ws ?_ ?_ | refine wd ?_ ?_ | refine wu ?_ ?_) <;> intro h <;> try simp only [h]) | simp only [↓wBA, tBv, convA, seval, pl54_8Bv, pl54_13Bv, List.length_cons, List.length_nil, n0, n1, n3, t20, e1, e2, l5, l17, l9, l16] | ((with_reducible show ACalls _ _ _ _ _); first | refine (ihx _).eq ?_ | refine (ihy _).eq ?_) | (with_reducible refine dP pl54_8Bv 9 (some 49) (by decide) (by kernel_rfl) ?_) | (with_reducible refine dP pl54_13Bv 10 (some 76) (by decide) (by kernel_rfl) ?_)
  all_goals (repeat' split at hR)
  all_goals (simp only [Prod.mk.injEq, Ex.mk.injEq] at hR; obtain ⟨⟨rfl, rfl, rfl, rfl, rfl, rfl, rfl, rfl⟩, rfl, rfl⟩ := hR)
  all_goals refine ret_is (a := _) ?_ rfl rfl
  all_goals simp only [↓wBA, tBv, convA, seval]
  all_goals simp_all [wS, exC, exL, emp]
  all_goals grind
theorem aBind3 (cols : List Bc) (k vk vn : Int) (vs tb nm : ByteArray) (s : Int) (x y z : Ex) (l : List Ex) : BrOK cols (.mk k vk vn vs tb nm s (x :: y :: z :: l)) := fun σ => by
 refine ACalls.pureF (R := fun r => r = .tup [exA (bndS cols (.mk k vk vn vs tb nm s (x :: y :: z :: l))).1, intV .i64 (bndS cols (.mk k vk vn vs tb nm s (x :: y :: z :: l))).2.1, intV .i64 (bndS cols (.mk k vk vn vs tb nm s (x :: y :: z :: l))).2.2]) ?_ rfl σ
 have hb : bndS cols (.mk k vk vn vs tb nm s (x :: y :: z :: l)) = if aggB k = true then bErr 33 else bErr 1 := by
  simp only [bndS]
  have h1 : (((x :: y :: z :: l).length : Nat) : Int) ≠ kidsB k := by
   have : kidsB k ≤ 2 := by unfold kidsB; split <;> (try split) <;> (try split) <;> omega
   simp only [List.length_cons]; omega
  rw [if_pos h1]
 rw [hb]
 have ha : aggB k = (decide (k ≥ 20) && decide (k ≤ 23)) := by simp [aggB]
 rw [ha]
 obtain ⟨⟨⟨r1, r2, r3, r4, r5, r6, r7, r8⟩, rt, re⟩, hR⟩ : ∃ R : BR, (if (decide (k ≥ 20) && decide (k ≤ 23)) = true then bErr 33 else bErr 1) = R := ⟨_, rfl⟩
 rw [hR]
 simp only [bErr, ex0] at hR
 have n0 : (((l.length + 1 + 1 + 1 : Nat) : Int) == 0) = false := by simp; omega
 have n1 : (((l.length + 1 + 1 + 1 : Nat) : Int) == 1) = false := by simp; omega
 have n3 : (((l.length + 1 + 1 + 1 : Nat) : Int) != 2) = true := by simp; omega
 refine acalls_of cx_ok dr_ok Tryz.func54 (by kernel_rfl) rfl (nt := 225) (rs := [.cell 4 70, .tmp 5, .tmp 6]) rfl rfl ?_
 simp only [exA, exC, exL, List.map_cons, List.map_nil]
 repeat' first | ((with_reducible first | refine cs ?_ ?_ | refine ws ?_ ?_ | refine wd ?_ ?_ | refine wu ?_ ?_) <;> intro h <;> try simp only [h]) | simp only [↓wBA, tBv, convA, seval, pl54_8Bv, pl54_13Bv, List.length_cons, List.length_nil, exL_len, n0, n1, n3] | (with_reducible refine dP pl54_8Bv 9 (some 49) (by decide) (by kernel_rfl) ?_) | (with_reducible refine dP pl54_13Bv 10 (some 76) (by decide) (by kernel_rfl) ?_)
 all_goals (repeat' split at hR)
 all_goals (simp only [Prod.mk.injEq, Ex.mk.injEq] at hR; obtain ⟨⟨rfl, rfl, rfl, rfl, rfl, rfl, rfl, rfl⟩, rfl, rfl⟩ := hR)
 all_goals refine ret_is (a := _) ?_ rfl rfl
 all_goals simp only [↓wBA, tBv, convA, seval]
 all_goals simp_all [wS, exC, exL, emp]
 all_goals grind
theorem abindR (cols : List Bc) (hc : tyOk cols) (hl : cols.length ≤ 4398046511104) : ∀ x : Ex, BrOK cols x
 | .mk k vk vn vs tb nm s [] => aBind0 cols hl k vk vn vs tb nm s
 | .mk k vk vn vs tb nm s [x] => by
   by_cases hk : k = 3 ∨ k = 4 ∨ k = 18 ∨ k = 19
   ·exact aBind1s cols k vk vn vs tb nm s x hk (abindR cols hc hl x)
   ·exact aBind1n cols k vk vn vs tb nm s x hk
 | .mk k vk vn vs tb nm s [x, y] => by
   by_cases hk : 5 ≤ k ∧ k ≤ 17
   ·exact aBind2 cols hc k vk vn vs tb nm s x y hk (abindR cols hc hl x) (abindR cols hc hl y)
   ·exact aBind2n cols k vk vn vs tb nm s x y hk
 | .mk k vk vn vs tb nm s (x :: y :: z :: l) => aBind3 cols k vk vn vs tb nm s x y z l
end Go.Proofs.YtcnkmandddfdmaaGreat
