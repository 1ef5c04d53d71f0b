/- cadastreref17.Filter tells what the program's Filter does: as many rows as an argument may have. -/
import Derived.Test.YtpcblbbddccgpaaGreatDoorM34
set_option linter.unusedSimpArgs false
set_option linter.unusedVariables false
set_option linter.defProp false
set_option maxRecDepth 100000
set_option maxHeartbeats 32000000
namespace Go.Proofs.YtpcblbbddccgpaaGreatDoor
open Go.RowKit
def pl8_6Fq : Plan := (.det 0 (.det 1 (.det 2 (.det 3 (.det 4 (.fin 5 (.det 6 (.det 7 (.det 8 (.det 9 (.det 10 .done)))))))))))
def tFq := aa wX <| aa wbu <| aa T3 <| aa T22 <| aa T27 <| aa T30 T39
def filStepU (x : Ex) (s : List (List Va) × Int) (r : List Va) : List (List Va) × Int := (if (holdsV r x).1 = true then s.1 ++ [r] else s.1, leastI s.2 (holdsV r x).2)
def filSU (rows : List (List Va)) (x : Ex) : List (List Va) × Int := ansS (rows.foldl (filStepU x) ([], 0)).2 (rows.foldl (filStepU x) ([], 0)).1
def capI (c u : List (List Va) × Int) : Prop := c.2 = u.2 ∧ (c.1 = u.1 ∨ (10000 < c.1.length ∧ 10000 < u.1.length))
theorem capI_step {c u : List (List Va) × Int} (x : Ex) (r : List Va) (h : capI c u) : capI (filStep x c r) (filStepU x u r) := by
 obtain ⟨h1, h2⟩ := h
 refine ⟨by simp only [filStep, filStepU, h1], ?_⟩
 simp only [filStep, filStepU]
 by_cases hh : (holdsV r x).1 = true
 ·simp only [hh, true_and, if_true]
  rcases h2 with h2 | ⟨h2, h3⟩
  ·rw [h2]
   by_cases hl : u.1.length ≤ 10000
   ·rw [if_pos hl]; exact .inl rfl
   ·rw [if_neg hl]; exact .inr ⟨by omega, by simp; omega⟩
  ·rw [if_neg (by omega)]; exact .inr ⟨h2, by simp; omega⟩
 ·rw [if_neg (fun h => hh h.1), if_neg hh]; exact h2
theorem capI_fold (x : Ex) : ∀ (rows : List (List Va)) {c u : List (List Va) × Int}, capI c u → capI (rows.foldl (filStep x) c) (rows.foldl (filStepU x) u)
 | [], _, _, h => h
 | r :: rows, _, _, h => capI_fold x rows (capI_step x r h)
theorem filS_eq (rows : List (List Va)) (x : Ex) : filS rows x = filSU rows x := by
 obtain ⟨h1, h2⟩ := capI_fold x rows (c := ([], 0)) (u := ([], 0)) ⟨rfl, .inl rfl⟩
 unfold filS filSU
 rw [h1]
 rcases h2 with h2 | ⟨h2, h3⟩
 ·rw [h2]
 ·unfold ansS
  split
  ·rfl
  ·first | rfl | rw [if_pos h2, if_pos h3]
theorem filU_len (x : Ex) : ∀ (rows : List (List Va)) (s : List (List Va) × Int), (rows.foldl (filStepU x) s).1.length ≤ s.1.length + rows.length
 | [], s => by simp
 | q :: rows, s => by
   have h1 := filU_len x rows (filStepU x s q)
   simp only [List.foldl_cons, List.length_cons]
   have : (filStepU x s q).1.length ≤ s.1.length + 1 := by simp only [filStepU]; split <;> simp
   omega
theorem afilterRL (rows : List (List Va)) (x : Ex) (hx : rgE x) (hn : rows.length * 24 ≤ 140737488351232) (hr : ∀ r ∈ rows, ∀ v ∈ r, i64R v.2.1) (σ : St) : ACalls Tryz.prog 8 [.p (.sl 1 (enVV rows)), exA x] σ fun r s => s = σ ∧ r = .tup [.p (.sl 1 (enVV (filS rows x).1)), intV .i64 (filS rows x).2] := by
 refine ACalls.pureF (R := fun r => r = .tup [.p (.sl 1 (enVV (filS rows x).1)), intV .i64 (filS rows x).2]) ?_ (by cases x; rfl) σ
 have hH := fun row h => aHoldsR row h x hx
 have hfl := fun l => filU_len x l ([], 0)
 rw [filS_eq]
 unfold filSU
 generalize hst : filStepU x = stp at *
 have hstp : ∀ s r, stp s r = (if (holdsV r x).1 = true then s.1 ++ [r] else s.1, leastI s.2 (holdsV r x).2) := fun s r => by rw [← hst]; rfl
 generalize hhv : (fun r => holdsV r x) = hv at *
 have hhv' : ∀ r, holdsV r x = hv r := fun r => by rw [← hhv]
 simp only [hhv'] at hH hstp
 clear hst hhv hhv'
 obtain ⟨k, vk, vn, vs, tb, nm, s, kids⟩ := x
 simp only [exA, exC, List.map_cons, List.map_nil] at hH
 refine acalls_of cx_ok dr_ok Tryz.func8 (by kernel_rfl) rfl (nt := 40) (rs := [.tmp 4, .tmp 5]) rfl rfl ?_
 simp only [exA, exC, List.map_cons, List.map_nil]
 repeat' first | ((with_reducible first | refine cs ?_ ?_ | refine ws ?_ ?_ | refine wd ?_ ?_ | refine wu ?_ ?_) <;> intro h <;> try simp only [h]) | simp only [↓wBA, tFq, convA, seval, pl8_6Fq] | (with_reducible refine dP pl8_6Fq 11 (some 18) (by decide) (by kernel_rfl) ?_)
 refine awp_loopN (rows.length) (fun i => [(6, .nown 1 1 (enVV ((rows.take i).foldl stp ([], 0)).1)), (7, intV .i64 ((rows.take i).foldl stp ([], 0)).2), (8, intV .i64 (i : Nat)), (9, .any), (10, .any), (11, .any), (12, .any), (13, .any), (14, .any), (15, .any), (16, .any), (17, .any), (18, .any), (19, .any), (20, .any), (21, .any), (22, .any), (23, .any), (24, .any), (25, .any), (26, .any), (27, .any), (28, .any), (29, .any), (30, .any), (31, .any), (32, .any), (33, .any), (34, .any), (35, .any), (36, .any)]) (fun i => [(1, .nright 39 (((rows.take i).foldl stp ([], 0)).1.length * 1))]) (fun i => True) ?_ ?_ ?_
 ·trivial
 ·skip
  simp only [wR, Nat.reduceAdd, Nat.reduceLT, reduceIte]
  simp [wW, enVV]
 ·intro i hi _
  simp only [wR, Nat.reduceAdd, Nat.reduceLT, reduceIte]
  by_cases hlt : i < rows.length
  ·have hdec := dT (i := i) (n := rows.length) (by omega)
   have hi0 := nnI i
   have hw := wI i (by omega)
   have hg := enVV_get rows i hlt
   have hst := take_step stp ([], 0) rows i hlt
   have hH' := hH rows[i] (hr _ (List.getElem_mem hlt))
   have hol := hfl (rows.take i)
   rw [hstp] at hst
   generalize hs : (rows.take i).foldl stp ([], 0) = st at *
   obtain ⟨out, l⟩ := st
   simp only at hst hol
   have ho : out.length ≤ 5864062014634 := by simp at hol; omega
   generalize hrow : rows[i] = row at *
   have hlim1 := tL (n := (out.length + 1) * 24) (by omega)
   have hlim2 := lM (n := out.length + 1) (by omega)
   generalize hv row = hp at *
   obtain ⟨b, e⟩ := hp
   simp only at hst hH'
   cases b
   ·simp only [Bool.false_eq_true, if_false] at hst
    repeat' first | ((with_reducible first | refine cs ?_ ?_ | refine ws ?_ ?_ | refine wd ?_ ?_ | refine wu ?_ ?_) <;> intro h <;> try simp only [h]) | simp only [↓wBA, tFq, convA, seval, pl8_6Fq, enVV_len, hdec, hi0, hg, hw] | ((with_reducible show ACalls _ _ _ _ _); first | refine (hH' _).eq ?_ | refine (aleastR _ _ _).eq ?_) | (with_reducible refine dP pl8_6Fq 11 (some 18) (by decide) (by kernel_rfl) ?_)
    refine ⟨⟨i + 1, by omega, ?_⟩, by show rows.length - (i + 1) < rows.length - i; omega, ?_⟩
    ·trivial
    ·simp only [hst]
     simp [wW]
   ·simp only [if_true] at hst
    repeat' first | ((with_reducible first | refine cs ?_ ?_ | refine ws ?_ ?_ | refine wd ?_ ?_ | refine wu ?_ ?_) <;> intro h <;> try simp only [h]) | simp only [↓wBA, tFq, convA, seval, pl8_6Fq, enVV_len, hdec, hi0, hg, hw, hlim1, hlim2, appendA, srcA, List.length_append] | ((with_reducible show ACalls _ _ _ _ _); first | refine (hH' _).eq ?_ | refine (aleastR _ _ _).eq ?_) | (with_reducible refine dP pl8_6Fq 11 (some 18) (by decide) (by kernel_rfl) ?_)
    refine ⟨⟨i + 1, by omega, ?_⟩, by show rows.length - (i + 1) < rows.length - i; omega, ?_⟩
    ·trivial
    ·simp only [hst, enVV_app]
     simp [wW, enVV]
  ·have hdec := dF (i := i) (n := rows.length) (by omega)
   have ht : rows.take i = rows := List.take_of_length_le (by omega)
   simp only [ht]
   repeat' first | ((with_reducible first | refine cs ?_ ?_ | refine ws ?_ ?_ | refine wd ?_ ?_ | refine wu ?_ ?_) <;> intro h <;> try simp only [h]) | simp only [↓wBA, tFq, convA, seval, pl8_6Fq, enVV_len, hdec] | ((with_reducible show ACalls _ _ _ _ _); refine ACalls.frzArgs ?_; simp only [frzL, frzA]; refine (adoneR _ _ _).eq ?_) | (with_reducible refine dP pl8_6Fq 11 (some 18) (by decide) (by kernel_rfl) ?_)
   all_goals refine ret_is (a := _) ?_ rfl rfl
   all_goals simp only [↓wBA, tFq, convA, seval]
   all_goals simp_all [wS]
end Go.Proofs.YtpcblbbddccgpaaGreatDoor
