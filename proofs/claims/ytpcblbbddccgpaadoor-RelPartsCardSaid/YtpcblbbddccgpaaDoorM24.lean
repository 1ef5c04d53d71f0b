/- Rows filtered. Are the values of a column of one kind? -/
import Derived.Test.YtpcblbbddccgpaaDoorM23
set_option linter.unusedSimpArgs false
set_option linter.unusedVariables false
set_option linter.defProp false
set_option maxRecDepth 100000
set_option maxHeartbeats 32000000
namespace Go.Proofs.YtpcblbbddccgpaaDoor
open Go.RowKit
def tFi := aa wX <| aa wbu <| aa T3 <| aa T22 <| aa T27 <| aa T31 <| aa T36 T45
def leastI (l e : Int) : Int := if e ≠ 0 ∧ (l = 0 ∨ e < l) then e else l
def lsO (e : Int) : Ob := .row 1 [[intV .i64 e]]
theorem lsP (e : Int) : PlainOb (lsO e) := ⟨fun g => by simp [renOb, lsO, renL, renA, intV], fun n => by simp [tokOb, lsO, tokLtL, tokLt, intV], 1, _, rfl⟩
theorem asee (l e : Int) : OCalls lsO 18 (fun t => [.mp t 1 0 0, intV .i64 e]) l fun r l' => r = .tup [] ∧ l' = leastI l e := by
 refine OCalls.of lsP (fun t => rfl) rfl ?_
 refine acalls_of cx_ok dr_ok Tryd.func18 (by kernel_rfl) rfl (nt := 20) (rs := []) rfl rfl ?_
 simp only [lsO]
 repeat' first | ((with_reducible first | refine cs ?_ ?_ | refine ws ?_ ?_) <;> intro h <;> try simp only [h]) | simp only [↓wBA, tFi, convA, seval]
 all_goals refine ret_obI (a := _) (b := _) (lsP _) ?_ rfl rfl
 all_goals simp only [↓wBA, tFi, convA, seval]
 all_goals simp_all [wS, lsO, leastI]
 all_goals grind
def ansS (l : Int) (rows : List (List Va)) : List (List Va) × Int := if l ≠ 0 then ([], l) else if rows.length > 10000 then ([], 20) else (rows, 0)
theorem aanswer (l : Int) (rows : List (List Va)) (σ : St) : ACalls Tryd.prog 20 [intV .i64 l, .p (nilSl 1 (enVV rows))] σ fun r s => s = σ ∧ r = .tup [.p (.sl 1 (enVV (ansS l rows).1)), intV .i64 (ansS l rows).2] := by
 refine ACalls.pureF (R := fun r => r = .tup [.p (.sl 1 (enVV (ansS l rows).1)), intV .i64 (ansS l rows).2]) ?_ rfl σ
 cases rows with
 | nil =>
   refine acalls_of cx_ok dr_ok Tryd.func20 (by kernel_rfl) rfl (nt := 13) (rs := [.tmp 4, .tmp 5]) rfl rfl ?_
   simp only [nilSl, enVV, List.map_nil, List.isEmpty_nil, if_true]
   repeat' first | ((with_reducible first | refine cs ?_ ?_ | refine ws ?_ ?_) <;> intro h <;> try simp only [h]) | simp only [↓wBA, tFi, convA, seval]
   all_goals refine ret_is (a := _) ?_ rfl rfl
   all_goals simp only [↓wBA, tFi, convA, seval]
   all_goals simp_all [wS, ansS, enVV]
   all_goals grind
 | cons r rows =>
   refine acalls_of cx_ok dr_ok Tryd.func20 (by kernel_rfl) rfl (nt := 13) (rs := [.tmp 4, .tmp 5]) rfl rfl ?_
   simp only [nilSl, enVV, List.map_cons, List.isEmpty_cons, Bool.false_eq_true, if_false]
   repeat' first | ((with_reducible first | refine cs ?_ ?_ | refine ws ?_ ?_) <;> intro h <;> try simp only [h]) | simp only [↓wBA, tFi, convA, seval, List.length_map]
   all_goals refine ret_is (a := _) ?_ rfl rfl
   all_goals simp only [↓wBA, tFi, convA, seval]
   all_goals simp_all [wS, ansS, enVV]
   all_goals grind
def filStep (x : Ex) (s : List (List Va) × Int) (r : List Va) : List (List Va) × Int := (if (holdsV r x).1 = true ∧ s.1.length ≤ 10000 then s.1 ++ [r] else s.1, leastI s.2 (holdsV r x).2)
def filS (rows : List (List Va)) (x : Ex) : List (List Va) × Int := ansS (rows.foldl (filStep x) ([], 0)).2 (rows.foldl (filStep x) ([], 0)).1
theorem take_step {α β : Type} (f : β → α → β) (b : β) (l : List α) (i : Nat) (h : i < l.length) : (l.take (i + 1)).foldl f b = f ((l.take i).foldl f b) l[i] := by
 rw [List.take_succ_eq_append_getElem h, List.foldl_append]; rfl
def OkRows (rows : List (List Va)) : Prop := rows.length ≤ 4398046511104 ∧ ∀ r ∈ rows, r.length ≤ 4398046511104
theorem afilter (rows : List (List Va)) (x : Ex) (hr : OkRows rows) (σ : St) : ACalls Tryd.prog 8 [.p (.sl 1 (enVV rows)), exA x] σ fun r s => s = σ ∧ r = .tup [.p (.sl 1 (enVV (filS rows x).1)), intV .i64 (filS rows x).2] := by
 refine ACalls.pureF (R := fun r => r = .tup [.p (.sl 1 (enVV (filS rows x).1)), intV .i64 (filS rows x).2]) ?_ (by cases x; rfl) σ
 obtain ⟨hn, hr⟩ := hr
 have hH := fun row => aholdsV row x
 unfold filS
 generalize hst : filStep x = stp at *
 have hstp : ∀ s r, stp s r = (if (holdsV r x).1 = true ∧ s.1.length ≤ 10000 then s.1 ++ [r] else s.1, leastI s.2 (holdsV r x).2) := fun s r => by rw [← hst]; rfl
 generalize hhv : (fun r => holdsV r x) = hv at *
 have hhv' : ∀ r, holdsV r x = hv r := fun r => by rw [← hhv]
 simp only [hhv'] at hH hstp
 clear hst hhv hhv'
 obtain ⟨k, vk, vn, vs, tb, nm, s, kids⟩ := x
 simp only [exA, exC, List.map_cons, List.map_nil] at hH
 refine acalls_of cx_ok dr_ok Tryd.func8 (by kernel_rfl) rfl (nt := 41) (rs := [.tmp 4, .tmp 5]) rfl rfl ?_
 simp only [exA, exC, List.map_cons, List.map_nil]
 simp only [↓wBA, tFi, convA, seval, enVV_len]
 refine awp_loopN (rows.length) (fun i => [(7, .nown 2 1 (enVV ((rows.take i).foldl stp ([], 0)).1)), (14, intV .i64 (i : Nat)), (9, .any), (10, .any), (11, .any), (15, .any), (16, .any), (17, .any), (18, .any), (19, .any), (20, .any), (21, .any), (22, .any), (23, .any), (24, .any), (25, .any), (26, .any), (27, .any), (28, .any), (29, .any), (30, .any), (31, .any), (32, .any), (33, .any), (34, .any), (35, .any), (36, .any), (37, .any)]) (fun i => [(1, .row 1 [[intV .i64 ((rows.take i).foldl stp ([], 0)).2]]), (2, .nright 36 (((rows.take i).foldl stp ([], 0)).1.length * 1))]) (fun i => True) ?_ ?_ ?_
 ·trivial
 ·skip
  simp only [wR, Nat.reduceAdd, Nat.reduceLT, reduceIte]
  simp [wW, enVV]
 ·intro i hi _
  simp only [wR, Nat.reduceAdd, Nat.reduceLT, reduceIte]
  by_cases hlt : i < rows.length
  ·have hdec := dT (i := i) (n := rows.length) (by omega)
   have hi0 := nnI i
   have hw := wI i (by omega)
   have hg := enVV_get rows i hlt
   have hst := take_step stp ([], 0) rows i hlt
   have hrl := hr rows[i] (List.getElem_mem hlt)
   rw [hstp] at hst
   generalize hs : (rows.take i).foldl stp ([], 0) = st at *
   obtain ⟨out, l⟩ := st
   simp only at hst
   generalize hrow : rows[i] = row at *
   by_cases ho : out.length ≤ 10000
   ·have hd : decide ((out.length : Int) ≤ 10000) = true := by simp; omega
    have hlim1 := tL (n := (out.length + 1) * 24) (by omega)
    have hlim2 := lM (n := out.length + 1) (by omega)
    repeat' first | ((with_reducible first | refine cs ?_ ?_ | refine ws ?_ ?_) <;> intro h <;> try simp only [h]) | simp only [↓wBA, tFi, convA, seval, enVV_len, hdec, hi0, hg, hw, hd, hlim1, hlim2, appendA, srcA, List.length_append] | ((with_reducible show ACalls _ _ _ _ _); first | refine (hH _ _).eq ?_ | (refine (asee _ _ _ 1 rfl).mono ?_; rintro _ _ ⟨_, ⟨rfl, rfl⟩, rfl⟩; simp only [lsO]) | refine (aclone _ hrl _).eq ?_)
    all_goals refine ⟨⟨i + 1, by omega, trivial⟩, by show rows.length - (i + 1) < rows.length - i; omega, ?_⟩
    all_goals simp only [wR, Nat.reduceAdd, Nat.reduceLT, reduceIte]
    all_goals simp_all [wW, enVV]
   ·have hd : decide ((out.length : Int) ≤ 10000) = false := by simp; omega
    repeat' first | ((with_reducible first | refine cs ?_ ?_ | refine ws ?_ ?_) <;> intro h <;> try simp only [h]) | simp only [↓wBA, tFi, convA, seval, enVV_len, hdec, hi0, hg, hw, hd] | ((with_reducible show ACalls _ _ _ _ _); first | refine (hH _ _).eq ?_ | (refine (asee _ _ _ 1 rfl).mono ?_; rintro _ _ ⟨_, ⟨rfl, rfl⟩, rfl⟩; simp only [lsO]))
    all_goals refine ⟨⟨i + 1, by omega, trivial⟩, by show rows.length - (i + 1) < rows.length - i; omega, ?_⟩
    all_goals simp only [wR, Nat.reduceAdd, Nat.reduceLT, reduceIte]
    all_goals simp_all [wW, enVV]
  ·have hdec := dF (i := i) (n := rows.length) (by omega)
   have ht : rows.take i = rows := List.take_of_length_le (by omega)
   simp only [ht]
   repeat' first | ((with_reducible first | refine cs ?_ ?_ | refine ws ?_ ?_) <;> intro h <;> try simp only [h]) | simp only [↓wBA, tFi, convA, seval, enVV_len, hdec] | ((with_reducible show ACalls _ _ _ _ _); refine ACalls.frzArgs ?_; simp only [frzL, frzA]; refine (aanswer _ _ _).eq ?_)
   all_goals refine ret_is (a := _) ?_ rfl rfl
   all_goals simp only [↓wBA, tFi, convA, seval]
   all_goals simp_all [wS]
end Go.Proofs.YtpcblbbddccgpaaDoor
namespace Go.Proofs.YtpcblbbddccgpaaDoor
open Go.RowKit
def pl30_9Gd : Plan := (.det 0 (.det 1 (.det 2 (.det 3 (.det 4 (.det 5 (.det 6 (.fin 7 .done))))))))
def tGd := aa wX <| aa wbu <| aa T3 <| aa T4 <| aa T22 <| aa T24 T36
def kdS (a : Nat) (k : Int) (r : List Va) : Int := if (r.getD a va0).1 > k then (r.getD a va0).1 else k
def rowG (w : Int) (a : Nat) (k : Int) (r : List Va) : Bool := decide (a < r.length) && (decide (w < 0) || decide ((r.length : Int) = w)) && okV (r.getD a va0) && (decide ((r.getD a va0).1 = 0) || decide (k = 0) || decide ((r.getD a va0).1 = k))
def goodS (w : Int) (a : Nat) : List (List Va) → Int → Bool × Int
 | [], k => (true, k)
 | r :: rows, k => if rowG w a k r = true then goodS w a rows (kdS a k r) else (false, k)
theorem goodS_drop (w : Int) (a : Nat) (rows : List (List Va)) (k : Int) (i : Nat) (h : i < rows.length) : goodS w a (rows.drop i) k = if rowG w a k rows[i] = true then goodS w a (rows.drop (i + 1)) (kdS a k rows[i]) else (false, k) := by
 rw [List.drop_eq_getElem_cons h]; rfl
theorem goodS_all (w : Int) (a : Nat) : ∀ (rows : List (List Va)) (k : Int), (goodS w a rows k).1 = true → ∀ r ∈ rows, a < r.length ∧ okV (r.getD a va0) = true
 | [], k, h, r, hr => by simp at hr
 | q :: rows, k, h, r, hr => by
   simp only [goodS] at h
   split at h
   ·rename_i hg
    rcases List.mem_cons.1 hr with rfl | hr
    ·simp only [rowG, Bool.and_eq_true, decide_eq_true_eq] at hg
     exact ⟨hg.1.1.1, hg.1.2⟩
    ·exact goodS_all w a rows _ h r hr
   ·simp at h
theorem agood (rows : List (List Va)) (a : Nat) (w : Int) (hn : rows.length ≤ 4398046511104) (k : Int) : OCalls lsO 30 (fun t => [.p (.sl 1 (enVV rows)), intV .i64 (a : Int), intV .i64 w, .mp t 1 0 0]) k fun r k' => r = boolV (goodS w a rows k).1 ∧ k' = (goodS w a rows k).2 := by
 refine OCalls.of lsP (fun t => rfl) rfl ?_
 have hok := aokV
 refine acalls_of cx_ok dr_ok Tryd.func30 (by kernel_rfl) rfl (nt := 59) (rs := [.tmp 7]) rfl rfl ?_
 simp only [lsO]
 repeat' first | ((with_reducible first | refine cs ?_ ?_ | refine ws ?_ ?_ | refine wd ?_ ?_ | refine wu ?_ ?_) <;> intro h <;> try simp only [h]) | simp only [↓wBA, tGd, convA, seval, pl30_9Gd, enVV_len] | (with_reducible refine dP pl30_9Gd 8 (some 55) (by decide) (by kernel_rfl) ?_)
 refine awp_loopN (rows.length) (fun i => [(13, intV .i64 (i : Nat)), (7, .any), (9, .any), (10, .any), (14, .any), (15, .any), (16, .any), (17, .any), (18, .any), (19, .any), (20, .any), (21, .any), (22, .any), (23, .any), (24, .any), (25, .any), (26, .any), (27, .any), (28, .any), (29, .any), (30, .any), (31, .any), (32, .any), (33, .any), (34, .any), (35, .any), (36, .any), (37, .any), (38, .any), (39, .any), (40, .any), (41, .any), (42, .any), (43, .any), (44, .any), (45, .any), (46, .any), (47, .any), (48, .any), (49, .any), (50, .any), (51, .any), (52, .any), (53, .any), (54, .any), (55, .any), (56, .any), (57, .any), (58, .any), (59, .any), (60, .any), (61, .any), (62, .any)]) (fun i => [(0, .row 1 [[intV .i64 ((rows.take i).foldl (kdS a) k)]])]) (fun i => goodS w a rows k = goodS w a (rows.drop i) ((rows.take i).foldl (kdS a) k)) ?_ ?_ ?_
 ·rfl
 ·skip
  simp only [wR, Nat.reduceAdd, Nat.reduceLT, reduceIte]
  simp [wW]
 ·intro i hi hI
  simp only [wR, Nat.reduceAdd, Nat.reduceLT, reduceIte]
  by_cases hlt : i < rows.length
  ·have hdec := dT (i := i) (n := rows.length) (by omega)
   have hi0 := nnI i
   have ha0 := nnI a
   have hw := wI i (by omega)
   have hg := enVV_get rows i hlt
   have hst := take_step (kdS a) k rows i hlt
   rw [goodS_drop w a rows _ i hlt] at hI
   generalize hr : rows[i] = r at *
   simp only [kdS] at hst
   by_cases hal : a < r.length
   ·have h1 : decide ((a : Int) ≥ (r.length : Int)) = false := decide_eq_false (by omega)
    have hrg : (enV r)[a]? = some (vaC (r.getD a va0)) := by rw [enV_get r a hal]; simp [List.getD, hal]
    have hok' := hok (r.getD a va0)
    simp only [rowG, kdS, hal, decide_true, Bool.true_and] at hI
    generalize hv : r.getD a va0 = v at *
    obtain ⟨vk, vn, vs⟩ := v
    simp only [vaA, vaC, List.map_cons, List.map_nil] at hok' hrg
    simp only at hI hst
    generalize okV (vk, vn, vs) = o at *
    by_cases hG : ((decide (w < 0) || decide ((r.length : Int) = w)) && o && (decide (vk = 0) || decide ((rows.take i).foldl (kdS a) k = 0) || decide (vk = (rows.take i).foldl (kdS a) k))) = true
    ·rw [if_pos hG] at hI
     repeat' first | ((with_reducible first | refine cs ?_ ?_ | refine ws ?_ ?_ | refine wd ?_ ?_ | refine wu ?_ ?_) <;> intro h <;> try simp only [h]) | simp only [↓wBA, tGd, convA, seval, pl30_9Gd, enVV_len, enV_len, hdec, hi0, ha0, hw, hg, h1, hrg] | ((with_reducible show ACalls _ _ _ _ _); refine (hok' _).eq ?_) | (with_reducible refine dP pl30_9Gd 8 (some 55) (by decide) (by kernel_rfl) ?_)
     all_goals first | (show retA _ _ _ _ _ _ _; exfalso; grind) | skip
     all_goals refine ⟨⟨i + 1, by omega, ?_⟩, by show rows.length - (i + 1) < rows.length - i; omega, ?_⟩
     all_goals first | (show goodS _ _ _ _ = _; rw [hI, hst]) | skip
     all_goals simp only [hst]
     all_goals simp [wW]
    ·rw [if_neg hG] at hI
     repeat' first | ((with_reducible first | refine cs ?_ ?_ | refine ws ?_ ?_ | refine wd ?_ ?_ | refine wu ?_ ?_) <;> intro h <;> try simp only [h]) | simp only [↓wBA, tGd, convA, seval, pl30_9Gd, enVV_len, enV_len, hdec, hi0, ha0, hw, hg, h1, hrg] | ((with_reducible show ACalls _ _ _ _ _); refine (hok' _).eq ?_) | (with_reducible refine dP pl30_9Gd 8 (some 55) (by decide) (by kernel_rfl) ?_)
     all_goals first | (show retA _ _ _ _ _ _ _; skip) | (exfalso; grind)
     all_goals refine ret_obI (a := _) (b := _) (lsP _) ?_ rfl rfl
     all_goals simp only [↓wBA, tGd, convA, seval]
     all_goals simp_all [wS, lsO, hI]
     all_goals grind
   ·have h1 : decide ((a : Int) ≥ (r.length : Int)) = true := decide_eq_true (by omega)
    have hG : rowG w a ((rows.take i).foldl (kdS a) k) r = false := by simp [rowG, hal]
    rw [hG] at hI
    simp only [Bool.false_eq_true, if_false] at hI
    repeat' first | ((with_reducible first | refine cs ?_ ?_ | refine ws ?_ ?_ | refine wd ?_ ?_ | refine wu ?_ ?_) <;> intro h <;> try simp only [h]) | simp only [↓wBA, tGd, convA, seval, pl30_9Gd, enVV_len, enV_len, hdec, hi0, ha0, hw, hg, h1] | (with_reducible refine dP pl30_9Gd 8 (some 55) (by decide) (by kernel_rfl) ?_)
    all_goals refine ret_obI (a := _) (b := _) (lsP _) ?_ rfl rfl
    all_goals simp only [↓wBA, tGd, convA, seval]
    all_goals simp_all [wS, lsO, hI]
    all_goals grind
  ·have hdec := dF (i := i) (n := rows.length) (by omega)
   rw [List.drop_eq_nil_of_le (by omega)] at hI
   simp only [goodS] at hI
   repeat' first | ((with_reducible first | refine cs ?_ ?_ | refine ws ?_ ?_ | refine wd ?_ ?_ | refine wu ?_ ?_) <;> intro h <;> try simp only [h]) | simp only [↓wBA, tGd, convA, seval, pl30_9Gd, enVV_len, hdec] | (with_reducible refine dP pl30_9Gd 8 (some 55) (by decide) (by kernel_rfl) ?_)
   all_goals refine ret_obI (a := _) (b := _) (lsP _) ?_ rfl rfl
   all_goals simp only [↓wBA, tGd, convA, seval]
   all_goals simp_all [wS, lsO, hI]
   all_goals grind
end Go.Proofs.YtpcblbbddccgpaaDoor
