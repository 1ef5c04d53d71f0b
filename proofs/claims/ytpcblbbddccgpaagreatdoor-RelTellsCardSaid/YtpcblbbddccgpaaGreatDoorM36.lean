/- Rows filtered, as many as an argument may have. What expressions come to over rows. -/
import Derived.Test.YtpcblbbddccgpaaGreatDoorM23
set_option linter.unusedSimpArgs false
set_option linter.unusedVariables false
set_option linter.defProp false
set_option maxRecDepth 100000
set_option maxHeartbeats 32000000
namespace Go.Proofs.YtpcblbbddccgpaaGreatDoor
open Go.RowKit
def tFl := aa wX <| aa wbu <| aa T3 <| aa T22 <| aa T27 <| aa T30 <| aa T39 T42
def OkRowsL (rows : List (List Va)) : Prop := rows.length ≤ 140737488351232 ∧ ∀ r ∈ rows, r.length ≤ 4398046511104
theorem afilterL (rows : List (List Va)) (x : Ex) (hr : OkRowsL rows) (σ : St) : ACalls Tryz.prog 11 [.p (.sl 1 (enVV rows)), exA x] σ fun r s => s = σ ∧ r = .tup [.p (.sl 1 (enVV (filS rows x).1)), intV .i64 (filS rows x).2] := by
 refine ACalls.pureF (R := fun r => r = .tup [.p (.sl 1 (enVV (filS rows x).1)), intV .i64 (filS rows x).2]) ?_ (by cases x; rfl) σ
 obtain ⟨hn, hr⟩ := hr
 have hH := fun row => aholdsV row x
 unfold filS
 generalize hst : filStep x = stp at *
 have hstp : ∀ s r, stp s r = (if (holdsV r x).1 = true ∧ s.1.length ≤ 10000 then s.1 ++ [r] else s.1, leastI s.2 (holdsV r x).2) := fun s r => by rw [← hst]; rfl
 generalize hhv : (fun r => holdsV r x) = hv at *
 have hhv' : ∀ r, holdsV r x = hv r := fun r => by rw [← hhv]
 simp only [hhv'] at hH hstp
 clear hst hhv hhv'
 obtain ⟨k, vk, vn, vs, tb, nm, s, kids⟩ := x
 simp only [exA, exC, List.map_cons, List.map_nil] at hH
 refine acalls_of cx_ok dr_ok Tryz.func11 (by kernel_rfl) rfl (nt := 41) (rs := [.tmp 4, .tmp 5]) rfl rfl ?_
 simp only [exA, exC, List.map_cons, List.map_nil]
 simp only [↓wBA, tFl, convA, seval, enVV_len]
 refine awp_loopN (rows.length) (fun i => [(7, .nown 2 1 (enVV ((rows.take i).foldl stp ([], 0)).1)), (14, intV .i64 (i : Nat)), (9, .any), (10, .any), (11, .any), (15, .any), (16, .any), (17, .any), (18, .any), (19, .any), (20, .any), (21, .any), (22, .any), (23, .any), (24, .any), (25, .any), (26, .any), (27, .any), (28, .any), (29, .any), (30, .any), (31, .any), (32, .any), (33, .any), (34, .any), (35, .any), (36, .any), (37, .any)]) (fun i => [(1, .row 1 [[intV .i64 ((rows.take i).foldl stp ([], 0)).2]]), (2, .nright 39 (((rows.take i).foldl stp ([], 0)).1.length * 1))]) (fun i => True) ?_ ?_ ?_
 ·trivial
 ·skip
  simp only [wR, Nat.reduceAdd, Nat.reduceLT, reduceIte]
  simp [wW, enVV]
 ·intro i hi _
  simp only [wR, Nat.reduceAdd, Nat.reduceLT, reduceIte]
  by_cases hlt : i < rows.length
  ·have hdec := dT (i := i) (n := rows.length) (by omega)
   have hi0 := nnI i
   have hw := wI i (by omega)
   have hg := enVV_get rows i hlt
   have hst := take_step stp ([], 0) rows i hlt
   have hrl := hr rows[i] (List.getElem_mem hlt)
   rw [hstp] at hst
   generalize hs : (rows.take i).foldl stp ([], 0) = st at *
   obtain ⟨out, l⟩ := st
   simp only at hst
   generalize hrow : rows[i] = row at *
   by_cases ho : out.length ≤ 10000
   ·have hd : decide ((out.length : Int) ≤ 10000) = true := by simp; omega
    have hlim1 := tL (n := (out.length + 1) * 24) (by omega)
    have hlim2 := lM (n := out.length + 1) (by omega)
    repeat' first | ((with_reducible first | refine cs ?_ ?_ | refine ws ?_ ?_) <;> intro h <;> try simp only [h]) | simp only [↓wBA, tFl, convA, seval, enVV_len, hdec, hi0, hg, hw, hd, hlim1, hlim2, appendA, srcA, List.length_append] | ((with_reducible show ACalls _ _ _ _ _); first | refine (hH _ _).eq ?_ | (refine (asee _ _ _ 1 rfl).mono ?_; rintro _ _ ⟨_, ⟨rfl, rfl⟩, rfl⟩; simp only [lsO]) | refine (aclone _ hrl _).eq ?_)
    all_goals refine ⟨⟨i + 1, by omega, trivial⟩, by show rows.length - (i + 1) < rows.length - i; omega, ?_⟩
    all_goals simp only [wR, Nat.reduceAdd, Nat.reduceLT, reduceIte]
    all_goals simp_all [wW, enVV]
   ·have hd : decide ((out.length : Int) ≤ 10000) = false := by simp; omega
    repeat' first | ((with_reducible first | refine cs ?_ ?_ | refine ws ?_ ?_) <;> intro h <;> try simp only [h]) | simp only [↓wBA, tFl, convA, seval, enVV_len, hdec, hi0, hg, hw, hd] | ((with_reducible show ACalls _ _ _ _ _); first | refine (hH _ _).eq ?_ | (refine (asee _ _ _ 1 rfl).mono ?_; rintro _ _ ⟨_, ⟨rfl, rfl⟩, rfl⟩; simp only [lsO]))
    all_goals refine ⟨⟨i + 1, by omega, trivial⟩, by show rows.length - (i + 1) < rows.length - i; omega, ?_⟩
    all_goals simp only [wR, Nat.reduceAdd, Nat.reduceLT, reduceIte]
    all_goals simp_all [wW, enVV]
  ·have hdec := dF (i := i) (n := rows.length) (by omega)
   have ht : rows.take i = rows := List.take_of_length_le (by omega)
   simp only [ht]
   repeat' first | ((with_reducible first | refine cs ?_ ?_ | refine ws ?_ ?_) <;> intro h <;> try simp only [h]) | simp only [↓wBA, tFl, convA, seval, enVV_len, hdec] | ((with_reducible show ACalls _ _ _ _ _); refine ACalls.frzArgs ?_; simp only [frzL, frzA]; refine (aanswer _ _ _).eq ?_)
   all_goals refine ret_is (a := _) ?_ rfl rfl
   all_goals simp only [↓wBA, tFl, convA, seval]
   all_goals simp_all [wS]
end Go.Proofs.YtpcblbbddccgpaaGreatDoor
namespace Go.Proofs.YtpcblbbddccgpaaGreatDoor
open Go.RowKit
def tPo := aa wX <| aa wbu <| aa T3 <| aa T22 <| aa T24 <| aa T25 <| aa T27 <| aa T30 <| aa T39 T42
theorem awp_loopX {P : Program} {C : Ctx} {fr : List AV} {σ : St} {Q : Exit → List AV → St → Prop} {c : Code} (n : Nat) (D : Nat → List (Nat × AV)) (T : Nat → St) (id : Nat) (D2 : List (Nat × AV)) (T2 : St) (hl : ∀ i, σ.length ≤ (T i).length) (hl2 : σ.length ≤ T2.length) (h2 : WeakE fr σ (setsF fr (D 0)) (T 0))
 (h3 : ∀ i, (hi : i ≤ n) → AWp P C (aDraw P C) c (setsF fr (D i)) (T i) (roundA (fun x : { i : Nat // i ≤ n } => (setsF fr (D x.1), T x.1)) (fun x => n - x.1) ⟨i, hi⟩ fun e fr' σ' => e = .exit id ∧ WeakE fr' σ' (setsF fr D2) T2))
 (h4 : Q (.exit id) (setsF fr D2) T2) : AWp P C (aDraw P C) (.loop c) fr σ Q :=
 awp_loopM (X := { i : Nat // i ≤ n }) (fun x => (setsF fr (D x.1), T x.1)) (fun x => n - x.1) ⟨0, by omega⟩ Unit (fun _ => (.exit id, setsF fr D2, T2)) (fun x => hl x.1) (fun _ => hl2) h2 (fun ⟨i, hi⟩ => AWp_mono (fun e f s h => by
  cases e with
  | normal => exact h
  | _ => exact ⟨(), h.1.symm, h.2⟩) (h3 i hi)) fun _ => h4
theorem exL_get2 : ∀ (l : List Ex) (i : Nat) (h : i < l.length), (exL l)[i]? = some (exC l[i])
 | x :: l, 0, _ => by simp [exL]
 | x :: l, i + 1, h => by simpa [exL] using exL_get2 l i (by simpa using h)
def prRow (xs : List Ex) (r : List Va) : List Va := xs.map fun x => (evalV r x).1
def prErr (xs : List Ex) (r : List Va) (l : Int) : Int := xs.foldl (fun l x => leastI l (evalV r x).2) l
def prStep (xs : List Ex) (s : List (List Va) × Int) (r : List Va) : List (List Va) × Int := (s.1 ++ [prRow xs r], prErr xs r s.2)
def proS (rows : List (List Va)) (xs : List Ex) : List (List Va) × Int := ansS (rows.foldl (prStep xs) ([], 0)).2 (rows.foldl (prStep xs) ([], 0)).1
theorem prGo_len (xs : List Ex) : ∀ (rows : List (List Va)) (s : List (List Va) × Int), (rows.foldl (prStep xs) s).1.length = s.1.length + rows.length
 | [], s => by simp
 | q :: rows, s => by
   have h1 := prGo_len xs rows (prStep xs s q)
   have h2 : (prStep xs s q).1.length = s.1.length + 1 := by simp [prStep]
   simp only [List.foldl_cons, List.length_cons, h1, h2]
   omega
theorem sl_of_ne {e : Nat} {ls : List (List PV)} (h : ls ≠ []) : nilSl e ls = .sl e ls := by cases ls with
 | nil => exact absurd rfl h
 | cons a l => rfl
theorem aproject (rows : List (List Va)) (xs : List Ex) (hx : xs ≠ []) (hxn : xs.length ≤ 100000) (hr : rows.length * 24 ≤ 140737488351232) (σ : St) : ACalls Tryz.prog 12 [.p (.sl 1 (enVV rows)), .p (.sl 8 (exL xs))] σ fun r s => s = σ ∧ r = .tup [.p (.sl 1 (enVV (proS rows xs).1)), intV .i64 (proS rows xs).2] := by
 refine ACalls.pureF (R := fun r => r = .tup [.p (.sl 1 (enVV (proS rows xs).1)), intV .i64 (proS rows xs).2]) ?_ rfl σ
 have hE := fun row x => aevalV row x
 unfold proS
 have hfl := fun l => prGo_len xs l ([], 0)
 generalize hst : prStep xs = stp at *
 have hstp : ∀ s r, stp s r = (s.1 ++ [xs.map fun x => (evalV r x).1], xs.foldl (fun l x => leastI l (evalV r x).2) s.2) := fun s r => by rw [← hst]; rfl
 generalize hhv : (fun r x => evalV r x) = ev at *
 have hhv' : ∀ r x, evalV r x = ev r x := fun r x => by rw [← hhv]
 simp only [hhv'] at hE hstp
 clear hst hhv hhv'
 refine acalls_of cx_ok dr_ok Tryz.func12 (by kernel_rfl) rfl (nt := 48) (rs := [.tmp 4, .tmp 5]) rfl rfl ?_
 repeat' first | ((with_reducible first | refine cs ?_ ?_ | refine ws ?_ ?_) <;> intro h <;> try simp only [h]) | simp only [↓wBA, tPo, convA, seval, enVV_len]
 refine awp_loopN (rows.length) (fun i => [(7, .nown 1 1 (enVV ((rows.take i).foldl stp ([], 0)).1)), (17, intV .i64 (i : Nat)), (9, .any), (10, .any), (12, .any), (13, .any), (14, .any), (18, .any), (19, .any), (20, .any), (21, .any), (22, .any), (23, .any), (24, .any), (25, .any), (26, .any), (27, .any), (28, .any), (29, .any), (30, .any), (31, .any), (32, .any), (33, .any), (34, .any), (35, .any), (36, .any), (37, .any), (38, .any), (39, .any), (40, .any), (41, .any), (42, .any), (43, .any), (44, .any)]) (fun i => [(0, .row 1 [[intV .i64 ((rows.take i).foldl stp ([], 0)).2]]), (1, .nright 39 (((rows.take i).foldl stp ([], 0)).1.length * 1))]) (fun i => True) ?_ ?_ ?_
 ·trivial
 ·skip
  simp only [wR, Nat.reduceAdd, Nat.reduceLT, reduceIte]
  simp [wW, enVV]
 ·intro i hi _
  simp only [wR, Nat.reduceAdd, Nat.reduceLT, reduceIte]
  by_cases hlt : i < rows.length
  ·have hdec := dT (i := i) (n := rows.length) (by omega)
   have hi0 := nnI i
   have hw := wI i (by omega)
   have hg := enVV_get rows i hlt
   have hst := take_step stp ([], 0) rows i hlt
   have hol := hfl (rows.take i)
   rw [hstp] at hst
   generalize hs : (rows.take i).foldl stp ([], 0) = st at *
   obtain ⟨out, l⟩ := st
   simp only [List.length_nil, Nat.zero_add] at hst hol
   have ho : out.length ≤ 5864062014634 := by simp at hol; omega
   generalize hrow : rows[i] = row at *
   have hlim1 := tL (n := (out.length + 1) * 24) (by omega)
   have hlim2 := lM (n := out.length + 1) (by omega)
   have hne : xs.map (fun x => (ev row x).1) ≠ [] := by simpa using hx
   repeat' first | ((with_reducible first | refine cs ?_ ?_ | refine ws ?_ ?_) <;> intro h <;> try simp only [h]) | simp only [↓wBA, tPo, convA, seval, enVV_len, hdec, hi0, hg, hw, exL_len]
   refine awp_loopX (xs.length) (fun j => [(10, .nown 2 3 (enV ((xs.take j).map fun x => (ev row x).1))), (23, intV .i64 (j : Nat)), (12, .any), (13, .any), (14, .any), (24, .any), (25, .any), (26, .any), (27, .any), (28, .any), (29, .any), (30, .any), (31, .any), (32, .any), (33, .any), (34, .any), (35, .any), (36, .any), (37, .any), (38, .any), (39, .any)]) (fun j => [some (.row 1 [[intV .i64 ((xs.take j).foldl (fun l x => leastI l (ev row x).2) l)]]), some (.nright 39 (out.length * 1)), some (.nright 24 (((xs.take j).map fun x => (ev row x).1).length * 3))]) 2 [(10, .p (.sl 3 (enV (xs.map fun x => (ev row x).1)))), (12, .any), (13, .any), (14, .any), (23, .any), (24, .any), (25, .any), (26, .any), (27, .any), (28, .any), (29, .any), (30, .any), (31, .any), (32, .any), (33, .any), (34, .any), (35, .any), (36, .any), (37, .any), (38, .any), (39, .any)] ([some (.row 1 [[intV .i64 (xs.foldl (fun l x => leastI l (ev row x).2) l)]]), some (.nright 39 (out.length * 1))]) ?_ ?_ ?_ ?_ ?_
   ·intro j; simp
   ·simp
   ·skip
    simp only [wR, Nat.reduceAdd, Nat.reduceLT, reduceIte]
    simp [wW, enV]
   ·intro j hj
    simp only [wR, Nat.reduceAdd, Nat.reduceLT, reduceIte]
    by_cases hlj : j < xs.length
    ·have hdec2 := dT (i := j) (n := xs.length) (by omega)
     have hj0 := nnI j
     have hw2 := wI j (by omega)
     have hg2 := exL_get2 xs j hlj
     have hm2 : (xs.take (j + 1)).map (fun x => (ev row x).1) = (xs.take j).map (fun x => (ev row x).1) ++ [(ev row xs[j]).1] := by rw [List.take_succ_eq_append_getElem hlj, List.map_append]; rfl
     have hf2 := take_step (fun l x => leastI l (ev row x).2) l xs j hlj
     have hE2 := hE row xs[j]
     have hvl : ((xs.take j).map fun x => (ev row x).1).length = j := by simp; omega
     have hml : ((xs.take j).map fun x => (ev row x).1).length ≤ 100000 := by omega
     generalize (xs.take j).map (fun x => (ev row x).1) = vs at *
     generalize (xs.take j).foldl (fun l x => leastI l (ev row x).2) l = lj at *
     generalize ev row xs[j] = q at *
     obtain ⟨⟨vk, vn, vt⟩, e⟩ := q
     generalize xs[j] = x at *
     obtain ⟨x1, x2, x3, x4, x5, x6, x7, x8⟩ := x
     simp only [exA, exC, List.map_cons, List.map_nil] at hE2 hg2
     simp only at hf2 hm2
     have hlim3 := tL (n := (vs.length + 1) * 32) (by omega)
     have hlim4 := lM (n := vs.length + 1) (by omega)
     repeat' first | ((with_reducible first | refine cs ?_ ?_ | refine ws ?_ ?_) <;> intro h <;> try simp only [h]) | simp only [↓wBA, tPo, convA, seval, enV_len, hdec2, hj0, hg2, hw2, hlim3, hlim4, appendA, srcA, List.length_append, vaA, vaC] | ((with_reducible show ACalls _ _ _ _ _); first | refine (hE2 _).eq ?_ | (refine (asee _ _ _ 0 rfl).mono ?_; rintro _ _ ⟨_, ⟨rfl, rfl⟩, rfl⟩; simp only [lsO]))
     refine ⟨⟨j + 1, by omega⟩, by show xs.length - (j + 1) < xs.length - j; omega, ?_⟩
     simp only [hm2, hf2, enV_app]
     simp [wW, enV, vaC]
     omega
    ·have hdec2 := dF (i := j) (n := xs.length) (by omega)
     have ht : xs.take j = xs := List.take_of_length_le (by omega)
     simp only [ht]
     have hnl : nilSl 3 (enV (xs.map fun x => (ev row x).1)) = .sl 3 (enV (xs.map fun x => (ev row x).1)) := sl_of_ne (by simpa [enV] using hx)
     repeat' first | ((with_reducible first | refine cs ?_ ?_ | refine ws ?_ ?_) <;> intro h <;> try simp only [h]) | simp only [↓wBA, tPo, convA, seval, hdec2]
     simp [wW, hnl]
   ·skip
    simp only [wR, Nat.reduceAdd, Nat.reduceLT, reduceIte]
    repeat' first | ((with_reducible first | refine cs ?_ ?_ | refine ws ?_ ?_) <;> intro h <;> try simp only [h]) | simp only [↓wBA, tPo, convA, seval, enVV_len, hw, hlim1, hlim2, appendA, srcA, List.length_append]
    all_goals refine ⟨⟨i + 1, by omega, trivial⟩, by show rows.length - (i + 1) < rows.length - i; omega, ?_⟩
    all_goals simp only [wR, Nat.reduceAdd, Nat.reduceLT, reduceIte]
    all_goals simp_all [wW, enVV]
  ·have hdec := dF (i := i) (n := rows.length) (by omega)
   have ht : rows.take i = rows := List.take_of_length_le (by omega)
   simp only [ht]
   repeat' first | ((with_reducible first | refine cs ?_ ?_ | refine ws ?_ ?_) <;> intro h <;> try simp only [h]) | simp only [↓wBA, tPo, convA, seval, enVV_len, hdec] | ((with_reducible show ACalls _ _ _ _ _); refine ACalls.frzArgs ?_; simp only [frzL, frzA]; refine (aanswer _ _ _).eq ?_)
   all_goals refine ret_is (a := _) ?_ rfl rfl
   all_goals simp only [↓wBA, tPo, convA, seval]
   all_goals simp_all [wS]
end Go.Proofs.YtpcblbbddccgpaaGreatDoor
