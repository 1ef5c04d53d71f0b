/- cadastreref17.Project tells what the program's Project does. Filters behind filters: the plain law of RelTwice. RelTells. -/
import Derived.Test.YtpcblbbddccgpaaGreatDoorM34
import Derived.Test.YtpcblbbddccgpaaGreatDoorM36
import Derived.Test.YtpcblbbddccgpaaGreatDoorM23
import Derived.Test.YtpcblbbddccgpaaGreatDoorM39
import Derived.Test.YtpcblbbddccgpaaGreatDoorM35
set_option linter.unusedSimpArgs false
set_option linter.unusedVariables false
set_option linter.defProp false
set_option maxRecDepth 100000
set_option maxHeartbeats 32000000
namespace Go.Proofs.YtpcblbbddccgpaaGreatDoor
open Go.RowKit
def pl13_10Pj : Plan := (.det 0 (.det 1 (.det 2 (.det 3 (.det 4 (.det 5 (.det 6 (.det 7 (.two 8 (.det 9 (.det 10 (.det 11 (.act 12 (.fin 13 (.det 14 .done)))))) 12 (.fin 8 (.det 9 (.det 10 (.det 11 (.fin 13 (.det 14 .done)))))))))))))))
def tPj := aa wX <| aa wbu <| aa T3 <| aa T22 <| aa T24 <| aa T25 <| aa T27 <| aa T30 T39
theorem aprojectR (rows : List (List Va)) (xs : List Ex) (hg : ∀ x ∈ xs, rgE x) (hv : ∀ r ∈ rows, ∀ v ∈ r, i64R v.2.1) (hx : xs ≠ []) (hxn : xs.length ≤ 100000) (hr : rows.length * 24 ≤ 140737488351232) (σ : St) : ACalls Tryz.prog 13 [.p (.sl 1 (enVV rows)), .p (.sl 8 (exL xs))] σ fun r s => s = σ ∧ r = .tup [.p (.sl 1 (enVV (proS rows xs).1)), intV .i64 (proS rows xs).2] := by
 refine ACalls.pureF (R := fun r => r = .tup [.p (.sl 1 (enVV (proS rows xs).1)), intV .i64 (proS rows xs).2]) ?_ rfl σ
 have hE := fun row hr x hx => aEvalR row hr x hx
 unfold EvOK at hE
 unfold proS
 have hfl := fun l => prGo_len xs l ([], 0)
 generalize hst : prStep xs = stp at *
 have hstp : ∀ s r, stp s r = (s.1 ++ [xs.map fun x => (evalV r x).1], xs.foldl (fun l x => leastI l (evalV r x).2) s.2) := fun s r => by rw [← hst]; rfl
 generalize hhv : (fun r x => evalV r x) = ev at *
 have hhv' : ∀ r x, evalV r x = ev r x := fun r x => by rw [← hhv]
 simp only [hhv'] at hE hstp
 clear hst hhv hhv'
 refine acalls_of cx_ok dr_ok Tryz.func13 (by kernel_rfl) rfl (nt := 51) (rs := [.tmp 4, .tmp 5]) rfl rfl ?_
 repeat' first | ((with_reducible first | refine cs ?_ ?_ | refine ws ?_ ?_ | refine wd ?_ ?_ | refine wu ?_ ?_) <;> intro h <;> try simp only [h]) | simp only [↓wBA, tPj, convA, seval, pl13_10Pj, enVV_len] | (with_reducible refine dP pl13_10Pj 15 (some 26) (by decide) (by kernel_rfl) ?_) | with_reducible refine And.intro ?_ ?_
 refine awp_loopN (rows.length) (fun i => [(6, .nown 0 1 (enVV ((rows.take i).foldl stp ([], 0)).1)), (7, intV .i64 ((rows.take i).foldl stp ([], 0)).2), (8, intV .i64 (i : Nat)), (9, .any), (10, .any), (11, .any), (12, .any), (13, .any), (14, .any), (15, .any), (16, .any), (17, .any), (18, .any), (19, .any), (20, .any), (21, .any), (22, .any), (23, .any), (24, .any), (25, .any), (26, .any), (27, .any), (28, .any), (29, .any), (30, .any), (31, .any), (32, .any), (33, .any), (34, .any), (35, .any), (36, .any), (37, .any), (38, .any), (39, .any), (40, .any), (41, .any), (42, .any), (43, .any), (44, .any), (45, .any), (46, .any), (47, .any)]) (fun i => [(0, .nright 39 (((rows.take i).foldl stp ([], 0)).1.length * 1))]) (fun i => True) ?_ ?_ ?_
 ·trivial
 ·skip
  simp only [wR, Nat.reduceAdd, Nat.reduceLT, reduceIte]
  simp [wW, enVV]
 ·intro i hi _
  simp only [wR, Nat.reduceAdd, Nat.reduceLT, reduceIte]
  by_cases hlt : i < rows.length
  ·have hdec := dT (i := i) (n := rows.length) (by omega)
   have hi0 := nnI i
   have hw := wI i (by omega)
   have hgr := enVV_get rows i hlt
   have hst := take_step stp ([], 0) rows i hlt
   have hol := hfl (rows.take i)
   rw [hstp] at hst
   generalize hs : (rows.take i).foldl stp ([], 0) = st at *
   obtain ⟨out, l⟩ := st
   simp only [List.length_nil, Nat.zero_add] at hst hol
   have ho : out.length ≤ 5864062014634 := by simp at hol; omega
   have hEr := hE rows[i] (hv _ (List.getElem_mem hlt))
   generalize hrow : rows[i] = row at *
   have hlim1 := tL (n := (out.length + 1) * 24) (by omega)
   have hlim2 := lM (n := out.length + 1) (by omega)
   have hne : xs.map (fun x => (ev row x).1) ≠ [] := by simpa using hx
   repeat' first | ((with_reducible first | refine cs ?_ ?_ | refine ws ?_ ?_ | refine wd ?_ ?_ | refine wu ?_ ?_) <;> intro h <;> try simp only [h]) | simp only [↓wBA, tPj, convA, seval, pl13_10Pj, enVV_len, hdec, hi0, hgr, hw, exL_len] | (with_reducible refine dP pl13_10Pj 15 (some 26) (by decide) (by kernel_rfl) ?_) | with_reducible refine And.intro ?_ ?_
   refine awp_loopX (xs.length) (fun j => [(9, .nown 1 3 (enV ((xs.take j).map fun x => (ev row x).1))), (10, intV .i64 (j : Nat)), (7, intV .i64 ((xs.take j).foldl (fun l x => leastI l (ev row x).2) l)), (11, .any), (12, .any), (19, .any), (20, .any), (21, .any), (22, .any), (23, .any), (24, .any), (25, .any), (26, .any), (27, .any), (28, .any), (29, .any), (30, .any), (31, .any), (32, .any), (33, .any), (34, .any), (35, .any), (36, .any), (37, .any), (38, .any), (39, .any), (40, .any), (41, .any), (42, .any), (43, .any)]) (fun j => [some (.nright 39 (out.length * 1)), some (.nright 24 (((xs.take j).map fun x => (ev row x).1).length * 3))]) 2 [(9, .p (.sl 3 (enV (xs.map fun x => (ev row x).1)))), (7, intV .i64 (xs.foldl (fun l x => leastI l (ev row x).2) l)), (10, .any), (11, .any), (12, .any), (19, .any), (20, .any), (21, .any), (22, .any), (23, .any), (24, .any), (25, .any), (26, .any), (27, .any), (28, .any), (29, .any), (30, .any), (31, .any), (32, .any), (33, .any), (34, .any), (35, .any), (36, .any), (37, .any), (38, .any), (39, .any), (40, .any), (41, .any), (42, .any), (43, .any)] ([some (.nright 39 (out.length * 1))]) ?_ ?_ ?_ ?_ ?_
   ·intro j; simp
   ·simp
   ·skip
    simp only [wR, Nat.reduceAdd, Nat.reduceLT, reduceIte]
    simp [wW, enV]
   ·intro j hj
    simp only [wR, Nat.reduceAdd, Nat.reduceLT, reduceIte]
    by_cases hlj : j < xs.length
    ·have hdec2 := dT (i := j) (n := xs.length) (by omega)
     have hj0 := nnI j
     have hw2 := wI j (by omega)
     have hg2 := exL_get2 xs j hlj
     have hm2 : (xs.take (j + 1)).map (fun x => (ev row x).1) = (xs.take j).map (fun x => (ev row x).1) ++ [(ev row xs[j]).1] := by rw [List.take_succ_eq_append_getElem hlj, List.map_append]; rfl
     have hf2 := take_step (fun l x => leastI l (ev row x).2) l xs j hlj
     have hE2 := hEr xs[j] (hg _ (List.getElem_mem hlj))
     have hvl : ((xs.take j).map fun x => (ev row x).1).length = j := by simp; omega
     have hml : ((xs.take j).map fun x => (ev row x).1).length ≤ 100000 := by omega
     generalize (xs.take j).map (fun x => (ev row x).1) = vs at *
     generalize (xs.take j).foldl (fun l x => leastI l (ev row x).2) l = lj at *
     generalize ev row xs[j] = q at *
     obtain ⟨⟨vk, vn, vt⟩, e⟩ := q
     generalize xs[j] = x at *
     obtain ⟨x1, x2, x3, x4, x5, x6, x7, x8⟩ := x
     simp only [exA, exC, List.map_cons, List.map_nil] at hE2 hg2
     simp only at hf2 hm2
     have hlim3 := tL (n := (vs.length + 1) * 32) (by omega)
     have hlim4 := lM (n := vs.length + 1) (by omega)
     repeat' first | ((with_reducible first | refine cs ?_ ?_ | refine ws ?_ ?_ | refine wd ?_ ?_ | refine wu ?_ ?_) <;> intro h <;> try simp only [h]) | simp only [↓wBA, tPj, convA, seval, pl13_10Pj, enV_len, enVV_len, exL_len, hdec2, hj0, hi0, hgr, hg2, hw2, hlim3, hlim4, appendA, srcA, List.length_append, vaA, vaC] | ((with_reducible show ACalls _ _ _ _ _); first | refine (hE2 _).eq ?_ | refine (aleastR _ _ _).eq ?_) | (with_reducible refine dP pl13_10Pj 15 (some 26) (by decide) (by kernel_rfl) ?_) | with_reducible refine And.intro ?_ ?_
     all_goals refine ⟨⟨j + 1, by omega⟩, by show xs.length - (j + 1) < xs.length - j; omega, ?_⟩
     all_goals simp only [hm2, hf2, enV_app]
     all_goals simp [wW, enV, vaC]
     all_goals omega
    ·have hdec2 := dF (i := j) (n := xs.length) (by omega)
     have ht : xs.take j = xs := List.take_of_length_le (by omega)
     simp only [ht]
     have hnl : nilSl 3 (enV (xs.map fun x => (ev row x).1)) = .sl 3 (enV (xs.map fun x => (ev row x).1)) := sl_of_ne (by simpa [enV] using hx)
     repeat' first | ((with_reducible first | refine cs ?_ ?_ | refine ws ?_ ?_ | refine wd ?_ ?_ | refine wu ?_ ?_) <;> intro h <;> try simp only [h]) | simp only [↓wBA, tPj, convA, seval, pl13_10Pj, hdec2, exL_len] | (with_reducible refine dP pl13_10Pj 15 (some 26) (by decide) (by kernel_rfl) ?_) | with_reducible refine And.intro ?_ ?_
     simp [wW, hnl]
   ·skip
    simp only [wR, Nat.reduceAdd, Nat.reduceLT, reduceIte]
    repeat' first | ((with_reducible first | refine cs ?_ ?_ | refine ws ?_ ?_ | refine wd ?_ ?_ | refine wu ?_ ?_) <;> intro h <;> try simp only [h]) | simp only [↓wBA, tPj, convA, seval, pl13_10Pj, enVV_len, hw, hlim1, hlim2, appendA, srcA, List.length_append] | (with_reducible refine dP pl13_10Pj 15 (some 26) (by decide) (by kernel_rfl) ?_) | with_reducible refine And.intro ?_ ?_
    all_goals refine ⟨⟨i + 1, by omega, trivial⟩, by show rows.length - (i + 1) < rows.length - i; omega, ?_⟩
    all_goals simp only [wR, Nat.reduceAdd, Nat.reduceLT, reduceIte]
    all_goals simp_all [wW, enVV]
  ·have hdec := dF (i := i) (n := rows.length) (by omega)
   have ht : rows.take i = rows := List.take_of_length_le (by omega)
   simp only [ht]
   repeat' first | ((with_reducible first | refine cs ?_ ?_ | refine ws ?_ ?_ | refine wd ?_ ?_ | refine wu ?_ ?_) <;> intro h <;> try simp only [h]) | simp only [↓wBA, tPj, convA, seval, pl13_10Pj, enVV_len, hdec] | ((with_reducible show ACalls _ _ _ _ _); refine ACalls.frzArgs ?_; simp only [frzL, frzA]; refine (adoneR _ _ _).eq ?_) | (with_reducible refine dP pl13_10Pj 15 (some 26) (by decide) (by kernel_rfl) ?_) | with_reducible refine And.intro ?_ ?_
   all_goals refine ret_is (a := _) ?_ rfl rfl
   all_goals simp only [↓wBA, tPj, convA, seval]
   all_goals simp_all [wS]
end Go.Proofs.YtpcblbbddccgpaaGreatDoor
namespace Go.Proofs.YtpcblbbddccgpaaGreatDoor
open Go.RowKit
theorem leastI_zero {l e : Int} (h : leastI l e = 0) : l = 0 ∧ e = 0 := by
 unfold leastI at h
 split at h <;> omega
theorem fil_zero (x : Ex) : ∀ (rows : List (List Va)) (s : List (List Va) × Int), (rows.foldl (filStep x) s).2 = 0 → s.2 = 0 ∧ (∀ r ∈ rows, (holdsV r x).2 = 0) ∧ ((rows.foldl (filStep x) s).1.length ≤ 10000 → (rows.foldl (filStep x) s).1 = s.1 ++ rows.filter fun r => (holdsV r x).1)
 | [], s, h => ⟨h, by simp, by simp⟩
 | q :: rows, s, h => by
   rw [List.foldl_cons] at h
   obtain ⟨h1, h2, h3⟩ := fil_zero x rows _ h
   obtain ⟨g1, g2⟩ := leastI_zero (l := s.2) (e := (holdsV q x).2) h1
   refine ⟨g1, fun r hr => ?_, fun hl => ?_⟩
   ·rcases List.mem_cons.1 hr with rfl | hr
    ·exact g2
    ·exact h2 r hr
   ·rw [List.foldl_cons] at hl ⊢
    have h4 := h3 hl
    rw [h4, List.filter_cons]
    have hs : (filStep x s q).1.length ≤ 10000 := by
     have := congrArg List.length h4
     rw [List.length_append] at this
     omega
    simp only [filStep] at hs ⊢
    cases hq : (holdsV q x).1 with
    | false => simp [hq]
    | true =>
      simp only [hq, true_and] at hs ⊢
      by_cases hle : s.1.length ≤ 10000
      ·simp [hle]
      ·rw [if_neg hle] at hs; omega
theorem filS_ok {rows : List (List Va)} {x : Ex} (h : (filS rows x).2 = 0) : (filS rows x).1 = rows.filter (fun r => (holdsV r x).1) ∧ (∀ r ∈ rows, (holdsV r x).2 = 0) ∧ (filS rows x).1.length ≤ 10000 := by
 unfold filS ansS at h ⊢
 split at h
 ·rename_i h0; exact (h0 h).elim
 ·rename_i h0
  split at h
  ·simp at h
  ·rename_i h1
   rw [if_neg h0, if_neg h1]
   simp only [ne_eq, Decidable.not_not] at h0
   obtain ⟨g1, g2, g3⟩ := fil_zero x rows ([], 0) h0
   have := g3 (by omega)
   simp only [List.nil_append] at this
   exact ⟨this, g2, by simp only; omega⟩
theorem filS_err {rows : List (List Va)} {x : Ex} (h : (filS rows x).2 ≠ 0) : (filS rows x).1 = [] := by
 unfold filS ansS at h ⊢
 split
 ·rfl
 ·split
  ·rfl
  ·rename_i h0 h1
   rw [if_neg h0, if_neg h1] at h
   exact (h rfl).elim
end Go.Proofs.YtpcblbbddccgpaaGreatDoor
namespace Go.Proofs.YtpcblbbddccgpaaGreatDoor
open Go.RowKit
def tTe := aa wX <| aa wbu <| aa T4 <| aa T22 <| aa T25 <| aa T27 T30
theorem filS_len17 (rows : List (List Va)) (x : Ex) (hr : OkRowsL rows) : OkRows (filS rows x).1 ∧ (filS rows x).1.length ≤ 10000 := by
 by_cases h : (filS rows x).2 = 0
 ·obtain ⟨h1, _, h3⟩ := filS_ok h
  refine ⟨⟨by omega, fun r hm => ?_⟩, h3⟩
  rw [h1] at hm
  exact hr.2 r (List.mem_filter.1 hm).1
 ·rw [filS_err h]
  exact ⟨⟨by simp, by simp⟩, by simp⟩
theorem prGo_mem (xs : List Ex) : ∀ (rows : List (List Va)) (s : List (List Va) × Int), (∀ r ∈ s.1, r.length = xs.length) → ∀ r ∈ (rows.foldl (prStep xs) s).1, r.length = xs.length
 | [], s, h => h
 | q :: rows, s, h => prGo_mem xs rows (prStep xs s q) (fun r hr => by
   simp only [prStep, List.mem_append, List.mem_singleton] at hr
   rcases hr with hr | rfl
   ·exact h r hr
   ·simp [prRow])
theorem proS_len (rows : List (List Va)) (xs : List Ex) : (proS rows xs).1.length ≤ 10000 ∧ ∀ r ∈ (proS rows xs).1, r.length = xs.length := by
 have h := prGo_mem xs rows ([], 0) (by simp)
 unfold proS ansS
 split
 ·simp
 ·split
  ·simp
  ·exact ⟨by simp only; omega, h⟩
theorem atells (rows : List (List Va)) (x y : Ex) (hn : rows.length * 24 ≤ 140737488351232) (hr : ∀ r ∈ rows, r.length ≤ 4398046511104 ∧ ∀ v ∈ r, i64R v.2.1) (hx : rgE x) (hy : rgE y) (σ : St) : ACalls Tryz.prog 4 [.p (.sl 1 (enVV rows)), exA x, exA y] σ fun r s => s = σ ∧ r = boolV true := by
 refine ACalls.pureF (R := fun r => r = boolV true) ?_ (by cases x; cases y; rfl) σ
 have hA := aawake
 have hok : OkRowsL rows := ⟨by omega, fun r h => (hr r h).1⟩
 have h1 := afilterL rows x hok
 have h2 := afilterRL rows x hx hn (fun r h => (hr r h).2)
 have h3 := aproject rows [x, y] (by simp) (by simp) hn
 have h4 := aprojectR rows [x, y] (fun z hz => by
  rcases List.mem_cons.1 hz with rfl | hz
  ·exact hx
  ·rw [List.mem_singleton] at hz; subst hz; exact hy) (fun r h => (hr r h).2) (by simp) (by simp) hn
 obtain ⟨o1, l1⟩ := filS_len17 rows x hok
 obtain ⟨l2, m2⟩ := proS_len rows [x, y]
 have hS1 := asameVV (filS rows x).1 (filS rows x).1 o1.1 o1.1 o1.2 o1.2
 have hS2 := asameVV (proS rows [x, y]).1 (proS rows [x, y]).1 (by omega) (by omega) (fun r h => by rw [m2 r h]; simp) (fun r h => by rw [m2 r h]; simp)
 have hs1 : sameVV (filS rows x).1 (filS rows x).1 = true := decide_eq_true rfl
 have hs2 : sameVV (proS rows [x, y]).1 (proS rows [x, y]).1 = true := decide_eq_true rfl
 rw [hs1] at hS1
 rw [hs2] at hS2
 clear hs1 hs2 o1 l1 l2 m2 hok
 generalize filS rows x = fx at *
 generalize proS rows [x, y] = px at *
 obtain ⟨f1, f2⟩ := fx
 obtain ⟨p1, p2⟩ := px
 simp only at h1 h2 h3 h4 hS1 hS2
 clear hx hy
 obtain ⟨xk, xvk, xvn, xvs, xtb, xnm, xs, xkids⟩ := x
 obtain ⟨yk, yvk, yvn, yvs, ytb, ynm, ys, ykids⟩ := y
 simp only [exA, exC, exL, List.map_cons, List.map_nil] at h1 h2 h3 h4
 refine acalls_of cx_ok dr_ok Tryz.func4 (by kernel_rfl) rfl (nt := 60) (rs := [.tmp 6]) rfl rfl ?_
 simp only [exA, exC, List.map_cons, List.map_nil]
 repeat' first | ((with_reducible first | refine cs ?_ ?_ | refine ws ?_ ?_) <;> intro h <;> try simp only [h]) | simp only [↓wBA, tTe, convA, seval, beq_self_eq_true] | ((with_reducible show ACalls _ _ _ _ _); first | refine (hA _).eq ?_ | refine (h1 _).eq ?_ | refine (h2 _).eq ?_ | (refine ACalls.frzArgs ?_; simp only [frzL, frzA]; refine (h3 _).eq ?_) | (refine ACalls.frzArgs ?_; simp only [frzL, frzA]; refine (h4 _).eq ?_) | refine (hS1 _).eq ?_ | refine (hS2 _).eq ?_)
 all_goals refine ret_is (a := _) ?_ rfl rfl
 all_goals simp only [↓wBA, tTe, convA, seval]
 all_goals simp_all [wS]
end Go.Proofs.YtpcblbbddccgpaaGreatDoor
