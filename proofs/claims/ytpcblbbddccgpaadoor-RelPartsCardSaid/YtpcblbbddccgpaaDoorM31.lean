/- Rows of rows of one's own: rows read and written one by one. Rows one behind the other: slices.Concat. A pair of rows is asked. A join's rows, as the program finds them. -/
import Derived.Test.YtpcblbbddccgpaaDoorM29
import Derived.Test.YtpcblbbddccgpaaDoorM30
import Derived.Test.YtpcblbbddccgpaaDoorM23
import Derived.Test.YtpcblbbddccgpaaDoorM24
import Derived.Test.YtpcblbbddccgpaaDoorM28
set_option linter.unusedSimpArgs false
set_option linter.unusedVariables false
set_option linter.defProp false
set_option maxRecDepth 100000
set_option maxHeartbeats 32000000
namespace Go.Proofs.YtpcblbbddccgpaaDoor
open Go.RowKit
def posF (acc : List (List Va)) (j : Nat) : Nat := (objF (acc.take j)).length
theorem celF_get : ∀ (acc : List (List Va)) (n j : Nat) (h : j < acc.length), (celF n acc)[j]? = some [celO (n + posF acc j) acc[j]]
 | r :: acc, n, 0, _ => by simp [celF, posF, objF]
 | r :: acc, n, j + 1, h => by
   have := celF_get acc (n + (blk r).length) j (by simpa using h)
   simp only [celF, List.getElem?_cons_succ, this, List.getElem_cons_succ, posF, List.take_succ_cons, objF_cons, List.length_append, Nat.add_assoc]
 | [], _, _, h => by simp at h
theorem objF_get : ∀ (acc : List (List Va)) (j : Nat) (v : Va) (l : List Va), acc[j]? = some (v :: l) → (objF acc)[posF acc j + 1]? = some (some (.row 3 (muR (v :: l)))) ∧ posF acc j + 4 ≤ (objF acc).length
 | r :: acc, 0, v, l, h => by
   simp at h; subst h
   simp [objF_cons, posF, objF, blk]
 | r :: acc, j + 1, v, l, h => by
   obtain ⟨h1, h2⟩ := objF_get acc j v l (by simpa using h)
   have hp : posF (r :: acc) (j + 1) = (blk r).length + posF acc j := by simp [posF, objF_cons]
   rw [hp, objF_cons]
   refine ⟨?_, by rw [List.length_append]; omega⟩
   rw [List.getElem?_append_right (by omega), show (blk r).length + posF acc j + 1 - (blk r).length = posF acc j + 1 by omega]
   exact h1
 | [], _, _, _, h => by simp at h
theorem tlF_get {n : Nat} {acc : List (List Va)} {j : Nat} {v : Va} {l : List Va} (h : acc[j]? = some (v :: l)) : (tlF n acc)[posF acc j + 1]? = some (some (.row 3 (muR (v :: l)))) := by
 obtain ⟨h1, h2⟩ := objF_get acc j v l h
 cases acc with
 | nil => simp at h
 | cons q m =>
   simp only [tlF]
   rw [List.getElem?_set, if_neg (by omega)]
   exact h1
def lenEq : List (List Va) → List (List Va) → Prop
 | [], [] => True
 | r :: a, q :: b => r.length = q.length ∧ lenEq a b
 | _, _ => False
theorem lenEq_blk {r q : List Va} (h : r.length = q.length) : (blk r).length = (blk q).length := by
 cases r <;> cases q <;> simp [blk] at h ⊢
theorem lenEq_obj : ∀ {a b : List (List Va)}, lenEq a b → (objF a).length = (objF b).length
 | [], [], _ => rfl
 | r :: a, q :: b, h => by simp only [lenEq] at h; rw [objF_cons, objF_cons, List.length_append, List.length_append, lenEq_blk h.1, lenEq_obj h.2]
 | [], _ :: _, h => by simp [lenEq] at h
 | _ :: _, [], h => by simp [lenEq] at h
theorem lenEq_cel : ∀ {a b : List (List Va)} (n : Nat), lenEq a b → celF n a = celF n b
 | [], [], n, _ => rfl
 | r :: a, q :: b, n, h => by
   simp only [lenEq] at h
   have h0 : celO n r = celO n q := by
    have h1 := h.1
    cases r <;> cases q <;> simp [celO] at h1 ⊢
    exact h1
   simp only [celF, h0, lenEq_blk h.1, lenEq_cel _ h.2]
 | [], _ :: _, n, h => by simp [lenEq] at h
 | _ :: _, [], n, h => by simp [lenEq] at h
theorem lenEq_set : ∀ (a : List (List Va)) (j : Nat) (r : List Va) (h : j < a.length), a[j].length = r.length → lenEq a (a.set j r)
 | q :: a, 0, r, _, h => by
   simp only [List.set_cons_zero, lenEq]
   exact ⟨by simpa using h, lenEq_refl a⟩
 | q :: a, j + 1, r, hj, h => by
   simp only [List.set_cons_succ, lenEq]
   exact ⟨trivial, lenEq_set a j r (by simpa using hj) (by simpa using h)⟩
 | [], _, _, hj, _ => by simp at hj
where lenEq_refl : ∀ a : List (List Va), lenEq a a
 | [] => trivial
 | r :: a => ⟨rfl, lenEq_refl a⟩
theorem objF_set : ∀ (acc : List (List Va)) (j : Nat) (v u : Va) (l m : List Va), acc[j]? = some (v :: l) → l.length = m.length → (objF acc).set (posF acc j + 1) (some (.row 3 (muR (u :: m)))) = objF (acc.set j (u :: m))
 | r :: acc, 0, v, u, l, m, h, hl => by
   simp at h; subst h
   simp [objF_cons, posF, objF, blk]
 | r :: acc, j + 1, v, u, l, m, h, hl => by
   have ih := objF_set acc j v u l m (by simpa using h) hl
   have hp : posF (r :: acc) (j + 1) = (blk r).length + posF acc j := by simp [posF, objF_cons]
   rw [hp, objF_cons, List.set_cons_succ, objF_cons, List.set_append, if_neg (by omega), show (blk r).length + posF acc j + 1 - (blk r).length = posF acc j + 1 by omega, ih]
 | [], _, _, _, _, _, h, _ => by simp at h
theorem tlF_set {n : Nat} {acc : List (List Va)} {j : Nat} {v u : Va} {l m : List Va} (h : acc[j]? = some (v :: l)) (hl : l.length = m.length) : (tlF n acc).set (posF acc j + 1) (some (.row 3 (muR (u :: m)))) = tlF n (acc.set j (u :: m)) := by
 obtain ⟨h1, h2⟩ := objF_get acc j v l h
 have hj : j < acc.length := (List.getElem?_eq_some_iff.1 h).1
 have hle : lenEq acc (acc.set j (u :: m)) := lenEq_set acc j (u :: m) hj (by
  have := (List.getElem?_eq_some_iff.1 h).2
  rw [this]; simp [hl])
 have key : ∀ b : List (List Va), b ≠ [] → tlF n b = (objF b).set ((objF b).length - 1) (some (.row 1 (celF n b))) := fun b hb => by cases b with
  | nil => exact absurd rfl hb
  | cons q c => rfl
 have hne : acc ≠ [] := fun e => by subst e; simp at h
 rw [key acc hne, key (acc.set j (u :: m)) (by cases acc with | nil => exact absurd rfl hne | cons q c => cases j <;> simp), ← lenEq_obj hle, ← lenEq_cel n hle, ← objF_set acc j v u l m h hl]
 rw [List.set_comm]
 omega
end Go.Proofs.YtpcblbbddccgpaaDoor
namespace Go.Proofs.YtpcblbbddccgpaaDoor
open Go.RowKit
def tCc := aa wX <| aa wbu <| aa T3 <| aa T22 T36
theorem catlen (xs : List (List Va)) (i : Nat) (h : i < xs.length) : (xs.take (i + 1)).flatten = (xs.take i).flatten ++ xs[i] := by
 rw [List.take_succ_eq_append_getElem h, List.flatten_append]; simp
theorem cattot (xs : List (List Va)) (i : Nat) : (xs.take i).flatten.length ≤ xs.flatten.length := by
 conv => rhs; rw [← List.take_append_drop i xs, List.flatten_append, List.length_append]
 omega
theorem agrow0 (σ : St) : ACalls Tryd.prog 29 [nilA, intV .i64 ((0 : Nat) : Int)] σ fun r s => s = σ ∧ r = nilA := by
 refine ACalls.pureF (R := fun r => r = nilA) ?_ rfl σ
 refine acalls_of cx_ok dr_ok Tryd.func29 (by kernel_rfl) rfl (nt := 25) (rs := [.tmp 4]) rfl rfl ?_
 have h0 : intV .i64 ((0 : Nat) : Int) = intV .i64 0 := rfl
 simp only [h0]
 have hc := fun (σ : St) tk => bm_cap (C := cx) (σ := σ) (pos := some 10) (tk := tk) ck_36
 simp only [nilA] at hc
 repeat' first | ((with_reducible first | refine cs ?_ ?_ | refine ws ?_ ?_) <;> intro h <;> try simp only [h]) | simp only [↓wBA, tCc, convA, seval, hc, wz0, Int.sub_self]
 all_goals refine ret_is (a := _) ?_ rfl rfl
 all_goals simp only [↓wBA, tCc, convA, seval]
 all_goals simp_all [wS]
theorem agrow (n : Nat) (h0 : 0 < n) (h1 : n ≤ 4398046511104) : ACalls Tryd.prog 29 [nilA, intV .i64 (n : Int)] [] fun r s => r = .own 0 3 [] ∧ s = [some (.right 24 0)] := by
 refine acalls_of cx_ok dr_ok Tryd.func29 (by kernel_rfl) rfl (nt := 25) (rs := [.tmp 4]) rfl rfl ?_
 have hc := fun (σ : St) tk => bm_cap (C := cx) (σ := σ) (pos := some 10) (tk := tk) ck_36
 have hc2 := fun (σ : St) tk => bm_cap (C := cx) (σ := σ) (pos := some 19) (tk := tk) ck_36
 simp only [nilA] at hc hc2
 have d1 : decide ((n : Int) < 0) = false := decide_eq_false (by omega)
 have d2 : decide ((n : Int) > 0) = true := decide_eq_true (by omega)
 have w1 : IntKind.i64.wrap (n : Int) = (n : Int) := wrap_i64 (by omega) (by omega)
 have hz := fun (σ : St) tk => app_zeros (C := cx) (σ := σ) (tk := tk) (k := .i64) ck_36 ck_3 h0 (by omega) (by unfold maxLen; omega)
 have hs := slice_raw (C := cx) (t := 0) (k := n) (kk := .i64) ck_36
 have hsn : sliceA cx 36 (.p (.v (.slice none 0 0))) none (some (.p (.v (.int .i64 0)))) = some (.p (.v (.slice none 0 0))) := by simp only [sliceA, ck_36, elemsA, boundA, intA, nilA]
 simp only [nilA] at hz
 have hb := fun (σ : St) tk x y => bm_appendS (C := cx) (σ := σ) (pos := some 22) (tk := tk) (T := 36) (T' := 3) (x := x) (y := y) rfl (by decide)
 repeat' first | ((with_reducible first | refine cs ?_ ?_ | refine ws ?_ ?_) <;> intro h <;> try simp only [h]) | simp only [↓wBA, tCc, convA, seval, hb, hc, hc2, d1, d2, w1, hz, hs, hsn, wz0, Int.sub_self, Int.sub_zero]
 exact ⟨.inl rfl, _, _, _, rfl, .inl ⟨rfl, rfl⟩, by simp, rfl, rfl⟩
theorem acat (xs : List (List Va)) (hx : xs.length ≤ 1000000) (hl : xs.flatten.length ≤ 4398046511104) (σ : St) : ACalls Tryd.prog 23 [.p (.sl 1 (enVV xs))] σ fun r s => s = σ ∧ r = .p (.sl 3 (enV xs.flatten)) := by
 refine ACalls.pureF (R := fun r => r = .p (.sl 3 (enV xs.flatten))) ?_ rfl σ
 have h0 : ∀ σ, ACalls Tryd.prog 29 [.p (.v (.slice none 0 0)), .p (.v (.int .i64 ((0 : Nat) : Int)))] σ fun r s => s = σ ∧ r = .p (.v (.slice none 0 0)) := agrow0
 have h1 := agrow xs.flatten.length
 simp only [nilA, intV] at h1
 refine acalls_of cx_ok dr_ok Tryd.func23 (by kernel_rfl) rfl (nt := 35) (rs := [.tmp 2]) rfl rfl ?_
 repeat' first | ((with_reducible first | refine cs ?_ ?_ | refine ws ?_ ?_) <;> intro h <;> try simp only [h]) | simp only [↓wBA, tCc, convA, seval, enVV_len]
 refine awp_loopN (xs.length) (fun i => [(3, intV .i64 ((xs.take i).flatten.length : Nat)), (11, intV .i64 (i : Nat)), (5, .any), (12, .any), (13, .any), (14, .any), (15, .any), (16, .any), (17, .any), (18, .any), (19, .any), (20, .any), (21, .any), (22, .any)]) (fun i => []) (fun i => True) ?_ ?_ ?_
 ·trivial
 ·skip
  simp only [wR, Nat.reduceAdd, Nat.reduceLT, reduceIte]
  simp [wW]
 ·intro i hi _
  simp only [wR, Nat.reduceAdd, Nat.reduceLT, reduceIte]
  by_cases hlt : i < xs.length
  ·have hdec := dT (i := i) (n := xs.length) (by omega)
   have hi0 := nnI i
   have hw := wI i (by omega)
   have hg := enVV_get xs i hlt
   have hc := catlen xs i hlt
   have ht := cattot xs (i + 1)
   have hs : (xs.take (i + 1)).flatten.length = (xs.take i).flatten.length + xs[i].length := by rw [hc, List.length_append]
   have hsum : IntKind.i64.wrap (((xs.take i).flatten.length : Int) + (xs[i].length : Int)) = ((xs.take (i + 1)).flatten.length : Int) := by rw [wrap_i64 (by omega) (by omega), hs]; simp
   have hn : decide ((((xs.take (i + 1)).flatten.length : Nat) : Int) < 0) = false := decide_eq_false (by omega)
   repeat' first | ((with_reducible first | refine cs ?_ ?_ | refine ws ?_ ?_) <;> intro h <;> try simp only [h]) | simp only [↓wBA, tCc, convA, seval, enVV_len, enV_len, hdec, hi0, hg, hw, hsum, hn]
   refine ⟨⟨i + 1, by omega, ?_⟩, by show xs.length - (i + 1) < xs.length - i; omega, ?_⟩
   ·trivial
   ·skip
    simp [wW]
  ·have hdec := dF (i := i) (n := xs.length) (by omega)
   have ht : xs.take i = xs := List.take_of_length_le (by omega)
   simp only [ht]
   rcases Nat.eq_zero_or_pos xs.flatten.length with hz | hz
   ·have hfl : xs.flatten = [] := List.eq_nil_of_length_eq_zero hz
    rw [hfl]
    simp only [List.length_nil]
    repeat' first | ((with_reducible first | refine cs ?_ ?_ | refine ws ?_ ?_) <;> intro h <;> try simp only [h]) | simp only [↓wBA, tCc, convA, seval, enVV_len, hdec] | ((with_reducible show ACalls _ _ _ _ _); refine (h0 _).eq ?_)
    refine awp_loopN (xs.length) (fun j => [(6, nilA), (27, intV .i64 (j : Nat)), (8, .any), (28, .any), (29, .any), (30, .any), (31, .any), (32, .any), (33, .any), (34, .any)]) (fun j => []) (fun j => True) ?_ ?_ ?_
    ·trivial
    ·skip
     simp only [wR, Nat.reduceAdd, Nat.reduceLT, reduceIte]
     simp [wW]
    ·intro j hj _
     simp only [wR, Nat.reduceAdd, Nat.reduceLT, reduceIte]
     by_cases hlj : j < xs.length
     ·have hdec := dT (i := j) (n := xs.length) (by omega)
      have hi0 := nnI j
      have hw := wI j (by omega)
      have hg := enVV_get xs j hlj
      have hxe : xs[j] = [] := List.flatten_eq_nil_iff.1 hfl _ (List.getElem_mem hlj)
      rw [hxe] at hg
      simp only [enV, List.map_nil] at hg
      repeat' first | ((with_reducible first | refine cs ?_ ?_ | refine ws ?_ ?_) <;> intro h <;> try simp only [h]) | simp only [↓wBA, tCc, convA, seval, enVV_len, hdec, hi0, hg, hw, appendA, srcA, Nat.zero_mul, Nat.zero_le]
      refine ⟨⟨j + 1, by omega, ?_⟩, by show xs.length - (j + 1) < xs.length - j; omega, ?_⟩
      ·trivial
      ·skip
       simp [wW]
     ·have hdec := dF (i := j) (n := xs.length) (by omega)
      repeat' first | ((with_reducible first | refine cs ?_ ?_ | refine ws ?_ ?_) <;> intro h <;> try simp only [h]) | simp only [↓wBA, tCc, convA, seval, enVV_len, hdec]
      all_goals refine ret_is (a := _) ?_ rfl rfl
      all_goals simp only [↓wBA, tCc, convA, seval]
      all_goals simp_all [wS, enV]
   ·skip
    repeat' first | ((with_reducible first | refine cs ?_ ?_ | refine ws ?_ ?_) <;> intro h <;> try simp only [h]) | simp only [↓wBA, tCc, convA, seval, enVV_len, hdec] | ((with_reducible show ACalls _ _ _ _ _); refine (h1 hz hl).mono ?_; rintro _ _ ⟨rfl,rfl⟩)
    refine awp_loopN (xs.length) (fun j => [(6, .own 0 3 (enV (xs.take j).flatten)), (27, intV .i64 (j : Nat)), (8, .any), (28, .any), (29, .any), (30, .any), (31, .any), (32, .any), (33, .any), (34, .any)]) (fun j => [(0, .right 24 ((xs.take j).flatten.length * 3))]) (fun j => True) ?_ ?_ ?_
    ·trivial
    ·skip
     simp only [wR, Nat.reduceAdd, Nat.reduceLT, reduceIte]
     simp [wW, enV]
    ·intro j hj _
     simp only [wR, Nat.reduceAdd, Nat.reduceLT, reduceIte]
     by_cases hlj : j < xs.length
     ·have hdec := dT (i := j) (n := xs.length) (by omega)
      have hi0 := nnI j
      have hw := wI j (by omega)
      have hg := enVV_get xs j hlj
      have hc := catlen xs j hlj
      have ht := cattot xs (j + 1)
      have hs : (xs.take (j + 1)).flatten.length = (xs.take j).flatten.length + xs[j].length := by rw [hc, List.length_append]
      have l1 := tL (n := ((xs.take j).flatten.length + xs[j].length) * 32) (by omega)
      have l2 := lM (n := (xs.take j).flatten.length + xs[j].length) (by omega)
      repeat' first | ((with_reducible first | refine cs ?_ ?_ | refine ws ?_ ?_) <;> intro h <;> try simp only [h]) | simp only [↓wBA, tCc, convA, seval, enVV_len, enV_len, hdec, hi0, hg, hw, appendA, srcA, l1, l2, List.length_append]
      refine ⟨⟨j + 1, by omega, ?_⟩, by show xs.length - (j + 1) < xs.length - j; omega, ?_⟩
      ·trivial
      ·simp only [hc, enV_app, List.length_append]
       simp [wW, enV]
     ·have hdec := dF (i := j) (n := xs.length) (by omega)
      have ht : xs.take j = xs := List.take_of_length_le (by omega)
      simp only [ht]
      repeat' first | ((with_reducible first | refine cs ?_ ?_ | refine ws ?_ ?_) <;> intro h <;> try simp only [h]) | simp only [↓wBA, tCc, convA, seval, enVV_len, hdec]
      all_goals refine ret_is (a := _) ?_ rfl rfl
      all_goals simp only [↓wBA, tCc, convA, seval]
      all_goals simp_all [wS]
end Go.Proofs.YtpcblbbddccgpaaDoor
namespace Go.Proofs.YtpcblbbddccgpaaDoor
open Go.RowKit
def tPr := aa wX <| aa wbu <| aa T3 <| aa T22 <| aa T27 <| aa T31 <| aa T36 T45
theorem weak_at {fr fr' : List AV} {σ σ' : St} (n : Nat) (h : min σ.length σ'.length = n) (hL : leL σ n σ' fr fr') (hS : leS σ n σ' σ σ') : WeakE fr σ fr' σ' := by
 subst h
 exact .inr ⟨hL, hS⟩
def pSt (x : Ex) (s : List (List Va) × Int) : St := [some (.row 8 [(exC x).map .p]), some (.row 1 [[intV .i64 s.2]]), some (.row 1 [[.nown 3 1 (enVV s.1)]]), some (.nright 36 (s.1.length * 1))]
theorem apair (x : Ex) (r q : List Va) (hl : r.length + q.length ≤ 4398046511104) (s : List (List Va) × Int) :
 ACalls Tryd.prog 22 [.p (.sl 3 (enV r)), .p (.sl 3 (enV q)), .mp 0 8 0 0, .mp 1 1 0 0, .mp 2 1 0 0] (pSt x s) fun u s' => u = .tup [] ∧ s' = pSt x (filStep x s (r ++ q)) := by
 obtain ⟨out, l⟩ := s
 have hH := aholdsV (r ++ q) x
 have hc := acat [r, q] (by simp) (by simp; omega)
 have hfs : filStep x (out, l) (r ++ q) = (if (holdsV (r ++ q) x).1 = true ∧ out.length ≤ 10000 then out ++ [r ++ q] else out, leastI l (holdsV (r ++ q) x).2) := rfl
 have hcat : [r, q].flatten = r ++ q := by simp
 rw [hcat] at hc
 simp only [enVV, List.map_cons, List.map_nil] at hc
 rw [hfs]
 generalize holdsV (r ++ q) x = h at *
 obtain ⟨h1, h2⟩ := h
 simp only at hH ⊢
 obtain ⟨k, vk, vn, vs, tb, nm, sl, kids⟩ := x
 simp only [exA, exC, List.map_cons, List.map_nil] at hH
 refine acalls_of cx_ok dr_ok Tryd.func22 (by kernel_rfl) rfl (nt := 27) (rs := []) rfl rfl ?_
 simp only [pSt, exC, List.map_cons, List.map_nil]
 generalize r ++ q = rq at *
 by_cases ho : out.length ≤ 10000
 ·have hd : decide ((out.length : Int) ≤ 10000) = true := decide_eq_true (by omega)
  have l1 := tL (n := (out.length + 1) * 24) (by omega)
  have l2 := lM (n := out.length + 1) (by omega)
  cases h1
  ·skip
   repeat' first | ((with_reducible first | refine cs ?_ ?_ | refine ws ?_ ?_) <;> intro h <;> try simp only [h]) | simp only [↓wBA, tPr, convA, seval, enVV_len, hd] | ((with_reducible show ACalls _ _ _ _ _); first | (refine ACalls.frzArgs ?_; simp only [frzL, frzA]; refine (hc _).eq ?_) | refine (hH _).eq ?_ | (refine (asee _ _ _ 1 rfl).mono ?_; rintro _ _ ⟨_, ⟨rfl, rfl⟩, rfl⟩; simp only [lsO]))
   refine ⟨.inr rfl, _, _, _, rfl, weak_at 4 ?_ ?_ ?_, ?_, rfl, rfl⟩
   all_goals simp [wW]
  ·have hfs : (if true = true ∧ out.length ≤ 10000 then out ++ [rq] else out) = out ++ [rq] := if_pos ⟨rfl, ho⟩
   rw [hfs]
   repeat' first | ((with_reducible first | refine cs ?_ ?_ | refine ws ?_ ?_) <;> intro h <;> try simp only [h]) | simp only [↓wBA, tPr, convA, seval, enVV_len, hd, l1, l2, appendA, srcA, List.length_append] | ((with_reducible show ACalls _ _ _ _ _); first | (refine ACalls.frzArgs ?_; simp only [frzL, frzA]; refine (hc _).eq ?_) | refine (hH _).eq ?_ | (refine (asee _ _ _ 1 rfl).mono ?_; rintro _ _ ⟨_, ⟨rfl, rfl⟩, rfl⟩; simp only [lsO]))
   refine ⟨.inr rfl, _, _, _, rfl, weak_at 4 ?_ ?_ ?_, ?_, rfl, rfl⟩
   all_goals simp [wW, enVV]
 ·have hd : decide ((out.length : Int) ≤ 10000) = false := decide_eq_false (by omega)
  have hfs : (if h1 = true ∧ out.length ≤ 10000 then out ++ [rq] else out) = out := if_neg fun h => ho h.2
  rw [hfs]
  repeat' first | ((with_reducible first | refine cs ?_ ?_ | refine ws ?_ ?_) <;> intro h <;> try simp only [h]) | simp only [↓wBA, tPr, convA, seval, enVV_len, hd] | ((with_reducible show ACalls _ _ _ _ _); first | (refine ACalls.frzArgs ?_; simp only [frzL, frzA]; refine (hc _).eq ?_) | refine (hH _).eq ?_ | (refine (asee _ _ _ 1 rfl).mono ?_; rintro _ _ ⟨_, ⟨rfl, rfl⟩, rfl⟩; simp only [lsO]))
  all_goals refine ⟨.inr rfl, _, _, _, rfl, weak_at 4 ?_ ?_ ?_, ?_, rfl, rfl⟩
  all_goals simp [wW]
def jS2 (x : Ex) (s : List (List Va) × Int) (mid : St) : St := some (.row 8 [(exC x).map .p]) :: some (.row 1 [[intV .i64 s.2]]) :: some (.row 1 [[.nown (mid.length + 3) 1 (enVV s.1)]]) :: (mid ++ [some (.nright 36 (s.1.length * 1))])
theorem renL_p (g : Nat → Nat) : ∀ l : List PV, renL g (l.map AV.p) = l.map AV.p
 | [] => rfl
 | x :: l => by simp only [List.map_cons, renL, renA, renL_p g l]
theorem tokLtL_pr (n : Nat) : ∀ l : List PV, tokLtL n (l.map AV.p) = true
 | [] => rfl
 | x :: l => by simp only [List.map_cons, tokLtL, tokLt, tokLtL_pr n l, Bool.and_self]
theorem apairT (x : Ex) (r q : List Va) (hl : r.length + q.length ≤ 4398046511104) (s : List (List Va) × Int) (mid : St) :
 ACalls Tryd.prog 22 [.p (.sl 3 (enV r)), .p (.sl 3 (enV q)), .mp 0 8 0 0, .mp 1 1 0 0, .mp 2 1 0 0] (jS2 x s mid) fun u s' => u = .tup [] ∧ s' = jS2 x (filStep x s (r ++ q)) mid := by
 have h := ACalls.at (apair x r q hl s) [0, 1, 2, mid.length + 3] (jS2 x s mid) (by simp) rfl (fun t u ht => ?_) (by simp [tokLtL, tokLt, pSt]) (fun u s' h => ?_)
 ·have hargs : renL (fun t => [0, 1, 2, mid.length + 3].getD t 0) [.p (.sl 3 (enV r)), .p (.sl 3 (enV q)), .mp 0 8 0 0, .mp 1 1 0 0, .mp 2 1 0 0] = [.p (.sl 3 (enV r)), .p (.sl 3 (enV q)), .mp 0 8 0 0, .mp 1 1 0 0, .mp 2 1 0 0] := by simp [renL, renA]
  rw [hargs] at h
  refine h.mono ?_
  rintro _ _ ⟨_, _, ⟨rfl, rfl⟩, rfl, rfl⟩
  refine ⟨rfl, ?_⟩
  simp [setsS, pSt, jS2, renOb, renL, renA, intV, renL_p]
 ·rcases t with _ | _ | _ | _ | t
  ·simp at ht; subst ht
   exact ⟨_, rfl, by simp [tokOb, tokLtL_pr], by simp [jS2, St.at, renOb, renL_p]⟩
  ·simp at ht; subst ht
   exact ⟨_, rfl, by simp [tokOb, tokLtL, tokLt, intV], by simp [jS2, St.at, renOb, renL, renA, intV]⟩
  ·simp at ht; subst ht
   exact ⟨_, rfl, by simp [tokOb, tokLtL, tokLt, pSt], by simp [jS2, St.at, renOb, renL, renA]⟩
  ·simp at ht; subst ht
   exact ⟨_, rfl, by simp [tokOb], by simp [jS2, St.at, renOb]⟩
  ·simp at ht
 ·obtain ⟨rfl, rfl⟩ := h
  refine ⟨rfl, fun t ob ht ha => ?_⟩
  rcases t with _ | _ | _ | _ | t
  ·simp [pSt, St.at] at ha; subst ha; simp [tokOb, tokLtL_pr]
  ·simp [pSt, St.at] at ha; subst ha; simp [tokOb, tokLtL, tokLt, intV]
  ·simp [pSt, St.at] at ha; subst ha; simp [tokOb, tokLtL, tokLt, pSt]
  ·simp [pSt, St.at] at ha; subst ha; simp [tokOb]
  ·simp [pSt] at ht; omega
end Go.Proofs.YtpcblbbddccgpaaDoor
namespace Go.Proofs.YtpcblbbddccgpaaDoor
open Go.RowKit
def restS (a b : List (List Va)) (on : Ex) (x : List Va) : List (List Va) := match idxS a b on with
 | none => b
 | some (c, d) => b.filter fun y => decide (keyS d y = keyS c x)
def joinF (a b : List (List Va)) (on : Ex) : List (List Va) × Int := a.foldl (fun s x => (restS a b on x).foldl (fun s y => filStep on s (x ++ y)) s) ([], 0)
def joinS (a b : List (List Va)) (on : Ex) : List (List Va) × Int := ansS (joinF a b on).2 (joinF a b on).1
theorem goodS_row (w : Int) (c : Nat) : ∀ (rows : List (List Va)) (k k' : Int), goodS w c rows k = (true, k') → ∀ r ∈ rows, c < r.length ∧ okV (r.getD c va0) = true ∧ (w < 0 ∨ (r.length : Int) = w)
 | [], k, k', h, r, hr => by simp at hr
 | q :: rows, k, k', h, r, hr => by
   simp only [goodS] at h
   split at h
   ·rename_i hg
    rcases List.mem_cons.1 hr with rfl | hr
    ·simp only [rowG, Bool.and_eq_true, Bool.or_eq_true, decide_eq_true_eq] at hg
     exact ⟨hg.1.1.1, hg.1.2, hg.1.1.2⟩
    ·exact goodS_row w c rows _ k' h r hr
   ·simp at h
theorem idxS_row {a b : List (List Va)} {on : Ex} {c d : Nat} (h : idxS a b on = some (c, d)) : ∀ x ∈ a, c < x.length := by
 have key : ∀ x0 y0, idxP a b x0 y0 = some (c, d) → ∀ x ∈ a, c < x.length := fun x0 y0 h x hx => by
  simp only [idxP] at h
  split at h
  ·split at h
   ·rename_i hg
    simp only [Option.some.injEq, Prod.mk.injEq] at h
    obtain ⟨rfl, _⟩ := h
    generalize hgg : goodS _ _ a 0 = g at hg
    obtain ⟨ga, gk⟩ := g
    obtain ⟨h1, _⟩ := hg
    simp only at h1
    subst h1
    exact (goodS_row _ _ _ _ _ hgg x hx).1
   ·simp at h
  ·simp at h
 obtain ⟨k, vk, vn, vs, tb, nm, s, kids⟩ := on
 rcases kids with _ | ⟨x0, _ | ⟨y0, _ | ⟨z0, kids⟩⟩⟩
 ·simp [idxS] at h
 ·simp [idxS] at h
 ·simp only [idxS] at h
  split at h
  ·split at h
   ·exact key _ _ h
   ·exact key _ _ h
  ·simp at h
 ·simp [idxS] at h
end Go.Proofs.YtpcblbbddccgpaaDoor
