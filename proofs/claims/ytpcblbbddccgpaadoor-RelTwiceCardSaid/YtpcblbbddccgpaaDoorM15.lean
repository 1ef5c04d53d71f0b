/- Rows one behind the other: slices.Concat. A pair of rows is asked. A join's rows, as the program finds them. Joins. A join is the filter of all pairs: the plain law. Rows compared. -/
import Derived.Test.YtpcblbbddccgpaaDoorM12
import Derived.Test.YtpcblbbddccgpaaDoorM14
import Derived.Test.YtpcblbbddccgpaaDoorM11
set_option linter.unusedSimpArgs false
set_option linter.unusedVariables false
set_option linter.defProp false
set_option maxRecDepth 100000
set_option maxHeartbeats 32000000
namespace Go.Proofs.YtpcblbbddccgpaaDoor
open Go.RowKit
def tCc := aa wX <| aa wbu <| aa T3 <| aa T22 T36
theorem catlen (xs : List (List Va)) (i : Nat) (h : i < xs.length) : (xs.take (i + 1)).flatten = (xs.take i).flatten ++ xs[i] := by
 rw [List.take_succ_eq_append_getElem h, List.flatten_append]; simp
theorem cattot (xs : List (List Va)) (i : Nat) : (xs.take i).flatten.length ≤ xs.flatten.length := by
 conv => rhs; rw [← List.take_append_drop i xs, List.flatten_append, List.length_append]
 omega
theorem agrow0 (σ : St) : ACalls Tryd.prog 29 [nilA, intV .i64 ((0 : Nat) : Int)] σ fun r s => s = σ ∧ r = nilA := by
 refine ACalls.pureF (R := fun r => r = nilA) ?_ rfl σ
 refine acalls_of cx_ok dr_ok Tryd.func29 (by kernel_rfl) rfl (nt := 25) (rs := [.tmp 4]) rfl rfl ?_
 have h0 : intV .i64 ((0 : Nat) : Int) = intV .i64 0 := rfl
 simp only [h0]
 have hc := fun (σ : St) tk => bm_cap (C := cx) (σ := σ) (pos := some 10) (tk := tk) ck_36
 simp only [nilA] at hc
 repeat' first | ((with_reducible first | refine cs ?_ ?_ | refine ws ?_ ?_) <;> intro h <;> try simp only [h]) | simp only [↓wBA, tCc, convA, seval, hc, wz0, Int.sub_self]
 all_goals refine ret_is (a := _) ?_ rfl rfl
 all_goals simp only [↓wBA, tCc, convA, seval]
 all_goals simp_all [wS]
theorem agrow (n : Nat) (h0 : 0 < n) (h1 : n ≤ 4398046511104) : ACalls Tryd.prog 29 [nilA, intV .i64 (n : Int)] [] fun r s => r = .own 0 3 [] ∧ s = [some (.right 24 0)] := by
 refine acalls_of cx_ok dr_ok Tryd.func29 (by kernel_rfl) rfl (nt := 25) (rs := [.tmp 4]) rfl rfl ?_
 have hc := fun (σ : St) tk => bm_cap (C := cx) (σ := σ) (pos := some 10) (tk := tk) ck_36
 have hc2 := fun (σ : St) tk => bm_cap (C := cx) (σ := σ) (pos := some 19) (tk := tk) ck_36
 simp only [nilA] at hc hc2
 have d1 : decide ((n : Int) < 0) = false := decide_eq_false (by omega)
 have d2 : decide ((n : Int) > 0) = true := decide_eq_true (by omega)
 have w1 : IntKind.i64.wrap (n : Int) = (n : Int) := wrap_i64 (by omega) (by omega)
 have hz := fun (σ : St) tk => app_zeros (C := cx) (σ := σ) (tk := tk) (k := .i64) ck_36 ck_3 h0 (by omega) (by unfold maxLen; omega)
 have hs := slice_raw (C := cx) (t := 0) (k := n) (kk := .i64) ck_36
 have hsn : sliceA cx 36 (.p (.v (.slice none 0 0))) none (some (.p (.v (.int .i64 0)))) = some (.p (.v (.slice none 0 0))) := by simp only [sliceA, ck_36, elemsA, boundA, intA, nilA]
 simp only [nilA] at hz
 have hb := fun (σ : St) tk x y => bm_appendS (C := cx) (σ := σ) (pos := some 22) (tk := tk) (T := 36) (T' := 3) (x := x) (y := y) rfl (by decide)
 repeat' first | ((with_reducible first | refine cs ?_ ?_ | refine ws ?_ ?_) <;> intro h <;> try simp only [h]) | simp only [↓wBA, tCc, convA, seval, hb, hc, hc2, d1, d2, w1, hz, hs, hsn, wz0, Int.sub_self, Int.sub_zero]
 exact ⟨.inl rfl, _, _, _, rfl, .inl ⟨rfl, rfl⟩, by simp, rfl, rfl⟩
theorem acat (xs : List (List Va)) (hx : xs.length ≤ 1000000) (hl : xs.flatten.length ≤ 4398046511104) (σ : St) : ACalls Tryd.prog 23 [.p (.sl 1 (enVV xs))] σ fun r s => s = σ ∧ r = .p (.sl 3 (enV xs.flatten)) := by
 refine ACalls.pureF (R := fun r => r = .p (.sl 3 (enV xs.flatten))) ?_ rfl σ
 have h0 : ∀ σ, ACalls Tryd.prog 29 [.p (.v (.slice none 0 0)), .p (.v (.int .i64 ((0 : Nat) : Int)))] σ fun r s => s = σ ∧ r = .p (.v (.slice none 0 0)) := agrow0
 have h1 := agrow xs.flatten.length
 simp only [nilA, intV] at h1
 refine acalls_of cx_ok dr_ok Tryd.func23 (by kernel_rfl) rfl (nt := 35) (rs := [.tmp 2]) rfl rfl ?_
 repeat' first | ((with_reducible first | refine cs ?_ ?_ | refine ws ?_ ?_) <;> intro h <;> try simp only [h]) | simp only [↓wBA, tCc, convA, seval, enVV_len]
 refine awp_loopN (xs.length) (fun i => [(3, intV .i64 ((xs.take i).flatten.length : Nat)), (11, intV .i64 (i : Nat)), (5, .any), (12, .any), (13, .any), (14, .any), (15, .any), (16, .any), (17, .any), (18, .any), (19, .any), (20, .any), (21, .any), (22, .any)]) (fun i => []) (fun i => True) ?_ ?_ ?_
 ·trivial
 ·skip
  simp only [wR, Nat.reduceAdd, Nat.reduceLT, reduceIte]
  simp [wW]
 ·intro i hi _
  simp only [wR, Nat.reduceAdd, Nat.reduceLT, reduceIte]
  by_cases hlt : i < xs.length
  ·have hdec := dT (i := i) (n := xs.length) (by omega)
   have hi0 := nnI i
   have hw := wI i (by omega)
   have hg := enVV_get xs i hlt
   have hc := catlen xs i hlt
   have ht := cattot xs (i + 1)
   have hs : (xs.take (i + 1)).flatten.length = (xs.take i).flatten.length + xs[i].length := by rw [hc, List.length_append]
   have hsum : IntKind.i64.wrap (((xs.take i).flatten.length : Int) + (xs[i].length : Int)) = ((xs.take (i + 1)).flatten.length : Int) := by rw [wrap_i64 (by omega) (by omega), hs]; simp
   have hn : decide ((((xs.take (i + 1)).flatten.length : Nat) : Int) < 0) = false := decide_eq_false (by omega)
   repeat' first | ((with_reducible first | refine cs ?_ ?_ | refine ws ?_ ?_) <;> intro h <;> try simp only [h]) | simp only [↓wBA, tCc, convA, seval, enVV_len, enV_len, hdec, hi0, hg, hw, hsum, hn]
   refine ⟨⟨i + 1, by omega, ?_⟩, by show xs.length - (i + 1) < xs.length - i; omega, ?_⟩
   ·trivial
   ·skip
    simp [wW]
  ·have hdec := dF (i := i) (n := xs.length) (by omega)
   have ht : xs.take i = xs := List.take_of_length_le (by omega)
   simp only [ht]
   rcases Nat.eq_zero_or_pos xs.flatten.length with hz | hz
   ·have hfl : xs.flatten = [] := List.eq_nil_of_length_eq_zero hz
    rw [hfl]
    simp only [List.length_nil]
    repeat' first | ((with_reducible first | refine cs ?_ ?_ | refine ws ?_ ?_) <;> intro h <;> try simp only [h]) | simp only [↓wBA, tCc, convA, seval, enVV_len, hdec] | ((with_reducible show ACalls _ _ _ _ _); refine (h0 _).eq ?_)
    refine awp_loopN (xs.length) (fun j => [(6, nilA), (27, intV .i64 (j : Nat)), (8, .any), (28, .any), (29, .any), (30, .any), (31, .any), (32, .any), (33, .any), (34, .any)]) (fun j => []) (fun j => True) ?_ ?_ ?_
    ·trivial
    ·skip
     simp only [wR, Nat.reduceAdd, Nat.reduceLT, reduceIte]
     simp [wW]
    ·intro j hj _
     simp only [wR, Nat.reduceAdd, Nat.reduceLT, reduceIte]
     by_cases hlj : j < xs.length
     ·have hdec := dT (i := j) (n := xs.length) (by omega)
      have hi0 := nnI j
      have hw := wI j (by omega)
      have hg := enVV_get xs j hlj
      have hxe : xs[j] = [] := List.flatten_eq_nil_iff.1 hfl _ (List.getElem_mem hlj)
      rw [hxe] at hg
      simp only [enV, List.map_nil] at hg
      repeat' first | ((with_reducible first | refine cs ?_ ?_ | refine ws ?_ ?_) <;> intro h <;> try simp only [h]) | simp only [↓wBA, tCc, convA, seval, enVV_len, hdec, hi0, hg, hw, appendA, srcA, Nat.zero_mul, Nat.zero_le]
      refine ⟨⟨j + 1, by omega, ?_⟩, by show xs.length - (j + 1) < xs.length - j; omega, ?_⟩
      ·trivial
      ·skip
       simp [wW]
     ·have hdec := dF (i := j) (n := xs.length) (by omega)
      repeat' first | ((with_reducible first | refine cs ?_ ?_ | refine ws ?_ ?_) <;> intro h <;> try simp only [h]) | simp only [↓wBA, tCc, convA, seval, enVV_len, hdec]
      all_goals refine ret_is (a := _) ?_ rfl rfl
      all_goals simp only [↓wBA, tCc, convA, seval]
      all_goals simp_all [wS, enV]
   ·skip
    repeat' first | ((with_reducible first | refine cs ?_ ?_ | refine ws ?_ ?_) <;> intro h <;> try simp only [h]) | simp only [↓wBA, tCc, convA, seval, enVV_len, hdec] | ((with_reducible show ACalls _ _ _ _ _); refine (h1 hz hl).mono ?_; rintro _ _ ⟨rfl,rfl⟩)
    refine awp_loopN (xs.length) (fun j => [(6, .own 0 3 (enV (xs.take j).flatten)), (27, intV .i64 (j : Nat)), (8, .any), (28, .any), (29, .any), (30, .any), (31, .any), (32, .any), (33, .any), (34, .any)]) (fun j => [(0, .right 24 ((xs.take j).flatten.length * 3))]) (fun j => True) ?_ ?_ ?_
    ·trivial
    ·skip
     simp only [wR, Nat.reduceAdd, Nat.reduceLT, reduceIte]
     simp [wW, enV]
    ·intro j hj _
     simp only [wR, Nat.reduceAdd, Nat.reduceLT, reduceIte]
     by_cases hlj : j < xs.length
     ·have hdec := dT (i := j) (n := xs.length) (by omega)
      have hi0 := nnI j
      have hw := wI j (by omega)
      have hg := enVV_get xs j hlj
      have hc := catlen xs j hlj
      have ht := cattot xs (j + 1)
      have hs : (xs.take (j + 1)).flatten.length = (xs.take j).flatten.length + xs[j].length := by rw [hc, List.length_append]
      have l1 := tL (n := ((xs.take j).flatten.length + xs[j].length) * 32) (by omega)
      have l2 := lM (n := (xs.take j).flatten.length + xs[j].length) (by omega)
      repeat' first | ((with_reducible first | refine cs ?_ ?_ | refine ws ?_ ?_) <;> intro h <;> try simp only [h]) | simp only [↓wBA, tCc, convA, seval, enVV_len, enV_len, hdec, hi0, hg, hw, appendA, srcA, l1, l2, List.length_append]
      refine ⟨⟨j + 1, by omega, ?_⟩, by show xs.length - (j + 1) < xs.length - j; omega, ?_⟩
      ·trivial
      ·simp only [hc, enV_app, List.length_append]
       simp [wW, enV]
     ·have hdec := dF (i := j) (n := xs.length) (by omega)
      have ht : xs.take j = xs := List.take_of_length_le (by omega)
      simp only [ht]
      repeat' first | ((with_reducible first | refine cs ?_ ?_ | refine ws ?_ ?_) <;> intro h <;> try simp only [h]) | simp only [↓wBA, tCc, convA, seval, enVV_len, hdec]
      all_goals refine ret_is (a := _) ?_ rfl rfl
      all_goals simp only [↓wBA, tCc, convA, seval]
      all_goals simp_all [wS]
end Go.Proofs.YtpcblbbddccgpaaDoor
namespace Go.Proofs.YtpcblbbddccgpaaDoor
open Go.RowKit
def tPr := aa wX <| aa wbu <| aa T3 <| aa T22 <| aa T27 <| aa T31 <| aa T36 T45
theorem weak_at {fr fr' : List AV} {σ σ' : St} (n : Nat) (h : min σ.length σ'.length = n) (hL : leL σ n σ' fr fr') (hS : leS σ n σ' σ σ') : WeakE fr σ fr' σ' := by
 subst h
 exact .inr ⟨hL, hS⟩
def pSt (x : Ex) (s : List (List Va) × Int) : St := [some (.row 8 [(exC x).map .p]), some (.row 1 [[intV .i64 s.2]]), some (.row 1 [[.nown 3 1 (enVV s.1)]]), some (.nright 36 (s.1.length * 1))]
theorem apair (x : Ex) (r q : List Va) (hl : r.length + q.length ≤ 4398046511104) (s : List (List Va) × Int) :
 ACalls Tryd.prog 22 [.p (.sl 3 (enV r)), .p (.sl 3 (enV q)), .mp 0 8 0 0, .mp 1 1 0 0, .mp 2 1 0 0] (pSt x s) fun u s' => u = .tup [] ∧ s' = pSt x (filStep x s (r ++ q)) := by
 obtain ⟨out, l⟩ := s
 have hH := aholdsV (r ++ q) x
 have hc := acat [r, q] (by simp) (by simp; omega)
 have hfs : filStep x (out, l) (r ++ q) = (if (holdsV (r ++ q) x).1 = true ∧ out.length ≤ 10000 then out ++ [r ++ q] else out, leastI l (holdsV (r ++ q) x).2) := rfl
 have hcat : [r, q].flatten = r ++ q := by simp
 rw [hcat] at hc
 simp only [enVV, List.map_cons, List.map_nil] at hc
 rw [hfs]
 generalize holdsV (r ++ q) x = h at *
 obtain ⟨h1, h2⟩ := h
 simp only at hH ⊢
 obtain ⟨k, vk, vn, vs, tb, nm, sl, kids⟩ := x
 simp only [exA, exC, List.map_cons, List.map_nil] at hH
 refine acalls_of cx_ok dr_ok Tryd.func22 (by kernel_rfl) rfl (nt := 27) (rs := []) rfl rfl ?_
 simp only [pSt, exC, List.map_cons, List.map_nil]
 generalize r ++ q = rq at *
 by_cases ho : out.length ≤ 10000
 ·have hd : decide ((out.length : Int) ≤ 10000) = true := decide_eq_true (by omega)
  have l1 := tL (n := (out.length + 1) * 24) (by omega)
  have l2 := lM (n := out.length + 1) (by omega)
  cases h1
  ·skip
   repeat' first | ((with_reducible first | refine cs ?_ ?_ | refine ws ?_ ?_) <;> intro h <;> try simp only [h]) | simp only [↓wBA, tPr, convA, seval, enVV_len, hd] | ((with_reducible show ACalls _ _ _ _ _); first | (refine ACalls.frzArgs ?_; simp only [frzL, frzA]; refine (hc _).eq ?_) | refine (hH _).eq ?_ | (refine (asee _ _ _ 1 rfl).mono ?_; rintro _ _ ⟨_, ⟨rfl, rfl⟩, rfl⟩; simp only [lsO]))
   refine ⟨.inr rfl, _, _, _, rfl, weak_at 4 ?_ ?_ ?_, ?_, rfl, rfl⟩
   all_goals simp [wW]
  ·have hfs : (if true = true ∧ out.length ≤ 10000 then out ++ [rq] else out) = out ++ [rq] := if_pos ⟨rfl, ho⟩
   rw [hfs]
   repeat' first | ((with_reducible first | refine cs ?_ ?_ | refine ws ?_ ?_) <;> intro h <;> try simp only [h]) | simp only [↓wBA, tPr, convA, seval, enVV_len, hd, l1, l2, appendA, srcA, List.length_append] | ((with_reducible show ACalls _ _ _ _ _); first | (refine ACalls.frzArgs ?_; simp only [frzL, frzA]; refine (hc _).eq ?_) | refine (hH _).eq ?_ | (refine (asee _ _ _ 1 rfl).mono ?_; rintro _ _ ⟨_, ⟨rfl, rfl⟩, rfl⟩; simp only [lsO]))
   refine ⟨.inr rfl, _, _, _, rfl, weak_at 4 ?_ ?_ ?_, ?_, rfl, rfl⟩
   all_goals simp [wW, enVV]
 ·have hd : decide ((out.length : Int) ≤ 10000) = false := decide_eq_false (by omega)
  have hfs : (if h1 = true ∧ out.length ≤ 10000 then out ++ [rq] else out) = out := if_neg fun h => ho h.2
  rw [hfs]
  repeat' first | ((with_reducible first | refine cs ?_ ?_ | refine ws ?_ ?_) <;> intro h <;> try simp only [h]) | simp only [↓wBA, tPr, convA, seval, enVV_len, hd] | ((with_reducible show ACalls _ _ _ _ _); first | (refine ACalls.frzArgs ?_; simp only [frzL, frzA]; refine (hc _).eq ?_) | refine (hH _).eq ?_ | (refine (asee _ _ _ 1 rfl).mono ?_; rintro _ _ ⟨_, ⟨rfl, rfl⟩, rfl⟩; simp only [lsO]))
  all_goals refine ⟨.inr rfl, _, _, _, rfl, weak_at 4 ?_ ?_ ?_, ?_, rfl, rfl⟩
  all_goals simp [wW]
def jS2 (x : Ex) (s : List (List Va) × Int) (mid : St) : St := some (.row 8 [(exC x).map .p]) :: some (.row 1 [[intV .i64 s.2]]) :: some (.row 1 [[.nown (mid.length + 3) 1 (enVV s.1)]]) :: (mid ++ [some (.nright 36 (s.1.length * 1))])
theorem renL_p (g : Nat → Nat) : ∀ l : List PV, renL g (l.map AV.p) = l.map AV.p
 | [] => rfl
 | x :: l => by simp only [List.map_cons, renL, renA, renL_p g l]
theorem tokLtL_pr (n : Nat) : ∀ l : List PV, tokLtL n (l.map AV.p) = true
 | [] => rfl
 | x :: l => by simp only [List.map_cons, tokLtL, tokLt, tokLtL_pr n l, Bool.and_self]
theorem apairT (x : Ex) (r q : List Va) (hl : r.length + q.length ≤ 4398046511104) (s : List (List Va) × Int) (mid : St) :
 ACalls Tryd.prog 22 [.p (.sl 3 (enV r)), .p (.sl 3 (enV q)), .mp 0 8 0 0, .mp 1 1 0 0, .mp 2 1 0 0] (jS2 x s mid) fun u s' => u = .tup [] ∧ s' = jS2 x (filStep x s (r ++ q)) mid := by
 have h := ACalls.at (apair x r q hl s) [0, 1, 2, mid.length + 3] (jS2 x s mid) (by simp) rfl (fun t u ht => ?_) (by simp [tokLtL, tokLt, pSt]) (fun u s' h => ?_)
 ·have hargs : renL (fun t => [0, 1, 2, mid.length + 3].getD t 0) [.p (.sl 3 (enV r)), .p (.sl 3 (enV q)), .mp 0 8 0 0, .mp 1 1 0 0, .mp 2 1 0 0] = [.p (.sl 3 (enV r)), .p (.sl 3 (enV q)), .mp 0 8 0 0, .mp 1 1 0 0, .mp 2 1 0 0] := by simp [renL, renA]
  rw [hargs] at h
  refine h.mono ?_
  rintro _ _ ⟨_, _, ⟨rfl, rfl⟩, rfl, rfl⟩
  refine ⟨rfl, ?_⟩
  simp [setsS, pSt, jS2, renOb, renL, renA, intV, renL_p]
 ·rcases t with _ | _ | _ | _ | t
  ·simp at ht; subst ht
   exact ⟨_, rfl, by simp [tokOb, tokLtL_pr], by simp [jS2, St.at, renOb, renL_p]⟩
  ·simp at ht; subst ht
   exact ⟨_, rfl, by simp [tokOb, tokLtL, tokLt, intV], by simp [jS2, St.at, renOb, renL, renA, intV]⟩
  ·simp at ht; subst ht
   exact ⟨_, rfl, by simp [tokOb, tokLtL, tokLt, pSt], by simp [jS2, St.at, renOb, renL, renA]⟩
  ·simp at ht; subst ht
   exact ⟨_, rfl, by simp [tokOb], by simp [jS2, St.at, renOb]⟩
  ·simp at ht
 ·obtain ⟨rfl, rfl⟩ := h
  refine ⟨rfl, fun t ob ht ha => ?_⟩
  rcases t with _ | _ | _ | _ | t
  ·simp [pSt, St.at] at ha; subst ha; simp [tokOb, tokLtL_pr]
  ·simp [pSt, St.at] at ha; subst ha; simp [tokOb, tokLtL, tokLt, intV]
  ·simp [pSt, St.at] at ha; subst ha; simp [tokOb, tokLtL, tokLt, pSt]
  ·simp [pSt, St.at] at ha; subst ha; simp [tokOb]
  ·simp [pSt] at ht; omega
end Go.Proofs.YtpcblbbddccgpaaDoor
namespace Go.Proofs.YtpcblbbddccgpaaDoor
open Go.RowKit
def restS (a b : List (List Va)) (on : Ex) (x : List Va) : List (List Va) := match idxS a b on with
 | none => b
 | some (c, d) => b.filter fun y => decide (keyS d y = keyS c x)
def joinF (a b : List (List Va)) (on : Ex) : List (List Va) × Int := a.foldl (fun s x => (restS a b on x).foldl (fun s y => filStep on s (x ++ y)) s) ([], 0)
def joinS (a b : List (List Va)) (on : Ex) : List (List Va) × Int := ansS (joinF a b on).2 (joinF a b on).1
theorem goodS_row (w : Int) (c : Nat) : ∀ (rows : List (List Va)) (k k' : Int), goodS w c rows k = (true, k') → ∀ r ∈ rows, c < r.length ∧ okV (r.getD c va0) = true ∧ (w < 0 ∨ (r.length : Int) = w)
 | [], k, k', h, r, hr => by simp at hr
 | q :: rows, k, k', h, r, hr => by
   simp only [goodS] at h
   split at h
   ·rename_i hg
    rcases List.mem_cons.1 hr with rfl | hr
    ·simp only [rowG, Bool.and_eq_true, Bool.or_eq_true, decide_eq_true_eq] at hg
     exact ⟨hg.1.1.1, hg.1.2, hg.1.1.2⟩
    ·exact goodS_row w c rows _ k' h r hr
   ·simp at h
theorem idxS_row {a b : List (List Va)} {on : Ex} {c d : Nat} (h : idxS a b on = some (c, d)) : ∀ x ∈ a, c < x.length := by
 have key : ∀ x0 y0, idxP a b x0 y0 = some (c, d) → ∀ x ∈ a, c < x.length := fun x0 y0 h x hx => by
  simp only [idxP] at h
  split at h
  ·split at h
   ·rename_i hg
    simp only [Option.some.injEq, Prod.mk.injEq] at h
    obtain ⟨rfl, _⟩ := h
    generalize hgg : goodS _ _ a 0 = g at hg
    obtain ⟨ga, gk⟩ := g
    obtain ⟨h1, _⟩ := hg
    simp only at h1
    subst h1
    exact (goodS_row _ _ _ _ _ hgg x hx).1
   ·simp at h
  ·simp at h
 obtain ⟨k, vk, vn, vs, tb, nm, s, kids⟩ := on
 rcases kids with _ | ⟨x0, _ | ⟨y0, _ | ⟨z0, kids⟩⟩⟩
 ·simp [idxS] at h
 ·simp [idxS] at h
 ·simp only [idxS] at h
  split at h
  ·split at h
   ·exact key _ _ h
   ·exact key _ _ h
  ·simp at h
 ·simp [idxS] at h
end Go.Proofs.YtpcblbbddccgpaaDoor
namespace Go.Proofs.YtpcblbbddccgpaaDoor
open Go.RowKit
def tJn := aa wX <| aa wbu <| aa T3 <| aa T4 <| aa T22 <| aa T24 <| aa T27 <| aa T36 <| aa T45 T54
theorem leS_self {σ0 τ : St} {n : Nat} (σ : St) (h : σ.all (okO n) = true) : leS σ0 n τ σ σ := by
 have := leS_take (σ0 := σ0) (τ := τ) (k := n) σ σ.length (by rw [List.take_length]; exact h)
 rwa [List.take_length] at this
theorem jS2_ok (x : Ex) (s : List (List Va) × Int) (mid : St) (h : mid.all (okO (mid.length + 4)) = true) : (jS2 x s mid).all (okO (mid.length + 4)) = true := by
 simp only [jS2, List.all_cons, List.all_append, h, okO, tokLtL, tokLt, intV, tokLtL_pr, List.all_nil, Bool.and_true, Bool.true_and, decide_eq_true_eq]
 omega
theorem jS2_at1 (x : Ex) (s : List (List Va) × Int) (mid : St) : (jS2 x s mid)[1]? = some (some (.row 1 [[.p (.v (.int .i64 s.2))]])) := rfl
theorem jS2_at2 (x : Ex) (s : List (List Va) × Int) (mid : St) : (jS2 x s mid)[2]? = some (some (.row 1 [[.nown (mid.length + 3) 1 (enVV s.1)]])) := rfl
theorem rsG_ok (E n : Nat) : ∀ gs : Gr, (rsG E gs).all (okO n) = true
 | [] => rfl
 | (k, l) :: gs => by simp only [rsG, List.all_cons, okO, rsG_ok E n gs, Bool.and_self]
theorem jS2_last (x : Ex) (mid : St) : (jS2 x ([], 0) mid)[mid.length + 3]? = some (some (.nright 36 0)) := by simp [jS2]
theorem leS_snoc {σ0 τ : St} {n : Nat} (E : Nat) : ∀ m : St, m.all (okO n) = true → leS σ0 n τ m (m ++ [some (.nright E 0)])
 | [], _ => by simp [leS]
 | o :: m, h => by
   simp only [List.all_cons, Bool.and_eq_true] at h
   simp only [List.cons_append, leS]
   refine ⟨?_, leS_snoc E m h.2⟩
   cases o with
   | none => simp [leO]
   | some ob => cases ob with
     | row e ls => exact ⟨rfl, .inl ⟨rfl, h.1⟩⟩
     | right E m => exact ⟨rfl, rfl⟩
     | nright E m => exact ⟨rfl, rfl⟩
     | map es => exact ⟨rfl, h.1⟩
theorem jS2_from {σ0 τ : St} (x : Ex) (mid : St) (h : mid.all (okO (mid.length + 3)) = true) (hl : τ[mid.length + 3]? = some (some (.nright 36 0))) : leS σ0 (mid.length + 3) τ (some (.row 8 [(exC x).map .p]) :: some (.row 1 [[intV .i64 0]]) :: some (.row 1 [[nilA]]) :: mid) (jS2 x ([], 0) mid) := by
 rw [jS2]
 simp only [leS, enVV, List.map_nil, List.length_nil, Nat.zero_mul]
 refine ⟨⟨rfl, .inl ⟨rfl, by simp [tokLtL_pr]⟩⟩, ⟨rfl, .inl ⟨rfl, by simp [tokLtL, tokLt, intV]⟩⟩, ⟨rfl, .inr ⟨⟨?_, rfl, trivial⟩, trivial⟩⟩, leS_snoc _ mid h⟩
 exact .inr (.inr (.inr (.inr (.inl ⟨_, _, _, rfl, rfl, Nat.le_refl _, hl⟩))))
theorem ajoin (a b : List (List Va)) (k vk vn : Int) (vs tb nm : ByteArray) (sl : Int) (kids : List Ex) (ha : a.length ≤ 4398046511104) (hb : b.length ≤ 4398046511104)
 (hab : ∀ x ∈ a, ∀ y ∈ b, x.length + y.length ≤ 4398046511104) (har : ∀ r ∈ a, ∀ v ∈ r, i64R v.2.1) (hbr : ∀ r ∈ b, ∀ v ∈ r, i64R v.2.1) (hks : ∀ y ∈ kids, i64R (exSl y)) (σ : St) :
 ACalls Tryd.prog 13 [.p (.sl 1 (enVV a)), .p (.sl 1 (enVV b)), exA (.mk k vk vn vs tb nm sl kids)] σ fun r s => s = σ ∧ r = .tup [.p (.sl 1 (enVV (joinS a b (.mk k vk vn vs tb nm sl kids)).1)), intV .i64 (joinS a b (.mk k vk vn vs tb nm sl kids)).2] := by
 refine ACalls.pureF (R := fun r => r = .tup [.p (.sl 1 (enVV (joinS a b (.mk k vk vn vs tb nm sl kids)).1)), intV .i64 (joinS a b (.mk k vk vn vs tb nm sl kids)).2]) ?_ rfl σ
 have hI := aindexed a b k vk vn vs tb nm sl kids ha hb hbr hks
 have hP := apairT (.mk k vk vn vs tb nm sl kids)
 unfold joinS joinF
 generalize hstp : filStep (.mk k vk vn vs tb nm sl kids) = stp at *
 generalize hrs : restS a b (.mk k vk vn vs tb nm sl kids) = rest at *
 simp only [jSt, exA, exC, List.map_cons, List.map_nil] at hI
 refine acalls_of cx_ok dr_ok Tryd.func13 (by kernel_rfl) rfl (nt := 68) (rs := [.tmp 6, .tmp 7]) rfl rfl ?_
 simp only [exA, exC, List.map_cons, List.map_nil]
 repeat' first | ((with_reducible first | refine cs ?_ ?_ | refine ws ?_ ?_) <;> intro h <;> try simp only [h]) | simp only [↓wBA, tJn, convA, seval, enVV_len]
 refine hI.mono ?_
 intro r0 s0 hp
 unfold IxPost at hp
 have hF : ∀ (i : Nat) (h : i < a.length), (a.take (i + 1)).foldl (fun s x => (rest x).foldl (fun s y => stp s (x ++ y)) s) ([], 0) = (rest a[i]).foldl (fun s y => stp s (a[i] ++ y)) ((a.take i).foldl (fun s x => (rest x).foldl (fun s y => stp s (x ++ y)) s) ([], 0)) := fun i h => take_step _ _ a i h
 have hA := aanswer
 generalize hfd : (fun (s : List (List Va) × Int) x => (rest x).foldl (fun s y => stp s (x ++ y)) s) = fd at *
 cases hi : idxS a b (.mk k vk vn vs tb nm sl kids) with
 | none =>
   rw [hi] at hp
   obtain ⟨rfl, rfl⟩ := hp
   have hrb : ∀ x, rest x = b := fun x => by rw [← hrs]; unfold restS; rw [hi]
   simp only [hrb] at hF
   simp only [noneA, jSt, exC, List.map_cons, List.map_nil]
   repeat' first | ((with_reducible first | refine cs ?_ ?_ | refine ws ?_ ?_) <;> intro h <;> try simp only [h]) | simp only [↓wBA, tJn, convA, seval, enVV_len, ev_nilmap]
   refine awp_loopT (a.length) (fun i => [(31, intV .i64 (i : Nat)), (15, .any), (17, .any), (19, .any), (32, .any), (33, .any), (34, .any), (35, .any), (36, .any), (37, .any), (38, .any), (39, .any), (40, .any), (41, .any), (42, .any), (43, .any), (44, .any), (45, .any), (46, .any), (47, .any), (48, .any), (49, .any), (50, .any), (51, .any), (52, .any), (53, .any), (54, .any), (55, .any), (56, .any), (57, .any), (58, .any), (59, .any), (60, .any), (61, .any), (62, .any), (63, .any), (64, .any), (65, .any)]) (fun i => jS2 (.mk k vk vn vs tb nm sl kids) ((a.take i).foldl fd ([], 0)) []) ?_ ?_ ?_
   ·intro i; simp [jS2]
   ·skip
    simp only [wR, Nat.reduceAdd, Nat.reduceLT, reduceIte]
    refine weak_at 3 (by simp [jS2]) ?_ ?_
    ·simp [wW]
    ·simp only [List.take_zero, List.foldl_nil]
     exact jS2_from (.mk k vk vn vs tb nm sl kids) [] rfl (jS2_last _ [])
   ·intro i hii
    simp only [wR, Nat.reduceAdd, Nat.reduceLT, reduceIte]
    by_cases hlt : i < a.length
    ·have hdec := dT (i := i) (n := a.length) (by omega)
     have hi0 := nnI i
     have hw := wI i (by omega)
     have hg := enVV_get a i hlt
     have hxa : a[i] ∈ a := List.getElem_mem hlt
     have hst := hF i hlt
     generalize hs : (a.take i).foldl fd ([], 0) = s at *
     generalize hx : a[i] = x at *
     repeat' first | ((with_reducible first | refine cs ?_ ?_ | refine ws ?_ ?_) <;> intro h <;> try simp only [h]) | simp only [↓wBA, tJn, convA, seval, enVV_len, hdec, hi0, hw, hg]
     refine awp_loopT (b.length) (fun j => [(39, intV .i64 (j : Nat)), (17, .any), (40, .any), (41, .any), (42, .any), (43, .any), (44, .any), (45, .any), (46, .any), (47, .any)]) (fun j => jS2 (.mk k vk vn vs tb nm sl kids) ((b.take j).foldl (fun s y => stp s (x ++ y)) s) []) ?_ ?_ ?_
     ·intro j; simp [jS2]
     ·skip
      simp only [wR, Nat.reduceAdd, Nat.reduceLT, reduceIte]
      refine weak_at 4 (by simp [jS2]) ?_ (leS_self _ (jS2_ok _ _ [] rfl))
      simp [wW]
     ·intro j hj
      simp only [wR, Nat.reduceAdd, Nat.reduceLT, reduceIte]
      by_cases hlj : j < b.length
      ·have hdec2 := dT (i := j) (n := b.length) (by omega)
       have hj0 := nnI j
       have hw2 := wI j (by omega)
       have hg2 := enVV_get b j hlj
       have hyb : b[j] ∈ b := List.getElem_mem hlj
       have hst2 := take_step (fun s y => stp s (x ++ y)) s b j hlj
       have hP' := hP x b[j] (hab x hxa _ hyb)
       repeat' first | ((with_reducible first | refine cs ?_ ?_ | refine ws ?_ ?_) <;> intro h <;> try simp only [h]) | simp only [↓wBA, tJn, convA, seval, enVV_len, hdec2, hj0, hw2, hg2] | ((with_reducible show ACalls _ _ _ _ _); refine (hP' _ _).mono ?_; rintro _ _ ⟨rfl,rfl⟩)
       refine ⟨⟨j + 1, by omega⟩, by show b.length - (j + 1) < b.length - j; omega, ?_⟩
       simp only [hst2]
       refine weak_at 4 (by simp [jS2]) ?_ (leS_self _ (jS2_ok _ _ [] rfl))
       simp [wW]
      ·have hdec2 := dF (i := j) (n := b.length) (by omega)
       have htk : b.take j = b := List.take_of_length_le (by omega)
       simp only [htk]
       rw [← hst]
       repeat' first | ((with_reducible first | refine cs ?_ ?_ | refine ws ?_ ?_) <;> intro h <;> try simp only [h]) | simp only [↓wBA, tJn, convA, seval, enVV_len, hdec2, hw]
       refine ⟨⟨i + 1, by omega⟩, by show a.length - (i + 1) < a.length - i; omega, ?_⟩
       refine weak_at 4 (by simp [jS2]) ?_ (leS_self _ (jS2_ok _ _ [] rfl))
       simp [wW]
    ·have hdec := dF (i := i) (n := a.length) (by omega)
     have htk : a.take i = a := List.take_of_length_le (by omega)
     simp only [htk]
     have hA' := hA (a.foldl fd ([], 0)).2 (a.foldl fd ([], 0)).1
     repeat' first | ((with_reducible first | refine cs ?_ ?_ | refine ws ?_ ?_) <;> intro h <;> try simp only [h]) | simp only [↓wBA, tJn, convA, seval, enVV_len, hdec, jS2_at1, jS2_at2] | ((with_reducible show ACalls _ _ _ _ _); refine ACalls.frzArgs ?_; simp only [frzL, frzA]; refine (hA' _).eq ?_)
     all_goals refine ret_is (a := _) ?_ rfl rfl
     all_goals simp only [↓wBA, tJn, convA, seval]
     all_goals simp_all [wS]
 | some cd =>
   obtain ⟨c, d⟩ := cd
   rw [hi] at hp
   obtain ⟨rfl, rfl⟩ := hp
   have hrow := idxS_row hi
   have hrb : ∀ x, rest x = contG (keyS c x) (allG (keyS d) b) := fun x => by rw [← hrs]; unfold restS; rw [hi]; exact (contG_all _ _ _).symm
   have hsub : ∀ x y, y ∈ rest x → y ∈ b := fun x y hy => by
    rw [hrb, contG_all] at hy
    exact (List.mem_filter.1 hy).1
   have hlb : ∀ x, (rest x).length ≤ b.length := fun x => by rw [hrb, contG_all]; exact List.length_filter_le _ _
   simp only [hrb] at hF
   generalize allG (keyS d) b = gs at *
   have hmk : ∀ n, 8 + 2 * gs.length ≤ n → (none :: none :: none :: none :: some (.map (esG 8 gs)) :: rsG 36 gs : St).all (okO n) = true := fun n hn => by
    simp only [List.all_cons, okO, esG_tok gs 8 n (by omega), rsG_ok, Bool.and_self]
   have hml : (none :: none :: none :: none :: some (.map (esG 8 gs)) :: rsG 36 gs : St).length = 2 * gs.length + 5 := by simp [rsG_len]
   simp only [jSt, exC, List.map_cons, List.map_nil, List.cons_append, List.nil_append]
   have hat7 : ∀ s, (jS2 (.mk k vk vn vs tb nm sl kids) s (none :: none :: none :: none :: some (.map (esG 8 gs)) :: rsG 36 gs))[7]? = some (some (.map (esG 8 gs))) := fun s => rfl
   have hfrom := @jS2_from
   generalize hmid : (none :: none :: none :: none :: some (.map (esG 8 gs)) :: rsG 36 gs : St) = mid at *
   have hself : ∀ (σ0 τ : St) s n, n = mid.length + 4 → leS σ0 n τ (jS2 (.mk k vk vn vs tb nm sl kids) s mid) (jS2 (.mk k vk vn vs tb nm sl kids) s mid) := fun σ0 τ s n hn => by
    subst hn
    exact leS_self _ (jS2_ok _ _ mid (hmk _ (by omega)))
   repeat' first | ((with_reducible first | refine cs ?_ ?_ | refine ws ?_ ?_) <;> intro h <;> try simp only [h]) | simp only [↓wBA, tJn, convA, seval, enVV_len, ev_nilmap]
   refine awp_loopT (a.length) (fun i => [(31, intV .i64 (i : Nat)), (15, .any), (17, .any), (19, .any), (32, .any), (33, .any), (34, .any), (35, .any), (36, .any), (37, .any), (38, .any), (39, .any), (40, .any), (41, .any), (42, .any), (43, .any), (44, .any), (45, .any), (46, .any), (47, .any), (48, .any), (49, .any), (50, .any), (51, .any), (52, .any), (53, .any), (54, .any), (55, .any), (56, .any), (57, .any), (58, .any), (59, .any), (60, .any), (61, .any), (62, .any), (63, .any), (64, .any), (65, .any)]) (fun i => jS2 (.mk k vk vn vs tb nm sl kids) ((a.take i).foldl fd ([], 0)) mid) ?_ ?_ ?_
   ·intro i; simp [jS2]
   ·skip
    simp only [wR, Nat.reduceAdd, Nat.reduceLT, reduceIte]
    refine weak_at (mid.length + 3) (by simp [jS2]) ?_ ?_
    ·simp [wW]
     omega
    ·simp only [List.take_zero, List.foldl_nil]
     exact jS2_from (.mk k vk vn vs tb nm sl kids) mid (hmk _ (by omega)) (jS2_last _ mid)
   ·intro i hii
    simp only [wR, Nat.reduceAdd, Nat.reduceLT, reduceIte]
    by_cases hlt : i < a.length
    ·have hdec := dT (i := i) (n := a.length) (by omega)
     have hi0 := nnI i
     have hc0 := nnI c
     have hw := wI i (by omega)
     have hg := enVV_get a i hlt
     have hxa : a[i] ∈ a := List.getElem_mem hlt
     have hst := hF i hlt
     have hrc := hrow a[i] hxa
     have hrv := har a[i] hxa
     have hsb := hsub a[i]
     have hlbx := hlb a[i]
     have hrbx := hrb a[i]
     have habx := hab a[i] hxa
     generalize hs : (a.take i).foldl fd ([], 0) = s at *
     generalize hx : a[i] = x at *
     have hrg : (enV x)[c]? = some (vaC (x.getD c va0)) := by rw [enV_get x c hrc]; simp [List.getD, hrc]
     have hvm : x.getD c va0 ∈ x := by simp [List.getD, hrc]
     have hkey := akey (x.getD c va0) (hrv _ hvm)
     have hks' : keyS c x = showV (x.getD c va0) := rfl
     rw [hks'] at hst hrbx
     generalize x.getD c va0 = v at *
     obtain ⟨v1, v2, v3⟩ := v
     simp only [vaA, vaC, List.map_cons, List.map_nil] at hkey hrg
     generalize showV (v1, v2, v3) = kk at *
     have hlk := lookG kk gs 8
     cases hf : findG kk gs with
     | none =>
       rw [hf] at hlk
       simp only [nilA] at hlk
       have hcn : contG kk gs = [] := by unfold contG; rw [hf]
       rw [hcn, List.foldl_nil] at hst
       repeat' first | ((with_reducible first | refine cs ?_ ?_ | refine ws ?_ ?_) <;> intro h <;> try simp only [h]) | simp only [↓wBA, tJn, convA, seval, enVV_len, hdec, hi0, hc0, hw, hg, hrg, hat7, hlk] | ((with_reducible show ACalls _ _ _ _ _); refine (hkey _).eq ?_)
       refine awp_loopT (0) (fun j => [(56, intV .i64 (j : Nat)), (19, .any), (57, .any), (58, .any), (59, .any), (60, .any), (61, .any), (62, .any), (63, .any), (64, .any)]) (fun j => jS2 (.mk k vk vn vs tb nm sl kids) s mid) ?_ ?_ ?_
       ·intro j; simp [jS2]
       ·skip
        simp only [wR, Nat.reduceAdd, Nat.reduceLT, reduceIte]
        refine weak_at (mid.length + 4) (by simp [jS2]) ?_ (hself _ _ _ _ rfl)
        simp [wW]
        try omega
       ·intro j hj
        simp only [wR, Nat.reduceAdd, Nat.reduceLT, reduceIte]
        obtain rfl : j = 0 := by omega
        have hdec2 : decide (((0 : Nat) : Int) < (0 : Int)) = false := by decide
        repeat' first | ((with_reducible first | refine cs ?_ ?_ | refine ws ?_ ?_) <;> intro h <;> try simp only [h]) | simp only [↓wBA, tJn, convA, seval, enVV_len, hdec2, hw]
        refine ⟨⟨i + 1, by omega⟩, by show a.length - (i + 1) < a.length - i; omega, ?_⟩
        simp only [hst]
        refine weak_at (mid.length + 4) (by simp [jS2]) ?_ (hself _ _ _ _ rfl)
        simp [wW]
        try omega
     | some y =>
       obtain ⟨j0, l⟩ := y
       rw [hf] at hlk
       simp only at hlk
       have hcn : contG kk gs = l := by unfold contG; rw [hf]
       rw [hcn] at hst hrbx
       rw [hrbx] at hsb hlbx
       have hjl := (findG_mem kk gs j0 l hf).1
       have htok : 2 * j0 + 1 + 8 < mid.length + 4 := by omega
       repeat' first | ((with_reducible first | refine cs ?_ ?_ | refine ws ?_ ?_) <;> intro h <;> try simp only [h]) | simp only [↓wBA, tJn, convA, seval, enVV_len, hdec, hi0, hc0, hw, hg, hrg, hat7, hlk] | ((with_reducible show ACalls _ _ _ _ _); refine (hkey _).eq ?_)
       refine awp_loopT (l.length) (fun j => [(56, intV .i64 (j : Nat)), (19, .any), (57, .any), (58, .any), (59, .any), (60, .any), (61, .any), (62, .any), (63, .any), (64, .any)]) (fun j => jS2 (.mk k vk vn vs tb nm sl kids) ((l.take j).foldl (fun s y => stp s (x ++ y)) s) mid) ?_ ?_ ?_
       ·intro j; simp [jS2]
       ·skip
        simp only [wR, Nat.reduceAdd, Nat.reduceLT, reduceIte]
        refine weak_at (mid.length + 4) (by simp [jS2]) ?_ (hself _ _ _ _ rfl)
        simp [wW]
        try omega
       ·intro j hj
        simp only [wR, Nat.reduceAdd, Nat.reduceLT, reduceIte]
        by_cases hlj : j < l.length
        ·have hdec2 := dT (i := j) (n := l.length) (by omega)
         have hj0 := nnI j
         have hw2 := wI j (by omega)
         have hg2 := enVV_get l j hlj
         have hyb : l[j] ∈ l := List.getElem_mem hlj
         have hst2 := take_step (fun s y => stp s (x ++ y)) s l j hlj
         have hP' := hP x l[j] (habx _ (hsb _ hyb))
         repeat' first | ((with_reducible first | refine cs ?_ ?_ | refine ws ?_ ?_) <;> intro h <;> try simp only [h]) | simp only [↓wBA, tJn, convA, seval, enVV_len, hdec2, hj0, hw2, hg2] | ((with_reducible show ACalls _ _ _ _ _); refine (hP' _ _).mono ?_; rintro _ _ ⟨rfl,rfl⟩)
         refine ⟨⟨j + 1, by omega⟩, by show l.length - (j + 1) < l.length - j; omega, ?_⟩
         simp only [hst2]
         refine weak_at (mid.length + 4) (by simp [jS2]) ?_ (hself _ _ _ _ rfl)
         simp [wW]
         try omega
        ·have hdec2 := dF (i := j) (n := l.length) (by omega)
         have htk : l.take j = l := List.take_of_length_le (by omega)
         simp only [htk]
         rw [← hst]
         repeat' first | ((with_reducible first | refine cs ?_ ?_ | refine ws ?_ ?_) <;> intro h <;> try simp only [h]) | simp only [↓wBA, tJn, convA, seval, enVV_len, hdec2, hw]
         refine ⟨⟨i + 1, by omega⟩, by show a.length - (i + 1) < a.length - i; omega, ?_⟩
         refine weak_at (mid.length + 4) (by simp [jS2]) ?_ (hself _ _ _ _ rfl)
         simp [wW]
         try omega
    ·have hdec := dF (i := i) (n := a.length) (by omega)
     have htk : a.take i = a := List.take_of_length_le (by omega)
     simp only [htk]
     have hA' := hA (a.foldl fd ([], 0)).2 (a.foldl fd ([], 0)).1
     repeat' first | ((with_reducible first | refine cs ?_ ?_ | refine ws ?_ ?_) <;> intro h <;> try simp only [h]) | simp only [↓wBA, tJn, convA, seval, enVV_len, hdec, jS2_at1, jS2_at2] | ((with_reducible show ACalls _ _ _ _ _); refine ACalls.frzArgs ?_; simp only [frzL, frzA]; refine (hA' _).eq ?_)
     all_goals refine ret_is (a := _) ?_ rfl rfl
     all_goals simp only [↓wBA, tJn, convA, seval]
     all_goals simp_all [wS]
end Go.Proofs.YtpcblbbddccgpaaDoor
namespace Go.Proofs.YtpcblbbddccgpaaDoor
open Go.RowKit
def pairsS (a b : List (List Va)) : List (List Va) := a.flatMap fun x => b.map fun y => x ++ y
theorem cmpI_zero {a b : Int} (h : cmpI a b = 0) : a = b := by
 unfold cmpI at h
 split at h
 ·simp at h
 ·split at h
  ·simp at h
  ·omega
theorem cmpS_zero {a b : ByteArray} (h : cmpS a b = 0) : a = b := by
 unfold cmpS at h
 split at h
 ·simp at h
 ·split at h
  ·rename_i hh; exact (Lib.bytes_beq_iff a b).1 hh
  ·simp at h
theorem cmpV_zero {a b : Va} (h : cmpV a b = 0) : a = b := by
 unfold cmpV at h
 split at h
 ·rename_i h1; exact (h1 h).elim
 ·split at h
  ·rename_i h1; exact (h1 h).elim
  ·rename_i h1 h2
   obtain ⟨a1, a2, a3⟩ := a
   obtain ⟨b1, b2, b3⟩ := b
   simp only [ne_eq, Decidable.not_not] at h1 h2
   have e1 := cmpI_zero h1
   have e2 := cmpI_zero h2
   have e3 := cmpS_zero h
   simp only at e1 e2 e3
   subst e1 e2 e3
   rfl
theorem okV_kind {v : Va} (h : okV v = true) : 0 ≤ v.1 := by
 unfold okV at h
 split at h
 ·omega
 ·split at h
  ·omega
  ·split at h
   ·omega
   ·simp only [Bool.and_eq_true, beq_iff_eq] at h
    have := h.1.1
    omega
theorem goodS_kind (w : Int) (c : Nat) : ∀ (rows : List (List Va)) (k k' : Int), 0 ≤ k → goodS w c rows k = (true, k') → 0 ≤ k' ∧ (k ≠ 0 → k' = k) ∧ ∀ r ∈ rows, (r.getD c va0).1 = 0 ∨ (r.getD c va0).1 = k'
 | [], k, k', hk, h => by
   simp only [goodS, Prod.mk.injEq, true_and] at h
   subst h
   exact ⟨hk, fun _ => rfl, by simp⟩
 | q :: rows, k, k', hk, h => by
   simp only [goodS] at h
   split at h
   ·rename_i hg
    simp only [rowG, Bool.and_eq_true, Bool.or_eq_true, decide_eq_true_eq] at hg
    have h0 := okV_kind hg.1.2
    have hkd : kdS c k q = k ∨ (k = 0 ∧ kdS c k q = (q.getD c va0).1) := by
     unfold kdS
     rcases hg.2 with (h1 | h1) | h1
     ·rw [if_neg (by omega)]; exact .inl rfl
     ·by_cases h2 : (q.getD c va0).1 > k
      ·rw [if_pos h2]; exact .inr ⟨h1, rfl⟩
      ·rw [if_neg h2]; exact .inl rfl
     ·rw [if_neg (by omega)]; exact .inl rfl
    have hkn : 0 ≤ kdS c k q := by rcases hkd with h1 | h1 <;> omega
    obtain ⟨i1, i2, i3⟩ := goodS_kind w c rows _ k' hkn h
    refine ⟨i1, fun hk0 => ?_, fun r hr => ?_⟩
    ·rcases hkd with h1 | h1
     ·rw [i2 (by omega), h1]
     ·omega
    ·rcases List.mem_cons.1 hr with rfl | hr
     ·by_cases hz : (r.getD c va0).1 = 0
      ·exact .inl hz
      ·right
       have : kdS c k r = (r.getD c va0).1 := by
        rcases hkd with h1 | h1
        ·rcases hg.2 with (h2 | h2) | h2
         ·omega
         ·unfold kdS at h1 ⊢
          split
          ·rfl
          ·rename_i h3; omega
         ·omega
        ·exact h1.2
       rw [i2 (by omega), this]
     ·exact i3 r hr
   ·simp at h
theorem find_slot (row : List Va) (vk vn : Int) (vs tb nm : ByteArray) (s : Nat) (e : Int) (hs : s < row.length) (ho : okV (row.getD s va0) = true) : findV row (.mk 24 vk vn vs tb nm (s : Int) []) e = (row.getD s va0, e) := by
 have hk : kidsV 24 = 0 := by decide
 simp only [findV, hk, ne_eq, not_true, if_false]
 unfold leafV
 rw [if_neg (by omega), if_neg (by omega), if_pos ⟨rfl, by omega, by omega, by simpa using ho⟩]
 simp
theorem holds_eq {row : List Va} {x y : Ex} {vk vn : Int} {vs tb nm : ByteArray} {s : Int} {v u : Va} (hx : findV row x 0 = (v, 0)) (hy : findV row y 0 = (u, 0)) (hk : v.1 = 0 ∨ u.1 = 0 ∨ v.1 = u.1) (hne : v ≠ u) : holdsV row (.mk 10 vk vn vs tb nm s [x, y]) = (false, 0) := by
 have hf : findV row (.mk 10 vk vn vs tb nm s [x, y]) 0 = twoV 10 v u 0 := by
  have hk : kidsV 10 = 2 := by decide
  simp only [findV, hk, ne_eq, not_true, if_false, hx, hy]
  rw [if_neg (by omega)]
 have ht : twoV 10 v u 0 = (va0, 0) ∨ twoV 10 v u 0 = (trV false, 0) := by
  unfold twoV
  rw [if_neg (by omega), if_neg (by omega)]
  by_cases h0 : v.1 = 0 ∨ u.1 = 0
  ·rw [if_pos h0]; exact .inl rfl
  ·rw [if_neg h0, if_neg (by omega)]
   right
   have : relV 10 (cmpV v u) = false := by
    simp only [relV, if_true]
    exact decide_eq_false fun h => hne (cmpV_zero h)
   rw [this]
 unfold holdsV evalV
 rw [hf]
 rcases ht with h | h <;> rw [h] <;> rfl
theorem getD_app_l {x y : List Va} {c : Nat} (h : c < x.length) : (x ++ y).getD c va0 = x.getD c va0 := by
 simp [List.getD, List.getElem?_append_left h]
theorem getD_app_r {x y : List Va} {d : Nat} : (x ++ y).getD (x.length + d) va0 = y.getD d va0 := by
 simp only [List.getD]
 rw [List.getElem?_append_right (by omega), show x.length + d - x.length = d by omega]
def kidsOk : Ex → Prop | .mk _ _ _ _ _ _ _ kids => ∀ y ∈ kids, (exKs y).length ≤ 140737488351232
theorem wrap_le {m n : Nat} (hm : m ≤ 140737488351232) (hn : n ≤ 140737488351232) (h : IntKind.i64.wrap ((m : Int) + (n : Int)) ≤ 0) : m = 0 ∧ n = 0 := by
 rw [wrap_i64 (by omega) (by omega)] at h
 omega
theorem idxP_miss {a b : List (List Va)} {x0 y0 : Ex} {c d : Nat} (hi : idxP a b x0 y0 = some (c, d)) (hx : (exKs x0).length ≤ 140737488351232) (hy : (exKs y0).length ≤ 140737488351232) {x y : List Va} (hxa : x ∈ a) (hyb : y ∈ b) :
 findV (x ++ y) x0 0 = (x.getD c va0, 0) ∧ findV (x ++ y) y0 0 = (y.getD d va0, 0) ∧ ((x.getD c va0).1 = 0 ∨ (y.getD d va0).1 = 0 ∨ (x.getD c va0).1 = (y.getD d va0).1) := by
 simp only [idxP] at hi
 split at hi
 ·rename_i hS
  split at hi
  ·rename_i hg
   obtain ⟨q1, q2, q3, q4, q5, q6⟩ := slots_iff.1 hS
   simp only [Option.some.injEq, Prod.mk.injEq] at hi
   obtain ⟨rfl, rfl⟩ := hi
   generalize hw : (a.headD []).length = w at *
   obtain ⟨g1, g2⟩ := hg
   generalize hgg : goodS (w : Int) (exSl x0).toNat a 0 = g at *
   obtain ⟨ga, gk⟩ := g
   simp only at g1 g2
   subst g1
   generalize hhh : goodS (-1) (exSl y0 - w).toNat b gk = h at *
   obtain ⟨ha, hk⟩ := h
   simp only at g2
   subst g2
   obtain ⟨k1, k2, k3⟩ := goodS_kind _ _ _ _ _ (Int.le_refl 0) hgg
   obtain ⟨l1, l2, l3⟩ := goodS_kind _ _ _ _ _ k1 hhh
   obtain ⟨m1, m2, m3⟩ := goodS_row _ _ _ _ _ hgg x hxa
   obtain ⟨n1, n2, n3⟩ := goodS_row _ _ _ _ _ hhh y hyb
   have hxl : x.length = w := by omega
   obtain ⟨hz1, hz2⟩ := wrap_le hx hy q3
   obtain ⟨kx, vk0, vn0, vs0, tb0, nm0, s0, ks0⟩ := x0
   obtain ⟨ky, vk1, vn1, vs1, tb1, nm1, s1, ks1⟩ := y0
   simp only [exKd, exKs, exSl] at *
   have e0 := List.eq_nil_of_length_eq_zero hz1
   have e1 := List.eq_nil_of_length_eq_zero hz2
   subst e0 e1 q1 q2
   obtain ⟨c, rfl⟩ : ∃ c : Nat, s0 = (c : Int) := ⟨s0.toNat, by omega⟩
   obtain ⟨d, rfl⟩ : ∃ d : Nat, s1 = ((x.length + d : Nat) : Int) := ⟨(s1 - w).toNat, by omega⟩
   have hd : (((x.length + d : Nat) : Int) - (w : Int)).toNat = d := by omega
   rw [hd]
   rw [hd] at n1 n2 l3
   simp only [Int.toNat_natCast] at k3 m1 m2 ⊢
   refine ⟨?_, ?_, ?_⟩
   ·rw [find_slot _ _ _ _ _ _ c 0 (by simp; omega) (by rw [getD_app_l m1]; exact m2), getD_app_l m1]
   ·rw [find_slot _ _ _ _ _ _ (x.length + d) 0 (by simp; omega) (by rw [getD_app_r]; exact n2), getD_app_r]
   ·have h1 := k3 x hxa
    have h2 := l3 y hyb
    rcases h1 with h1 | h1
    ·exact .inl h1
    ·rcases h2 with h2 | h2
     ·exact .inr (.inl h2)
     ·by_cases hz : gk = 0
      ·left; omega
      ·have := l2 hz
       right; right; omega
  ·simp at hi
 ·simp at hi
theorem idx_miss {a b : List (List Va)} {on : Ex} {c d : Nat} (hi : idxS a b on = some (c, d)) (hk : kidsOk on) {x y : List Va} (hxa : x ∈ a) (hyb : y ∈ b) (hne : keyS c x ≠ keyS d y) : holdsV (x ++ y) on = (false, 0) := by
 obtain ⟨k, vk, vn, vs, tb, nm, s, kids⟩ := on
 rcases kids with _ | ⟨x0, _ | ⟨y0, _ | ⟨z0, kids⟩⟩⟩
 ·simp [idxS] at hi
 ·simp [idxS] at hi
 ·simp only [idxS] at hi
  split at hi
  ·rename_i hc
   obtain ⟨rfl, _, _⟩ := hc
   have hv : x.getD c va0 ≠ y.getD d va0 := fun e => hne (by unfold keyS; rw [e])
   have h0 := hk x0 (by simp)
   have h1 := hk y0 (by simp)
   split at hi
   ·obtain ⟨f1, f2, f3⟩ := idxP_miss hi h1 h0 hxa hyb
    exact holds_eq f2 f1 (f3.elim (fun h => .inr (.inl h)) fun h => h.elim (fun h => .inl h) fun h => .inr (.inr h.symm)) fun e => hv e.symm
   ·obtain ⟨f1, f2, f3⟩ := idxP_miss hi h0 h1 hxa hyb
    exact holds_eq f1 f2 f3 hv
  ·simp at hi
 ·simp [idxS] at hi
theorem fold_flat {α β γ : Type} (f : γ → β → γ) (g : α → List β) : ∀ (l : List α) (s : γ), (l.flatMap g).foldl f s = l.foldl (fun s x => (g x).foldl f s) s
 | [], s => rfl
 | x :: l, s => by simp only [List.flatMap_cons, List.foldl_append, List.foldl_cons, fold_flat f g l]
theorem fold_skip {α γ : Type} (f : γ → α → γ) (p : α → Bool) : ∀ (l : List α) (s : γ), (∀ x ∈ l, p x = false → ∀ s, f s x = s) → (l.filter p).foldl f s = l.foldl f s
 | [], s, h => rfl
 | x :: l, s, h => by
   rw [List.filter_cons]
   have hl : ∀ y ∈ l, p y = false → ∀ s, f s y = s := fun y hy => h y (by simp [hy])
   cases hp : p x with
   | true => simp only [if_true, List.foldl_cons, fold_skip f p l _ hl]
   | false => simp only [Bool.false_eq_true, if_false, List.foldl_cons, h x (by simp) hp, fold_skip f p l _ hl]
theorem fold_mem {α γ : Type} {f g : γ → α → γ} : ∀ (l : List α) (s : γ), (∀ x ∈ l, ∀ s, f s x = g s x) → l.foldl f s = l.foldl g s
 | [], s, h => rfl
 | x :: l, s, h => by rw [List.foldl_cons, List.foldl_cons, h x (by simp), fold_mem l _ fun y hy => h y (by simp [hy])]
theorem join_eq (a b : List (List Va)) (on : Ex) (hk : kidsOk on) : joinS a b on = filS (pairsS a b) on := by
 unfold joinS filS
 have : (pairsS a b).foldl (filStep on) ([], 0) = joinF a b on := by
  unfold pairsS joinF
  rw [fold_flat]
  refine (fold_mem a _ fun x hx s => ?_).symm
  unfold restS
  cases hi : idxS a b on with
  | none => simp only [List.foldl_map]
  | some cd =>
    obtain ⟨c, d⟩ := cd
    simp only [List.foldl_map]
    refine fold_skip (fun s y => filStep on s (x ++ y)) (fun y => decide (keyS d y = keyS c x)) b s fun y hy hp s => ?_
    have hne : keyS c x ≠ keyS d y := fun e => by simp [e] at hp
    simp only [filStep, idx_miss hi hk hx hy hne, Bool.false_eq_true, false_and, if_false, leastI, ne_eq, not_true]
 rw [this]
end Go.Proofs.YtpcblbbddccgpaaDoor
namespace Go.Proofs.YtpcblbbddccgpaaDoor
open Go.RowKit
def pl21_6Sa : Plan := (.det 0 (.det 1 (.det 2 (.det 3 (.det 4 (.det 5 (.det 6 (.det 7 (.det 8 .done)))))))))
def pl9_6Sa : Plan := (.det 0 (.det 1 (.det 2 (.det 3 (.det 4 (.det 5 (.det 6 (.det 7 (.fin 8 (.det 9 .done))))))))))
def tSa := aa wX <| aa wbu <| aa T3 <| aa T4 <| aa T22 <| aa T24 T36
theorem ba_ext {a b : ByteArray} (h : a.toList = b.toList) : a = b := by
 rw [ba_list, ba_list] at h
 cases a; cases b
 congr
 exact Array.toList_inj.1 h
def sameVV (a b : List (List Va)) : Bool := decide (a = b)
theorem va_eq (a1 a2 b1 b2 : Int) (a3 b3 : ByteArray) : (a1 == b1 && ((a2 == b2) && ((a3.toList == b3.toList) && true))) = decide (((a1, a2, a3) : Va) = (b1, b2, b3)) := by
 by_cases h : ((a1, a2, a3) : Va) = (b1, b2, b3)
 ·cases h; simp
 ·rw [decide_eq_false h]
  by_cases h1 : a1 = b1
  ·by_cases h2 : a2 = b2
   ·have h3 : a3.toList ≠ b3.toList := fun e => h (by rw [h1, h2, ba_ext e])
    simp [h3]
   ·simp [h2]
  ·simp [h1]
def sameV (a b : List Va) : Bool := decide (a = b)
theorem asameV (a b : List Va) (ha : a.length ≤ 4398046511104) (hb : b.length ≤ 4398046511104) (σ : St) : ACalls Tryd.prog 21 [.p (.sl 3 (enV a)), .p (.sl 3 (enV b))] σ fun r s => s = σ ∧ r = boolV (sameV a b) := by
 refine ACalls.pureF (R := fun r => r = boolV (sameV a b)) ?_ rfl σ
 refine acalls_of cx_ok dr_ok Tryd.func21 (by kernel_rfl) rfl (nt := 24) (rs := [.tmp 4]) rfl rfl ?_
 by_cases hab : a.length = b.length
 ·have d : ((a.length : Int) != (b.length : Int)) = false := by simp [hab]
  repeat' first | ((with_reducible first | refine cs ?_ ?_ | refine ws ?_ ?_ | refine wd ?_ ?_ | refine wu ?_ ?_) <;> intro h <;> try simp only [h]) | simp only [↓wBA, tSa, convA, seval, pl21_6Sa, enV_len, d] | (with_reducible refine dP pl21_6Sa 9 (some 17) (by decide) (by kernel_rfl) ?_)
  refine awp_loopN (a.length) (fun i => [(5, intV .i64 (i : Nat)), (4, .any), (11, .any), (12, .any), (13, .any), (14, .any), (15, .any), (16, .any), (17, .any), (18, .any), (19, .any), (20, .any), (21, .any), (22, .any), (23, .any), (24, .any), (25, .any)]) (fun i => []) (fun i => a.take i = b.take i) ?_ ?_ ?_
  ·rfl
  ·skip
   simp only [wR, Nat.reduceAdd, Nat.reduceLT, reduceIte]
   simp [wW]
  ·intro i hi hI
   simp only [wR, Nat.reduceAdd, Nat.reduceLT, reduceIte]
   by_cases hlt : i < a.length
   ·have hdec := dT (i := i) (n := a.length) (by omega)
    have hi0 := nnI i
    have hw := wI i (by omega)
    have hltb : i < b.length := by omega
    have hg := enV_get a i hlt
    have hgb := enV_get b i hltb
    have hta := List.take_succ_eq_append_getElem hlt
    have htb := List.take_succ_eq_append_getElem hltb
    have hfin : a[i] ≠ b[i] → sameV a b = false := fun h => decide_eq_false fun e => h (by subst e; rfl)
    rcases hai : a[i] with ⟨a1, a2, a3⟩
    rcases hbi : b[i] with ⟨b1, b2, b3⟩
    rw [hai] at hg hta hfin
    rw [hbi] at hgb htb hfin
    simp only [vaC] at hg hgb
    have hv := va_eq a1 a2 b1 b2 a3 b3
    repeat' first | ((with_reducible first | refine cs ?_ ?_ | refine ws ?_ ?_ | refine wd ?_ ?_ | refine wu ?_ ?_) <;> intro h <;> try simp only [h]) | simp only [↓wBA, tSa, convA, seval, pl21_6Sa, enV_len, hdec, hi0, hw, hg, hgb, hv] | (with_reducible refine dP pl21_6Sa 9 (some 17) (by decide) (by kernel_rfl) ?_)
    ·have hf := hfin (by intro e; rw [decide_eq_true e] at h; simp at h)
     simp only [hf]
     all_goals refine ret_is (a := _) ?_ rfl rfl
     all_goals simp only [↓wBA, tSa, convA, seval]
     all_goals simp_all [wS]
    ·skip
     refine ⟨⟨i + 1, by omega, ?_⟩, by show a.length - (i + 1) < a.length - i; omega, ?_⟩
     ·rw [hta, htb, hI]; congr 1; simpa using h
     ·skip
      simp only [wR, Nat.reduceAdd, Nat.reduceLT, reduceIte]
      simp [wW]
   ·have hdec := dF (i := i) (n := a.length) (by omega)
    have hs : sameV a b = true := decide_eq_true (by rw [List.take_of_length_le (by omega), List.take_of_length_le (by omega)] at hI; exact hI)
    simp only [hs]
    repeat' first | ((with_reducible first | refine cs ?_ ?_ | refine ws ?_ ?_ | refine wd ?_ ?_ | refine wu ?_ ?_) <;> intro h <;> try simp only [h]) | simp only [↓wBA, tSa, convA, seval, pl21_6Sa, enV_len, hdec] | (with_reducible refine dP pl21_6Sa 9 (some 17) (by decide) (by kernel_rfl) ?_)
    all_goals refine ret_is (a := _) ?_ rfl rfl
    all_goals simp only [↓wBA, tSa, convA, seval]
    all_goals simp_all [wS]
 ·have d : ((a.length : Int) != (b.length : Int)) = true := by simp; omega
  have hs : sameV a b = false := decide_eq_false fun e => hab (by rw [e])
  simp only [hs]
  repeat' first | ((with_reducible first | refine cs ?_ ?_ | refine ws ?_ ?_ | refine wd ?_ ?_ | refine wu ?_ ?_) <;> intro h <;> try simp only [h]) | simp only [↓wBA, tSa, convA, seval, pl21_6Sa, enV_len, d] | (with_reducible refine dP pl21_6Sa 9 (some 17) (by decide) (by kernel_rfl) ?_)
  all_goals refine ret_is (a := _) ?_ rfl rfl
  all_goals simp only [↓wBA, tSa, convA, seval]
  all_goals simp_all [wS]
theorem asameVV (a b : List (List Va)) (ha : a.length ≤ 4398046511104) (hb : b.length ≤ 4398046511104) (hra : ∀ r ∈ a, r.length ≤ 4398046511104) (hrb : ∀ r ∈ b, r.length ≤ 4398046511104) (σ : St) : ACalls Tryd.prog 9 [.p (.sl 1 (enVV a)), .p (.sl 1 (enVV b))] σ fun r s => s = σ ∧ r = boolV (sameVV a b) := by
 refine ACalls.pureF (R := fun r => r = boolV (sameVV a b)) ?_ rfl σ
 refine acalls_of cx_ok dr_ok Tryd.func9 (by kernel_rfl) rfl (nt := 25) (rs := [.tmp 4]) rfl rfl ?_
 by_cases hab : a.length = b.length
 ·have d : ((a.length : Int) != (b.length : Int)) = false := by simp [hab]
  repeat' first | ((with_reducible first | refine cs ?_ ?_ | refine ws ?_ ?_ | refine wd ?_ ?_ | refine wu ?_ ?_) <;> intro h <;> try simp only [h]) | simp only [↓wBA, tSa, convA, seval, pl9_6Sa, enVV_len, d] | (with_reducible refine dP pl9_6Sa 10 (some 17) (by decide) (by kernel_rfl) ?_)
  refine awp_loopN (a.length) (fun i => [(5, intV .i64 (i : Nat)), (4, .any), (11, .any), (12, .any), (13, .any), (14, .any), (15, .any), (16, .any), (17, .any), (18, .any), (19, .any), (20, .any), (21, .any), (22, .any), (23, .any), (24, .any), (25, .any), (26, .any)]) (fun i => []) (fun i => a.take i = b.take i) ?_ ?_ ?_
  ·rfl
  ·skip
   simp only [wR, Nat.reduceAdd, Nat.reduceLT, reduceIte]
   simp [wW]
  ·intro i hi hI
   simp only [wR, Nat.reduceAdd, Nat.reduceLT, reduceIte]
   by_cases hlt : i < a.length
   ·have hdec := dT (i := i) (n := a.length) (by omega)
    have hi0 := nnI i
    have hw := wI i (by omega)
    have hltb : i < b.length := by omega
    have hg := enVV_get a i hlt
    have hgb := enVV_get b i hltb
    have hta := List.take_succ_eq_append_getElem hlt
    have htb := List.take_succ_eq_append_getElem hltb
    have hfin : a[i] ≠ b[i] → sameVV a b = false := fun h => decide_eq_false fun e => h (by subst e; rfl)
    have hS := asameV a[i] b[i] (hra _ (List.getElem_mem hlt)) (hrb _ (List.getElem_mem hltb))
    repeat' first | ((with_reducible first | refine cs ?_ ?_ | refine ws ?_ ?_ | refine wd ?_ ?_ | refine wu ?_ ?_) <;> intro h <;> try simp only [h]) | simp only [↓wBA, tSa, convA, seval, pl9_6Sa, enVV_len, hdec, hi0, hw, hg, hgb] | ((with_reducible show ACalls _ _ _ _ _); refine (hS _).eq ?_) | (with_reducible refine dP pl9_6Sa 10 (some 17) (by decide) (by kernel_rfl) ?_)
    all_goals first
     | (refine ⟨⟨i + 1, by omega, ?_⟩, by show a.length - (i + 1) < a.length - i; omega, ?_⟩
        ·rw [hta, htb, hI]; congr 1; simpa [sameV] using h
        ·simp [wW])
     | (have hf := hfin (by intro e; simp [sameV, e] at h)
        simp only [hf]
        refine ret_is (a := _) ?_ rfl rfl
        simp only [resA, resL, resV, List.getD_cons_zero, List.getD_cons_succ]
        simp_all [leT, leG, leA, leC, leM, leaf, tokLt, tokLtL, intV, boolV, nilA, nilSl]
        done)
   ·have hdec := dF (i := i) (n := a.length) (by omega)
    have hs : sameVV a b = true := decide_eq_true (by rw [List.take_of_length_le (by omega), List.take_of_length_le (by omega)] at hI; exact hI)
    simp only [hs]
    repeat' first | ((with_reducible first | refine cs ?_ ?_ | refine ws ?_ ?_ | refine wd ?_ ?_ | refine wu ?_ ?_) <;> intro h <;> try simp only [h]) | simp only [↓wBA, tSa, convA, seval, pl9_6Sa, enVV_len, hdec] | (with_reducible refine dP pl9_6Sa 10 (some 17) (by decide) (by kernel_rfl) ?_)
    all_goals refine ret_is (a := _) ?_ rfl rfl
    all_goals simp only [↓wBA, tSa, convA, seval]
    all_goals simp_all [wS]
 ·have d : ((a.length : Int) != (b.length : Int)) = true := by simp; omega
  have hs : sameVV a b = false := decide_eq_false fun e => hab (by rw [e])
  simp only [hs]
  repeat' first | ((with_reducible first | refine cs ?_ ?_ | refine ws ?_ ?_ | refine wd ?_ ?_ | refine wu ?_ ?_) <;> intro h <;> try simp only [h]) | simp only [↓wBA, tSa, convA, seval, pl9_6Sa, enVV_len, d] | (with_reducible refine dP pl9_6Sa 10 (some 17) (by decide) (by kernel_rfl) ?_)
  all_goals refine ret_is (a := _) ?_ rfl rfl
  all_goals simp only [↓wBA, tSa, convA, seval]
  all_goals simp_all [wS]
end Go.Proofs.YtpcblbbddccgpaaDoor
