/- dml: the numbers of columns, the scope. dml: the scope, expressions for columns. -/
import Derived.Test.YtcnkmandddfdmaaM25
import Derived.Test.YtcnkmandddfdmaaM26
set_option linter.unusedSimpArgs false
set_option linter.unusedVariables false
set_option linter.defProp false
set_option maxRecDepth 100000
set_option maxHeartbeats 32000000
namespace Go.Proofs.Ytcnkmandddfdmaa
open Go.RowKit
def tDa := aa wX <| aa wbu <| aa T3 <| aa T9 <| aa T22 <| aa T24 <| aa T29 <| aa T54 <| aa T61 T88
abbrev Tc := ByteArray × Int × Bool × Bool
def tcC (c : Tc) : List PV := [.v (.string c.1), .v (.int .i64 c.2.1), .v (.bool c.2.2.1), .v (.bool c.2.2.2)]
def enTc (l : List Tc) : List (List PV) := l.map tcC
theorem enTc_len (l : List Tc) : (enTc l).length = l.length := by simp [enTc]
theorem enTc_get (l : List Tc) (i : Nat) (h : i < l.length) : (enTc l)[i]? = some (tcC l[i]) := by simp [enTc, h]
def tbA (nm : ByteArray) (cols : List Tc) : AV := .agg [.p (.v (.string nm)), .p (.sl 4 (enTc cols))]
def enN (l : List ByteArray) : List (List PV) := l.map fun s => [.v (.string s)]
theorem enN_len (l : List ByteArray) : (enN l).length = l.length := by simp [enN]
theorem enN_get (l : List ByteArray) (i : Nat) (h : i < l.length) : (enN l)[i]? = some [.v (.string l[i])] := by simp [enN, h]
def txO (s : ByteArray) (_ : Nat) : Ob := .row 1 [[.p (.v (.string s))]]
theorem txP (s : ByteArray) (u : Nat) : PlainOb (txO s u) := ⟨fun g => by simp [renOb, txO, renL, renA], fun n => by simp [tokOb, txO, tokLtL, tokLt], 1, _, rfl⟩
def isN (s : ByteArray) (c : Tc) : Bool := c.1.toList == s.toList
theorem aisN (s : ByteArray) (c : Tc) : OCalls (txO s) 35 (fun p => [.agg ((tcC c).map .p), .mp p 1 0 0]) 0 fun r _ => r = boolV (isN s c) := by
 refine OCalls.mono (R := fun r s' => r = boolV (isN s c) ∧ s' = 0) (OCalls.of (txP s) (fun t => rfl) rfl ?_) fun r s h => h.1
 obtain ⟨c1, c2, c3, c4⟩ := c
 refine acalls_of cx_ok dr_ok Try.func35 (by kernel_rfl) rfl (nt := 6) (rs := [.tmp 3]) rfl rfl ?_
 simp only [txO, tcC, List.map_cons, List.map_nil]
 repeat' first | ((with_reducible first | refine cs ?_ ?_ | refine ws ?_ ?_) <;> intro h <;> try simp only [h]) | simp only [↓wBA, tDa, convA, seval, binStr]
 all_goals refine ret_obI (a := _) (b := _) (txP _ _) ?_ rfl rfl
 all_goals simp only [↓wBA, tDa, convA, seval]
 all_goals simp_all [wS, txO, isN]
theorem aidxN (s : ByteArray) (cols : List Tc) (hl : cols.length ≤ 4398046511104) : OCalls (txO s) 34 (fun p => [.p (.sl 4 (enTc cols)), .fn 35 [] [.mp p 1 0 0]]) 0 fun r _ => r = intV .i64 (idxP (isN s) cols) := by
 refine OCalls.mono (R := fun r s' => r = intV .i64 (idxP (isN s) cols) ∧ s' = 0) (OCalls.of (txP s) (fun t => rfl) rfl ?_) fun r s h => h.1
 have hB := fun c => aisN s c
 refine acalls_of cx_ok dr_ok Try.func34 (by kernel_rfl) rfl (nt := 17) (rs := [.tmp 4]) rfl rfl ?_
 simp only [txO]
 simp only [↓wBA, tDa, convA, seval, enTc_len]
 refine awp_loopN (cols.length) (fun i => [(8, intV .i64 (i : Nat)), (4, .any), (5, .any), (9, .any), (10, .any), (11, .any), (12, .any), (13, .any), (14, .any), (15, .any), (16, .any), (17, .any), (18, .any)]) (fun i => []) (fun i => ∀ j (hj : j < i) (hj' : j < cols.length), isN s cols[j] = false) ?_ ?_ ?_
 ·intro j hj; omega
 ·skip
  simp only [wR, Nat.reduceAdd, Nat.reduceLT, reduceIte]
  simp [wW]
 ·intro i hi hI
  simp only [wR, Nat.reduceAdd, Nat.reduceLT, reduceIte]
  by_cases hlt : i < cols.length
  ·have hdec := dT (i := i) (n := cols.length) (by omega)
   have hi0 := nnI i
   have hw := wI i (by omega)
   have hg := enTc_get cols i hlt
   have htl : (tcC cols[i]).length = 4 := rfl
   repeat' first | ((with_reducible first | refine cs ?_ ?_ | refine ws ?_ ?_) <;> intro h <;> try simp only [h]) | simp only [↓wBA, tDa, convA, seval, enTc_len, hdec, hi0, hg, hw, htl, List.length_map] | ((with_reducible show ACalls _ _ _ _ _); refine (hB _ _ 0 rfl).mono ?_; rintro _ _ ⟨_, rfl, rfl⟩; simp only [txO])
   ·have hix := idxP_at (isN s) cols i hlt (fun j hj => hI j hj (by omega)) h
    simp only [hix]
    all_goals refine ret_obI (a := _) (b := _) (txP _ _) ?_ rfl rfl
    all_goals simp only [↓wBA, tDa, convA, seval]
    all_goals simp_all [wS, txO]
   ·skip
    refine ⟨⟨i + 1, by omega, ?_⟩, by show cols.length - (i + 1) < cols.length - i; omega, ?_⟩
    ·intro j hj hj'
     by_cases e : j = i
     ·subst e; exact h
     ·exact hI j (by omega) hj'
    ·skip
     simp only [wR, Nat.reduceAdd, Nat.reduceLT, reduceIte]
     simp [wW]
  ·have hdec := dF (i := i) (n := cols.length) (by omega)
   have hix := idxP_none (isN s) cols (fun j hj => hI j (by omega) hj)
   simp only [hix]
   repeat' first | ((with_reducible first | refine cs ?_ ?_ | refine ws ?_ ?_) <;> intro h <;> try simp only [h]) | simp only [↓wBA, tDa, convA, seval, enTc_len, hdec]
   all_goals refine ret_obI (a := _) (b := _) (txP _ _) ?_ rfl rfl
   all_goals simp only [↓wBA, tDa, convA, seval]
   all_goals simp_all [wS, txO]
theorem nilSl_len (l : List Int) : lenA cx 61 (.p (nilSl 1 (enI l))) = some l.length := by
 cases l with
 | nil => simp [nilSl, enI, lenA, ck_61, elemsA]
 | cons t ts => simp [nilSl, enI, lenA, ck_61, elemsA]
theorem aindexI (l : List Int) (hl : l.length ≤ 4398046511104) (n : Int) (σ : St) : ACalls Try.prog 56 [.p (nilSl 1 (enI l)), intV .i64 n] σ fun r s => s = σ ∧ r = intV .i64 (idxP (fun m => n == m) l) := by
 refine ACalls.pureF (R := fun r => r = intV .i64 (idxP (fun m => n == m) l)) ?_ rfl σ
 refine acalls_of cx_ok dr_ok Try.func56 (by kernel_rfl) rfl (nt := 17) (rs := [.tmp 4]) rfl rfl ?_
 simp only [↓wBA, tDa, convA, seval, nilSl_len]
 refine awp_loopN (l.length) (fun i => [(8, intV .i64 (i : Nat)), (4, .any), (5, .any), (9, .any), (10, .any), (11, .any), (12, .any), (13, .any), (14, .any), (15, .any), (16, .any), (17, .any), (18, .any)]) (fun i => []) (fun i => ∀ j (hj : j < i) (hj' : j < l.length), (n == l[j]) = false) ?_ ?_ ?_
 ·intro j hj; omega
 ·skip
  simp only [wR, Nat.reduceAdd, Nat.reduceLT, reduceIte]
  simp [wW]
 ·intro i hi hI
  simp only [wR, Nat.reduceAdd, Nat.reduceLT, reduceIte]
  by_cases hlt : i < l.length
  ·have hdec := dT (i := i) (n := l.length) (by omega)
   have hi0 := nnI i
   have hw := wI i (by omega)
   have hg := enI_get l i hlt
   have hnl : nilSl 1 (enI l) = .sl 1 (enI l) := by cases l with | nil => simp at hlt | cons a l => rfl
   repeat' first | ((with_reducible first | refine cs ?_ ?_ | refine ws ?_ ?_) <;> intro h <;> try simp only [h]) | simp only [↓wBA, tDa, convA, seval, enI_len, hdec, hi0, hg, hw, hnl]
   ·have hix := idxP_at (fun m => n == m) l i hlt (fun j hj => hI j hj (by omega)) h
    simp only [hix]
    all_goals refine ret_is (a := _) ?_ rfl rfl
    all_goals simp only [↓wBA, tDa, convA, seval]
    all_goals simp_all [wS]
   ·skip
    refine ⟨⟨i + 1, by omega, ?_⟩, by show l.length - (i + 1) < l.length - i; omega, ?_⟩
    ·intro j hj hj'
     by_cases e : j = i
     ·subst e; exact h
     ·exact hI j (by omega) hj'
    ·skip
     simp only [wR, Nat.reduceAdd, Nat.reduceLT, reduceIte]
     simp [wW]
  ·have hdec := dF (i := i) (n := l.length) (by omega)
   have hix := idxP_none (fun m => n == m) l (fun j hj => hI j (by omega) hj)
   simp only [hix]
   repeat' first | ((with_reducible first | refine cs ?_ ?_ | refine ws ?_ ?_) <;> intro h <;> try simp only [h]) | simp only [↓wBA, tDa, convA, seval, hdec]
   all_goals refine ret_is (a := _) ?_ rfl rfl
   all_goals simp only [↓wBA, tDa, convA, seval]
   all_goals simp_all [wS]
theorem acontI (l : List Int) (hl : l.length ≤ 4398046511104) (n : Int) (σ : St) : ACalls Try.prog 36 [.p (nilSl 1 (enI l)), intV .i64 n] σ fun r s => s = σ ∧ r = boolV (l.any fun m => n == m) := by
 refine ACalls.pureF (R := fun r => r = boolV (l.any fun m => n == m)) ?_ rfl σ
 refine acalls_of cx_ok dr_ok Try.func36 (by kernel_rfl) rfl (nt := 7) (rs := [.tmp 4]) rfl rfl ?_
 repeat' first | ((with_reducible first | refine cs ?_ ?_ | refine ws ?_ ?_) <;> intro h <;> try simp only [h]) | simp only [↓wBA, tDa, convA, seval, idxP_ge] | ((with_reducible show ACalls _ _ _ _ _); refine (aindexI l hl _ _).eq ?_)
 all_goals refine ret_is (a := _) ?_ rfl rfl
 all_goals simp only [↓wBA, tDa, convA, seval]
 all_goals simp_all [wS]
def tStep (cols : List Tc) (s : List Int × Bool) (n : ByteArray) : List Int × Bool := (s.1 ++ [idxP (isN n) cols], s.2 || decide (idxP (isN n) cols < 0) || s.1.any fun m => idxP (isN n) cols == m)
def tGo (cols : List Tc) (names : List ByteArray) : List Int × Bool := names.foldl (tStep cols) ([], false)
def tgtS (names : List ByteArray) (cols : List Tc) : List Int × Int := if (tGo cols names).2 = true then ([], 32) else ((tGo cols names).1, 0)
theorem tGo_bad (cols : List Tc) : ∀ (l : List ByteArray) (s : List Int × Bool), s.2 = true → (l.foldl (tStep cols) s).2 = true
 | [], s, h => h
 | c :: l, s, h => tGo_bad cols l _ (by simp [tStep, h])
theorem tGo_take (cols : List Tc) (l : List ByteArray) (i : Nat) (h : (tGo cols (l.take i)).2 = true) : (tGo cols l).2 = true := by
 have : l = l.take i ++ l.drop i := (List.take_append_drop i l).symm
 rw [tGo, this, List.foldl_append]
 exact tGo_bad cols _ _ h
theorem tGo_len (cols : List Tc) : ∀ (l : List ByteArray) (s : List Int × Bool), (l.foldl (tStep cols) s).1.length = s.1.length + l.length
 | [], s => by simp
 | c :: l, s => by rw [List.foldl_cons, tGo_len cols l]; simp [tStep]; omega
theorem atargets (names : List ByteArray) (nm : ByteArray) (cols : List Tc) (hn : names.length ≤ 4398046511104) (hl : cols.length ≤ 4398046511104) (σ : St) : ACalls Try.prog 16 [.p (.sl 1 (enN names)), tbA nm cols] σ fun r s => s = σ ∧ r = .tup [.p (.sl 1 (enI (tgtS names cols).1)), intV .i64 (tgtS names cols).2] := by
 refine ACalls.pureF (R := fun r => r = .tup [.p (.sl 1 (enI (tgtS names cols).1)), intV .i64 (tgtS names cols).2]) ?_ rfl σ
 refine acalls_of cx_ok dr_ok Try.func16 (by kernel_rfl) rfl (nt := 31) (rs := [.tmp 4, .tmp 5]) rfl rfl ?_
 simp only [tbA]
 simp only [↓wBA, tDa, convA, seval, enN_len]
 refine awp_loopN (names.length) (fun i => [(6, .nown 1 1 (enI (tGo cols (names.take i)).1)), (12, intV .i64 (i : Nat)), (4, .any), (5, .any), (8, .any), (9, .any), (13, .any), (14, .any), (15, .any), (16, .any), (17, .any), (18, .any), (19, .any), (20, .any), (21, .any), (22, .any), (23, .any), (24, .any), (25, .any), (26, .any), (27, .any), (28, .any), (29, .any), (30, .any), (31, .any)]) (fun i => [(1, .nright 3 (i * 1))]) (fun i => (tGo cols (names.take i)).2 = false) ?_ ?_ ?_
 ·rfl
 ·skip
  simp only [wR, Nat.reduceAdd, Nat.reduceLT, reduceIte]
  simp [wW, tGo, enI]
 ·intro i hi hI
  simp only [wR, Nat.reduceAdd, Nat.reduceLT, reduceIte]
  by_cases hlt : i < names.length
  ·have hdec := dT (i := i) (n := names.length) (by omega)
   have hi0 := nnI i
   have hw := wI i (by omega)
   have hg := enN_get names i hlt
   have hst : tGo cols (names.take (i + 1)) = tStep cols (tGo cols (names.take i)) names[i] := fold_step _ _ _ _ hlt
   have hbad := tGo_take cols names (i + 1)
   have hfin : (tGo cols names).2 = true → tgtS names cols = ([], 32) := fun h => by unfold tgtS; rw [if_pos h]
   have htl : (tGo cols (names.take i)).1.length = i := by rw [tGo, tGo_len]; simp; omega
   have hF := aidxN names[i] cols hl
   have hC := acontI (tGo cols (names.take i)).1 (by omega)
   have hlim1 := tL (n := (i + 1) * 8) (by omega)
   have hlim2 := lM (n := i + 1) (by omega)
   repeat' first | ((with_reducible first | refine cs ?_ ?_ | refine ws ?_ ?_) <;> intro h <;> try simp only [h]) | simp only [↓wBA, tDa, convA, seval, enN_len, hdec, hi0, hg, hw, enI_len, htl, hlim1, hlim2, appendA, srcA, List.length_append] | ((with_reducible show ACalls _ _ _ _ _); first | (refine (hF _ 2 rfl).mono ?_; rintro _ _ ⟨_, rfl, rfl⟩; simp only [txO]) | (refine ACalls.frzArgs ?_; simp only [frzL, frzA]; refine (hC _ _).eq ?_))
   ·have hb := hbad (by rw [hst]; simp_all [tStep])
    simp only [hfin hb]
    all_goals refine ret_is (a := _) ?_ rfl rfl
    all_goals simp only [↓wBA, tDa, convA, seval]
    all_goals simp_all [wS, enI]
   ·skip
    refine ⟨⟨i + 1, by omega, ?_⟩, by show names.length - (i + 1) < names.length - i; omega, ?_⟩
    ·rw [hst]; simp_all [tStep]
    ·simp only [hst, tStep]
     simp [wW, enI]
   ·have hb := hbad (by rw [hst]; simp_all [tStep])
    simp only [hfin hb]
    all_goals refine ret_is (a := _) ?_ rfl rfl
    all_goals simp only [↓wBA, tDa, convA, seval]
    all_goals simp_all [wS, enI]
  ·have hdec := dF (i := i) (n := names.length) (by omega)
   have ht : names.take i = names := List.take_of_length_le (by omega)
   rw [ht] at hI
   simp only [ht]
   repeat' first | ((with_reducible first | refine cs ?_ ?_ | refine ws ?_ ?_) <;> intro h <;> try simp only [h]) | simp only [↓wBA, tDa, convA, seval, hdec]
   all_goals refine ret_is (a := _) ?_ rfl rfl
   all_goals simp only [↓wBA, tDa, convA, seval]
   all_goals simp_all [wS, tgtS]
end Go.Proofs.Ytcnkmandddfdmaa
namespace Go.Proofs.Ytcnkmandddfdmaa
open Go.RowKit
def pl17_6Db : Plan := (.det 0 (.det 1 (.det 2 (.det 3 (.det 4 (.det 5 (.det 6 (.det 7 (.det 8 (.det 9 (.det 10 (.det 11 (.det 12 (.det 13 (.det 14 (.det 15 (.det 16 (.det 17 (.det 18 .done)))))))))))))))))))
def tDb := aa wX <| aa wbu <| aa T3 <| aa T9 <| aa T22 <| aa T24 <| aa T33 <| aa T40 <| aa T54 <| aa T61 <| aa T66 <| aa T86 T93
def scopeS (nm : ByteArray) (cols : List Tc) : List Bc := cols.map fun c => (nm, c.1, c.2.1)
theorem scope_succ (nm : ByteArray) (cols : List Tc) (i : Nat) (h : i < cols.length) : enBc (scopeS nm (cols.take (i + 1))) = enBc (scopeS nm (cols.take i)) ++ [[.v (.string nm), .v (.string cols[i].1), .v (.int .i64 cols[i].2.1)]] := by
 rw [List.take_succ_eq_append_getElem h, scopeS, enBc, List.map_append, List.map_append]; rfl
theorem ascope (nm : ByteArray) (cols : List Tc) (hl : cols.length ≤ 4398046511104) (σ : St) : ACalls Try.prog 18 [tbA nm cols] σ fun r s => s = σ ∧ r = .p (.sl 3 (enBc (scopeS nm cols))) := by
 refine ACalls.pureF (R := fun r => r = .p (.sl 3 (enBc (scopeS nm cols)))) ?_ rfl σ
 refine acalls_of cx_ok dr_ok Try.func18 (by kernel_rfl) rfl (nt := 24) (rs := [.tmp 2]) rfl rfl ?_
 simp only [tbA]
 simp only [↓wBA, tDb, convA, seval, enTc_len]
 refine awp_loopN (cols.length) (fun i => [(3, .nown 1 3 (enBc (scopeS nm (cols.take i)))), (9, intV .i64 (i : Nat)), (5, .any), (10, .any), (11, .any), (12, .any), (13, .any), (14, .any), (15, .any), (16, .any), (17, .any), (18, .any), (19, .any), (20, .any), (21, .any), (22, .any), (23, .any)]) (fun i => [(1, .nright 93 (i * 3))]) (fun i => True) ?_ ?_ ?_
 ·trivial
 ·skip
  simp only [wR, Nat.reduceAdd, Nat.reduceLT, reduceIte]
  simp [wW, scopeS, enBc]
 ·intro i hi _
  simp only [wR, Nat.reduceAdd, Nat.reduceLT, reduceIte]
  by_cases hlt : i < cols.length
  ·have hdec := dT (i := i) (n := cols.length) (by omega)
   have hi0 := nnI i
   have hw := wI i (by omega)
   have hg := enTc_get cols i hlt
   have hst := scope_succ nm cols i hlt
   have htl : (enBc (scopeS nm (cols.take i))).length = i := by rw [enBc_len]; simp [scopeS]; omega
   have hlim1 := tL (n := (i + 1) * 32) (by omega)
   have hlim2 := lM (n := i + 1) (by omega)
   rcases hc : cols[i] with ⟨c1, c2, c3, c4⟩
   rw [hc] at hst hg
   simp only [tcC] at hg
   repeat' first | ((with_reducible first | refine cond_split ?_ ?_ | refine ws ?_ ?_) <;> intro h <;> try simp only [h]) | simp only [↓wBA, tDb, convA, seval, enTc_len, hdec, hi0, hg, hw, htl, hlim1, hlim2, appendA, srcA, List.length_append]
   refine ⟨⟨i + 1, by omega, ?_⟩, by show cols.length - (i + 1) < cols.length - i; omega, ?_⟩
   ·trivial
   ·simp only [hst]
    simp [wW]
  ·have hdec := dF (i := i) (n := cols.length) (by omega)
   have ht : cols.take i = cols := List.take_of_length_le (by omega)
   simp only [ht]
   repeat' first | ((with_reducible first | refine cond_split ?_ ?_ | refine ws ?_ ?_) <;> intro h <;> try simp only [h]) | simp only [↓wBA, tDb, convA, seval, enTc_len, hdec]
   all_goals refine ret_is (a := _) ?_ rfl rfl
   all_goals simp only [↓wBA, tDb, convA, seval]
   all_goals simp_all [wS]
def asgE (scope : List Bc) (x : Ex) (ty : Int) : Int := if (bndS scope x).2.2 = 0 ∧ (bndS scope x).2.1 ≠ 0 ∧ (bndS scope x).2.1 ≠ ty then 33 else (bndS scope x).2.2
def tyAt (tcols : List Tc) (c : Int) : Int := (tcols.getD c.toNat (emp, 0, false, false)).2.1
def asgS (scope : List Bc) (tcols : List Tc) : List Ex → List Int → List Ex × Int
 | x :: xs, c :: cs => if asgE scope x (tyAt tcols c) ≠ 0 then ([], asgE scope x (tyAt tcols c)) else if (asgS scope tcols xs cs).2 ≠ 0 then ([], (asgS scope tcols xs cs).2) else ((bndS scope x).1 :: (asgS scope tcols xs cs).1, 0)
 | _, _ => ([], 0)
theorem asgS_bad (scope : List Bc) (tcols : List Tc) : ∀ (xs : List Ex) (cs : List Int) (i : Nat) (h : i < xs.length) (h' : i < cs.length), (∀ j (hj : j < i), asgE scope (xs[j]'(by omega)) (tyAt tcols (cs[j]'(by omega))) = 0) → asgE scope xs[i] (tyAt tcols cs[i]) ≠ 0 → asgS scope tcols xs cs = ([], asgE scope xs[i] (tyAt tcols cs[i]))
 | x :: xs, c :: cs, 0, h, h', _, h2 => by simp only [asgS, List.getElem_cons_zero] at h2 ⊢; rw [if_pos h2]
 | x :: xs, c :: cs, i + 1, h, h', h1, h2 => by
   have h0 := h1 0 (by omega)
   simp only [List.getElem_cons_zero] at h0
   have ih := asgS_bad scope tcols xs cs i (by simpa using h) (by simpa using h') (fun j hj => by have := h1 (j + 1) (by omega); simpa using this) (by simpa using h2)
   simp only [asgS, List.getElem_cons_succ] at h2 ⊢
   rw [if_neg (by simp [h0]), ih, if_pos h2]
 | [], cs, i, h, h', _, _ => by simp at h
 | x :: xs, [], i, h, h', _, _ => by simp at h'
theorem asgS_ok (scope : List Bc) (tcols : List Tc) : ∀ (xs : List Ex) (cs : List Int), xs.length ≤ cs.length → (∀ j (hj : j < xs.length) (hj' : j < cs.length), asgE scope xs[j] (tyAt tcols cs[j]) = 0) → asgS scope tcols xs cs = (zsF scope xs, 0)
 | [], cs, _, _ => by simp [asgS, zsF]
 | x :: xs, [], h, _ => by simp at h
 | x :: xs, c :: cs, h, h1 => by
   have h0 := h1 0 (by simp) (by simp)
   simp only [List.getElem_cons_zero] at h0
   have ih := asgS_ok scope tcols xs cs (by simpa using h) fun j hj hj' => by have := h1 (j + 1) (by simpa using hj) (by simpa using hj'); simpa using this
   simp only [asgS, h0, ih, ne_eq, not_true_eq_false, if_false, zsF, List.map_cons]
theorem aassigned (xs : List Ex) (cs : List Int) (nm : ByteArray) (tcols : List Tc) (scope : List Bc) (hx : xs.length ≤ 1000000000000) (hxc : xs.length ≤ cs.length) (hcs : ∀ c ∈ cs, 0 ≤ c ∧ c.toNat < tcols.length) (hsc : scope.length ≤ 4398046511104) (σ : St) : ACalls Try.prog 17 [.p (.sl 8 (exL xs)), .p (.sl 1 (enI cs)), tbA nm tcols, .p (.sl 3 (enBc scope))] σ fun r s => s = σ ∧ r = .tup [.p (.sl 8 (exL (asgS scope tcols xs cs).1)), intV .i64 (asgS scope tcols xs cs).2] := by
 refine ACalls.pureF (R := fun r => r = .tup [.p (.sl 8 (exL (asgS scope tcols xs cs).1)), intV .i64 (asgS scope tcols xs cs).2]) ?_ rfl σ
 refine acalls_of cx_ok dr_ok Try.func17 (by kernel_rfl) rfl (nt := 54) (rs := [.tmp 8, .tmp 9]) rfl rfl ?_
 simp only [tbA]
 simp only [↓wBA, tDb, convA, seval, exL_len]
 refine awp_loopN (xs.length) (fun i => [(10, .nown 1 8 (exL (zsF scope (xs.take i)))), (18, intV .i64 (i : Nat)), (8, .any), (9, .any), (11, .any), (12, .any), (13, .any), (14, .any), (15, .any), (19, .any), (20, .any), (21, .any), (22, .any), (23, .any), (24, .any), (25, .any), (26, .any), (27, .any), (28, .any), (29, .any), (30, .any), (31, .any), (32, .any), (33, .any), (34, .any), (35, .any), (36, .any), (37, .any), (38, .any), (39, .any), (40, .any), (41, .any), (42, .any), (43, .any), (44, .any), (45, .any), (46, .any), (47, .any), (48, .any), (49, .any), (50, .any), (51, .any), (52, .any), (53, .any), (54, .any), (55, .any), (56, .any)]) (fun i => [(1, .nright 86 (i * 8))]) (fun i => ∀ j (hj : j < i) (hj' : j < xs.length), asgE scope xs[j] (tyAt tcols (cs[j]'(by omega))) = 0) ?_ ?_ ?_
 ·intro j hj; omega
 ·skip
  simp only [wR, Nat.reduceAdd, Nat.reduceLT, reduceIte]
  simp [wW, zsF, exL]
 ·intro i hi hI
  simp only [wR, Nat.reduceAdd, Nat.reduceLT, reduceIte]
  by_cases hlt : i < xs.length
  ·have hdec := dT (i := i) (n := xs.length) (by omega)
   have hi0 := nnI i
   have hw := wI i (by omega)
   have hg := exL_at xs i hlt
   have hci : i < cs.length := by omega
   have hgc := enI_get cs i hci
   obtain ⟨hc0, hcl⟩ := hcs cs[i] (List.getElem_mem hci)
   have hc0' : ((0 : Int) ≤ cs[i]) = True := eq_true hc0
   have hgt := enTc_get tcols _ hcl
   have hty : tyAt tcols cs[i] = (tcols[cs[i].toNat]).2.1 := by unfold tyAt; simp [List.getD, hcl]
   have hB := abind scope hsc xs[i]
   have hz1 := zsF_succ scope xs i hlt
   have hzl : (exL (zsF scope (xs.take i))).length = i := by rw [exL_len, zsF_len]; simp; omega
   have hlim1 := tL (n := (i + 1) * 104) (by omega)
   have hlim2 := lM (n := i + 1) (by omega)
   have hbad := asgS_bad scope tcols xs cs i hlt hci (fun j hj => hI j hj (by omega))
   have hnext : asgE scope xs[i] (tyAt tcols cs[i]) = 0 → ∀ j (hj : j < i + 1) (hj' : j < xs.length), asgE scope xs[j] (tyAt tcols (cs[j]'(by omega))) = 0 := fun h0 j hj hj' => by
    by_cases e : j = i
    ·subst e; exact h0
    ·exact hI j (by omega) hj'
   have hee : asgE scope xs[i] (tyAt tcols cs[i]) = if (bndS scope xs[i]).2.2 = 0 ∧ (bndS scope xs[i]).2.1 ≠ 0 ∧ (bndS scope xs[i]).2.1 ≠ tyAt tcols cs[i] then 33 else (bndS scope xs[i]).2.2 := rfl
   rw [hty] at hee
   rw [hty] at hbad hnext
   generalize hae : asgE scope xs[i] (tcols[cs[i].toNat]).2.1 = ae at *
   obtain ⟨a1, a2, a3, a4, a5, a6, a7, a8, hz⟩ := exC_mk (bndS scope xs[i]).1
   rw [hz] at hz1
   generalize hte : (bndS scope xs[i]).2.2 = te at *
   generalize htt : (bndS scope xs[i]).2.1 = tt at *
   simp only [BindOK, exA, hz, List.map_cons, List.map_nil, hte, htt] at hB
   rcases hcc : tcols[cs[i].toNat] with ⟨c1, c2, c3, c4⟩
   rw [hcc] at hgt hee
   simp only [tcC] at hgt
   simp only at hee
   repeat' first | ((with_reducible first | refine cond_split ?_ ?_ | refine ws ?_ ?_ | refine wd ?_ ?_ | refine wu ?_ ?_) <;> intro h <;> try simp only [h]) | simp only [↓wBA, tDb, convA, seval, pl17_6Db, exL_len, enI_len, enTc_len, hdec, hi0, hg, hw, hgc, hc0', hgt, hzl, hlim1, hlim2, appendA, srcA, List.length_append, exC_len, List.length_map] | ((with_reducible show ACalls _ _ _ _ _); refine (hB _).eq ?_) | (with_reducible refine dP pl17_6Db 19 (some 30) (by decide) (by kernel_rfl) ?_)
   all_goals first
    | (refine ⟨⟨i + 1, by omega, hnext (by grind)⟩, by show xs.length - (i + 1) < xs.length - i; omega, ?_⟩
       simp only [hz1]
       simp [wW])
    | (have hb := hbad (by grind)
       simp only [hb]
       refine ret_is (a := _) ?_ rfl rfl
       simp only [resA, resL, resV, List.getD_cons_zero, List.getD_cons_succ]
       simp_all [leT, leG, leA, leC, leM, leaf, tokLt, tokLtL, intV, boolV, nilA, nilSl, exL]
       done)
  ·have hdec := dF (i := i) (n := xs.length) (by omega)
   have ht : xs.take i = xs := List.take_of_length_le (by omega)
   have hok := asgS_ok scope tcols xs cs hxc (fun j hj hj' => hI j (by omega) hj)
   simp only [ht, hok]
   repeat' first | ((with_reducible first | refine cond_split ?_ ?_ | refine ws ?_ ?_ | refine wd ?_ ?_ | refine wu ?_ ?_) <;> intro h <;> try simp only [h]) | simp only [↓wBA, tDb, convA, seval, pl17_6Db, exL_len, hdec] | (with_reducible refine dP pl17_6Db 19 (some 30) (by decide) (by kernel_rfl) ?_)
   all_goals refine ret_is (a := _) ?_ rfl rfl
   all_goals simp only [↓wBA, tDb, convA, seval]
   all_goals simp_all [wS]
end Go.Proofs.Ytcnkmandddfdmaa
