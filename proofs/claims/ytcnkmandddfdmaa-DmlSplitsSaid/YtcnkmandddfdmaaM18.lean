/- dml: the numbers of columns, the scope. Expressions bound. -/
import Derived.Test.YtcnkmandddfdmaaM17
set_option linter.unusedSimpArgs false
set_option linter.unusedVariables false
namespace Go.Proofs.Ytcnkmandddfdmaa
open Go.RowKit
open Nat (reducePow reduceAdd reduceSub reduceMul reduceEqDiff reduceLeDiff)
theorem ty35_XDa : (type_of% ck_9) ∧ (type_of% cx_9) ∧ (type_of% ck_54) ∧ (type_of% cx_54) ∧ (type_of% ce_54) := ⟨ck_9, cx_9, ck_54, cx_54, ce_54⟩
theorem ty34_XDa : (type_of% ck_3) ∧ (type_of% cx_3) ∧ (type_of% ck_22) ∧ (type_of% cx_22) ∧ (type_of% @ks_22) ∧ (type_of% @ko_22) ∧ (type_of% @kn_22) ∧ (type_of% kz_22) ∧ (type_of% ck_54) ∧ (type_of% cx_54) ∧ (type_of% ce_54) := ⟨ck_3, cx_3, ck_22, cx_22, @ks_22, @ko_22, @kn_22, kz_22, ck_54, cx_54, ce_54⟩
theorem ty56_XDa : (type_of% ck_3) ∧ (type_of% cx_3) ∧ (type_of% ck_61) ∧ (type_of% cx_61) ∧ (type_of% @ks_61) ∧ (type_of% @ko_61) ∧ (type_of% @kn_61) ∧ (type_of% kz_61) := ⟨ck_3, cx_3, ck_61, cx_61, @ks_61, @ko_61, @kn_61, kz_61⟩
theorem ty36_XDa : (type_of% ck_3) ∧ (type_of% cx_3) ∧ (type_of% ck_61) ∧ (type_of% cx_61) ∧ (type_of% @ks_61) ∧ (type_of% @ko_61) ∧ (type_of% @kn_61) ∧ (type_of% kz_61) := ⟨ck_3, cx_3, ck_61, cx_61, @ks_61, @ko_61, @kn_61, kz_61⟩
theorem ty16_XDa : (type_of% ck_3) ∧ (type_of% cx_3) ∧ (type_of% ck_9) ∧ (type_of% cx_9) ∧ (type_of% ck_22) ∧ (type_of% cx_22) ∧ (type_of% @ks_22) ∧ (type_of% @ko_22) ∧ (type_of% @kn_22) ∧ (type_of% kz_22) ∧ (type_of% ck_24) ∧ (type_of% cx_24) ∧ (type_of% ck_29) ∧ (type_of% cx_29) ∧ (type_of% @ks_29) ∧ (type_of% @ko_29) ∧ (type_of% @kn_29) ∧ (type_of% kz_29) ∧ (type_of% ck_61) ∧ (type_of% cx_61) ∧ (type_of% @ks_61) ∧ (type_of% @ko_61) ∧ (type_of% @kn_61) ∧ (type_of% kz_61) ∧ (type_of% ck_88) ∧ (type_of% cx_88) := ⟨ck_3, cx_3, ck_9, cx_9, ck_22, cx_22, @ks_22, @ko_22, @kn_22, kz_22, ck_24, cx_24, ck_29, cx_29, @ks_29, @ko_29, @kn_29, kz_29, ck_61, cx_61, @ks_61, @ko_61, @kn_61, kz_61, ck_88, cx_88⟩
/-- A column of a table: its name, its type, whether it may not be null, whether it is unique. -/
abbrev Tc := ByteArray × Int × Bool × Bool
def tcC (c : Tc) : List PV := [.v (.string c.1), .v (.int .i64 c.2.1), .v (.bool c.2.2.1), .v (.bool c.2.2.2)]
def enTc (l : List Tc) : List (List PV) := l.map tcC
theorem enTc_len (l : List Tc) : (enTc l).length = l.length := by simp [enTc]
theorem enTc_get (l : List Tc) (i : Nat) (h : i < l.length) : (enTc l)[i]? = some (tcC l[i]) := by simp [enTc, h]
/-- A table. -/
def tbA (nm : ByteArray) (cols : List Tc) : AV := .agg [.p (.v (.string nm)), .p (.sl 4 (enTc cols))]
def enN (l : List ByteArray) : List (List PV) := l.map fun s => [.v (.string s)]
theorem enN_len (l : List ByteArray) : (enN l).length = l.length := by simp [enN]
theorem enN_get (l : List ByteArray) (i : Nat) (h : i < l.length) : (enN l)[i]? = some [.v (.string l[i])] := by simp [enN, h]
/-- A text in a variable. -/
def txO (s : ByteArray) (_ : Nat) : Ob := .row 1 [[.p (.v (.string s))]]
theorem txP (s : ByteArray) (u : Nat) : PlainOb (txO s u) := ⟨fun g => by simp [renOb, txO, renL, renA], fun n => by simp [tokOb, txO, tokLtL, tokLt], 1, _, rfl⟩
def isN (s : ByteArray) (c : Tc) : Bool := c.1.toList == s.toList
set_option maxRecDepth 100000 in
set_option maxHeartbeats 4000000 in
theorem aisN (s : ByteArray) (c : Tc) : OCalls (txO s) 35 (fun p => [.agg ((tcC c).map .p), .mp p 1 0 0]) 0 fun r _ => r = boolV (isN s c) := by
  refine OCalls.mono (R := fun r s' => r = boolV (isN s c) ∧ s' = 0) (OCalls.of (txP s) (fun t => rfl) rfl ?_) fun r s h => h.1
  obtain ⟨c1, c2, c3, c4⟩ := c
  refine acalls_of cx_ok dr_ok Try.func35 (by kernel_rfl) rfl (nt := 6) (rs := [.tmp 3]) rfl rfl ?_
  simp only [txO, tcC, List.map_cons, List.map_nil]
  repeat' first | ((with_reducible first | refine cond_split (fun h => ?_) (fun h => ?_) | refine want_split (fun h => ?_) (fun h => ?_)) <;> (try simp only [h])) | (simp only [↓wBA, wBB, wBC, cx_muts, cx_arr, wBD, convA, Nat.reduceBEq, reduceIte, reduceCtorEq, reducePow, reduceAdd, reduceSub, reduceMul, reduceEqDiff, reduceLeDiff, Nat.reduceLT, Int.reduceLT, Int.reduceLE, Int.reduceToNat, ty35_XDa, bu_len, bu_max, bu_min, binStr])
  all_goals refine ret_obI (a := _) (b := _) (txP _ _) ?_ rfl rfl
  all_goals simp only [↓wBA, wBB, wBC, cx_muts, cx_arr, wBD, convA, Nat.reduceBEq, reduceIte, reduceCtorEq, reducePow, reduceAdd, reduceSub, reduceMul, reduceEqDiff, reduceLeDiff, Nat.reduceLT, Int.reduceLT, Int.reduceLE, Int.reduceToNat, ty35_XDa]
  all_goals simp_all [resA, resL, resV, leT, leG, leA, leC, leM, leaf, tokLt, tokLtL, intV, boolV, nilA, nilSl, txO, isN]
set_option maxRecDepth 100000 in
set_option maxHeartbeats 4000000 in
theorem aidxN (s : ByteArray) (cols : List Tc) (hl : cols.length ≤ 4398046511104) : OCalls (txO s) 34 (fun p => [.p (.sl 4 (enTc cols)), .fn 35 [] [.mp p 1 0 0]]) 0 fun r _ => r = intV .i64 (idxP (isN s) cols) := by
  refine OCalls.mono (R := fun r s' => r = intV .i64 (idxP (isN s) cols) ∧ s' = 0) (OCalls.of (txP s) (fun t => rfl) rfl ?_) fun r s h => h.1
  have hB := fun c => aisN s c
  refine acalls_of cx_ok dr_ok Try.func34 (by kernel_rfl) rfl (nt := 17) (rs := [.tmp 4]) rfl rfl ?_
  simp only [txO]
  simp only [↓wBA, wBB, wBC, cx_muts, cx_arr, wBD, convA, Nat.reduceBEq, reduceIte, reduceCtorEq, reducePow, reduceAdd, reduceSub, reduceMul, reduceEqDiff, reduceLeDiff, Nat.reduceLT, Int.reduceLT, Int.reduceLE, Int.reduceToNat, ty34_XDa, enTc_len]
  refine awp_loopN (cols.length) (fun i => [(8, intV .i64 (i : Nat)), (4, .any), (5, .any), (9, .any), (10, .any), (11, .any), (12, .any), (13, .any), (14, .any), (15, .any), (16, .any), (17, .any), (18, .any)]) (fun i => []) (fun i => ∀ j (hj : j < i) (hj' : j < cols.length), isN s cols[j] = false) ?_ ?_ ?_
  · intro j hj; omega
  · skip
    simp only [setsF_cons, setsF_nil, setsO_cons, setsO_nil, List.set_cons_zero, List.set_cons_succ, List.length_cons, List.length_nil, St.put, Nat.zero_add, Nat.reduceAdd, Nat.reduceLT, Nat.lt_irrefl, reduceIte, List.cons_append, List.nil_append]
    simp [WeakE, Weak, setsF, setsO, St.put, leL, leT, leM, leG, leA, leC, leR, leS, leO, tokLt, tokLtL, intV, boolV, leaf, nilA, nilSl]
  · intro i hi hI
    simp only [setsF_cons, setsF_nil, setsO_cons, setsO_nil, List.set_cons_zero, List.set_cons_succ, List.length_cons, List.length_nil, St.put, Nat.zero_add, Nat.reduceAdd, Nat.reduceLT, Nat.lt_irrefl, reduceIte, List.cons_append, List.nil_append]
    by_cases hlt : i < cols.length
    · have hdec : decide ((i : Int) < (cols.length : Int)) = true := by simp; omega
      have hi0 : ((0 : Int) ≤ (i : Int)) = True := eq_true (by omega)
      have hw : IntKind.i64.wrap ((i : Int) + 1) = ((i + 1 : Nat) : Int) := by rw [wrap_i64 (by omega) (by omega)]; simp
      have hg := enTc_get cols i hlt
      have htl : (tcC cols[i]).length = 4 := rfl
      repeat' first | ((with_reducible first | refine cond_split (fun h => ?_) (fun h => ?_) | refine want_split (fun h => ?_) (fun h => ?_)) <;> (try simp only [h])) | (simp only [↓wBA, wBB, wBC, cx_muts, cx_arr, wBD, convA, Nat.reduceBEq, reduceIte, reduceCtorEq, reducePow, reduceAdd, reduceSub, reduceMul, reduceEqDiff, reduceLeDiff, Nat.reduceLT, Int.reduceLT, Int.reduceLE, Int.reduceToNat, ty34_XDa, bu_len, bu_max, bu_min, enTc_len, hdec, hi0, hg, hw, htl, List.length_map]) | ((with_reducible show ACalls _ _ _ _ _); refine (hB _ _ 0 rfl).mono ?_; rintro _ _ ⟨_, rfl, rfl⟩; simp only [txO])
      · have hix := idxP_at (isN s) cols i hlt (fun j hj => hI j hj (by omega)) h
        simp only [hix]
        all_goals refine ret_obI (a := _) (b := _) (txP _ _) ?_ rfl rfl
        all_goals simp only [↓wBA, wBB, wBC, cx_muts, cx_arr, wBD, convA, Nat.reduceBEq, reduceIte, reduceCtorEq, reducePow, reduceAdd, reduceSub, reduceMul, reduceEqDiff, reduceLeDiff, Nat.reduceLT, Int.reduceLT, Int.reduceLE, Int.reduceToNat, ty34_XDa]
        all_goals simp_all [resA, resL, resV, leT, leG, leA, leC, leM, leaf, tokLt, tokLtL, intV, boolV, nilA, nilSl, txO]
      · skip
        refine ⟨⟨i + 1, by omega, ?_⟩, by show cols.length - (i + 1) < cols.length - i; omega, ?_⟩
        · intro j hj hj'
          by_cases e : j = i
          · subst e; exact h
          · exact hI j (by omega) hj'
        · skip
          simp only [setsF_cons, setsF_nil, setsO_cons, setsO_nil, List.set_cons_zero, List.set_cons_succ, List.length_cons, List.length_nil, St.put, Nat.zero_add, Nat.reduceAdd, Nat.reduceLT, Nat.lt_irrefl, reduceIte, List.cons_append, List.nil_append]
          simp [WeakE, Weak, setsF, setsO, St.put, leL, leT, leM, leG, leA, leC, leR, leS, leO, tokLt, tokLtL, intV, boolV, leaf, nilA, nilSl]
    · have hdec : decide ((i : Int) < (cols.length : Int)) = false := by simp; omega
      have hix := idxP_none (isN s) cols (fun j hj => hI j (by omega) hj)
      simp only [hix]
      repeat' first | ((with_reducible first | refine cond_split (fun h => ?_) (fun h => ?_) | refine want_split (fun h => ?_) (fun h => ?_)) <;> (try simp only [h])) | (simp only [↓wBA, wBB, wBC, cx_muts, cx_arr, wBD, convA, Nat.reduceBEq, reduceIte, reduceCtorEq, reducePow, reduceAdd, reduceSub, reduceMul, reduceEqDiff, reduceLeDiff, Nat.reduceLT, Int.reduceLT, Int.reduceLE, Int.reduceToNat, ty34_XDa, bu_len, bu_max, bu_min, enTc_len, hdec])
      all_goals refine ret_obI (a := _) (b := _) (txP _ _) ?_ rfl rfl
      all_goals simp only [↓wBA, wBB, wBC, cx_muts, cx_arr, wBD, convA, Nat.reduceBEq, reduceIte, reduceCtorEq, reducePow, reduceAdd, reduceSub, reduceMul, reduceEqDiff, reduceLeDiff, Nat.reduceLT, Int.reduceLT, Int.reduceLE, Int.reduceToNat, ty34_XDa]
      all_goals simp_all [resA, resL, resV, leT, leG, leA, leC, leM, leaf, tokLt, tokLtL, intV, boolV, nilA, nilSl, txO]
theorem nilSl_len (l : List Int) : lenA cx 61 (.p (nilSl 1 (enI l))) = some l.length := by
  cases l with
  | nil => simp [nilSl, enI, lenA, ck_61, elemsA]
  | cons t ts => simp [nilSl, enI, lenA, ck_61, elemsA]
set_option maxRecDepth 100000 in
set_option maxHeartbeats 4000000 in
theorem aindexI (l : List Int) (hl : l.length ≤ 4398046511104) (n : Int) (σ : St) : ACalls Try.prog 56 [.p (nilSl 1 (enI l)), intV .i64 n] σ fun r s => s = σ ∧ r = intV .i64 (idxP (fun m => n == m) l) := by
  refine ACalls.pureF (R := fun r => r = intV .i64 (idxP (fun m => n == m) l)) ?_ rfl σ
  refine acalls_of cx_ok dr_ok Try.func56 (by kernel_rfl) rfl (nt := 17) (rs := [.tmp 4]) rfl rfl ?_
  simp only [↓wBA, wBB, wBC, cx_muts, cx_arr, wBD, convA, Nat.reduceBEq, reduceIte, reduceCtorEq, reducePow, reduceAdd, reduceSub, reduceMul, reduceEqDiff, reduceLeDiff, Nat.reduceLT, Int.reduceLT, Int.reduceLE, Int.reduceToNat, ty56_XDa, nilSl_len]
  refine awp_loopN (l.length) (fun i => [(8, intV .i64 (i : Nat)), (4, .any), (5, .any), (9, .any), (10, .any), (11, .any), (12, .any), (13, .any), (14, .any), (15, .any), (16, .any), (17, .any), (18, .any)]) (fun i => []) (fun i => ∀ j (hj : j < i) (hj' : j < l.length), (n == l[j]) = false) ?_ ?_ ?_
  · intro j hj; omega
  · skip
    simp only [setsF_cons, setsF_nil, setsO_cons, setsO_nil, List.set_cons_zero, List.set_cons_succ, List.length_cons, List.length_nil, St.put, Nat.zero_add, Nat.reduceAdd, Nat.reduceLT, Nat.lt_irrefl, reduceIte, List.cons_append, List.nil_append]
    simp [WeakE, Weak, setsF, setsO, St.put, leL, leT, leM, leG, leA, leC, leR, leS, leO, tokLt, tokLtL, intV, boolV, leaf, nilA, nilSl]
  · intro i hi hI
    simp only [setsF_cons, setsF_nil, setsO_cons, setsO_nil, List.set_cons_zero, List.set_cons_succ, List.length_cons, List.length_nil, St.put, Nat.zero_add, Nat.reduceAdd, Nat.reduceLT, Nat.lt_irrefl, reduceIte, List.cons_append, List.nil_append]
    by_cases hlt : i < l.length
    · have hdec : decide ((i : Int) < (l.length : Int)) = true := by simp; omega
      have hi0 : ((0 : Int) ≤ (i : Int)) = True := eq_true (by omega)
      have hw : IntKind.i64.wrap ((i : Int) + 1) = ((i + 1 : Nat) : Int) := by rw [wrap_i64 (by omega) (by omega)]; simp
      have hg := enI_get l i hlt
      have hnl : nilSl 1 (enI l) = .sl 1 (enI l) := by cases l with | nil => simp at hlt | cons a l => rfl
      repeat' first | ((with_reducible first | refine cond_split (fun h => ?_) (fun h => ?_) | refine want_split (fun h => ?_) (fun h => ?_)) <;> (try simp only [h])) | (simp only [↓wBA, wBB, wBC, cx_muts, cx_arr, wBD, convA, Nat.reduceBEq, reduceIte, reduceCtorEq, reducePow, reduceAdd, reduceSub, reduceMul, reduceEqDiff, reduceLeDiff, Nat.reduceLT, Int.reduceLT, Int.reduceLE, Int.reduceToNat, ty56_XDa, bu_len, bu_max, bu_min, enI_len, hdec, hi0, hg, hw, hnl])
      · have hix := idxP_at (fun m => n == m) l i hlt (fun j hj => hI j hj (by omega)) h
        simp only [hix]
        all_goals refine ret_is (a := _) ?_ rfl rfl
        all_goals simp only [↓wBA, wBB, wBC, cx_muts, cx_arr, wBD, convA, Nat.reduceBEq, reduceIte, reduceCtorEq, reducePow, reduceAdd, reduceSub, reduceMul, reduceEqDiff, reduceLeDiff, Nat.reduceLT, Int.reduceLT, Int.reduceLE, Int.reduceToNat, ty56_XDa]
        all_goals simp_all [resA, resL, resV, leT, leG, leA, leC, leM, leaf, tokLt, tokLtL, intV, boolV, nilA, nilSl]
      · skip
        refine ⟨⟨i + 1, by omega, ?_⟩, by show l.length - (i + 1) < l.length - i; omega, ?_⟩
        · intro j hj hj'
          by_cases e : j = i
          · subst e; exact h
          · exact hI j (by omega) hj'
        · skip
          simp only [setsF_cons, setsF_nil, setsO_cons, setsO_nil, List.set_cons_zero, List.set_cons_succ, List.length_cons, List.length_nil, St.put, Nat.zero_add, Nat.reduceAdd, Nat.reduceLT, Nat.lt_irrefl, reduceIte, List.cons_append, List.nil_append]
          simp [WeakE, Weak, setsF, setsO, St.put, leL, leT, leM, leG, leA, leC, leR, leS, leO, tokLt, tokLtL, intV, boolV, leaf, nilA, nilSl]
    · have hdec : decide ((i : Int) < (l.length : Int)) = false := by simp; omega
      have hix := idxP_none (fun m => n == m) l (fun j hj => hI j (by omega) hj)
      simp only [hix]
      repeat' first | ((with_reducible first | refine cond_split (fun h => ?_) (fun h => ?_) | refine want_split (fun h => ?_) (fun h => ?_)) <;> (try simp only [h])) | (simp only [↓wBA, wBB, wBC, cx_muts, cx_arr, wBD, convA, Nat.reduceBEq, reduceIte, reduceCtorEq, reducePow, reduceAdd, reduceSub, reduceMul, reduceEqDiff, reduceLeDiff, Nat.reduceLT, Int.reduceLT, Int.reduceLE, Int.reduceToNat, ty56_XDa, bu_len, bu_max, bu_min, hdec])
      all_goals refine ret_is (a := _) ?_ rfl rfl
      all_goals simp only [↓wBA, wBB, wBC, cx_muts, cx_arr, wBD, convA, Nat.reduceBEq, reduceIte, reduceCtorEq, reducePow, reduceAdd, reduceSub, reduceMul, reduceEqDiff, reduceLeDiff, Nat.reduceLT, Int.reduceLT, Int.reduceLE, Int.reduceToNat, ty56_XDa]
      all_goals simp_all [resA, resL, resV, leT, leG, leA, leC, leM, leaf, tokLt, tokLtL, intV, boolV, nilA, nilSl]
set_option maxRecDepth 100000 in
set_option maxHeartbeats 4000000 in
theorem acontI (l : List Int) (hl : l.length ≤ 4398046511104) (n : Int) (σ : St) : ACalls Try.prog 36 [.p (nilSl 1 (enI l)), intV .i64 n] σ fun r s => s = σ ∧ r = boolV (l.any fun m => n == m) := by
  refine ACalls.pureF (R := fun r => r = boolV (l.any fun m => n == m)) ?_ rfl σ
  refine acalls_of cx_ok dr_ok Try.func36 (by kernel_rfl) rfl (nt := 7) (rs := [.tmp 4]) rfl rfl ?_
  repeat' first | ((with_reducible first | refine cond_split (fun h => ?_) (fun h => ?_) | refine want_split (fun h => ?_) (fun h => ?_)) <;> (try simp only [h])) | (simp only [↓wBA, wBB, wBC, cx_muts, cx_arr, wBD, convA, Nat.reduceBEq, reduceIte, reduceCtorEq, reducePow, reduceAdd, reduceSub, reduceMul, reduceEqDiff, reduceLeDiff, Nat.reduceLT, Int.reduceLT, Int.reduceLE, Int.reduceToNat, ty36_XDa, bu_len, bu_max, bu_min, idxP_ge]) | ((with_reducible show ACalls _ _ _ _ _); refine (aindexI l hl _ _).mono ?_; rintro _ _ ⟨rfl, rfl⟩)
  all_goals refine ret_is (a := _) ?_ rfl rfl
  all_goals simp only [↓wBA, wBB, wBC, cx_muts, cx_arr, wBD, convA, Nat.reduceBEq, reduceIte, reduceCtorEq, reducePow, reduceAdd, reduceSub, reduceMul, reduceEqDiff, reduceLeDiff, Nat.reduceLT, Int.reduceLT, Int.reduceLE, Int.reduceToNat, ty36_XDa]
  all_goals simp_all [resA, resL, resV, leT, leG, leA, leC, leM, leaf, tokLt, tokLtL, intV, boolV, nilA, nilSl]
/-- The numbers of columns: a step. -/
def tStep (cols : List Tc) (s : List Int × Bool) (n : ByteArray) : List Int × Bool := (s.1 ++ [idxP (isN n) cols], s.2 || decide (idxP (isN n) cols < 0) || s.1.any fun m => idxP (isN n) cols == m)
def tGo (cols : List Tc) (names : List ByteArray) : List Int × Bool := names.foldl (tStep cols) ([], false)
def tgtS (names : List ByteArray) (cols : List Tc) : List Int × Int := if (tGo cols names).2 = true then ([], 32) else ((tGo cols names).1, 0)
theorem tGo_bad (cols : List Tc) : ∀ (l : List ByteArray) (s : List Int × Bool), s.2 = true → (l.foldl (tStep cols) s).2 = true
  | [], s, h => h
  | c :: l, s, h => tGo_bad cols l _ (by simp [tStep, h])
theorem tGo_take (cols : List Tc) (l : List ByteArray) (i : Nat) (h : (tGo cols (l.take i)).2 = true) : (tGo cols l).2 = true := by
  have : l = l.take i ++ l.drop i := (List.take_append_drop i l).symm
  rw [tGo, this, List.foldl_append]
  exact tGo_bad cols _ _ h
theorem tGo_len (cols : List Tc) : ∀ (l : List ByteArray) (s : List Int × Bool), (l.foldl (tStep cols) s).1.length = s.1.length + l.length
  | [], s => by simp
  | c :: l, s => by rw [List.foldl_cons, tGo_len cols l]; simp [tStep]; omega
set_option maxRecDepth 100000 in
set_option maxHeartbeats 8000000 in
theorem atargets (names : List ByteArray) (nm : ByteArray) (cols : List Tc) (hn : names.length ≤ 4398046511104) (hl : cols.length ≤ 4398046511104) (σ : St) : ACalls Try.prog 16 [.p (.sl 1 (enN names)), tbA nm cols] σ fun r s => s = σ ∧ r = .tup [.p (.sl 1 (enI (tgtS names cols).1)), intV .i64 (tgtS names cols).2] := by
  refine ACalls.pureF (R := fun r => r = .tup [.p (.sl 1 (enI (tgtS names cols).1)), intV .i64 (tgtS names cols).2]) ?_ rfl σ
  refine acalls_of cx_ok dr_ok Try.func16 (by kernel_rfl) rfl (nt := 31) (rs := [.tmp 4, .tmp 5]) rfl rfl ?_
  simp only [tbA]
  simp only [↓wBA, wBB, wBC, cx_muts, cx_arr, wBD, convA, Nat.reduceBEq, reduceIte, reduceCtorEq, reducePow, reduceAdd, reduceSub, reduceMul, reduceEqDiff, reduceLeDiff, Nat.reduceLT, Int.reduceLT, Int.reduceLE, Int.reduceToNat, ty16_XDa, enN_len]
  refine awp_loopN (names.length) (fun i => [(6, .nown 1 1 (enI (tGo cols (names.take i)).1)), (12, intV .i64 (i : Nat)), (4, .any), (5, .any), (8, .any), (9, .any), (13, .any), (14, .any), (15, .any), (16, .any), (17, .any), (18, .any), (19, .any), (20, .any), (21, .any), (22, .any), (23, .any), (24, .any), (25, .any), (26, .any), (27, .any), (28, .any), (29, .any), (30, .any), (31, .any)]) (fun i => [(1, .nright 3 (i * 1))]) (fun i => (tGo cols (names.take i)).2 = false) ?_ ?_ ?_
  · rfl
  · skip
    simp only [setsF_cons, setsF_nil, setsO_cons, setsO_nil, List.set_cons_zero, List.set_cons_succ, List.length_cons, List.length_nil, St.put, Nat.zero_add, Nat.reduceAdd, Nat.reduceLT, Nat.lt_irrefl, reduceIte, List.cons_append, List.nil_append]
    simp [WeakE, Weak, setsF, setsO, St.put, leL, leT, leM, leG, leA, leC, leR, leS, leO, tokLt, tokLtL, intV, boolV, leaf, nilA, nilSl, tGo, enI]
  · intro i hi hI
    simp only [setsF_cons, setsF_nil, setsO_cons, setsO_nil, List.set_cons_zero, List.set_cons_succ, List.length_cons, List.length_nil, St.put, Nat.zero_add, Nat.reduceAdd, Nat.reduceLT, Nat.lt_irrefl, reduceIte, List.cons_append, List.nil_append]
    by_cases hlt : i < names.length
    · have hdec : decide ((i : Int) < (names.length : Int)) = true := by simp; omega
      have hi0 : ((0 : Int) ≤ (i : Int)) = True := eq_true (by omega)
      have hw : IntKind.i64.wrap ((i : Int) + 1) = ((i + 1 : Nat) : Int) := by rw [wrap_i64 (by omega) (by omega)]; simp
      have hg := enN_get names i hlt
      have hst : tGo cols (names.take (i + 1)) = tStep cols (tGo cols (names.take i)) names[i] := fold_step _ _ _ _ hlt
      have hbad := tGo_take cols names (i + 1)
      have hfin : (tGo cols names).2 = true → tgtS names cols = ([], 32) := fun h => by unfold tgtS; rw [if_pos h]
      have htl : (tGo cols (names.take i)).1.length = i := by rw [tGo, tGo_len]; simp; omega
      have hF := aidxN names[i] cols hl
      have hC := acontI (tGo cols (names.take i)).1 (by omega)
      have hlim1 : ((i + 1) * 8 ≤ 140737488355328) = True := eq_true (by omega)
      have hlim2 : (i + 1 ≤ maxLen) = True := eq_true (by unfold maxLen; omega)
      repeat' first | ((with_reducible first | refine cond_split (fun h => ?_) (fun h => ?_) | refine want_split (fun h => ?_) (fun h => ?_)) <;> (try simp only [h])) | (simp only [↓wBA, wBB, wBC, cx_muts, cx_arr, wBD, convA, Nat.reduceBEq, reduceIte, reduceCtorEq, reducePow, reduceAdd, reduceSub, reduceMul, reduceEqDiff, reduceLeDiff, Nat.reduceLT, Int.reduceLT, Int.reduceLE, Int.reduceToNat, ty16_XDa, bu_len, bu_max, bu_min, enN_len, hdec, hi0, hg, hw, enI_len, htl, hlim1, hlim2, appendA, srcA, List.length_append]) | ((with_reducible show ACalls _ _ _ _ _); refine (hF _ 2 rfl).mono ?_; rintro _ _ ⟨_, rfl, rfl⟩; simp only [txO]) | ((with_reducible show ACalls _ _ _ _ _); refine ACalls.frzArgs ?_; simp only [frzL, frzA]; refine (hC _ _).mono ?_; rintro _ _ ⟨rfl, rfl⟩)
      · have hb := hbad (by rw [hst]; simp_all [tStep])
        simp only [hfin hb]
        all_goals refine ret_is (a := _) ?_ rfl rfl
        all_goals simp only [↓wBA, wBB, wBC, cx_muts, cx_arr, wBD, convA, Nat.reduceBEq, reduceIte, reduceCtorEq, reducePow, reduceAdd, reduceSub, reduceMul, reduceEqDiff, reduceLeDiff, Nat.reduceLT, Int.reduceLT, Int.reduceLE, Int.reduceToNat, ty16_XDa]
        all_goals simp_all [resA, resL, resV, leT, leG, leA, leC, leM, leaf, tokLt, tokLtL, intV, boolV, nilA, nilSl, enI]
      · skip
        refine ⟨⟨i + 1, by omega, ?_⟩, by show names.length - (i + 1) < names.length - i; omega, ?_⟩
        · rw [hst]; simp_all [tStep]
        · simp only [hst, tStep]
          simp [WeakE, Weak, setsF, setsO, St.put, leL, leT, leM, leG, leA, leC, leR, leS, leO, tokLt, tokLtL, intV, boolV, leaf, nilA, nilSl, enI]
      · have hb := hbad (by rw [hst]; simp_all [tStep])
        simp only [hfin hb]
        all_goals refine ret_is (a := _) ?_ rfl rfl
        all_goals simp only [↓wBA, wBB, wBC, cx_muts, cx_arr, wBD, convA, Nat.reduceBEq, reduceIte, reduceCtorEq, reducePow, reduceAdd, reduceSub, reduceMul, reduceEqDiff, reduceLeDiff, Nat.reduceLT, Int.reduceLT, Int.reduceLE, Int.reduceToNat, ty16_XDa]
        all_goals simp_all [resA, resL, resV, leT, leG, leA, leC, leM, leaf, tokLt, tokLtL, intV, boolV, nilA, nilSl, enI]
    · have hdec : decide ((i : Int) < (names.length : Int)) = false := by simp; omega
      have ht : names.take i = names := List.take_of_length_le (by omega)
      rw [ht] at hI
      simp only [ht]
      repeat' first | ((with_reducible first | refine cond_split (fun h => ?_) (fun h => ?_) | refine want_split (fun h => ?_) (fun h => ?_)) <;> (try simp only [h])) | (simp only [↓wBA, wBB, wBC, cx_muts, cx_arr, wBD, convA, Nat.reduceBEq, reduceIte, reduceCtorEq, reducePow, reduceAdd, reduceSub, reduceMul, reduceEqDiff, reduceLeDiff, Nat.reduceLT, Int.reduceLT, Int.reduceLE, Int.reduceToNat, ty16_XDa, bu_len, bu_max, bu_min, hdec])
      all_goals refine ret_is (a := _) ?_ rfl rfl
      all_goals simp only [↓wBA, wBB, wBC, cx_muts, cx_arr, wBD, convA, Nat.reduceBEq, reduceIte, reduceCtorEq, reducePow, reduceAdd, reduceSub, reduceMul, reduceEqDiff, reduceLeDiff, Nat.reduceLT, Int.reduceLT, Int.reduceLE, Int.reduceToNat, ty16_XDa]
      all_goals simp_all [resA, resL, resV, leT, leG, leA, leC, leM, leaf, tokLt, tokLtL, intV, boolV, nilA, nilSl, tgtS]
end Go.Proofs.Ytcnkmandddfdmaa
namespace Go.Proofs.Ytcnkmandddfdmaa
open Go.RowKit
open Nat (reducePow reduceAdd reduceSub reduceMul reduceEqDiff reduceLeDiff)
def pl37_3_XBd : Plan := (.det 0 (.det 1 (.det 2 (.det 3 (.det 4 (.act 5 (.det 6 .done)))))))
def pl37_6_XBd : Plan := (.det 0 (.det 1 (.det 2 (.det 3 (.det 4 (.det 5 (.det 6 (.det 7 (.act 8 (.det 9 (.det 10 .done)))))))))))
def pl37_13_XBd : Plan := (.det 0 (.det 1 (.det 2 (.det 3 (.det 4 (.det 5 (.det 6 (.act 7 (.det 8 (.det 9 .done))))))))))
theorem ty37_XBd : (type_of% ck_3) ∧ (type_of% cx_3) ∧ (type_of% ck_4) ∧ (type_of% cx_4) ∧ (type_of% ck_9) ∧ (type_of% cx_9) ∧ (type_of% ck_33) ∧ (type_of% cx_33) ∧ (type_of% @ks_33) ∧ (type_of% @ko_33) ∧ (type_of% @kn_33) ∧ (type_of% kz_33) ∧ (type_of% ck_40) ∧ (type_of% cx_40) ∧ (type_of% ck_50) ∧ (type_of% cx_50) ∧ (type_of% ce_50) ∧ (type_of% ck_61) ∧ (type_of% cx_61) ∧ (type_of% @ks_61) ∧ (type_of% @ko_61) ∧ (type_of% @kn_61) ∧ (type_of% kz_61) ∧ (type_of% ck_66) ∧ (type_of% cx_66) ∧ (type_of% @ks_66) ∧ (type_of% @ko_66) ∧ (type_of% @kn_66) ∧ (type_of% kz_66) ∧ (type_of% ck_86) ∧ (type_of% cx_86) ∧ (type_of% ck_93) ∧ (type_of% cx_93) ∧ (type_of% ce_93) := ⟨ck_3, cx_3, ck_4, cx_4, ck_9, cx_9, ck_33, cx_33, @ks_33, @ko_33, @kn_33, kz_33, ck_40, cx_40, ck_50, cx_50, ce_50, ck_61, cx_61, @ks_61, @ko_61, @kn_61, kz_61, ck_66, cx_66, @ks_66, @ko_66, @kn_66, kz_66, ck_86, cx_86, ck_93, cx_93, ce_93⟩
/-- What an expression is bound as: an expression, its type, an error. -/
abbrev BR := Ex × Int × Int
def bErr (e : Int) : BR := (ex0, 0, e)
mutual
def bndS (cols : List Bc) : Ex → BR
  | .mk k vk vn vs tb nm s kids =>
    if aggB k = true then bErr 33
    else if (kids.length : Int) ≠ kidsB k then bErr 1
    else if k = 1 then (if okV (vk, vn, vs) = true then (.mk 1 vk vn vs emp emp 0 [], vk, 0) else bErr 1)
    else if k = 2 then (if (findS tb nm cols).2 ≠ 0 then bErr (findS tb nm cols).2 else (.mk 24 0 0 emp emp emp (findS tb nm cols).1 [], (cols.getD (findS tb nm cols).1.toNat (emp, emp, 0)).2.2, 0))
    else if (bndL cols kids).2.2 ≠ 0 then bErr (bndL cols kids).2.2
    else if (typedS k (bndL cols kids).2.1).2 = false then bErr 33
    else (.mk k 0 0 emp emp emp 0 (bndL cols kids).1, (typedS k (bndL cols kids).2.1).1, 0)
/-- All of them, or the first error. -/
def bndL (cols : List Bc) : List Ex → List Ex × List Int × Int
  | [] => ([], [], 0)
  | x :: l => if (bndS cols x).2.2 ≠ 0 then ([], [], (bndS cols x).2.2) else ((bndS cols x).1 :: (bndL cols l).1, (bndS cols x).2.1 :: (bndL cols l).2.1, (bndL cols l).2.2)
end
def BindOK (cols : List Bc) (x : Ex) : Prop := ∀ σ, ACalls Try.prog 37 [exA x, .p (.sl 3 (enBc cols))] σ fun r s => s = σ ∧ r = .tup [exA (bndS cols x).1, intV .i64 (bndS cols x).2.1, intV .i64 (bndS cols x).2.2]
theorem bndL_bad (cols : List Bc) : ∀ (l : List Ex) (i : Nat) (h : i < l.length), (∀ j (hj : j < i), (bndS cols (l[j]'(by omega))).2.2 = 0) → (bndS cols l[i]).2.2 ≠ 0 → (bndL cols l).2.2 = (bndS cols l[i]).2.2
  | [], i, h, _, _ => by simp at h
  | x :: l, 0, h, _, h2 => by simp only [bndL, List.getElem_cons_zero] at h2 ⊢; rw [if_pos h2]
  | x :: l, i + 1, h, h1, h2 => by
    have h0 := h1 0 (by omega)
    simp only [List.getElem_cons_zero] at h0
    simp only [bndL, List.getElem_cons_succ] at h2 ⊢
    rw [if_neg (by simp [h0])]
    exact bndL_bad cols l i (by simpa using h) (fun j hj => by have := h1 (j + 1) (by omega); simpa using this) h2
theorem bndL_ok (cols : List Bc) : ∀ (l : List Ex), (∀ j (hj : j < l.length), (bndS cols l[j]).2.2 = 0) → bndL cols l = (l.map fun x => (bndS cols x).1, l.map fun x => (bndS cols x).2.1, 0)
  | [], _ => rfl
  | x :: l, h => by
    have h0 := h 0 (by simp)
    simp only [List.getElem_cons_zero] at h0
    have ih := bndL_ok cols l fun j hj => by have := h (j + 1) (by simpa using hj); simpa using this
    simp only [bndL, h0, ih, ne_eq, not_true_eq_false, if_false, List.map_cons]
theorem exL_at : ∀ (l : List Ex) (i : Nat) (h : i < l.length), (exL l)[i]? = some (exC l[i])
  | [], i, h => by simp at h
  | x :: l, 0, h => by simp [exL]
  | x :: l, i + 1, h => by simp only [exL, List.getElem?_cons_succ, List.getElem_cons_succ]; exact exL_at l i (by simpa using h)
theorem exC_mk (x : Ex) : ∃ a b c d e f g h, exC x = [.v (.int .i64 a), .v (.int .i64 b), .v (.int .i64 c), .v (.string d), .v (.string e), .v (.string f), .v (.int .i64 g), .sl 8 h] := by
  obtain ⟨a, b, c, d, e, f, g, h⟩ := x
  exact ⟨_, _, _, _, _, _, _, _, rfl⟩
def zsF (cols : List Bc) (l : List Ex) : List Ex := l.map fun x => (bndS cols x).1
def tsF (cols : List Bc) (l : List Ex) : List Int := l.map fun x => (bndS cols x).2.1
theorem zsF_len (cols : List Bc) (l : List Ex) : (zsF cols l).length = l.length := by simp [zsF]
theorem tsF_len (cols : List Bc) (l : List Ex) : (tsF cols l).length = l.length := by simp [tsF]
theorem zsF_succ (cols : List Bc) (l : List Ex) (i : Nat) (h : i < l.length) : exL (zsF cols (l.take (i + 1))) = exL (zsF cols (l.take i)) ++ [exC (bndS cols l[i]).1] := by
  rw [List.take_succ_eq_append_getElem h, zsF, List.map_append, exL_app]; rfl
theorem tsF_succ (cols : List Bc) (l : List Ex) (i : Nat) (h : i < l.length) : enI (tsF cols (l.take (i + 1))) = enI (tsF cols (l.take i)) ++ [[.v (.int .i64 (bndS cols l[i]).2.1)]] := by
  rw [List.take_succ_eq_append_getElem h, tsF, enI, List.map_append, List.map_append]; rfl
theorem nilSl_ne (e : Nat) (l : List (List PV)) (h : l ≠ []) : nilSl e l = .sl e l := by
  cases l with
  | nil => exact (h rfl).elim
  | cons x l => rfl
theorem exA_mk (x : Ex) : ∃ a b c d e f g h, exA x = .agg [.p (.v (.int .i64 a)), .p (.v (.int .i64 b)), .p (.v (.int .i64 c)), .p (.v (.string d)), .p (.v (.string e)), .p (.v (.string f)), .p (.v (.int .i64 g)), .p (.sl 8 h)] := by
  obtain ⟨a, b, c, d, e, f, g, h⟩ := x
  exact ⟨_, _, _, _, _, _, _, _, rfl⟩
set_option maxRecDepth 100000 in
set_option maxHeartbeats 16000000 in
theorem bind_of (cols : List Bc) (hc : cols.length ≤ 4398046511104) (k vk vn : Int) (vs tb nm : ByteArray) (s : Int) (kids : List Ex) (ih : ∀ y ∈ kids, BindOK cols y) : BindOK cols (.mk k vk vn vs tb nm s kids) := by
  intro σ
  refine ACalls.pureF (R := fun r => r = .tup [exA (bndS cols (.mk k vk vn vs tb nm s kids)).1, intV .i64 (bndS cols (.mk k vk vn vs tb nm s kids)).2.1, intV .i64 (bndS cols (.mk k vk vn vs tb nm s kids)).2.2]) ?_ rfl σ
  refine acalls_of cx_ok dr_ok Try.func37 (by kernel_rfl) rfl (nt := 118) (rs := [.cell 4 86, .tmp 5, .tmp 6]) rfl rfl ?_
  simp only [exA, exC, List.map_cons, List.map_nil, bndS]
  by_cases hagg : aggB k = true
  · simp only [hagg, if_true]
    repeat' first | ((with_reducible first | refine cond_split (fun h => ?_) (fun h => ?_) | refine want_split (fun h => ?_) (fun h => ?_)) <;> (try simp only [h])) | (simp only [↓wBA, wBB, wBC, cx_muts, cx_arr, wBD, convA, Nat.reduceBEq, reduceIte, reduceCtorEq, reducePow, reduceAdd, reduceSub, reduceMul, reduceEqDiff, reduceLeDiff, Nat.reduceLT, Int.reduceLT, Int.reduceLE, Int.reduceToNat, ty37_XBd, bu_len, bu_max, bu_min, pl37_3_XBd, pl37_6_XBd, pl37_13_XBd, hagg]) | ((with_reducible show ACalls _ _ _ _ _); refine (aaggB _ _).mono ?_; rintro _ _ ⟨rfl, rfl⟩; simp only [hagg]) | (with_reducible refine draw_plan pl37_3_XBd 7 (some 22) (by decide) (by decide) (by kernel_rfl) (by kernel_rfl) ?_) | (with_reducible refine draw_plan pl37_6_XBd 11 (some 39) (by decide) (by decide) (by kernel_rfl) (by kernel_rfl) ?_) | (with_reducible refine draw_plan pl37_13_XBd 10 (some 69) (by decide) (by decide) (by kernel_rfl) (by kernel_rfl) ?_) | ((with_reducible first | refine wantD_split (fun h => ?_) (fun h => ?_) | refine wantU_split (fun h => ?_) (fun h => ?_)) <;> (try simp only [h])) | (with_reducible refine And.intro ?_ ?_)
    all_goals refine ret_is (a := _) ?_ rfl rfl
    all_goals simp only [↓wBA, wBB, wBC, cx_muts, cx_arr, wBD, convA, Nat.reduceBEq, reduceIte, reduceCtorEq, reducePow, reduceAdd, reduceSub, reduceMul, reduceEqDiff, reduceLeDiff, Nat.reduceLT, Int.reduceLT, Int.reduceLE, Int.reduceToNat, ty37_XBd]
    all_goals simp_all [resA, resL, resV, leT, leG, leA, leC, leM, leaf, tokLt, tokLtL, intV, boolV, nilA, nilSl, bErr, ex0, exC, exL, emp]
  · have hagg' : aggB k = false := by simpa using hagg
    simp only [hagg', Bool.false_eq_true, if_false]
    by_cases hkn : (kids.length : Int) = kidsB k
    · have hd : ((kids.length : Int) != kidsB k) = false := by simp [hkn]
      rw [if_neg (by simpa using hkn)]
      have hkl : kids.length ≤ 2 := by have : kidsB k ≤ 2 := by unfold kidsB; split <;> (try split) <;> (try split) <;> omega
                                       omega
      by_cases h1 : k = 1
      · subst h1
        simp only [if_true]
        repeat' first | ((with_reducible first | refine cond_split (fun h => ?_) (fun h => ?_) | refine want_split (fun h => ?_) (fun h => ?_)) <;> (try simp only [h])) | (simp only [↓wBA, wBB, wBC, cx_muts, cx_arr, wBD, convA, Nat.reduceBEq, reduceIte, reduceCtorEq, reducePow, reduceAdd, reduceSub, reduceMul, reduceEqDiff, reduceLeDiff, Nat.reduceLT, Int.reduceLT, Int.reduceLE, Int.reduceToNat, ty37_XBd, bu_len, bu_max, bu_min, pl37_3_XBd, pl37_6_XBd, pl37_13_XBd, exL_len, hd, Int.reduceBEq]) | ((with_reducible show ACalls _ _ _ _ _); refine (aaggB _ _).mono ?_; rintro _ _ ⟨rfl, rfl⟩; simp only [hagg']) | ((with_reducible show ACalls _ _ _ _ _); refine (akidsB _ _).mono ?_; rintro _ _ ⟨rfl, rfl⟩) | ((with_reducible show ACalls _ _ _ _ _); refine (aokV (_, _, _) _).mono ?_; rintro _ _ ⟨rfl, rfl⟩) | (with_reducible refine draw_plan pl37_3_XBd 7 (some 22) (by decide) (by decide) (by kernel_rfl) (by kernel_rfl) ?_) | (with_reducible refine draw_plan pl37_6_XBd 11 (some 39) (by decide) (by decide) (by kernel_rfl) (by kernel_rfl) ?_) | (with_reducible refine draw_plan pl37_13_XBd 10 (some 69) (by decide) (by decide) (by kernel_rfl) (by kernel_rfl) ?_) | ((with_reducible first | refine wantD_split (fun h => ?_) (fun h => ?_) | refine wantU_split (fun h => ?_) (fun h => ?_)) <;> (try simp only [h])) | (with_reducible refine And.intro ?_ ?_)
        all_goals refine ret_is (a := _) ?_ rfl rfl
        all_goals simp only [↓wBA, wBB, wBC, cx_muts, cx_arr, wBD, convA, Nat.reduceBEq, reduceIte, reduceCtorEq, reducePow, reduceAdd, reduceSub, reduceMul, reduceEqDiff, reduceLeDiff, Nat.reduceLT, Int.reduceLT, Int.reduceLE, Int.reduceToNat, ty37_XBd]
        all_goals simp_all [resA, resL, resV, leT, leG, leA, leC, leM, leaf, tokLt, tokLtL, intV, boolV, nilA, nilSl, bErr, ex0, exC, exL, emp]
      · have h1' : (k == 1) = false := by simpa using h1
        rw [if_neg h1]
        by_cases h2 : k = 2
        · subst h2
          simp only [if_true]
          by_cases hf : (findS tb nm cols).2 = 0
          · obtain ⟨hf1, hf2⟩ := findS_lt hf
            have hg := enBc_get cols _ hf2
            have hge : cols.getD (findS tb nm cols).1.toNat (emp, emp, 0) = cols[(findS tb nm cols).1.toNat] := by simp [List.getD, hf2]
            rw [if_neg (by simpa using hf)]
            have hfd : ((findS tb nm cols).2 != 0) = false := by simp [hf]
            have hi0 : ((0 : Int) ≤ (findS tb nm cols).1) = True := eq_true hf1
            rw [hge]
            rcases hcc : cols[(findS tb nm cols).1.toNat] with ⟨c1, c2, c3⟩
            rw [hcc] at hg
            simp only [bcC] at hg
            repeat' first | ((with_reducible first | refine cond_split (fun h => ?_) (fun h => ?_) | refine want_split (fun h => ?_) (fun h => ?_)) <;> (try simp only [h])) | (simp only [↓wBA, wBB, wBC, cx_muts, cx_arr, wBD, convA, Nat.reduceBEq, reduceIte, reduceCtorEq, reducePow, reduceAdd, reduceSub, reduceMul, reduceEqDiff, reduceLeDiff, Nat.reduceLT, Int.reduceLT, Int.reduceLE, Int.reduceToNat, ty37_XBd, bu_len, bu_max, bu_min, pl37_3_XBd, pl37_6_XBd, pl37_13_XBd, exL_len, hd, Int.reduceBEq, hfd, hi0, hg]) | ((with_reducible show ACalls _ _ _ _ _); refine (aaggB _ _).mono ?_; rintro _ _ ⟨rfl, rfl⟩; simp only [hagg']) | ((with_reducible show ACalls _ _ _ _ _); refine (akidsB _ _).mono ?_; rintro _ _ ⟨rfl, rfl⟩) | ((with_reducible show ACalls _ _ _ _ _); refine (afind0 _ _ _ hc _).mono ?_; rintro _ _ ⟨rfl, rfl⟩) | (with_reducible refine draw_plan pl37_3_XBd 7 (some 22) (by decide) (by decide) (by kernel_rfl) (by kernel_rfl) ?_) | (with_reducible refine draw_plan pl37_6_XBd 11 (some 39) (by decide) (by decide) (by kernel_rfl) (by kernel_rfl) ?_) | (with_reducible refine draw_plan pl37_13_XBd 10 (some 69) (by decide) (by decide) (by kernel_rfl) (by kernel_rfl) ?_) | ((with_reducible first | refine wantD_split (fun h => ?_) (fun h => ?_) | refine wantU_split (fun h => ?_) (fun h => ?_)) <;> (try simp only [h])) | (with_reducible refine And.intro ?_ ?_)
            all_goals refine ret_is (a := _) ?_ rfl rfl
            all_goals simp only [↓wBA, wBB, wBC, cx_muts, cx_arr, wBD, convA, Nat.reduceBEq, reduceIte, reduceCtorEq, reducePow, reduceAdd, reduceSub, reduceMul, reduceEqDiff, reduceLeDiff, Nat.reduceLT, Int.reduceLT, Int.reduceLE, Int.reduceToNat, ty37_XBd]
            all_goals simp_all [resA, resL, resV, leT, leG, leA, leC, leM, leaf, tokLt, tokLtL, intV, boolV, nilA, nilSl, bErr, ex0, exC, exL, emp]
          · rw [if_pos hf]
            have hfd : ((findS tb nm cols).2 != 0) = true := by simpa using hf
            repeat' first | ((with_reducible first | refine cond_split (fun h => ?_) (fun h => ?_) | refine want_split (fun h => ?_) (fun h => ?_)) <;> (try simp only [h])) | (simp only [↓wBA, wBB, wBC, cx_muts, cx_arr, wBD, convA, Nat.reduceBEq, reduceIte, reduceCtorEq, reducePow, reduceAdd, reduceSub, reduceMul, reduceEqDiff, reduceLeDiff, Nat.reduceLT, Int.reduceLT, Int.reduceLE, Int.reduceToNat, ty37_XBd, bu_len, bu_max, bu_min, pl37_3_XBd, pl37_6_XBd, pl37_13_XBd, exL_len, hd, Int.reduceBEq, hfd]) | ((with_reducible show ACalls _ _ _ _ _); refine (aaggB _ _).mono ?_; rintro _ _ ⟨rfl, rfl⟩; simp only [hagg']) | ((with_reducible show ACalls _ _ _ _ _); refine (akidsB _ _).mono ?_; rintro _ _ ⟨rfl, rfl⟩) | ((with_reducible show ACalls _ _ _ _ _); refine (afind0 _ _ _ hc _).mono ?_; rintro _ _ ⟨rfl, rfl⟩) | (with_reducible refine draw_plan pl37_3_XBd 7 (some 22) (by decide) (by decide) (by kernel_rfl) (by kernel_rfl) ?_) | (with_reducible refine draw_plan pl37_6_XBd 11 (some 39) (by decide) (by decide) (by kernel_rfl) (by kernel_rfl) ?_) | (with_reducible refine draw_plan pl37_13_XBd 10 (some 69) (by decide) (by decide) (by kernel_rfl) (by kernel_rfl) ?_) | ((with_reducible first | refine wantD_split (fun h => ?_) (fun h => ?_) | refine wantU_split (fun h => ?_) (fun h => ?_)) <;> (try simp only [h])) | (with_reducible refine And.intro ?_ ?_)
            all_goals refine ret_is (a := _) ?_ rfl rfl
            all_goals simp only [↓wBA, wBB, wBC, cx_muts, cx_arr, wBD, convA, Nat.reduceBEq, reduceIte, reduceCtorEq, reducePow, reduceAdd, reduceSub, reduceMul, reduceEqDiff, reduceLeDiff, Nat.reduceLT, Int.reduceLT, Int.reduceLE, Int.reduceToNat, ty37_XBd]
            all_goals simp_all [resA, resL, resV, leT, leG, leA, leC, leM, leaf, tokLt, tokLtL, intV, boolV, nilA, nilSl, bErr, ex0, exC, exL, emp]
        · have h2' : (k == 2) = false := by simpa using h2
          rw [if_neg h2]
          have hk2 : 1 ≤ kids.length ∧ ((2 ≤ kids.length) ∨ k = 3 ∨ k = 4 ∨ k = 18 ∨ k = 19) := by
            unfold kidsB at hkn
            rw [if_neg (by omega)] at hkn
            split at hkn
            · omega
            · split at hkn <;> omega
          clear hkn
          simp only [↓wBA, wBB, wBC, cx_muts, cx_arr, wBD, convA, Nat.reduceBEq, reduceIte, reduceCtorEq, reducePow, reduceAdd, reduceSub, reduceMul, reduceEqDiff, reduceLeDiff, Nat.reduceLT, Int.reduceLT, Int.reduceLE, Int.reduceToNat, ty37_XBd, exL_len]
          refine (aaggB _ _).mono ?_
          rintro _ _ ⟨rfl, rfl⟩
          simp only [hagg']
          repeat' first | ((with_reducible first | refine cond_split (fun h => ?_) (fun h => ?_) | refine want_split (fun h => ?_) (fun h => ?_)) <;> (try simp only [h])) | (simp only [↓wBA, wBB, wBC, cx_muts, cx_arr, wBD, convA, Nat.reduceBEq, reduceIte, reduceCtorEq, reducePow, reduceAdd, reduceSub, reduceMul, reduceEqDiff, reduceLeDiff, Nat.reduceLT, Int.reduceLT, Int.reduceLE, Int.reduceToNat, ty37_XBd, bu_len, bu_max, bu_min, pl37_3_XBd, pl37_6_XBd, pl37_13_XBd, exL_len, hd, h1', h2']) | ((with_reducible show ACalls _ _ _ _ _); refine (akidsB _ _).mono ?_; rintro _ _ ⟨rfl, rfl⟩) | (with_reducible refine draw_plan pl37_3_XBd 7 (some 22) (by decide) (by decide) (by kernel_rfl) (by kernel_rfl) ?_) | (with_reducible refine draw_plan pl37_6_XBd 11 (some 39) (by decide) (by decide) (by kernel_rfl) (by kernel_rfl) ?_) | (with_reducible refine draw_plan pl37_13_XBd 10 (some 69) (by decide) (by decide) (by kernel_rfl) (by kernel_rfl) ?_) | ((with_reducible first | refine wantD_split (fun h => ?_) (fun h => ?_) | refine wantU_split (fun h => ?_) (fun h => ?_)) <;> (try simp only [h])) | (with_reducible refine And.intro ?_ ?_)
          refine awp_loopN (kids.length) (fun i => [(10, .nown 4 1 (enI (tsF cols (kids.take i)))), (82, intV .i64 (i : Nat)), (5, .any), (6, .any), (12, .any), (13, .any), (14, .any), (15, .any), (83, .any), (84, .any), (85, .any), (86, .any), (87, .any), (88, .any), (89, .any), (90, .any), (91, .any), (92, .any), (93, .any), (94, .any), (95, .any), (96, .any), (97, .any), (98, .any), (99, .any), (100, .any), (101, .any), (102, .any), (103, .any), (104, .any), (105, .any), (106, .any), (107, .any)]) (fun i => [(2, .row 8 [[.p (.v (.int .i64 k)), .p (.v (.int .i64 0)), .p (.v (.int .i64 0)), .p (.v (.string emp)), .p (.v (.string emp)), .p (.v (.string emp)), .p (.v (.int .i64 0)), .nown 3 8 (exL (zsF cols (kids.take i)))]]), (3, .nright 86 (i * 8)), (4, .nright 3 (i * 1))]) (fun i => ∀ j (hj : j < i) (hj' : j < kids.length), (bndS cols kids[j]).2.2 = 0) ?_ ?_ ?_
          · intro j hj; omega
          · skip
            simp only [setsF_cons, setsF_nil, setsO_cons, setsO_nil, List.set_cons_zero, List.set_cons_succ, List.length_cons, List.length_nil, St.put, Nat.zero_add, Nat.reduceAdd, Nat.reduceLT, Nat.lt_irrefl, reduceIte, List.cons_append, List.nil_append]
            simp [WeakE, Weak, setsF, setsO, St.put, leL, leT, leM, leG, leA, leC, leR, leS, leO, tokLt, tokLtL, intV, boolV, leaf, nilA, nilSl, zsF, tsF, exL, enI, emp]
          · intro i hi hI
            simp only [setsF_cons, setsF_nil, setsO_cons, setsO_nil, List.set_cons_zero, List.set_cons_succ, List.length_cons, List.length_nil, St.put, Nat.zero_add, Nat.reduceAdd, Nat.reduceLT, Nat.lt_irrefl, reduceIte, List.cons_append, List.nil_append]
            by_cases hlt : i < kids.length
            · have hdec : decide ((i : Int) < (kids.length : Int)) = true := by simp; omega
              have hi0 : ((0 : Int) ≤ (i : Int)) = True := eq_true (by omega)
              have hw : IntKind.i64.wrap ((i : Int) + 1) = ((i + 1 : Nat) : Int) := by rw [wrap_i64 (by omega) (by omega)]; simp
              have hg := exL_at kids i hlt
              have ihi := ih kids[i] (List.getElem_mem hlt)
              have hz1 := zsF_succ cols kids i hlt
              have ht1 := tsF_succ cols kids i hlt
              have hzl : (exL (zsF cols (kids.take i))).length = i := by rw [exL_len, zsF_len]; simp; omega
              have htl : (enI (tsF cols (kids.take i))).length = i := by rw [enI_len, tsF_len]; simp; omega
              obtain ⟨a1, a2, a3, a4, a5, a6, a7, a8, hz⟩ := exC_mk (bndS cols kids[i]).1
              have hbad := bndL_bad cols kids i hlt (fun j hj => hI j hj (by omega))
              have hlim1 : ((i + 1) * 104 ≤ 140737488355328) = True := eq_true (by omega)
              have hlim2 : (i + 1 ≤ maxLen) = True := eq_true (by unfold maxLen; omega)
              have hlim3 : ((i + 1) * 8 ≤ 140737488355328) = True := eq_true (by omega)
              rw [hz] at hz1
              generalize hte : (bndS cols kids[i]).2.2 = te at *
              generalize htt : (bndS cols kids[i]).2.1 = tt at *
              simp only [BindOK, exA, hz, List.map_cons, List.map_nil, hte, htt] at ihi
              repeat' first | ((with_reducible first | refine cond_split (fun h => ?_) (fun h => ?_) | refine want_split (fun h => ?_) (fun h => ?_)) <;> (try simp only [h])) | (simp only [↓wBA, wBB, wBC, cx_muts, cx_arr, wBD, convA, Nat.reduceBEq, reduceIte, reduceCtorEq, reducePow, reduceAdd, reduceSub, reduceMul, reduceEqDiff, reduceLeDiff, Nat.reduceLT, Int.reduceLT, Int.reduceLE, Int.reduceToNat, ty37_XBd, bu_len, bu_max, bu_min, pl37_3_XBd, pl37_6_XBd, pl37_13_XBd, exL_len, hdec, hi0, hg, hw, hzl, htl, hlim1, hlim2, hlim3, appendA, srcA, List.length_append, exC_len, List.length_map]) | ((with_reducible show ACalls _ _ _ _ _); refine (ihi _).mono ?_; rintro _ _ ⟨rfl, rfl⟩) | (with_reducible refine draw_plan pl37_3_XBd 7 (some 22) (by decide) (by decide) (by kernel_rfl) (by kernel_rfl) ?_) | (with_reducible refine draw_plan pl37_6_XBd 11 (some 39) (by decide) (by decide) (by kernel_rfl) (by kernel_rfl) ?_) | (with_reducible refine draw_plan pl37_13_XBd 10 (some 69) (by decide) (by decide) (by kernel_rfl) (by kernel_rfl) ?_) | ((with_reducible first | refine wantD_split (fun h => ?_) (fun h => ?_) | refine wantU_split (fun h => ?_) (fun h => ?_)) <;> (try simp only [h])) | (with_reducible refine And.intro ?_ ?_)
              · have hne : ¬ te = 0 := by simpa using h
                have hb := hbad hne
                simp only [hb, hne, ne_eq, not_false_eq_true, if_true]
                all_goals refine ret_is (a := _) ?_ rfl rfl
                all_goals simp only [↓wBA, wBB, wBC, cx_muts, cx_arr, wBD, convA, Nat.reduceBEq, reduceIte, reduceCtorEq, reducePow, reduceAdd, reduceSub, reduceMul, reduceEqDiff, reduceLeDiff, Nat.reduceLT, Int.reduceLT, Int.reduceLE, Int.reduceToNat, ty37_XBd]
                all_goals simp_all [resA, resL, resV, leT, leG, leA, leC, leM, leaf, tokLt, tokLtL, intV, boolV, nilA, nilSl, bErr, ex0, exC, exL, emp]
              · have he0 : te = 0 := by simpa using h
                refine ⟨⟨i + 1, by omega, ?_⟩, by show kids.length - (i + 1) < kids.length - i; omega, ?_⟩
                · intro j hj hj'
                  by_cases e : j = i
                  · subst e; rw [hte]; exact he0
                  · exact hI j (by omega) hj'
                · simp only [hz1, ht1]
                  simp [WeakE, Weak, setsF, setsO, St.put, leL, leT, leM, leG, leA, leC, leR, leS, leO, tokLt, tokLtL, intV, boolV, leaf, nilA, nilSl]
            · have hdec : decide ((i : Int) < (kids.length : Int)) = false := by simp; omega
              have ht : kids.take i = kids := List.take_of_length_le (by omega)
              have hie : i = kids.length := by omega
              have hok : bndL cols kids = (zsF cols kids, tsF cols kids, 0) := bndL_ok cols kids (fun j hj => hI j (by omega) hj)
              rw [hok]
              simp only [ht, ne_eq, not_true_eq_false, if_false]
              have hne : nilSl 1 (enI (tsF cols kids)) = .sl 1 (enI (tsF cols kids)) := nilSl_ne _ _ (by intro h; have := congrArg List.length h; rw [enI_len, tsF_len, List.length_nil] at this; omega)
              have hT := atyped k (tsF cols kids) (by rw [tsF_len]; omega) (by rw [tsF_len]; exact hk2.2)
              rcases hty : typedS k (tsF cols kids) with ⟨t, ok⟩
              simp only [hty] at hT
              cases ok
              all_goals simp only [if_true, Bool.true_eq_false, if_false]
              · skip
                repeat' first | ((with_reducible first | refine cond_split (fun h => ?_) (fun h => ?_) | refine want_split (fun h => ?_) (fun h => ?_)) <;> (try simp only [h])) | (simp only [↓wBA, wBB, wBC, cx_muts, cx_arr, wBD, convA, Nat.reduceBEq, reduceIte, reduceCtorEq, reducePow, reduceAdd, reduceSub, reduceMul, reduceEqDiff, reduceLeDiff, Nat.reduceLT, Int.reduceLT, Int.reduceLE, Int.reduceToNat, ty37_XBd, bu_len, bu_max, bu_min, pl37_3_XBd, pl37_6_XBd, pl37_13_XBd, exL_len, hdec]) | ((with_reducible show ACalls _ _ _ _ _); refine ACalls.frzArgs ?_; simp only [frzL, frzA, hne]; refine (hT _).mono ?_; rintro _ _ ⟨rfl, rfl⟩) | (with_reducible refine draw_plan pl37_3_XBd 7 (some 22) (by decide) (by decide) (by kernel_rfl) (by kernel_rfl) ?_) | (with_reducible refine draw_plan pl37_6_XBd 11 (some 39) (by decide) (by decide) (by kernel_rfl) (by kernel_rfl) ?_) | (with_reducible refine draw_plan pl37_13_XBd 10 (some 69) (by decide) (by decide) (by kernel_rfl) (by kernel_rfl) ?_) | ((with_reducible first | refine wantD_split (fun h => ?_) (fun h => ?_) | refine wantU_split (fun h => ?_) (fun h => ?_)) <;> (try simp only [h])) | (with_reducible refine And.intro ?_ ?_)
                all_goals refine ret_is (a := _) ?_ rfl rfl
                all_goals simp only [↓wBA, wBB, wBC, cx_muts, cx_arr, wBD, convA, Nat.reduceBEq, reduceIte, reduceCtorEq, reducePow, reduceAdd, reduceSub, reduceMul, reduceEqDiff, reduceLeDiff, Nat.reduceLT, Int.reduceLT, Int.reduceLE, Int.reduceToNat, ty37_XBd]
                all_goals simp_all [resA, resL, resV, leT, leG, leA, leC, leM, leaf, tokLt, tokLtL, intV, boolV, nilA, nilSl, bErr, ex0, exC, exL, emp]
              · skip
                repeat' first | ((with_reducible first | refine cond_split (fun h => ?_) (fun h => ?_) | refine want_split (fun h => ?_) (fun h => ?_)) <;> (try simp only [h])) | (simp only [↓wBA, wBB, wBC, cx_muts, cx_arr, wBD, convA, Nat.reduceBEq, reduceIte, reduceCtorEq, reducePow, reduceAdd, reduceSub, reduceMul, reduceEqDiff, reduceLeDiff, Nat.reduceLT, Int.reduceLT, Int.reduceLE, Int.reduceToNat, ty37_XBd, bu_len, bu_max, bu_min, pl37_3_XBd, pl37_6_XBd, pl37_13_XBd, exL_len, hdec]) | ((with_reducible show ACalls _ _ _ _ _); refine ACalls.frzArgs ?_; simp only [frzL, frzA, hne]; refine (hT _).mono ?_; rintro _ _ ⟨rfl, rfl⟩) | (with_reducible refine draw_plan pl37_3_XBd 7 (some 22) (by decide) (by decide) (by kernel_rfl) (by kernel_rfl) ?_) | (with_reducible refine draw_plan pl37_6_XBd 11 (some 39) (by decide) (by decide) (by kernel_rfl) (by kernel_rfl) ?_) | (with_reducible refine draw_plan pl37_13_XBd 10 (some 69) (by decide) (by decide) (by kernel_rfl) (by kernel_rfl) ?_) | ((with_reducible first | refine wantD_split (fun h => ?_) (fun h => ?_) | refine wantU_split (fun h => ?_) (fun h => ?_)) <;> (try simp only [h])) | (with_reducible refine And.intro ?_ ?_)
                all_goals refine ret_is (a := _) ?_ rfl rfl
                all_goals simp only [↓wBA, wBB, wBC, cx_muts, cx_arr, wBD, convA, Nat.reduceBEq, reduceIte, reduceCtorEq, reducePow, reduceAdd, reduceSub, reduceMul, reduceEqDiff, reduceLeDiff, Nat.reduceLT, Int.reduceLT, Int.reduceLE, Int.reduceToNat, ty37_XBd]
                all_goals simp_all [resA, resL, resV, leT, leG, leA, leC, leM, leaf, tokLt, tokLtL, intV, boolV, nilA, nilSl, bErr, ex0, exC, exL, emp]
    · have hd : ((kids.length : Int) != kidsB k) = true := by simpa using hkn
      rw [if_pos hkn]
      repeat' first | ((with_reducible first | refine cond_split (fun h => ?_) (fun h => ?_) | refine want_split (fun h => ?_) (fun h => ?_)) <;> (try simp only [h])) | (simp only [↓wBA, wBB, wBC, cx_muts, cx_arr, wBD, convA, Nat.reduceBEq, reduceIte, reduceCtorEq, reducePow, reduceAdd, reduceSub, reduceMul, reduceEqDiff, reduceLeDiff, Nat.reduceLT, Int.reduceLT, Int.reduceLE, Int.reduceToNat, ty37_XBd, bu_len, bu_max, bu_min, pl37_3_XBd, pl37_6_XBd, pl37_13_XBd, exL_len, hd]) | ((with_reducible show ACalls _ _ _ _ _); refine (aaggB _ _).mono ?_; rintro _ _ ⟨rfl, rfl⟩; simp only [hagg']) | ((with_reducible show ACalls _ _ _ _ _); refine (akidsB _ _).mono ?_; rintro _ _ ⟨rfl, rfl⟩) | (with_reducible refine draw_plan pl37_3_XBd 7 (some 22) (by decide) (by decide) (by kernel_rfl) (by kernel_rfl) ?_) | (with_reducible refine draw_plan pl37_6_XBd 11 (some 39) (by decide) (by decide) (by kernel_rfl) (by kernel_rfl) ?_) | (with_reducible refine draw_plan pl37_13_XBd 10 (some 69) (by decide) (by decide) (by kernel_rfl) (by kernel_rfl) ?_) | ((with_reducible first | refine wantD_split (fun h => ?_) (fun h => ?_) | refine wantU_split (fun h => ?_) (fun h => ?_)) <;> (try simp only [h])) | (with_reducible refine And.intro ?_ ?_)
      all_goals refine ret_is (a := _) ?_ rfl rfl
      all_goals simp only [↓wBA, wBB, wBC, cx_muts, cx_arr, wBD, convA, Nat.reduceBEq, reduceIte, reduceCtorEq, reducePow, reduceAdd, reduceSub, reduceMul, reduceEqDiff, reduceLeDiff, Nat.reduceLT, Int.reduceLT, Int.reduceLE, Int.reduceToNat, ty37_XBd]
      all_goals simp_all [resA, resL, resV, leT, leG, leA, leC, leM, leaf, tokLt, tokLtL, intV, boolV, nilA, nilSl, bErr, ex0, exC, exL, emp]
mutual
theorem abind (cols : List Bc) (hc : cols.length ≤ 4398046511104) : ∀ x : Ex, BindOK cols x
  | .mk k vk vn vs tb nm s kids => bind_of cols hc k vk vn vs tb nm s kids (abindL cols hc kids)
theorem abindL (cols : List Bc) (hc : cols.length ≤ 4398046511104) : ∀ (l : List Ex), ∀ y ∈ l, BindOK cols y
  | [], y, hy => by simp at hy
  | x :: l, y, hy => by
    by_cases e : y = x
    · rw [e]; exact abind cols hc x
    · exact abindL cols hc l y ((List.mem_cons.1 hy).resolve_left e)
end
end Go.Proofs.Ytcnkmandddfdmaa
