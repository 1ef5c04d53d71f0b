/- dml: the scope, expressions for columns. Values compared. The finder's methods: what expressions come to. -/
import Derived.Test.YtcnkmandddfdmaaM18
import Derived.Test.YtcnkmandddfdmaaM17
set_option linter.unusedSimpArgs false
set_option linter.unusedVariables false
namespace Go.Proofs.Ytcnkmandddfdmaa
open Go.RowKit
open Nat (reducePow reduceAdd reduceSub reduceMul reduceEqDiff reduceLeDiff)
def pl17_6_XDb : Plan := (.det 0 (.det 1 (.det 2 (.det 3 (.det 4 (.det 5 (.det 6 (.det 7 (.det 8 (.det 9 (.det 10 (.det 11 (.det 12 (.det 13 (.det 14 (.det 15 (.det 16 (.det 17 (.det 18 .done)))))))))))))))))))
theorem ty18_XDb : (type_of% ck_3) ∧ (type_of% cx_3) ∧ (type_of% ck_9) ∧ (type_of% cx_9) ∧ (type_of% ck_22) ∧ (type_of% cx_22) ∧ (type_of% @ks_22) ∧ (type_of% @ko_22) ∧ (type_of% @kn_22) ∧ (type_of% kz_22) ∧ (type_of% ck_24) ∧ (type_of% cx_24) ∧ (type_of% ck_54) ∧ (type_of% cx_54) ∧ (type_of% ce_54) ∧ (type_of% ck_66) ∧ (type_of% cx_66) ∧ (type_of% @ks_66) ∧ (type_of% @ko_66) ∧ (type_of% @kn_66) ∧ (type_of% kz_66) ∧ (type_of% ck_93) ∧ (type_of% cx_93) ∧ (type_of% ce_93) := ⟨ck_3, cx_3, ck_9, cx_9, ck_22, cx_22, @ks_22, @ko_22, @kn_22, kz_22, ck_24, cx_24, ck_54, cx_54, ce_54, ck_66, cx_66, @ks_66, @ko_66, @kn_66, kz_66, ck_93, cx_93, ce_93⟩
theorem ty17_XDb : (type_of% ck_3) ∧ (type_of% cx_3) ∧ (type_of% ck_22) ∧ (type_of% cx_22) ∧ (type_of% @ks_22) ∧ (type_of% @ko_22) ∧ (type_of% @kn_22) ∧ (type_of% kz_22) ∧ (type_of% ck_24) ∧ (type_of% cx_24) ∧ (type_of% ck_33) ∧ (type_of% cx_33) ∧ (type_of% @ks_33) ∧ (type_of% @ko_33) ∧ (type_of% @kn_33) ∧ (type_of% kz_33) ∧ (type_of% ck_40) ∧ (type_of% cx_40) ∧ (type_of% ck_54) ∧ (type_of% cx_54) ∧ (type_of% ce_54) ∧ (type_of% ck_61) ∧ (type_of% cx_61) ∧ (type_of% @ks_61) ∧ (type_of% @ko_61) ∧ (type_of% @kn_61) ∧ (type_of% kz_61) ∧ (type_of% ck_66) ∧ (type_of% cx_66) ∧ (type_of% @ks_66) ∧ (type_of% @ko_66) ∧ (type_of% @kn_66) ∧ (type_of% kz_66) ∧ (type_of% ck_86) ∧ (type_of% cx_86) := ⟨ck_3, cx_3, ck_22, cx_22, @ks_22, @ko_22, @kn_22, kz_22, ck_24, cx_24, ck_33, cx_33, @ks_33, @ko_33, @kn_33, kz_33, ck_40, cx_40, ck_54, cx_54, ce_54, ck_61, cx_61, @ks_61, @ko_61, @kn_61, kz_61, ck_66, cx_66, @ks_66, @ko_66, @kn_66, kz_66, ck_86, cx_86⟩
def scopeS (nm : ByteArray) (cols : List Tc) : List Bc := cols.map fun c => (nm, c.1, c.2.1)
theorem scope_succ (nm : ByteArray) (cols : List Tc) (i : Nat) (h : i < cols.length) : enBc (scopeS nm (cols.take (i + 1))) = enBc (scopeS nm (cols.take i)) ++ [[.v (.string nm), .v (.string cols[i].1), .v (.int .i64 cols[i].2.1)]] := by
  rw [List.take_succ_eq_append_getElem h, scopeS, enBc, List.map_append, List.map_append]; rfl
set_option maxRecDepth 100000 in
set_option maxHeartbeats 8000000 in
theorem ascope (nm : ByteArray) (cols : List Tc) (hl : cols.length ≤ 4398046511104) (σ : St) : ACalls Try.prog 18 [tbA nm cols] σ fun r s => s = σ ∧ r = .p (.sl 3 (enBc (scopeS nm cols))) := by
  refine ACalls.pureF (R := fun r => r = .p (.sl 3 (enBc (scopeS nm cols)))) ?_ rfl σ
  refine acalls_of cx_ok dr_ok Try.func18 (by kernel_rfl) rfl (nt := 24) (rs := [.tmp 2]) rfl rfl ?_
  simp only [tbA]
  simp only [↓wBA, wBB, wBC, cx_muts, cx_arr, wBD, convA, Nat.reduceBEq, reduceIte, reduceCtorEq, reducePow, reduceAdd, reduceSub, reduceMul, reduceEqDiff, reduceLeDiff, Nat.reduceLT, Int.reduceLT, Int.reduceLE, Int.reduceToNat, ty18_XDb, enTc_len]
  refine awp_loopN (cols.length) (fun i => [(3, .nown 1 3 (enBc (scopeS nm (cols.take i)))), (9, intV .i64 (i : Nat)), (5, .any), (10, .any), (11, .any), (12, .any), (13, .any), (14, .any), (15, .any), (16, .any), (17, .any), (18, .any), (19, .any), (20, .any), (21, .any), (22, .any), (23, .any)]) (fun i => [(1, .nright 93 (i * 3))]) (fun i => True) ?_ ?_ ?_
  · trivial
  · skip
    simp only [setsF_cons, setsF_nil, setsO_cons, setsO_nil, List.set_cons_zero, List.set_cons_succ, List.length_cons, List.length_nil, St.put, Nat.zero_add, Nat.reduceAdd, Nat.reduceLT, Nat.lt_irrefl, reduceIte, List.cons_append, List.nil_append]
    simp [WeakE, Weak, setsF, setsO, St.put, leL, leT, leM, leG, leA, leC, leR, leS, leO, tokLt, tokLtL, intV, boolV, leaf, nilA, nilSl, scopeS, enBc]
  · intro i hi _
    simp only [setsF_cons, setsF_nil, setsO_cons, setsO_nil, List.set_cons_zero, List.set_cons_succ, List.length_cons, List.length_nil, St.put, Nat.zero_add, Nat.reduceAdd, Nat.reduceLT, Nat.lt_irrefl, reduceIte, List.cons_append, List.nil_append]
    by_cases hlt : i < cols.length
    · have hdec : decide ((i : Int) < (cols.length : Int)) = true := by simp; omega
      have hi0 : ((0 : Int) ≤ (i : Int)) = True := eq_true (by omega)
      have hw : IntKind.i64.wrap ((i : Int) + 1) = ((i + 1 : Nat) : Int) := by rw [wrap_i64 (by omega) (by omega)]; simp
      have hg := enTc_get cols i hlt
      have hst := scope_succ nm cols i hlt
      have htl : (enBc (scopeS nm (cols.take i))).length = i := by rw [enBc_len]; simp [scopeS]; omega
      have hlim1 : ((i + 1) * 32 ≤ 140737488355328) = True := eq_true (by omega)
      have hlim2 : (i + 1 ≤ maxLen) = True := eq_true (by unfold maxLen; omega)
      rcases hc : cols[i] with ⟨c1, c2, c3, c4⟩
      rw [hc] at hst hg
      simp only [tcC] at hg
      repeat' first | ((with_reducible first | refine cond_split (fun h => ?_) (fun h => ?_) | refine want_split (fun h => ?_) (fun h => ?_)) <;> (try simp only [h])) | (simp only [↓wBA, wBB, wBC, cx_muts, cx_arr, wBD, convA, Nat.reduceBEq, reduceIte, reduceCtorEq, reducePow, reduceAdd, reduceSub, reduceMul, reduceEqDiff, reduceLeDiff, Nat.reduceLT, Int.reduceLT, Int.reduceLE, Int.reduceToNat, ty18_XDb, bu_len, bu_max, bu_min, enTc_len, hdec, hi0, hg, hw, htl, hlim1, hlim2, appendA, srcA, List.length_append])
      refine ⟨⟨i + 1, by omega, ?_⟩, by show cols.length - (i + 1) < cols.length - i; omega, ?_⟩
      · trivial
      · simp only [hst]
        simp [WeakE, Weak, setsF, setsO, St.put, leL, leT, leM, leG, leA, leC, leR, leS, leO, tokLt, tokLtL, intV, boolV, leaf, nilA, nilSl]
    · have hdec : decide ((i : Int) < (cols.length : Int)) = false := by simp; omega
      have ht : cols.take i = cols := List.take_of_length_le (by omega)
      simp only [ht]
      repeat' first | ((with_reducible first | refine cond_split (fun h => ?_) (fun h => ?_) | refine want_split (fun h => ?_) (fun h => ?_)) <;> (try simp only [h])) | (simp only [↓wBA, wBB, wBC, cx_muts, cx_arr, wBD, convA, Nat.reduceBEq, reduceIte, reduceCtorEq, reducePow, reduceAdd, reduceSub, reduceMul, reduceEqDiff, reduceLeDiff, Nat.reduceLT, Int.reduceLT, Int.reduceLE, Int.reduceToNat, ty18_XDb, bu_len, bu_max, bu_min, enTc_len, hdec])
      all_goals refine ret_is (a := _) ?_ rfl rfl
      all_goals simp only [↓wBA, wBB, wBC, cx_muts, cx_arr, wBD, convA, Nat.reduceBEq, reduceIte, reduceCtorEq, reducePow, reduceAdd, reduceSub, reduceMul, reduceEqDiff, reduceLeDiff, Nat.reduceLT, Int.reduceLT, Int.reduceLE, Int.reduceToNat, ty18_XDb]
      all_goals simp_all [resA, resL, resV, leT, leG, leA, leC, leM, leaf, tokLt, tokLtL, intV, boolV, nilA, nilSl]
/-- The error of an expression for a column of a type. -/
def asgE (scope : List Bc) (x : Ex) (ty : Int) : Int := if (bndS scope x).2.2 = 0 ∧ (bndS scope x).2.1 ≠ 0 ∧ (bndS scope x).2.1 ≠ ty then 33 else (bndS scope x).2.2
def tyAt (tcols : List Tc) (c : Int) : Int := (tcols.getD c.toNat (emp, 0, false, false)).2.1
def asgS (scope : List Bc) (tcols : List Tc) : List Ex → List Int → List Ex × Int
  | x :: xs, c :: cs => if asgE scope x (tyAt tcols c) ≠ 0 then ([], asgE scope x (tyAt tcols c)) else if (asgS scope tcols xs cs).2 ≠ 0 then ([], (asgS scope tcols xs cs).2) else ((bndS scope x).1 :: (asgS scope tcols xs cs).1, 0)
  | _, _ => ([], 0)
theorem asgS_bad (scope : List Bc) (tcols : List Tc) : ∀ (xs : List Ex) (cs : List Int) (i : Nat) (h : i < xs.length) (h' : i < cs.length), (∀ j (hj : j < i), asgE scope (xs[j]'(by omega)) (tyAt tcols (cs[j]'(by omega))) = 0) → asgE scope xs[i] (tyAt tcols cs[i]) ≠ 0 → asgS scope tcols xs cs = ([], asgE scope xs[i] (tyAt tcols cs[i]))
  | x :: xs, c :: cs, 0, h, h', _, h2 => by simp only [asgS, List.getElem_cons_zero] at h2 ⊢; rw [if_pos h2]
  | x :: xs, c :: cs, i + 1, h, h', h1, h2 => by
    have h0 := h1 0 (by omega)
    simp only [List.getElem_cons_zero] at h0
    have ih := asgS_bad scope tcols xs cs i (by simpa using h) (by simpa using h') (fun j hj => by have := h1 (j + 1) (by omega); simpa using this) (by simpa using h2)
    simp only [asgS, List.getElem_cons_succ] at h2 ⊢
    rw [if_neg (by simp [h0]), ih, if_pos h2]
  | [], cs, i, h, h', _, _ => by simp at h
  | x :: xs, [], i, h, h', _, _ => by simp at h'
theorem asgS_ok (scope : List Bc) (tcols : List Tc) : ∀ (xs : List Ex) (cs : List Int), xs.length ≤ cs.length → (∀ j (hj : j < xs.length) (hj' : j < cs.length), asgE scope xs[j] (tyAt tcols cs[j]) = 0) → asgS scope tcols xs cs = (zsF scope xs, 0)
  | [], cs, _, _ => by simp [asgS, zsF]
  | x :: xs, [], h, _ => by simp at h
  | x :: xs, c :: cs, h, h1 => by
    have h0 := h1 0 (by simp) (by simp)
    simp only [List.getElem_cons_zero] at h0
    have ih := asgS_ok scope tcols xs cs (by simpa using h) fun j hj hj' => by have := h1 (j + 1) (by simpa using hj) (by simpa using hj'); simpa using this
    simp only [asgS, h0, ih, ne_eq, not_true_eq_false, if_false, zsF, List.map_cons]
set_option maxRecDepth 100000 in
set_option maxHeartbeats 16000000 in
theorem aassigned (xs : List Ex) (cs : List Int) (nm : ByteArray) (tcols : List Tc) (scope : List Bc) (hx : xs.length ≤ 1000000000000) (hxc : xs.length ≤ cs.length) (hcs : ∀ c ∈ cs, 0 ≤ c ∧ c.toNat < tcols.length) (hsc : scope.length ≤ 4398046511104) (σ : St) : ACalls Try.prog 17 [.p (.sl 8 (exL xs)), .p (.sl 1 (enI cs)), tbA nm tcols, .p (.sl 3 (enBc scope))] σ fun r s => s = σ ∧ r = .tup [.p (.sl 8 (exL (asgS scope tcols xs cs).1)), intV .i64 (asgS scope tcols xs cs).2] := by
  refine ACalls.pureF (R := fun r => r = .tup [.p (.sl 8 (exL (asgS scope tcols xs cs).1)), intV .i64 (asgS scope tcols xs cs).2]) ?_ rfl σ
  refine acalls_of cx_ok dr_ok Try.func17 (by kernel_rfl) rfl (nt := 54) (rs := [.tmp 8, .tmp 9]) rfl rfl ?_
  simp only [tbA]
  simp only [↓wBA, wBB, wBC, cx_muts, cx_arr, wBD, convA, Nat.reduceBEq, reduceIte, reduceCtorEq, reducePow, reduceAdd, reduceSub, reduceMul, reduceEqDiff, reduceLeDiff, Nat.reduceLT, Int.reduceLT, Int.reduceLE, Int.reduceToNat, ty17_XDb, exL_len]
  refine awp_loopN (xs.length) (fun i => [(10, .nown 1 8 (exL (zsF scope (xs.take i)))), (18, intV .i64 (i : Nat)), (8, .any), (9, .any), (11, .any), (12, .any), (13, .any), (14, .any), (15, .any), (19, .any), (20, .any), (21, .any), (22, .any), (23, .any), (24, .any), (25, .any), (26, .any), (27, .any), (28, .any), (29, .any), (30, .any), (31, .any), (32, .any), (33, .any), (34, .any), (35, .any), (36, .any), (37, .any), (38, .any), (39, .any), (40, .any), (41, .any), (42, .any), (43, .any), (44, .any), (45, .any), (46, .any), (47, .any), (48, .any), (49, .any), (50, .any), (51, .any), (52, .any), (53, .any), (54, .any), (55, .any), (56, .any)]) (fun i => [(1, .nright 86 (i * 8))]) (fun i => ∀ j (hj : j < i) (hj' : j < xs.length), asgE scope xs[j] (tyAt tcols (cs[j]'(by omega))) = 0) ?_ ?_ ?_
  · intro j hj; omega
  · skip
    simp only [setsF_cons, setsF_nil, setsO_cons, setsO_nil, List.set_cons_zero, List.set_cons_succ, List.length_cons, List.length_nil, St.put, Nat.zero_add, Nat.reduceAdd, Nat.reduceLT, Nat.lt_irrefl, reduceIte, List.cons_append, List.nil_append]
    simp [WeakE, Weak, setsF, setsO, St.put, leL, leT, leM, leG, leA, leC, leR, leS, leO, tokLt, tokLtL, intV, boolV, leaf, nilA, nilSl, zsF, exL]
  · intro i hi hI
    simp only [setsF_cons, setsF_nil, setsO_cons, setsO_nil, List.set_cons_zero, List.set_cons_succ, List.length_cons, List.length_nil, St.put, Nat.zero_add, Nat.reduceAdd, Nat.reduceLT, Nat.lt_irrefl, reduceIte, List.cons_append, List.nil_append]
    by_cases hlt : i < xs.length
    · have hdec : decide ((i : Int) < (xs.length : Int)) = true := by simp; omega
      have hi0 : ((0 : Int) ≤ (i : Int)) = True := eq_true (by omega)
      have hw : IntKind.i64.wrap ((i : Int) + 1) = ((i + 1 : Nat) : Int) := by rw [wrap_i64 (by omega) (by omega)]; simp
      have hg := exL_at xs i hlt
      have hci : i < cs.length := by omega
      have hgc := enI_get cs i hci
      obtain ⟨hc0, hcl⟩ := hcs cs[i] (List.getElem_mem hci)
      have hc0' : ((0 : Int) ≤ cs[i]) = True := eq_true hc0
      have hgt := enTc_get tcols _ hcl
      have hty : tyAt tcols cs[i] = (tcols[cs[i].toNat]).2.1 := by unfold tyAt; simp [List.getD, hcl]
      have hB := abind scope hsc xs[i]
      have hz1 := zsF_succ scope xs i hlt
      have hzl : (exL (zsF scope (xs.take i))).length = i := by rw [exL_len, zsF_len]; simp; omega
      have hlim1 : ((i + 1) * 104 ≤ 140737488355328) = True := eq_true (by omega)
      have hlim2 : (i + 1 ≤ maxLen) = True := eq_true (by unfold maxLen; omega)
      have hbad := asgS_bad scope tcols xs cs i hlt hci (fun j hj => hI j hj (by omega))
      have hnext : asgE scope xs[i] (tyAt tcols cs[i]) = 0 → ∀ j (hj : j < i + 1) (hj' : j < xs.length), asgE scope xs[j] (tyAt tcols (cs[j]'(by omega))) = 0 := fun h0 j hj hj' => by
        by_cases e : j = i
        · subst e; exact h0
        · exact hI j (by omega) hj'
      have hee : asgE scope xs[i] (tyAt tcols cs[i]) = if (bndS scope xs[i]).2.2 = 0 ∧ (bndS scope xs[i]).2.1 ≠ 0 ∧ (bndS scope xs[i]).2.1 ≠ tyAt tcols cs[i] then 33 else (bndS scope xs[i]).2.2 := rfl
      rw [hty] at hee
      rw [hty] at hbad hnext
      generalize hae : asgE scope xs[i] (tcols[cs[i].toNat]).2.1 = ae at *
      obtain ⟨a1, a2, a3, a4, a5, a6, a7, a8, hz⟩ := exC_mk (bndS scope xs[i]).1
      rw [hz] at hz1
      generalize hte : (bndS scope xs[i]).2.2 = te at *
      generalize htt : (bndS scope xs[i]).2.1 = tt at *
      simp only [BindOK, exA, hz, List.map_cons, List.map_nil, hte, htt] at hB
      rcases hcc : tcols[cs[i].toNat] with ⟨c1, c2, c3, c4⟩
      rw [hcc] at hgt hee
      simp only [tcC] at hgt
      simp only at hee
      repeat' first | ((with_reducible first | refine cond_split (fun h => ?_) (fun h => ?_) | refine want_split (fun h => ?_) (fun h => ?_)) <;> (try simp only [h])) | (simp only [↓wBA, wBB, wBC, cx_muts, cx_arr, wBD, convA, Nat.reduceBEq, reduceIte, reduceCtorEq, reducePow, reduceAdd, reduceSub, reduceMul, reduceEqDiff, reduceLeDiff, Nat.reduceLT, Int.reduceLT, Int.reduceLE, Int.reduceToNat, ty17_XDb, bu_len, bu_max, bu_min, pl17_6_XDb, exL_len, enI_len, enTc_len, hdec, hi0, hg, hw, hgc, hc0', hgt, hzl, hlim1, hlim2, appendA, srcA, List.length_append, exC_len, List.length_map]) | ((with_reducible show ACalls _ _ _ _ _); refine (hB _).mono ?_; rintro _ _ ⟨rfl, rfl⟩) | (with_reducible refine draw_plan pl17_6_XDb 19 (some 30) (by decide) (by decide) (by kernel_rfl) (by kernel_rfl) ?_) | ((with_reducible first | refine wantD_split (fun h => ?_) (fun h => ?_) | refine wantU_split (fun h => ?_) (fun h => ?_)) <;> (try simp only [h])) | (with_reducible refine And.intro ?_ ?_)
      all_goals first
        | (refine ⟨⟨i + 1, by omega, hnext (by grind)⟩, by show xs.length - (i + 1) < xs.length - i; omega, ?_⟩
           simp only [hz1]
           simp [WeakE, Weak, setsF, setsO, St.put, leL, leT, leM, leG, leA, leC, leR, leS, leO, tokLt, tokLtL, intV, boolV, leaf, nilA, nilSl])
        | (have hb := hbad (by grind)
           simp only [hb]
           refine ret_is (a := _) ?_ rfl rfl
           simp only [resA, resL, resV, List.getD_cons_zero, List.getD_cons_succ]
           simp_all [leT, leG, leA, leC, leM, leaf, tokLt, tokLtL, intV, boolV, nilA, nilSl, exL]
           done)
    · have hdec : decide ((i : Int) < (xs.length : Int)) = false := by simp; omega
      have ht : xs.take i = xs := List.take_of_length_le (by omega)
      have hok := asgS_ok scope tcols xs cs hxc (fun j hj hj' => hI j (by omega) hj)
      simp only [ht, hok]
      repeat' first | ((with_reducible first | refine cond_split (fun h => ?_) (fun h => ?_) | refine want_split (fun h => ?_) (fun h => ?_)) <;> (try simp only [h])) | (simp only [↓wBA, wBB, wBC, cx_muts, cx_arr, wBD, convA, Nat.reduceBEq, reduceIte, reduceCtorEq, reducePow, reduceAdd, reduceSub, reduceMul, reduceEqDiff, reduceLeDiff, Nat.reduceLT, Int.reduceLT, Int.reduceLE, Int.reduceToNat, ty17_XDb, bu_len, bu_max, bu_min, pl17_6_XDb, exL_len, hdec]) | (with_reducible refine draw_plan pl17_6_XDb 19 (some 30) (by decide) (by decide) (by kernel_rfl) (by kernel_rfl) ?_) | ((with_reducible first | refine wantD_split (fun h => ?_) (fun h => ?_) | refine wantU_split (fun h => ?_) (fun h => ?_)) <;> (try simp only [h])) | (with_reducible refine And.intro ?_ ?_)
      all_goals refine ret_is (a := _) ?_ rfl rfl
      all_goals simp only [↓wBA, wBB, wBC, cx_muts, cx_arr, wBD, convA, Nat.reduceBEq, reduceIte, reduceCtorEq, reducePow, reduceAdd, reduceSub, reduceMul, reduceEqDiff, reduceLeDiff, Nat.reduceLT, Int.reduceLT, Int.reduceLE, Int.reduceToNat, ty17_XDb]
      all_goals simp_all [resA, resL, resV, leT, leG, leA, leC, leM, leaf, tokLt, tokLtL, intV, boolV, nilA, nilSl]
end Go.Proofs.Ytcnkmandddfdmaa
namespace Go.Proofs.Ytcnkmandddfdmaa
open Go.RowKit
open Nat (reducePow reduceAdd reduceSub reduceMul reduceEqDiff reduceLeDiff)
def pl85_1_XCm : Plan := (.det 0 (.det 1 (.det 2 (.det 3 (.det 5 (.det 6 (.det 7 (.det 8 (.det 10 (.det 11 (.det 12 (.det 13 (.act 4 (.act 9 (.fin 14 (.fin 15 (.fin 16 (.det 17 .done))))))))))))))))))
theorem ty91_XCm : (type_of% ck_3) ∧ (type_of% cx_3) := ⟨ck_3, cx_3⟩
theorem ty92_XCm : (type_of% ck_2) ∧ (type_of% cx_2) := ⟨ck_2, cx_2⟩
theorem ty93_XCm : (type_of% ck_9) ∧ (type_of% cx_9) := ⟨ck_9, cx_9⟩
theorem ty88_XCm : (type_of% ck_3) ∧ (type_of% cx_3) := ⟨ck_3, cx_3⟩
theorem ty89_XCm : (type_of% ck_2) ∧ (type_of% cx_2) := ⟨ck_2, cx_2⟩
theorem ty90_XCm : (type_of% ck_9) ∧ (type_of% cx_9) := ⟨ck_9, cx_9⟩
theorem ty87_XCm : (type_of% ck_3) ∧ (type_of% cx_3) ∧ (type_of% ck_61) ∧ (type_of% cx_61) ∧ (type_of% @ks_61) ∧ (type_of% @ko_61) ∧ (type_of% @kn_61) ∧ (type_of% kz_61) := ⟨ck_3, cx_3, ck_61, cx_61, @ks_61, @ko_61, @kn_61, kz_61⟩
theorem ty85_XCm : (type_of% ck_2) ∧ (type_of% cx_2) ∧ (type_of% ck_3) ∧ (type_of% cx_3) ∧ (type_of% ck_9) ∧ (type_of% cx_9) ∧ (type_of% ck_50) ∧ (type_of% cx_50) ∧ (type_of% ce_50) ∧ (type_of% ck_61) ∧ (type_of% cx_61) ∧ (type_of% @ks_61) ∧ (type_of% @ko_61) ∧ (type_of% @kn_61) ∧ (type_of% kz_61) := ⟨ck_2, cx_2, ck_3, cx_3, ck_9, cx_9, ck_50, cx_50, ce_50, ck_61, cx_61, @ks_61, @ko_61, @kn_61, kz_61⟩
set_option maxRecDepth 100000 in
set_option maxHeartbeats 4000000 in
theorem aNaN (k : IntKind) (n : Int) (f : FuncId) (hf : f = 91 ∨ f = 92) (σ : St) : ACalls Try.prog f [intV k n] σ fun r s => s = σ ∧ r = boolV false := by
  refine ACalls.pureF (R := fun r => r = boolV false) ?_ rfl σ
  rcases hf with rfl | rfl
  · skip
    refine acalls_of cx_ok dr_ok Try.func91 (by kernel_rfl) rfl (nt := 5) (rs := [.tmp 2]) rfl rfl ?_
    repeat' first | ((with_reducible first | refine cond_split (fun h => ?_) (fun h => ?_) | refine want_split (fun h => ?_) (fun h => ?_)) <;> (try simp only [h])) | (simp only [↓wBA, wBB, wBC, cx_muts, cx_arr, wBD, convA, Nat.reduceBEq, reduceIte, reduceCtorEq, reducePow, reduceAdd, reduceSub, reduceMul, reduceEqDiff, reduceLeDiff, Nat.reduceLT, Int.reduceLT, Int.reduceLE, Int.reduceToNat, ty91_XCm, bu_len, bu_max, bu_min])
    all_goals refine ret_is (a := _) ?_ rfl rfl
    all_goals simp only [↓wBA, wBB, wBC, cx_muts, cx_arr, wBD, convA, Nat.reduceBEq, reduceIte, reduceCtorEq, reducePow, reduceAdd, reduceSub, reduceMul, reduceEqDiff, reduceLeDiff, Nat.reduceLT, Int.reduceLT, Int.reduceLE, Int.reduceToNat, ty91_XCm]
    all_goals simp_all [resA, resL, resV, leT, leG, leA, leC, leM, leaf, tokLt, tokLtL, intV, boolV, nilA, nilSl]
  · skip
    refine acalls_of cx_ok dr_ok Try.func92 (by kernel_rfl) rfl (nt := 5) (rs := [.tmp 2]) rfl rfl ?_
    repeat' first | ((with_reducible first | refine cond_split (fun h => ?_) (fun h => ?_) | refine want_split (fun h => ?_) (fun h => ?_)) <;> (try simp only [h])) | (simp only [↓wBA, wBB, wBC, cx_muts, cx_arr, wBD, convA, Nat.reduceBEq, reduceIte, reduceCtorEq, reducePow, reduceAdd, reduceSub, reduceMul, reduceEqDiff, reduceLeDiff, Nat.reduceLT, Int.reduceLT, Int.reduceLE, Int.reduceToNat, ty92_XCm, bu_len, bu_max, bu_min])
    all_goals refine ret_is (a := _) ?_ rfl rfl
    all_goals simp only [↓wBA, wBB, wBC, cx_muts, cx_arr, wBD, convA, Nat.reduceBEq, reduceIte, reduceCtorEq, reducePow, reduceAdd, reduceSub, reduceMul, reduceEqDiff, reduceLeDiff, Nat.reduceLT, Int.reduceLT, Int.reduceLE, Int.reduceToNat, ty92_XCm]
    all_goals simp_all [resA, resL, resV, leT, leG, leA, leC, leM, leaf, tokLt, tokLtL, intV, boolV, nilA, nilSl]
set_option maxRecDepth 100000 in
set_option maxHeartbeats 4000000 in
theorem aNaNs (s : ByteArray) (σ : St) : ACalls Try.prog 93 [.p (.v (.string s))] σ fun r s => s = σ ∧ r = boolV false := by
  refine ACalls.pureF (R := fun r => r = boolV false) ?_ rfl σ
  refine acalls_of cx_ok dr_ok Try.func93 (by kernel_rfl) rfl (nt := 5) (rs := [.tmp 2]) rfl rfl ?_
  repeat' first | ((with_reducible first | refine cond_split (fun h => ?_) (fun h => ?_) | refine want_split (fun h => ?_) (fun h => ?_)) <;> (try simp only [h])) | (simp only [↓wBA, wBB, wBC, cx_muts, cx_arr, wBD, convA, Nat.reduceBEq, reduceIte, reduceCtorEq, reducePow, reduceAdd, reduceSub, reduceMul, reduceEqDiff, reduceLeDiff, Nat.reduceLT, Int.reduceLT, Int.reduceLE, Int.reduceToNat, ty93_XCm, bu_len, bu_max, bu_min, binStr])
  all_goals refine ret_is (a := _) ?_ rfl rfl
  all_goals simp only [↓wBA, wBB, wBC, cx_muts, cx_arr, wBD, convA, Nat.reduceBEq, reduceIte, reduceCtorEq, reducePow, reduceAdd, reduceSub, reduceMul, reduceEqDiff, reduceLeDiff, Nat.reduceLT, Int.reduceLT, Int.reduceLE, Int.reduceToNat, ty93_XCm]
  all_goals simp_all [resA, resL, resV, leT, leG, leA, leC, leM, leaf, tokLt, tokLtL, intV, boolV, nilA, nilSl]
set_option maxRecDepth 100000 in
set_option maxHeartbeats 4000000 in
theorem acmpI (a b : Int) (f : FuncId) (hf : f = 88 ∨ f = 89) (σ : St) : ACalls Try.prog f [intV .i64 a, intV .i64 b] σ fun r s => s = σ ∧ r = intV .i64 (cmpI a b) := by
  refine ACalls.pureF (R := fun r => r = intV .i64 (cmpI a b)) ?_ rfl σ
  rcases hf with rfl | rfl
  · skip
    refine acalls_of cx_ok dr_ok Try.func88 (by kernel_rfl) rfl (nt := 18) (rs := [.tmp 4]) rfl rfl ?_
    repeat' first | ((with_reducible first | refine cond_split (fun h => ?_) (fun h => ?_) | refine want_split (fun h => ?_) (fun h => ?_)) <;> (try simp only [h])) | (simp only [↓wBA, wBB, wBC, cx_muts, cx_arr, wBD, convA, Nat.reduceBEq, reduceIte, reduceCtorEq, reducePow, reduceAdd, reduceSub, reduceMul, reduceEqDiff, reduceLeDiff, Nat.reduceLT, Int.reduceLT, Int.reduceLE, Int.reduceToNat, ty88_XCm, bu_len, bu_max, bu_min]) | ((with_reducible show ACalls _ _ _ _ _); refine (aNaN _ _ _ (.inl rfl) _).mono ?_; rintro _ _ ⟨rfl, rfl⟩)
    all_goals refine ret_is (a := _) ?_ rfl rfl
    all_goals simp only [↓wBA, wBB, wBC, cx_muts, cx_arr, wBD, convA, Nat.reduceBEq, reduceIte, reduceCtorEq, reducePow, reduceAdd, reduceSub, reduceMul, reduceEqDiff, reduceLeDiff, Nat.reduceLT, Int.reduceLT, Int.reduceLE, Int.reduceToNat, ty88_XCm]
    all_goals simp_all [resA, resL, resV, leT, leG, leA, leC, leM, leaf, tokLt, tokLtL, intV, boolV, nilA, nilSl, cmpI]
    all_goals grind
  · skip
    refine acalls_of cx_ok dr_ok Try.func89 (by kernel_rfl) rfl (nt := 18) (rs := [.tmp 4]) rfl rfl ?_
    repeat' first | ((with_reducible first | refine cond_split (fun h => ?_) (fun h => ?_) | refine want_split (fun h => ?_) (fun h => ?_)) <;> (try simp only [h])) | (simp only [↓wBA, wBB, wBC, cx_muts, cx_arr, wBD, convA, Nat.reduceBEq, reduceIte, reduceCtorEq, reducePow, reduceAdd, reduceSub, reduceMul, reduceEqDiff, reduceLeDiff, Nat.reduceLT, Int.reduceLT, Int.reduceLE, Int.reduceToNat, ty89_XCm, bu_len, bu_max, bu_min]) | ((with_reducible show ACalls _ _ _ _ _); refine (aNaN _ _ _ (.inr rfl) _).mono ?_; rintro _ _ ⟨rfl, rfl⟩)
    all_goals refine ret_is (a := _) ?_ rfl rfl
    all_goals simp only [↓wBA, wBB, wBC, cx_muts, cx_arr, wBD, convA, Nat.reduceBEq, reduceIte, reduceCtorEq, reducePow, reduceAdd, reduceSub, reduceMul, reduceEqDiff, reduceLeDiff, Nat.reduceLT, Int.reduceLT, Int.reduceLE, Int.reduceToNat, ty89_XCm]
    all_goals simp_all [resA, resL, resV, leT, leG, leA, leC, leM, leaf, tokLt, tokLtL, intV, boolV, nilA, nilSl, cmpI]
    all_goals grind
set_option maxRecDepth 100000 in
set_option maxHeartbeats 4000000 in
theorem acmpS (a b : ByteArray) (σ : St) : ACalls Try.prog 90 [.p (.v (.string a)), .p (.v (.string b))] σ fun r s => s = σ ∧ r = intV .i64 (cmpS a b) := by
  refine ACalls.pureF (R := fun r => r = intV .i64 (cmpS a b)) ?_ rfl σ
  refine acalls_of cx_ok dr_ok Try.func90 (by kernel_rfl) rfl (nt := 18) (rs := [.tmp 4]) rfl rfl ?_
  repeat' first | ((with_reducible first | refine cond_split (fun h => ?_) (fun h => ?_) | refine want_split (fun h => ?_) (fun h => ?_)) <;> (try simp only [h])) | (simp only [↓wBA, wBB, wBC, cx_muts, cx_arr, wBD, convA, Nat.reduceBEq, reduceIte, reduceCtorEq, reducePow, reduceAdd, reduceSub, reduceMul, reduceEqDiff, reduceLeDiff, Nat.reduceLT, Int.reduceLT, Int.reduceLE, Int.reduceToNat, ty90_XCm, bu_len, bu_max, bu_min, binStr]) | ((with_reducible show ACalls _ _ _ _ _); refine (aNaNs _ _).mono ?_; rintro _ _ ⟨rfl, rfl⟩)
  all_goals refine ret_is (a := _) ?_ rfl rfl
  all_goals simp only [↓wBA, wBB, wBC, cx_muts, cx_arr, wBD, convA, Nat.reduceBEq, reduceIte, reduceCtorEq, reducePow, reduceAdd, reduceSub, reduceMul, reduceEqDiff, reduceLeDiff, Nat.reduceLT, Int.reduceLT, Int.reduceLE, Int.reduceToNat, ty90_XCm]
  all_goals simp_all [resA, resL, resV, leT, leG, leA, leC, leM, leaf, tokLt, tokLtL, intV, boolV, nilA, nilSl, cmpS]
  all_goals grind
def orI : List Int → Int
  | [] => 0
  | a :: l => if a ≠ 0 then a else orI l
theorem orI_drop (l : List Int) (i : Nat) (h : i < l.length) : orI (l.drop i) = if l[i] ≠ 0 then l[i] else orI (l.drop (i + 1)) := by
  rw [List.drop_eq_getElem_cons h]; rfl
set_option maxRecDepth 100000 in
set_option maxHeartbeats 4000000 in
theorem aor (l : List Int) (hl : l.length ≤ 1000) (σ : St) : ACalls Try.prog 87 [.p (.sl 1 (l.map fun n => [.v (.int .i64 n)]))] σ fun r s => s = σ ∧ r = intV .i64 (orI l) := by
  refine ACalls.pureF (R := fun r => r = intV .i64 (orI l)) ?_ rfl σ
  refine acalls_of cx_ok dr_ok Try.func87 (by kernel_rfl) rfl (nt := 17) (rs := [.tmp 2]) rfl rfl ?_
  simp only [↓wBA, wBB, wBC, cx_muts, cx_arr, wBD, convA, Nat.reduceBEq, reduceIte, reduceCtorEq, reducePow, reduceAdd, reduceSub, reduceMul, reduceEqDiff, reduceLeDiff, Nat.reduceLT, Int.reduceLT, Int.reduceLE, Int.reduceToNat, ty87_XCm]
  refine awp_loopN (l.length) (fun i => [(8, intV .i64 (i : Nat)), (2, .any), (5, .any), (9, .any), (10, .any), (11, .any), (12, .any), (13, .any), (14, .any), (15, .any), (16, .any)]) (fun i => []) (fun i => orI (l.drop i) = orI l) ?_ ?_ ?_
  · rfl
  · skip
    simp only [setsF_cons, setsF_nil, setsO_cons, setsO_nil, List.set_cons_zero, List.set_cons_succ, List.length_cons, List.length_nil, St.put, Nat.zero_add, Nat.reduceAdd, Nat.reduceLT, Nat.lt_irrefl, reduceIte, List.cons_append, List.nil_append]
    simp [WeakE, Weak, setsF, setsO, St.put, leL, leT, leM, leG, leA, leC, leR, leS, leO, tokLt, tokLtL, intV, boolV, leaf, nilA, nilSl]
  · intro i hi hI
    simp only [setsF_cons, setsF_nil, setsO_cons, setsO_nil, List.set_cons_zero, List.set_cons_succ, List.length_cons, List.length_nil, St.put, Nat.zero_add, Nat.reduceAdd, Nat.reduceLT, Nat.lt_irrefl, reduceIte, List.cons_append, List.nil_append]
    by_cases hlt : i < l.length
    · have hdec : decide ((i : Int) < (l.length : Int)) = true := by simp; omega
      have hi0 : ((0 : Int) ≤ (i : Int)) = True := eq_true (by omega)
      have hw : IntKind.i64.wrap ((i : Int) + 1) = ((i + 1 : Nat) : Int) := by rw [wrap_i64 (by omega) (by omega)]; simp
      have hg : (l.map fun n => [PV.v (.int .i64 n)])[i]? = some [.v (.int .i64 l[i])] := by simp [hlt]
      have hI' := orI_drop l i hlt
      rw [hI] at hI'
      repeat' first | ((with_reducible first | refine cond_split (fun h => ?_) (fun h => ?_) | refine want_split (fun h => ?_) (fun h => ?_)) <;> (try simp only [h])) | (simp only [↓wBA, wBB, wBC, cx_muts, cx_arr, wBD, convA, Nat.reduceBEq, reduceIte, reduceCtorEq, reducePow, reduceAdd, reduceSub, reduceMul, reduceEqDiff, reduceLeDiff, Nat.reduceLT, Int.reduceLT, Int.reduceLE, Int.reduceToNat, ty87_XCm, bu_len, bu_max, bu_min, List.length_map, hdec, hi0, hg, hw])
      · skip
        all_goals refine ret_is (a := _) ?_ rfl rfl
        all_goals simp only [↓wBA, wBB, wBC, cx_muts, cx_arr, wBD, convA, Nat.reduceBEq, reduceIte, reduceCtorEq, reducePow, reduceAdd, reduceSub, reduceMul, reduceEqDiff, reduceLeDiff, Nat.reduceLT, Int.reduceLT, Int.reduceLE, Int.reduceToNat, ty87_XCm]
        all_goals simp_all [resA, resL, resV, leT, leG, leA, leC, leM, leaf, tokLt, tokLtL, intV, boolV, nilA, nilSl]
      · skip
        refine ⟨⟨i + 1, by omega, ?_⟩, by show l.length - (i + 1) < l.length - i; omega, ?_⟩
        · simp_all
        · skip
          simp only [setsF_cons, setsF_nil, setsO_cons, setsO_nil, List.set_cons_zero, List.set_cons_succ, List.length_cons, List.length_nil, St.put, Nat.zero_add, Nat.reduceAdd, Nat.reduceLT, Nat.lt_irrefl, reduceIte, List.cons_append, List.nil_append]
          simp [WeakE, Weak, setsF, setsO, St.put, leL, leT, leM, leG, leA, leC, leR, leS, leO, tokLt, tokLtL, intV, boolV, leaf, nilA, nilSl]
    · have hdec : decide ((i : Int) < (l.length : Int)) = false := by simp; omega
      have hI' : orI l = 0 := by rw [← hI, List.drop_of_length_le (by omega)]; rfl
      repeat' first | ((with_reducible first | refine cond_split (fun h => ?_) (fun h => ?_) | refine want_split (fun h => ?_) (fun h => ?_)) <;> (try simp only [h])) | (simp only [↓wBA, wBB, wBC, cx_muts, cx_arr, wBD, convA, Nat.reduceBEq, reduceIte, reduceCtorEq, reducePow, reduceAdd, reduceSub, reduceMul, reduceEqDiff, reduceLeDiff, Nat.reduceLT, Int.reduceLT, Int.reduceLE, Int.reduceToNat, ty87_XCm, bu_len, bu_max, bu_min, List.length_map, hdec])
      all_goals refine ret_is (a := _) ?_ rfl rfl
      all_goals simp only [↓wBA, wBB, wBC, cx_muts, cx_arr, wBD, convA, Nat.reduceBEq, reduceIte, reduceCtorEq, reducePow, reduceAdd, reduceSub, reduceMul, reduceEqDiff, reduceLeDiff, Nat.reduceLT, Int.reduceLT, Int.reduceLE, Int.reduceToNat, ty87_XCm]
      all_goals simp_all [resA, resL, resV, leT, leG, leA, leC, leM, leaf, tokLt, tokLtL, intV, boolV, nilA, nilSl, hI']
set_option maxRecDepth 100000 in
set_option maxHeartbeats 4000000 in
theorem acmpV (a b : Va) (σ : St) : ACalls Try.prog 85 [vaA a, vaA b] σ fun r s => s = σ ∧ r = intV .i64 (cmpV a b) := by
  refine ACalls.pureF (R := fun r => r = intV .i64 (cmpV a b)) ?_ rfl σ
  obtain ⟨a1, a2, a3⟩ := a
  obtain ⟨b1, b2, b3⟩ := b
  refine acalls_of cx_ok dr_ok Try.func85 (by kernel_rfl) rfl (nt := 20) (rs := [.tmp 4]) rfl rfl ?_
  simp only [vaA, vaC, List.map_cons, List.map_nil]
  repeat' first | ((with_reducible first | refine cond_split (fun h => ?_) (fun h => ?_) | refine want_split (fun h => ?_) (fun h => ?_)) <;> (try simp only [h])) | (simp only [↓wBA, wBB, wBC, cx_muts, cx_arr, wBD, convA, Nat.reduceBEq, reduceIte, reduceCtorEq, reducePow, reduceAdd, reduceSub, reduceMul, reduceEqDiff, reduceLeDiff, Nat.reduceLT, Int.reduceLT, Int.reduceLE, Int.reduceToNat, ty85_XCm, bu_len, bu_max, bu_min, pl85_1_XCm]) | ((with_reducible show ACalls _ _ _ _ _); refine (acmpI _ _ _ (.inl rfl) _).mono ?_; rintro _ _ ⟨rfl, rfl⟩) | ((with_reducible show ACalls _ _ _ _ _); refine (acmpI _ _ _ (.inr rfl) _).mono ?_; rintro _ _ ⟨rfl, rfl⟩) | ((with_reducible show ACalls _ _ _ _ _); refine (acmpS _ _ _).mono ?_; rintro _ _ ⟨rfl, rfl⟩) | ((with_reducible show ACalls _ _ _ _ _); refine ACalls.frzArgs ((aor [_, _, _] (by simp) _).mono ?_); rintro _ _ ⟨rfl, rfl⟩) | (with_reducible refine draw_plan pl85_1_XCm 18 (some 5) (by decide) (by decide) (by kernel_rfl) (by kernel_rfl) ?_) | ((with_reducible first | refine wantD_split (fun h => ?_) (fun h => ?_) | refine wantU_split (fun h => ?_) (fun h => ?_)) <;> (try simp only [h])) | (with_reducible refine And.intro ?_ ?_)
  all_goals refine ret_is (a := _) ?_ rfl rfl
  all_goals simp only [↓wBA, wBB, wBC, cx_muts, cx_arr, wBD, convA, Nat.reduceBEq, reduceIte, reduceCtorEq, reducePow, reduceAdd, reduceSub, reduceMul, reduceEqDiff, reduceLeDiff, Nat.reduceLT, Int.reduceLT, Int.reduceLE, Int.reduceToNat, ty85_XCm]
  all_goals simp_all [resA, resL, resV, leT, leG, leA, leC, leM, leaf, tokLt, tokLtL, intV, boolV, nilA, nilSl, cmpV, orI]
  all_goals grind
end Go.Proofs.Ytcnkmandddfdmaa
namespace Go.Proofs.Ytcnkmandddfdmaa
open Go.RowKit
open Nat (reducePow reduceAdd reduceSub reduceMul reduceEqDiff reduceLeDiff)
def pl77_5_XFd : Plan := (.det 0 (.det 1 (.det 2 (.det 3 (.det 4 (.det 5 (.det 6 (.det 7 (.det 8 (.det 9 (.det 10 (.det 11 (.det 12 (.det 13 (.det 14 (.det 15 (.det 16 (.det 17 (.det 18 (.det 19 (.det 20 (.det 21 (.det 22 (.det 23 (.det 24 (.det 25 (.det 26 (.fin 27 (.det 28 (.det 29 .done))))))))))))))))))))))))))))))
def pl77_6_XFd : Plan := (.det 0 (.det 1 (.det 2 (.det 3 (.det 4 (.det 5 (.det 6 (.det 7 (.fin 8 .done)))))))))
theorem ty76_XFd : (type_of% ck_40) ∧ (type_of% cx_40) ∧ (type_of% ck_50) ∧ (type_of% cx_50) ∧ (type_of% ce_50) ∧ (type_of% ck_137) ∧ (type_of% cx_137) := ⟨ck_40, cx_40, ck_50, cx_50, ce_50, ck_137, cx_137⟩
theorem ty84_XFd : (type_of% ck_2) ∧ (type_of% cx_2) ∧ (type_of% ck_3) ∧ (type_of% cx_3) ∧ (type_of% ck_4) ∧ (type_of% cx_4) ∧ (type_of% ck_40) ∧ (type_of% cx_40) ∧ (type_of% ck_50) ∧ (type_of% cx_50) ∧ (type_of% ce_50) ∧ (type_of% ck_135) ∧ (type_of% cx_135) := ⟨ck_2, cx_2, ck_3, cx_3, ck_4, cx_4, ck_40, cx_40, ck_50, cx_50, ce_50, ck_135, cx_135⟩
theorem ty77_XFd : (type_of% ck_3) ∧ (type_of% cx_3) ∧ (type_of% ck_40) ∧ (type_of% cx_40) ∧ (type_of% ck_46) ∧ (type_of% cx_46) ∧ (type_of% @ks_46) ∧ (type_of% @ko_46) ∧ (type_of% @kn_46) ∧ (type_of% kz_46) ∧ (type_of% ck_50) ∧ (type_of% cx_50) ∧ (type_of% ce_50) ∧ (type_of% ck_86) ∧ (type_of% cx_86) ∧ (type_of% ck_135) ∧ (type_of% cx_135) ∧ (type_of% ck_137) ∧ (type_of% cx_137) := ⟨ck_3, cx_3, ck_40, cx_40, ck_46, cx_46, @ks_46, @ko_46, @kn_46, kz_46, ck_50, cx_50, ce_50, ck_86, cx_86, ck_135, cx_135, ck_137, cx_137⟩
/-- The finder: a row, an error. -/
def fdO (row : List Va) (e : Int) : Ob := .row 2 [[.p (.sl 3 (enV row)), intV .i64 e]]
theorem fdP (row : List Va) (e : Int) : PlainOb (fdO row e) := ⟨fun g => by simp [renOb, fdO, renL, renA, intV], fun n => by simp [tokOb, fdO, tokLtL, tokLt, intV], 2, _, rfl⟩
set_option maxRecDepth 100000 in
set_option maxHeartbeats 4000000 in
theorem afail (row : List Va) (c e : Int) : OCalls (fdO row) 76 (fun t => [.mp t 2 0 0, intV .i64 c]) e fun r e' => r = vaA (failV c e).1 ∧ e' = (failV c e).2 := by
  refine OCalls.of (fdP row) (fun t => rfl) rfl ?_
  refine acalls_of cx_ok dr_ok Try.func76 (by kernel_rfl) rfl (nt := 13) (rs := [.cell 4 50]) rfl rfl ?_
  simp only [fdO]
  repeat' first | ((with_reducible first | refine cond_split (fun h => ?_) (fun h => ?_) | refine want_split (fun h => ?_) (fun h => ?_)) <;> (try simp only [h])) | (simp only [↓wBA, wBB, wBC, cx_muts, cx_arr, wBD, convA, Nat.reduceBEq, reduceIte, reduceCtorEq, reducePow, reduceAdd, reduceSub, reduceMul, reduceEqDiff, reduceLeDiff, Nat.reduceLT, Int.reduceLT, Int.reduceLE, Int.reduceToNat, ty76_XFd, bu_len, bu_max, bu_min])
  all_goals refine ret_obI (a := _) (b := _) (fdP _ _) ?_ rfl rfl
  all_goals simp only [↓wBA, wBB, wBC, cx_muts, cx_arr, wBD, convA, Nat.reduceBEq, reduceIte, reduceCtorEq, reducePow, reduceAdd, reduceSub, reduceMul, reduceEqDiff, reduceLeDiff, Nat.reduceLT, Int.reduceLT, Int.reduceLE, Int.reduceToNat, ty76_XFd]
  all_goals simp_all [resA, resL, resV, leT, leG, leA, leC, leM, leaf, tokLt, tokLtL, intV, boolV, nilA, nilSl, fdO, vaA, vaC, failV, va0, emp]
set_option maxRecDepth 100000 in
set_option maxHeartbeats 8000000 in
theorem anumV (row : List Va) (k a b e : Int) : OCalls (fdO row) 84 (fun t => [.mp t 2 0 0, intV .i64 k, intV .i64 a, intV .i64 b]) e fun r e' => r = vaA (numV k a b e).1 ∧ e' = (numV k a b e).2 := by
  refine OCalls.of (fdP row) (fun t => rfl) rfl ?_
  refine acalls_of cx_ok dr_ok Try.func84 (by kernel_rfl) rfl (nt := 79) (rs := [.cell 8 50]) rfl rfl ?_
  simp only [fdO]
  have ha : (a == 0) = true ∨ ((a == 0) = false ∧ (a = 0) = False) := by by_cases h : a = 0 <;> simp [h]
  have hb : (b == 0) = true ∨ ((b == 0) = false ∧ (b = 0) = False) := by by_cases h : b = 0 <;> simp [h]
  rcases ha with ha | ⟨ha, ha2⟩ <;> rcases hb with hb | ⟨hb, hb2⟩
  · skip
    repeat' first | ((with_reducible first | refine cond_split (fun h => ?_) (fun h => ?_) | refine want_split (fun h => ?_) (fun h => ?_)) <;> (try simp only [h])) | (simp only [↓wBA, wBB, wBC, cx_muts, cx_arr, wBD, convA, Nat.reduceBEq, reduceIte, reduceCtorEq, reducePow, reduceAdd, reduceSub, reduceMul, reduceEqDiff, reduceLeDiff, Nat.reduceLT, Int.reduceLT, Int.reduceLE, Int.reduceToNat, ty84_XFd, bu_len, bu_max, bu_min, ha, hb]) | ((with_reducible show ACalls _ _ _ _ _); refine (afail row _ _ _ 0 rfl).mono ?_; rintro _ _ ⟨_, ⟨rfl, rfl⟩, rfl⟩; simp only [fdO, vaA, vaC, List.map_cons, List.map_nil])
    all_goals refine ret_obI (a := _) (b := _) (fdP _ _) ?_ rfl rfl
    all_goals simp only [↓wBA, wBB, wBC, cx_muts, cx_arr, wBD, convA, Nat.reduceBEq, reduceIte, reduceCtorEq, reducePow, reduceAdd, reduceSub, reduceMul, reduceEqDiff, reduceLeDiff, Nat.reduceLT, Int.reduceLT, Int.reduceLE, Int.reduceToNat, ty84_XFd]
    all_goals simp_all [resA, resL, resV, leT, leG, leA, leC, leM, leaf, tokLt, tokLtL, intV, boolV, nilA, nilSl, fdO, vaA, vaC, numV, failV, va0, emp]
  · skip
    repeat' first | ((with_reducible first | refine cond_split (fun h => ?_) (fun h => ?_) | refine want_split (fun h => ?_) (fun h => ?_)) <;> (try simp only [h])) | (simp only [↓wBA, wBB, wBC, cx_muts, cx_arr, wBD, convA, Nat.reduceBEq, reduceIte, reduceCtorEq, reducePow, reduceAdd, reduceSub, reduceMul, reduceEqDiff, reduceLeDiff, Nat.reduceLT, Int.reduceLT, Int.reduceLE, Int.reduceToNat, ty84_XFd, bu_len, bu_max, bu_min, ha, hb, hb2]) | ((with_reducible show ACalls _ _ _ _ _); refine (afail row _ _ _ 0 rfl).mono ?_; rintro _ _ ⟨_, ⟨rfl, rfl⟩, rfl⟩; simp only [fdO, vaA, vaC, List.map_cons, List.map_nil])
    all_goals refine ret_obI (a := _) (b := _) (fdP _ _) ?_ rfl rfl
    all_goals simp only [↓wBA, wBB, wBC, cx_muts, cx_arr, wBD, convA, Nat.reduceBEq, reduceIte, reduceCtorEq, reducePow, reduceAdd, reduceSub, reduceMul, reduceEqDiff, reduceLeDiff, Nat.reduceLT, Int.reduceLT, Int.reduceLE, Int.reduceToNat, ty84_XFd]
    all_goals simp_all [resA, resL, resV, leT, leG, leA, leC, leM, leaf, tokLt, tokLtL, intV, boolV, nilA, nilSl, fdO, vaA, vaC, numV, failV, va0, emp]
  · skip
    repeat' first | ((with_reducible first | refine cond_split (fun h => ?_) (fun h => ?_) | refine want_split (fun h => ?_) (fun h => ?_)) <;> (try simp only [h])) | (simp only [↓wBA, wBB, wBC, cx_muts, cx_arr, wBD, convA, Nat.reduceBEq, reduceIte, reduceCtorEq, reducePow, reduceAdd, reduceSub, reduceMul, reduceEqDiff, reduceLeDiff, Nat.reduceLT, Int.reduceLT, Int.reduceLE, Int.reduceToNat, ty84_XFd, bu_len, bu_max, bu_min, ha, ha2, hb]) | ((with_reducible show ACalls _ _ _ _ _); refine (afail row _ _ _ 0 rfl).mono ?_; rintro _ _ ⟨_, ⟨rfl, rfl⟩, rfl⟩; simp only [fdO, vaA, vaC, List.map_cons, List.map_nil])
    all_goals refine ret_obI (a := _) (b := _) (fdP _ _) ?_ rfl rfl
    all_goals simp only [↓wBA, wBB, wBC, cx_muts, cx_arr, wBD, convA, Nat.reduceBEq, reduceIte, reduceCtorEq, reducePow, reduceAdd, reduceSub, reduceMul, reduceEqDiff, reduceLeDiff, Nat.reduceLT, Int.reduceLT, Int.reduceLE, Int.reduceToNat, ty84_XFd]
    all_goals simp_all [resA, resL, resV, leT, leG, leA, leC, leM, leaf, tokLt, tokLtL, intV, boolV, nilA, nilSl, fdO, vaA, vaC, numV, failV, va0, emp]
  · skip
    repeat' first | ((with_reducible first | refine cond_split (fun h => ?_) (fun h => ?_) | refine want_split (fun h => ?_) (fun h => ?_)) <;> (try simp only [h])) | (simp only [↓wBA, wBB, wBC, cx_muts, cx_arr, wBD, convA, Nat.reduceBEq, reduceIte, reduceCtorEq, reducePow, reduceAdd, reduceSub, reduceMul, reduceEqDiff, reduceLeDiff, Nat.reduceLT, Int.reduceLT, Int.reduceLE, Int.reduceToNat, ty84_XFd, bu_len, bu_max, bu_min, ha, ha2, hb, hb2]) | ((with_reducible show ACalls _ _ _ _ _); refine (afail row _ _ _ 0 rfl).mono ?_; rintro _ _ ⟨_, ⟨rfl, rfl⟩, rfl⟩; simp only [fdO, vaA, vaC, List.map_cons, List.map_nil])
    all_goals refine ret_obI (a := _) (b := _) (fdP _ _) ?_ rfl rfl
    all_goals simp only [↓wBA, wBB, wBC, cx_muts, cx_arr, wBD, convA, Nat.reduceBEq, reduceIte, reduceCtorEq, reducePow, reduceAdd, reduceSub, reduceMul, reduceEqDiff, reduceLeDiff, Nat.reduceLT, Int.reduceLT, Int.reduceLE, Int.reduceToNat, ty84_XFd]
    all_goals simp_all [resA, resL, resV, leT, leG, leA, leC, leM, leaf, tokLt, tokLtL, intV, boolV, nilA, nilSl, fdO, vaA, vaC, numV, failV, va0, emp]
set_option maxRecDepth 100000 in
set_option maxHeartbeats 8000000 in
theorem aleafV (row : List Va) (k vk vn : Int) (vs tb nm : ByteArray) (s : Int) (kids : List Ex) (e : Int) : OCalls (fdO row) 77 (fun t => [.mp t 2 0 0, exA (.mk k vk vn vs tb nm s kids)]) e fun r e' => r = vaA (leafV row k (vk, vn, vs) s e).1 ∧ e' = (leafV row k (vk, vn, vs) s e).2 := by
  refine OCalls.of (fdP row) (fun t => rfl) rfl ?_
  refine acalls_of cx_ok dr_ok Try.func77 (by kernel_rfl) rfl (nt := 60) (rs := [.cell 4 50]) rfl rfl ?_
  simp only [fdO, exA, exC, List.map_cons, List.map_nil]
  have hs : (0 ≤ s ∧ s < (row.length : Int)) ∨ ¬ (0 ≤ s) ∨ (0 ≤ s ∧ ¬ s < (row.length : Int)) := by omega
  rcases hs with ⟨hs, hs2⟩ | hs | ⟨hs, hs2⟩
  · have hg : (enV row)[s.toNat]? = some (vaC (row.getD s.toNat va0)) := by rw [enV_get row s.toNat (by omega)]; simp [List.getD, show s.toNat < row.length by omega]
    have h1 : decide (s ≥ 0) = true := by simp; omega
    have h2 : decide (s < (row.length : Int)) = true := by simp; omega
    have h0 : ((0 : Int) ≤ s) = True := eq_true hs
    repeat' first | ((with_reducible first | refine cond_split (fun h => ?_) (fun h => ?_) | refine want_split (fun h => ?_) (fun h => ?_)) <;> (try simp only [h])) | (simp only [↓wBA, wBB, wBC, cx_muts, cx_arr, wBD, convA, Nat.reduceBEq, reduceIte, reduceCtorEq, reducePow, reduceAdd, reduceSub, reduceMul, reduceEqDiff, reduceLeDiff, Nat.reduceLT, Int.reduceLT, Int.reduceLE, Int.reduceToNat, ty77_XFd, bu_len, bu_max, bu_min, pl77_5_XFd, pl77_6_XFd, enV_len, hg, h1, h2, h0, vaC_len, List.length_map]) | ((with_reducible show ACalls _ _ _ _ _); refine (afail row _ _ _ 0 rfl).mono ?_; rintro _ _ ⟨_, ⟨rfl, rfl⟩, rfl⟩; simp only [fdO, vaA, vaC, List.map_cons, List.map_nil]) | ((with_reducible show ACalls _ _ _ _ _); refine (aokV (_, _, _) _).mono ?_; rintro _ _ ⟨rfl, rfl⟩) | ((with_reducible show ACalls _ _ _ _ _); refine (aokV _ _).mono ?_; rintro _ _ ⟨rfl, rfl⟩) | (with_reducible refine draw_plan pl77_5_XFd 30 (some 23) (by decide) (by decide) (by kernel_rfl) (by kernel_rfl) ?_) | (with_reducible refine draw_plan pl77_6_XFd 9 (some 52) (by decide) (by decide) (by kernel_rfl) (by kernel_rfl) ?_) | ((with_reducible first | refine wantD_split (fun h => ?_) (fun h => ?_) | refine wantU_split (fun h => ?_) (fun h => ?_)) <;> (try simp only [h])) | (with_reducible refine And.intro ?_ ?_)
    all_goals refine ret_obI (a := _) (b := _) (fdP _ _) ?_ rfl rfl
    all_goals simp only [↓wBA, wBB, wBC, cx_muts, cx_arr, wBD, convA, Nat.reduceBEq, reduceIte, reduceCtorEq, reducePow, reduceAdd, reduceSub, reduceMul, reduceEqDiff, reduceLeDiff, Nat.reduceLT, Int.reduceLT, Int.reduceLE, Int.reduceToNat, ty77_XFd]
    all_goals simp_all [resA, resL, resV, leT, leG, leA, leC, leM, leaf, tokLt, tokLtL, intV, boolV, nilA, nilSl, fdO, vaA, vaC, leafV, failV, va0, emp]
    all_goals grind
  · have h1 : decide (s ≥ 0) = false := by simp; omega
    repeat' first | ((with_reducible first | refine cond_split (fun h => ?_) (fun h => ?_) | refine want_split (fun h => ?_) (fun h => ?_)) <;> (try simp only [h])) | (simp only [↓wBA, wBB, wBC, cx_muts, cx_arr, wBD, convA, Nat.reduceBEq, reduceIte, reduceCtorEq, reducePow, reduceAdd, reduceSub, reduceMul, reduceEqDiff, reduceLeDiff, Nat.reduceLT, Int.reduceLT, Int.reduceLE, Int.reduceToNat, ty77_XFd, bu_len, bu_max, bu_min, pl77_5_XFd, pl77_6_XFd, enV_len, h1, vaC_len, List.length_map]) | ((with_reducible show ACalls _ _ _ _ _); refine (afail row _ _ _ 0 rfl).mono ?_; rintro _ _ ⟨_, ⟨rfl, rfl⟩, rfl⟩; simp only [fdO, vaA, vaC, List.map_cons, List.map_nil]) | ((with_reducible show ACalls _ _ _ _ _); refine (aokV (_, _, _) _).mono ?_; rintro _ _ ⟨rfl, rfl⟩) | (with_reducible refine draw_plan pl77_5_XFd 30 (some 23) (by decide) (by decide) (by kernel_rfl) (by kernel_rfl) ?_) | (with_reducible refine draw_plan pl77_6_XFd 9 (some 52) (by decide) (by decide) (by kernel_rfl) (by kernel_rfl) ?_) | ((with_reducible first | refine wantD_split (fun h => ?_) (fun h => ?_) | refine wantU_split (fun h => ?_) (fun h => ?_)) <;> (try simp only [h])) | (with_reducible refine And.intro ?_ ?_)
    all_goals refine ret_obI (a := _) (b := _) (fdP _ _) ?_ rfl rfl
    all_goals simp only [↓wBA, wBB, wBC, cx_muts, cx_arr, wBD, convA, Nat.reduceBEq, reduceIte, reduceCtorEq, reducePow, reduceAdd, reduceSub, reduceMul, reduceEqDiff, reduceLeDiff, Nat.reduceLT, Int.reduceLT, Int.reduceLE, Int.reduceToNat, ty77_XFd]
    all_goals simp_all [resA, resL, resV, leT, leG, leA, leC, leM, leaf, tokLt, tokLtL, intV, boolV, nilA, nilSl, fdO, vaA, vaC, leafV, failV, va0, emp]
    all_goals grind
  · have h1 : decide (s ≥ 0) = true := by simp; omega
    have h2 : decide (s < (row.length : Int)) = false := by simp; omega
    repeat' first | ((with_reducible first | refine cond_split (fun h => ?_) (fun h => ?_) | refine want_split (fun h => ?_) (fun h => ?_)) <;> (try simp only [h])) | (simp only [↓wBA, wBB, wBC, cx_muts, cx_arr, wBD, convA, Nat.reduceBEq, reduceIte, reduceCtorEq, reducePow, reduceAdd, reduceSub, reduceMul, reduceEqDiff, reduceLeDiff, Nat.reduceLT, Int.reduceLT, Int.reduceLE, Int.reduceToNat, ty77_XFd, bu_len, bu_max, bu_min, pl77_5_XFd, pl77_6_XFd, enV_len, h1, h2, vaC_len, List.length_map]) | ((with_reducible show ACalls _ _ _ _ _); refine (afail row _ _ _ 0 rfl).mono ?_; rintro _ _ ⟨_, ⟨rfl, rfl⟩, rfl⟩; simp only [fdO, vaA, vaC, List.map_cons, List.map_nil]) | ((with_reducible show ACalls _ _ _ _ _); refine (aokV (_, _, _) _).mono ?_; rintro _ _ ⟨rfl, rfl⟩) | (with_reducible refine draw_plan pl77_5_XFd 30 (some 23) (by decide) (by decide) (by kernel_rfl) (by kernel_rfl) ?_) | (with_reducible refine draw_plan pl77_6_XFd 9 (some 52) (by decide) (by decide) (by kernel_rfl) (by kernel_rfl) ?_) | ((with_reducible first | refine wantD_split (fun h => ?_) (fun h => ?_) | refine wantU_split (fun h => ?_) (fun h => ?_)) <;> (try simp only [h])) | (with_reducible refine And.intro ?_ ?_)
    all_goals refine ret_obI (a := _) (b := _) (fdP _ _) ?_ rfl rfl
    all_goals simp only [↓wBA, wBB, wBC, cx_muts, cx_arr, wBD, convA, Nat.reduceBEq, reduceIte, reduceCtorEq, reducePow, reduceAdd, reduceSub, reduceMul, reduceEqDiff, reduceLeDiff, Nat.reduceLT, Int.reduceLT, Int.reduceLE, Int.reduceToNat, ty77_XFd]
    all_goals simp_all [resA, resL, resV, leT, leG, leA, leC, leM, leaf, tokLt, tokLtL, intV, boolV, nilA, nilSl, fdO, vaA, vaC, leafV, failV, va0, emp]
    all_goals grind
end Go.Proofs.Ytcnkmandddfdmaa
