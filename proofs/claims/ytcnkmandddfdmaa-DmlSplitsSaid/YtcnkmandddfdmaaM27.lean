/- Rows compared. cadastrelaw23.same: the same writes? An update, row by row. The reference's Ok is the program's. -/
import Derived.Test.YtcnkmandddfdmaaM17
import Derived.Test.YtcnkmandddfdmaaM20
import Derived.Test.YtcnkmandddfdmaaM26
set_option linter.unusedSimpArgs false
set_option linter.unusedVariables false
namespace Go.Proofs.Ytcnkmandddfdmaa
open Go.RowKit
open Nat (reducePow reduceAdd reduceSub reduceMul reduceEqDiff reduceLeDiff)
def pl9_6_XSa : Plan := (.det 0 (.det 1 (.det 2 (.det 3 (.det 4 (.det 5 (.det 6 (.det 7 (.det 8 .done)))))))))
def pl14_6_XSa : Plan := (.det 0 (.det 1 (.det 2 (.det 3 (.det 4 (.det 5 (.det 6 (.det 7 (.fin 8 (.det 9 .done))))))))))
theorem ty9_XSa : (type_of% ck_3) ∧ (type_of% cx_3) ∧ (type_of% ck_46) ∧ (type_of% cx_46) ∧ (type_of% @ks_46) ∧ (type_of% @ko_46) ∧ (type_of% @kn_46) ∧ (type_of% kz_46) ∧ (type_of% ck_50) ∧ (type_of% cx_50) ∧ (type_of% ce_50) := ⟨ck_3, cx_3, ck_46, cx_46, @ks_46, @ko_46, @kn_46, kz_46, ck_50, cx_50, ce_50⟩
theorem ty14_XSa : (type_of% ck_3) ∧ (type_of% cx_3) ∧ (type_of% ck_4) ∧ (type_of% cx_4) ∧ (type_of% ck_25) ∧ (type_of% cx_25) ∧ (type_of% @ks_25) ∧ (type_of% @ko_25) ∧ (type_of% @kn_25) ∧ (type_of% kz_25) ∧ (type_of% ck_46) ∧ (type_of% cx_46) ∧ (type_of% @ks_46) ∧ (type_of% @ko_46) ∧ (type_of% @kn_46) ∧ (type_of% kz_46) := ⟨ck_3, cx_3, ck_4, cx_4, ck_25, cx_25, @ks_25, @ko_25, @kn_25, kz_25, ck_46, cx_46, @ks_46, @ko_46, @kn_46, kz_46⟩
theorem ba_ext {a b : ByteArray} (h : a.toList = b.toList) : a = b := by
  rw [ba_list, ba_list] at h
  cases a; cases b
  congr
  exact Array.toList_inj.1 h
/-- Rows of rows. -/
def sameVV (a b : List (List Va)) : Bool := decide (a = b)
theorem va_eq (a1 a2 b1 b2 : Int) (a3 b3 : ByteArray) : (a1 == b1 && ((a2 == b2) && ((a3.toList == b3.toList) && true))) = decide (((a1, a2, a3) : Va) = (b1, b2, b3)) := by
  by_cases h : ((a1, a2, a3) : Va) = (b1, b2, b3)
  · cases h; simp
  · rw [decide_eq_false h]
    by_cases h1 : a1 = b1
    · by_cases h2 : a2 = b2
      · have h3 : a3.toList ≠ b3.toList := fun e => h (by rw [h1, h2, ba_ext e])
        simp [h3]
      · simp [h2]
    · simp [h1]
def sameV (a b : List Va) : Bool := decide (a = b)
set_option maxRecDepth 100000 in
set_option maxHeartbeats 8000000 in
theorem asameV (a b : List Va) (ha : a.length ≤ 4398046511104) (hb : b.length ≤ 4398046511104) (σ : St) : ACalls Try.prog 9 [.p (.sl 3 (enV a)), .p (.sl 3 (enV b))] σ fun r s => s = σ ∧ r = boolV (sameV a b) := by
  refine ACalls.pureF (R := fun r => r = boolV (sameV a b)) ?_ rfl σ
  refine acalls_of cx_ok dr_ok Try.func9 (by kernel_rfl) rfl (nt := 24) (rs := [.tmp 4]) rfl rfl ?_
  by_cases hab : a.length = b.length
  · have d : ((a.length : Int) != (b.length : Int)) = false := by simp [hab]
    repeat' first | ((with_reducible first | refine cond_split (fun h => ?_) (fun h => ?_) | refine want_split (fun h => ?_) (fun h => ?_)) <;> (try simp only [h])) | (simp only [↓wBA, wBB, wBC, cx_muts, cx_arr, wBD, convA, Nat.reduceBEq, reduceIte, reduceCtorEq, reducePow, reduceAdd, reduceSub, reduceMul, reduceEqDiff, reduceLeDiff, Nat.reduceLT, Int.reduceLT, Int.reduceLE, Int.reduceToNat, ty9_XSa, bu_len, bu_max, bu_min, pl9_6_XSa, enV_len, d]) | (with_reducible refine draw_plan pl9_6_XSa 9 (some 17) (by decide) (by decide) (by kernel_rfl) (by kernel_rfl) ?_) | ((with_reducible first | refine wantD_split (fun h => ?_) (fun h => ?_) | refine wantU_split (fun h => ?_) (fun h => ?_)) <;> (try simp only [h])) | (with_reducible refine And.intro ?_ ?_)
    refine awp_loopN (a.length) (fun i => [(5, intV .i64 (i : Nat)), (4, .any), (11, .any), (12, .any), (13, .any), (14, .any), (15, .any), (16, .any), (17, .any), (18, .any), (19, .any), (20, .any), (21, .any), (22, .any), (23, .any), (24, .any), (25, .any)]) (fun i => []) (fun i => a.take i = b.take i) ?_ ?_ ?_
    · rfl
    · skip
      simp only [setsF_cons, setsF_nil, setsO_cons, setsO_nil, List.set_cons_zero, List.set_cons_succ, List.length_cons, List.length_nil, St.put, Nat.zero_add, Nat.reduceAdd, Nat.reduceLT, Nat.lt_irrefl, reduceIte, List.cons_append, List.nil_append]
      simp [WeakE, Weak, setsF, setsO, St.put, leL, leT, leM, leG, leA, leC, leR, leS, leO, tokLt, tokLtL, intV, boolV, leaf, nilA, nilSl]
    · intro i hi hI
      simp only [setsF_cons, setsF_nil, setsO_cons, setsO_nil, List.set_cons_zero, List.set_cons_succ, List.length_cons, List.length_nil, St.put, Nat.zero_add, Nat.reduceAdd, Nat.reduceLT, Nat.lt_irrefl, reduceIte, List.cons_append, List.nil_append]
      by_cases hlt : i < a.length
      · have hdec : decide ((i : Int) < (a.length : Int)) = true := by simp; omega
        have hi0 : ((0 : Int) ≤ (i : Int)) = True := eq_true (by omega)
        have hw : IntKind.i64.wrap ((i : Int) + 1) = ((i + 1 : Nat) : Int) := by rw [wrap_i64 (by omega) (by omega)]; simp
        have hltb : i < b.length := by omega
        have hg := enV_get a i hlt
        have hgb := enV_get b i hltb
        have hta := List.take_succ_eq_append_getElem hlt
        have htb := List.take_succ_eq_append_getElem hltb
        have hfin : a[i] ≠ b[i] → sameV a b = false := fun h => decide_eq_false fun e => h (by subst e; rfl)
        rcases hai : a[i] with ⟨a1, a2, a3⟩
        rcases hbi : b[i] with ⟨b1, b2, b3⟩
        rw [hai] at hg hta hfin
        rw [hbi] at hgb htb hfin
        simp only [vaC] at hg hgb
        have hv := va_eq a1 a2 b1 b2 a3 b3
        repeat' first | ((with_reducible first | refine cond_split (fun h => ?_) (fun h => ?_) | refine want_split (fun h => ?_) (fun h => ?_)) <;> (try simp only [h])) | (simp only [↓wBA, wBB, wBC, cx_muts, cx_arr, wBD, convA, Nat.reduceBEq, reduceIte, reduceCtorEq, reducePow, reduceAdd, reduceSub, reduceMul, reduceEqDiff, reduceLeDiff, Nat.reduceLT, Int.reduceLT, Int.reduceLE, Int.reduceToNat, ty9_XSa, bu_len, bu_max, bu_min, pl9_6_XSa, enV_len, hdec, hi0, hw, hg, hgb, hv]) | (with_reducible refine draw_plan pl9_6_XSa 9 (some 17) (by decide) (by decide) (by kernel_rfl) (by kernel_rfl) ?_) | ((with_reducible first | refine wantD_split (fun h => ?_) (fun h => ?_) | refine wantU_split (fun h => ?_) (fun h => ?_)) <;> (try simp only [h])) | (with_reducible refine And.intro ?_ ?_)
        · have hf := hfin (by intro e; rw [decide_eq_true e] at h; simp at h)
          simp only [hf]
          all_goals refine ret_is (a := _) ?_ rfl rfl
          all_goals simp only [↓wBA, wBB, wBC, cx_muts, cx_arr, wBD, convA, Nat.reduceBEq, reduceIte, reduceCtorEq, reducePow, reduceAdd, reduceSub, reduceMul, reduceEqDiff, reduceLeDiff, Nat.reduceLT, Int.reduceLT, Int.reduceLE, Int.reduceToNat, ty9_XSa]
          all_goals simp_all [resA, resL, resV, leT, leG, leA, leC, leM, leaf, tokLt, tokLtL, intV, boolV, nilA, nilSl]
        · skip
          refine ⟨⟨i + 1, by omega, ?_⟩, by show a.length - (i + 1) < a.length - i; omega, ?_⟩
          · rw [hta, htb, hI]; congr 1; simpa using h
          · skip
            simp only [setsF_cons, setsF_nil, setsO_cons, setsO_nil, List.set_cons_zero, List.set_cons_succ, List.length_cons, List.length_nil, St.put, Nat.zero_add, Nat.reduceAdd, Nat.reduceLT, Nat.lt_irrefl, reduceIte, List.cons_append, List.nil_append]
            simp [WeakE, Weak, setsF, setsO, St.put, leL, leT, leM, leG, leA, leC, leR, leS, leO, tokLt, tokLtL, intV, boolV, leaf, nilA, nilSl]
      · have hdec : decide ((i : Int) < (a.length : Int)) = false := by simp; omega
        have hs : sameV a b = true := decide_eq_true (by rw [List.take_of_length_le (by omega), List.take_of_length_le (by omega)] at hI; exact hI)
        simp only [hs]
        repeat' first | ((with_reducible first | refine cond_split (fun h => ?_) (fun h => ?_) | refine want_split (fun h => ?_) (fun h => ?_)) <;> (try simp only [h])) | (simp only [↓wBA, wBB, wBC, cx_muts, cx_arr, wBD, convA, Nat.reduceBEq, reduceIte, reduceCtorEq, reducePow, reduceAdd, reduceSub, reduceMul, reduceEqDiff, reduceLeDiff, Nat.reduceLT, Int.reduceLT, Int.reduceLE, Int.reduceToNat, ty9_XSa, bu_len, bu_max, bu_min, pl9_6_XSa, enV_len, hdec]) | (with_reducible refine draw_plan pl9_6_XSa 9 (some 17) (by decide) (by decide) (by kernel_rfl) (by kernel_rfl) ?_) | ((with_reducible first | refine wantD_split (fun h => ?_) (fun h => ?_) | refine wantU_split (fun h => ?_) (fun h => ?_)) <;> (try simp only [h])) | (with_reducible refine And.intro ?_ ?_)
        all_goals refine ret_is (a := _) ?_ rfl rfl
        all_goals simp only [↓wBA, wBB, wBC, cx_muts, cx_arr, wBD, convA, Nat.reduceBEq, reduceIte, reduceCtorEq, reducePow, reduceAdd, reduceSub, reduceMul, reduceEqDiff, reduceLeDiff, Nat.reduceLT, Int.reduceLT, Int.reduceLE, Int.reduceToNat, ty9_XSa]
        all_goals simp_all [resA, resL, resV, leT, leG, leA, leC, leM, leaf, tokLt, tokLtL, intV, boolV, nilA, nilSl]
  · have d : ((a.length : Int) != (b.length : Int)) = true := by simp; omega
    have hs : sameV a b = false := decide_eq_false fun e => hab (by rw [e])
    simp only [hs]
    repeat' first | ((with_reducible first | refine cond_split (fun h => ?_) (fun h => ?_) | refine want_split (fun h => ?_) (fun h => ?_)) <;> (try simp only [h])) | (simp only [↓wBA, wBB, wBC, cx_muts, cx_arr, wBD, convA, Nat.reduceBEq, reduceIte, reduceCtorEq, reducePow, reduceAdd, reduceSub, reduceMul, reduceEqDiff, reduceLeDiff, Nat.reduceLT, Int.reduceLT, Int.reduceLE, Int.reduceToNat, ty9_XSa, bu_len, bu_max, bu_min, pl9_6_XSa, enV_len, d]) | (with_reducible refine draw_plan pl9_6_XSa 9 (some 17) (by decide) (by decide) (by kernel_rfl) (by kernel_rfl) ?_) | ((with_reducible first | refine wantD_split (fun h => ?_) (fun h => ?_) | refine wantU_split (fun h => ?_) (fun h => ?_)) <;> (try simp only [h])) | (with_reducible refine And.intro ?_ ?_)
    all_goals refine ret_is (a := _) ?_ rfl rfl
    all_goals simp only [↓wBA, wBB, wBC, cx_muts, cx_arr, wBD, convA, Nat.reduceBEq, reduceIte, reduceCtorEq, reducePow, reduceAdd, reduceSub, reduceMul, reduceEqDiff, reduceLeDiff, Nat.reduceLT, Int.reduceLT, Int.reduceLE, Int.reduceToNat, ty9_XSa]
    all_goals simp_all [resA, resL, resV, leT, leG, leA, leC, leM, leaf, tokLt, tokLtL, intV, boolV, nilA, nilSl]
set_option maxRecDepth 100000 in
set_option maxHeartbeats 8000000 in
theorem asameVV (a b : List (List Va)) (ha : a.length ≤ 4398046511104) (hb : b.length ≤ 4398046511104) (hra : ∀ r ∈ a, r.length ≤ 4398046511104) (hrb : ∀ r ∈ b, r.length ≤ 4398046511104) (σ : St) : ACalls Try.prog 14 [.p (.sl 1 (enVV a)), .p (.sl 1 (enVV b))] σ fun r s => s = σ ∧ r = boolV (sameVV a b) := by
  refine ACalls.pureF (R := fun r => r = boolV (sameVV a b)) ?_ rfl σ
  refine acalls_of cx_ok dr_ok Try.func14 (by kernel_rfl) rfl (nt := 25) (rs := [.tmp 4]) rfl rfl ?_
  by_cases hab : a.length = b.length
  · have d : ((a.length : Int) != (b.length : Int)) = false := by simp [hab]
    repeat' first | ((with_reducible first | refine cond_split (fun h => ?_) (fun h => ?_) | refine want_split (fun h => ?_) (fun h => ?_)) <;> (try simp only [h])) | (simp only [↓wBA, wBB, wBC, cx_muts, cx_arr, wBD, convA, Nat.reduceBEq, reduceIte, reduceCtorEq, reducePow, reduceAdd, reduceSub, reduceMul, reduceEqDiff, reduceLeDiff, Nat.reduceLT, Int.reduceLT, Int.reduceLE, Int.reduceToNat, ty14_XSa, bu_len, bu_max, bu_min, pl14_6_XSa, enVV_len, d]) | (with_reducible refine draw_plan pl14_6_XSa 10 (some 17) (by decide) (by decide) (by kernel_rfl) (by kernel_rfl) ?_) | ((with_reducible first | refine wantD_split (fun h => ?_) (fun h => ?_) | refine wantU_split (fun h => ?_) (fun h => ?_)) <;> (try simp only [h])) | (with_reducible refine And.intro ?_ ?_)
    refine awp_loopN (a.length) (fun i => [(5, intV .i64 (i : Nat)), (4, .any), (11, .any), (12, .any), (13, .any), (14, .any), (15, .any), (16, .any), (17, .any), (18, .any), (19, .any), (20, .any), (21, .any), (22, .any), (23, .any), (24, .any), (25, .any), (26, .any)]) (fun i => []) (fun i => a.take i = b.take i) ?_ ?_ ?_
    · rfl
    · skip
      simp only [setsF_cons, setsF_nil, setsO_cons, setsO_nil, List.set_cons_zero, List.set_cons_succ, List.length_cons, List.length_nil, St.put, Nat.zero_add, Nat.reduceAdd, Nat.reduceLT, Nat.lt_irrefl, reduceIte, List.cons_append, List.nil_append]
      simp [WeakE, Weak, setsF, setsO, St.put, leL, leT, leM, leG, leA, leC, leR, leS, leO, tokLt, tokLtL, intV, boolV, leaf, nilA, nilSl]
    · intro i hi hI
      simp only [setsF_cons, setsF_nil, setsO_cons, setsO_nil, List.set_cons_zero, List.set_cons_succ, List.length_cons, List.length_nil, St.put, Nat.zero_add, Nat.reduceAdd, Nat.reduceLT, Nat.lt_irrefl, reduceIte, List.cons_append, List.nil_append]
      by_cases hlt : i < a.length
      · have hdec : decide ((i : Int) < (a.length : Int)) = true := by simp; omega
        have hi0 : ((0 : Int) ≤ (i : Int)) = True := eq_true (by omega)
        have hw : IntKind.i64.wrap ((i : Int) + 1) = ((i + 1 : Nat) : Int) := by rw [wrap_i64 (by omega) (by omega)]; simp
        have hltb : i < b.length := by omega
        have hg := enVV_get a i hlt
        have hgb := enVV_get b i hltb
        have hta := List.take_succ_eq_append_getElem hlt
        have htb := List.take_succ_eq_append_getElem hltb
        have hfin : a[i] ≠ b[i] → sameVV a b = false := fun h => decide_eq_false fun e => h (by subst e; rfl)
        have hS := asameV a[i] b[i] (hra _ (List.getElem_mem hlt)) (hrb _ (List.getElem_mem hltb))
        repeat' first | ((with_reducible first | refine cond_split (fun h => ?_) (fun h => ?_) | refine want_split (fun h => ?_) (fun h => ?_)) <;> (try simp only [h])) | (simp only [↓wBA, wBB, wBC, cx_muts, cx_arr, wBD, convA, Nat.reduceBEq, reduceIte, reduceCtorEq, reducePow, reduceAdd, reduceSub, reduceMul, reduceEqDiff, reduceLeDiff, Nat.reduceLT, Int.reduceLT, Int.reduceLE, Int.reduceToNat, ty14_XSa, bu_len, bu_max, bu_min, pl14_6_XSa, enVV_len, hdec, hi0, hw, hg, hgb]) | ((with_reducible show ACalls _ _ _ _ _); refine (hS _).mono ?_; rintro _ _ ⟨rfl, rfl⟩) | (with_reducible refine draw_plan pl14_6_XSa 10 (some 17) (by decide) (by decide) (by kernel_rfl) (by kernel_rfl) ?_) | ((with_reducible first | refine wantD_split (fun h => ?_) (fun h => ?_) | refine wantU_split (fun h => ?_) (fun h => ?_)) <;> (try simp only [h])) | (with_reducible refine And.intro ?_ ?_)
        all_goals first
          | (refine ⟨⟨i + 1, by omega, ?_⟩, by show a.length - (i + 1) < a.length - i; omega, ?_⟩
             · rw [hta, htb, hI]; congr 1; simpa [sameV] using h
             · simp [WeakE, Weak, setsF, setsO, St.put, leL, leT, leM, leG, leA, leC, leR, leS, leO, tokLt, tokLtL, intV, boolV, leaf, nilA, nilSl])
          | (have hf := hfin (by intro e; simp [sameV, e] at h)
             simp only [hf]
             refine ret_is (a := _) ?_ rfl rfl
             simp only [resA, resL, resV, List.getD_cons_zero, List.getD_cons_succ]
             simp_all [leT, leG, leA, leC, leM, leaf, tokLt, tokLtL, intV, boolV, nilA, nilSl]
             done)
      · have hdec : decide ((i : Int) < (a.length : Int)) = false := by simp; omega
        have hs : sameVV a b = true := decide_eq_true (by rw [List.take_of_length_le (by omega), List.take_of_length_le (by omega)] at hI; exact hI)
        simp only [hs]
        repeat' first | ((with_reducible first | refine cond_split (fun h => ?_) (fun h => ?_) | refine want_split (fun h => ?_) (fun h => ?_)) <;> (try simp only [h])) | (simp only [↓wBA, wBB, wBC, cx_muts, cx_arr, wBD, convA, Nat.reduceBEq, reduceIte, reduceCtorEq, reducePow, reduceAdd, reduceSub, reduceMul, reduceEqDiff, reduceLeDiff, Nat.reduceLT, Int.reduceLT, Int.reduceLE, Int.reduceToNat, ty14_XSa, bu_len, bu_max, bu_min, pl14_6_XSa, enVV_len, hdec]) | (with_reducible refine draw_plan pl14_6_XSa 10 (some 17) (by decide) (by decide) (by kernel_rfl) (by kernel_rfl) ?_) | ((with_reducible first | refine wantD_split (fun h => ?_) (fun h => ?_) | refine wantU_split (fun h => ?_) (fun h => ?_)) <;> (try simp only [h])) | (with_reducible refine And.intro ?_ ?_)
        all_goals refine ret_is (a := _) ?_ rfl rfl
        all_goals simp only [↓wBA, wBB, wBC, cx_muts, cx_arr, wBD, convA, Nat.reduceBEq, reduceIte, reduceCtorEq, reducePow, reduceAdd, reduceSub, reduceMul, reduceEqDiff, reduceLeDiff, Nat.reduceLT, Int.reduceLT, Int.reduceLE, Int.reduceToNat, ty14_XSa]
        all_goals simp_all [resA, resL, resV, leT, leG, leA, leC, leM, leaf, tokLt, tokLtL, intV, boolV, nilA, nilSl]
  · have d : ((a.length : Int) != (b.length : Int)) = true := by simp; omega
    have hs : sameVV a b = false := decide_eq_false fun e => hab (by rw [e])
    simp only [hs]
    repeat' first | ((with_reducible first | refine cond_split (fun h => ?_) (fun h => ?_) | refine want_split (fun h => ?_) (fun h => ?_)) <;> (try simp only [h])) | (simp only [↓wBA, wBB, wBC, cx_muts, cx_arr, wBD, convA, Nat.reduceBEq, reduceIte, reduceCtorEq, reducePow, reduceAdd, reduceSub, reduceMul, reduceEqDiff, reduceLeDiff, Nat.reduceLT, Int.reduceLT, Int.reduceLE, Int.reduceToNat, ty14_XSa, bu_len, bu_max, bu_min, pl14_6_XSa, enVV_len, d]) | (with_reducible refine draw_plan pl14_6_XSa 10 (some 17) (by decide) (by decide) (by kernel_rfl) (by kernel_rfl) ?_) | ((with_reducible first | refine wantD_split (fun h => ?_) (fun h => ?_) | refine wantU_split (fun h => ?_) (fun h => ?_)) <;> (try simp only [h])) | (with_reducible refine And.intro ?_ ?_)
    all_goals refine ret_is (a := _) ?_ rfl rfl
    all_goals simp only [↓wBA, wBB, wBC, cx_muts, cx_arr, wBD, convA, Nat.reduceBEq, reduceIte, reduceCtorEq, reducePow, reduceAdd, reduceSub, reduceMul, reduceEqDiff, reduceLeDiff, Nat.reduceLT, Int.reduceLT, Int.reduceLE, Int.reduceToNat, ty14_XSa]
    all_goals simp_all [resA, resL, resV, leT, leG, leA, leC, leM, leaf, tokLt, tokLtL, intV, boolV, nilA, nilSl]
end Go.Proofs.Ytcnkmandddfdmaa
namespace Go.Proofs.Ytcnkmandddfdmaa
open Go.RowKit
open Nat (reducePow reduceAdd reduceSub reduceMul reduceEqDiff reduceLeDiff)
def pl8_6_XSm : Plan := (.det 0 (.det 1 (.det 2 (.det 3 (.det 4 (.det 5 (.det 6 (.det 7 (.det 8 (.det 9 (.det 10 (.det 11 (.det 12 (.det 13 (.det 14 (.det 15 (.det 16 (.det 17 (.det 18 (.det 19 (.det 20 (.det 21 (.fin 22 (.det 23 (.det 24 (.det 25 (.det 26 (.det 27 (.det 28 (.det 29 (.det 30 (.det 31 (.det 32 (.det 33 (.det 34 (.det 35 (.fin 36 (.det 37 (.det 38 (.det 39 (.det 40 (.det 41 (.det 42 (.det 43 (.det 44 (.det 45 (.det 46 (.det 47 (.det 48 (.det 49 (.det 50 (.det 51 (.det 52 (.det 53 .done))))))))))))))))))))))))))))))))))))))))))))))))))))))
theorem ty8_XSm : (type_of% ck_3) ∧ (type_of% cx_3) ∧ (type_of% ck_4) ∧ (type_of% cx_4) ∧ (type_of% ck_9) ∧ (type_of% cx_9) ∧ (type_of% ck_39) ∧ (type_of% cx_39) ∧ (type_of% @ks_39) ∧ (type_of% @ko_39) ∧ (type_of% @kn_39) ∧ (type_of% kz_39) ∧ (type_of% ck_46) ∧ (type_of% cx_46) ∧ (type_of% @ks_46) ∧ (type_of% @ko_46) ∧ (type_of% @kn_46) ∧ (type_of% kz_46) ∧ (type_of% ck_48) ∧ (type_of% cx_48) := ⟨ck_3, cx_3, ck_4, cx_4, ck_9, cx_9, ck_39, cx_39, @ks_39, @ko_39, @kn_39, kz_39, ck_46, cx_46, @ks_46, @ko_46, @kn_46, kz_46, ck_48, cx_48⟩
/-- Each write has a new row, with values. -/
def nnW (l : List Wr) : Prop := ∀ w ∈ l, ∃ r, w.2 = some r ∧ r ≠ [] ∧ r.length ≤ 4398046511104 ∧ w.1.length ≤ 4398046511104
set_option maxRecDepth 100000 in
set_option maxHeartbeats 16000000 in
theorem asameW (nm : ByteArray) (a b : List Wr) (ha : a.length ≤ 1000000000000) (hb : b.length ≤ 1000000000000) (hna : nnW a) (hnb : nnW b) (σ : St) : ACalls Try.prog 8 [.p (.sl 3 (enW nm a)), .p (.sl 3 (enW nm b))] σ fun r s => s = σ ∧ r = boolV (decide (a = b)) := by
  refine ACalls.pureF (R := fun r => r = boolV (decide (a = b))) ?_ rfl σ
  refine acalls_of cx_ok dr_ok Try.func8 (by kernel_rfl) rfl (nt := 69) (rs := [.tmp 4]) rfl rfl ?_
  by_cases hab : a.length = b.length
  · have d : ((a.length : Int) != (b.length : Int)) = false := by simp [hab]
    repeat' first | ((with_reducible first | refine cond_split (fun h => ?_) (fun h => ?_) | refine want_split (fun h => ?_) (fun h => ?_)) <;> (try simp only [h])) | (simp only [↓wBA, wBB, wBC, cx_muts, cx_arr, wBD, convA, Nat.reduceBEq, reduceIte, reduceCtorEq, reducePow, reduceAdd, reduceSub, reduceMul, reduceEqDiff, reduceLeDiff, Nat.reduceLT, Int.reduceLT, Int.reduceLE, Int.reduceToNat, ty8_XSm, bu_len, bu_max, bu_min, pl8_6_XSm, enW_len, d]) | (with_reducible refine draw_plan pl8_6_XSm 54 (some 17) (by decide) (by decide) (by kernel_rfl) (by kernel_rfl) ?_) | ((with_reducible first | refine wantD_split (fun h => ?_) (fun h => ?_) | refine wantU_split (fun h => ?_) (fun h => ?_)) <;> (try simp only [h])) | (with_reducible refine And.intro ?_ ?_)
    refine awp_loopN (a.length) (fun i => [(5, intV .i64 (i : Nat)), (4, .any), (11, .any), (12, .any), (13, .any), (14, .any), (15, .any), (16, .any), (17, .any), (18, .any), (19, .any), (20, .any), (21, .any), (22, .any), (23, .any), (24, .any), (25, .any), (26, .any), (27, .any), (28, .any), (29, .any), (30, .any), (31, .any), (32, .any), (33, .any), (34, .any), (35, .any), (36, .any), (37, .any), (38, .any), (39, .any), (40, .any), (41, .any), (42, .any), (43, .any), (44, .any), (45, .any), (46, .any), (47, .any), (48, .any), (49, .any), (50, .any), (51, .any), (52, .any), (53, .any), (54, .any), (55, .any), (56, .any), (57, .any), (58, .any), (59, .any), (60, .any), (61, .any), (62, .any), (63, .any), (64, .any), (65, .any), (66, .any), (67, .any), (68, .any), (69, .any), (70, .any)]) (fun i => []) (fun i => a.take i = b.take i) ?_ ?_ ?_
    · rfl
    · skip
      simp only [setsF_cons, setsF_nil, setsO_cons, setsO_nil, List.set_cons_zero, List.set_cons_succ, List.length_cons, List.length_nil, St.put, Nat.zero_add, Nat.reduceAdd, Nat.reduceLT, Nat.lt_irrefl, reduceIte, List.cons_append, List.nil_append]
      simp [WeakE, Weak, setsF, setsO, St.put, leL, leT, leM, leG, leA, leC, leR, leS, leO, tokLt, tokLtL, intV, boolV, leaf, nilA, nilSl]
    · intro i hi hI
      simp only [setsF_cons, setsF_nil, setsO_cons, setsO_nil, List.set_cons_zero, List.set_cons_succ, List.length_cons, List.length_nil, St.put, Nat.zero_add, Nat.reduceAdd, Nat.reduceLT, Nat.lt_irrefl, reduceIte, List.cons_append, List.nil_append]
      by_cases hlt : i < a.length
      · have hdec : decide ((i : Int) < (a.length : Int)) = true := by simp; omega
        have hi0 : ((0 : Int) ≤ (i : Int)) = True := eq_true (by omega)
        have hw : IntKind.i64.wrap ((i : Int) + 1) = ((i + 1 : Nat) : Int) := by rw [wrap_i64 (by omega) (by omega)]; simp
        have hltb : i < b.length := by omega
        have hg := enW_get nm a i hlt
        have hgb := enW_get nm b i hltb
        have hta := List.take_succ_eq_append_getElem hlt
        have htb := List.take_succ_eq_append_getElem hltb
        have hfin : a[i] ≠ b[i] → decide (a = b) = false := fun h => decide_eq_false fun e => h (by subst e; rfl)
        obtain ⟨ra, ea, na, la, la1⟩ := hna a[i] (List.getElem_mem hlt)
        obtain ⟨rb, eb, nb, lb, lb1⟩ := hnb b[i] (List.getElem_mem hltb)
        rcases hai : a[i] with ⟨oa, wa⟩
        rcases hbi : b[i] with ⟨ob, wb⟩
        rw [hai] at hg hta hfin ea la1
        rw [hbi] at hgb htb hfin eb lb1
        simp only at ea eb la1 lb1
        subst ea eb
        simp only [wrC] at hg hgb
        have hS1 := asameV oa ob la1 lb1
        have hS2 := asameV ra rb la lb
        have hn1 : isNilA (.p (.sl 3 (enV ra))) = some false := by
          cases ra with
          | nil => exact absurd rfl na
          | cons x l => rfl
        have hn2 : isNilA (.p (.sl 3 (enV rb))) = some false := by
          cases rb with
          | nil => exact absurd rfl nb
          | cons x l => rfl
        have hnm : (!(nm.toList == nm.toList)) = false := by simp
        simp only [sameV] at hS1 hS2
        by_cases h1 : oa = ob
        · subst h1
          rw [decide_eq_true rfl] at hS1
          by_cases h2 : ra = rb
          · subst h2
            rw [decide_eq_true rfl] at hS2
            repeat' first | ((with_reducible first | refine cond_split (fun h => ?_) (fun h => ?_) | refine want_split (fun h => ?_) (fun h => ?_)) <;> (try simp only [h])) | (simp only [↓wBA, wBB, wBC, cx_muts, cx_arr, wBD, convA, Nat.reduceBEq, reduceIte, reduceCtorEq, reducePow, reduceAdd, reduceSub, reduceMul, reduceEqDiff, reduceLeDiff, Nat.reduceLT, Int.reduceLT, Int.reduceLE, Int.reduceToNat, ty8_XSm, bu_len, bu_max, bu_min, pl8_6_XSm, enW_len, hdec, hi0, hw, hg, hgb, hn1, hn2, hnm, binStr, beq_self_eq_true, bne_self_eq_false]) | ((with_reducible show ACalls _ _ _ _ _); refine (hS1 _).mono ?_; rintro _ _ ⟨rfl, rfl⟩) | ((with_reducible show ACalls _ _ _ _ _); refine (hS2 _).mono ?_; rintro _ _ ⟨rfl, rfl⟩) | (with_reducible refine draw_plan pl8_6_XSm 54 (some 17) (by decide) (by decide) (by kernel_rfl) (by kernel_rfl) ?_) | ((with_reducible first | refine wantD_split (fun h => ?_) (fun h => ?_) | refine wantU_split (fun h => ?_) (fun h => ?_)) <;> (try simp only [h])) | (with_reducible refine And.intro ?_ ?_)
            refine ⟨⟨i + 1, by omega, ?_⟩, by show a.length - (i + 1) < a.length - i; omega, ?_⟩
            · rw [hta, htb, hI]
            · skip
              simp [WeakE, Weak, setsF, setsO, St.put, leL, leT, leM, leG, leA, leC, leR, leS, leO, tokLt, tokLtL, intV, boolV, leaf, nilA, nilSl]
          · have hf := hfin (by intro e; simp at e; exact h2 e)
            rw [decide_eq_false h2] at hS2
            simp only [hf]
            repeat' first | ((with_reducible first | refine cond_split (fun h => ?_) (fun h => ?_) | refine want_split (fun h => ?_) (fun h => ?_)) <;> (try simp only [h])) | (simp only [↓wBA, wBB, wBC, cx_muts, cx_arr, wBD, convA, Nat.reduceBEq, reduceIte, reduceCtorEq, reducePow, reduceAdd, reduceSub, reduceMul, reduceEqDiff, reduceLeDiff, Nat.reduceLT, Int.reduceLT, Int.reduceLE, Int.reduceToNat, ty8_XSm, bu_len, bu_max, bu_min, pl8_6_XSm, enW_len, hdec, hi0, hw, hg, hgb, hn1, hn2, hnm, binStr, beq_self_eq_true, bne_self_eq_false]) | ((with_reducible show ACalls _ _ _ _ _); refine (hS1 _).mono ?_; rintro _ _ ⟨rfl, rfl⟩) | ((with_reducible show ACalls _ _ _ _ _); refine (hS2 _).mono ?_; rintro _ _ ⟨rfl, rfl⟩) | (with_reducible refine draw_plan pl8_6_XSm 54 (some 17) (by decide) (by decide) (by kernel_rfl) (by kernel_rfl) ?_) | ((with_reducible first | refine wantD_split (fun h => ?_) (fun h => ?_) | refine wantU_split (fun h => ?_) (fun h => ?_)) <;> (try simp only [h])) | (with_reducible refine And.intro ?_ ?_)
            all_goals refine ret_is (a := _) ?_ rfl rfl
            all_goals simp only [↓wBA, wBB, wBC, cx_muts, cx_arr, wBD, convA, Nat.reduceBEq, reduceIte, reduceCtorEq, reducePow, reduceAdd, reduceSub, reduceMul, reduceEqDiff, reduceLeDiff, Nat.reduceLT, Int.reduceLT, Int.reduceLE, Int.reduceToNat, ty8_XSm]
            all_goals simp_all [resA, resL, resV, leT, leG, leA, leC, leM, leaf, tokLt, tokLtL, intV, boolV, nilA, nilSl]
        · have hf := hfin (by intro e; simp at e; exact h1 e.1)
          rw [decide_eq_false h1] at hS1
          simp only [hf]
          repeat' first | ((with_reducible first | refine cond_split (fun h => ?_) (fun h => ?_) | refine want_split (fun h => ?_) (fun h => ?_)) <;> (try simp only [h])) | (simp only [↓wBA, wBB, wBC, cx_muts, cx_arr, wBD, convA, Nat.reduceBEq, reduceIte, reduceCtorEq, reducePow, reduceAdd, reduceSub, reduceMul, reduceEqDiff, reduceLeDiff, Nat.reduceLT, Int.reduceLT, Int.reduceLE, Int.reduceToNat, ty8_XSm, bu_len, bu_max, bu_min, pl8_6_XSm, enW_len, hdec, hi0, hw, hg, hgb, hn1, hn2, hnm, binStr, beq_self_eq_true, bne_self_eq_false]) | ((with_reducible show ACalls _ _ _ _ _); refine (hS1 _).mono ?_; rintro _ _ ⟨rfl, rfl⟩) | ((with_reducible show ACalls _ _ _ _ _); refine (hS2 _).mono ?_; rintro _ _ ⟨rfl, rfl⟩) | (with_reducible refine draw_plan pl8_6_XSm 54 (some 17) (by decide) (by decide) (by kernel_rfl) (by kernel_rfl) ?_) | ((with_reducible first | refine wantD_split (fun h => ?_) (fun h => ?_) | refine wantU_split (fun h => ?_) (fun h => ?_)) <;> (try simp only [h])) | (with_reducible refine And.intro ?_ ?_)
          all_goals refine ret_is (a := _) ?_ rfl rfl
          all_goals simp only [↓wBA, wBB, wBC, cx_muts, cx_arr, wBD, convA, Nat.reduceBEq, reduceIte, reduceCtorEq, reducePow, reduceAdd, reduceSub, reduceMul, reduceEqDiff, reduceLeDiff, Nat.reduceLT, Int.reduceLT, Int.reduceLE, Int.reduceToNat, ty8_XSm]
          all_goals simp_all [resA, resL, resV, leT, leG, leA, leC, leM, leaf, tokLt, tokLtL, intV, boolV, nilA, nilSl]
      · have hdec : decide ((i : Int) < (a.length : Int)) = false := by simp; omega
        have hs : decide (a = b) = true := decide_eq_true (by rw [List.take_of_length_le (by omega), List.take_of_length_le (by omega)] at hI; exact hI)
        simp only [hs]
        repeat' first | ((with_reducible first | refine cond_split (fun h => ?_) (fun h => ?_) | refine want_split (fun h => ?_) (fun h => ?_)) <;> (try simp only [h])) | (simp only [↓wBA, wBB, wBC, cx_muts, cx_arr, wBD, convA, Nat.reduceBEq, reduceIte, reduceCtorEq, reducePow, reduceAdd, reduceSub, reduceMul, reduceEqDiff, reduceLeDiff, Nat.reduceLT, Int.reduceLT, Int.reduceLE, Int.reduceToNat, ty8_XSm, bu_len, bu_max, bu_min, pl8_6_XSm, enW_len, hdec]) | (with_reducible refine draw_plan pl8_6_XSm 54 (some 17) (by decide) (by decide) (by kernel_rfl) (by kernel_rfl) ?_) | ((with_reducible first | refine wantD_split (fun h => ?_) (fun h => ?_) | refine wantU_split (fun h => ?_) (fun h => ?_)) <;> (try simp only [h])) | (with_reducible refine And.intro ?_ ?_)
        all_goals refine ret_is (a := _) ?_ rfl rfl
        all_goals simp only [↓wBA, wBB, wBC, cx_muts, cx_arr, wBD, convA, Nat.reduceBEq, reduceIte, reduceCtorEq, reducePow, reduceAdd, reduceSub, reduceMul, reduceEqDiff, reduceLeDiff, Nat.reduceLT, Int.reduceLT, Int.reduceLE, Int.reduceToNat, ty8_XSm]
        all_goals simp_all [resA, resL, resV, leT, leG, leA, leC, leM, leaf, tokLt, tokLtL, intV, boolV, nilA, nilSl]
  · have d : ((a.length : Int) != (b.length : Int)) = true := by simp; omega
    have hs : decide (a = b) = false := decide_eq_false fun e => hab (by rw [e])
    simp only [hs]
    repeat' first | ((with_reducible first | refine cond_split (fun h => ?_) (fun h => ?_) | refine want_split (fun h => ?_) (fun h => ?_)) <;> (try simp only [h])) | (simp only [↓wBA, wBB, wBC, cx_muts, cx_arr, wBD, convA, Nat.reduceBEq, reduceIte, reduceCtorEq, reducePow, reduceAdd, reduceSub, reduceMul, reduceEqDiff, reduceLeDiff, Nat.reduceLT, Int.reduceLT, Int.reduceLE, Int.reduceToNat, ty8_XSm, bu_len, bu_max, bu_min, pl8_6_XSm, enW_len, d]) | (with_reducible refine draw_plan pl8_6_XSm 54 (some 17) (by decide) (by decide) (by kernel_rfl) (by kernel_rfl) ?_) | ((with_reducible first | refine wantD_split (fun h => ?_) (fun h => ?_) | refine wantU_split (fun h => ?_) (fun h => ?_)) <;> (try simp only [h])) | (with_reducible refine And.intro ?_ ?_)
    all_goals refine ret_is (a := _) ?_ rfl rfl
    all_goals simp only [↓wBA, wBB, wBC, cx_muts, cx_arr, wBD, convA, Nat.reduceBEq, reduceIte, reduceCtorEq, reducePow, reduceAdd, reduceSub, reduceMul, reduceEqDiff, reduceLeDiff, Nat.reduceLT, Int.reduceLT, Int.reduceLE, Int.reduceToNat, ty8_XSm]
    all_goals simp_all [resA, resL, resV, leT, leG, leA, leC, leM, leaf, tokLt, tokLtL, intV, boolV, nilA, nilSl]
end Go.Proofs.Ytcnkmandddfdmaa
namespace Go.Proofs.Ytcnkmandddfdmaa
open Go.RowKit
open Nat (reducePow reduceAdd reduceSub reduceMul reduceEqDiff reduceLeDiff)
theorem least0 (l e : Int) : leastI l e = 0 ↔ l = 0 ∧ e = 0 := by unfold leastI; split <;> omega
theorem filGo_form (x : Ex) : ∀ (rows : List (List Va)) (acc : List (List Va)) (l : Int), acc.length + rows.length ≤ 10001 →
    ((rows.foldl (filStep x) (acc, l)).2 = 0 ↔ l = 0 ∧ ∀ r ∈ rows, (holdsV r x).2 = 0) ∧ (rows.foldl (filStep x) (acc, l)).1 = acc ++ rows.filter fun r => (holdsV r x).1
  | [], acc, l, _ => by simp
  | r :: rows, acc, l, h => by
    simp only [List.length_cons] at h
    rw [List.foldl_cons]
    have hst : filStep x (acc, l) r = (if (holdsV r x).1 = true then acc ++ [r] else acc, leastI l (holdsV r x).2) := by
      unfold filStep
      by_cases hb : (holdsV r x).1 = true
      · rw [if_pos ⟨hb, by show acc.length ≤ 10000; omega⟩, if_pos hb]
      · rw [if_neg (fun h => hb h.1), if_neg hb]
    rw [hst]
    have hl : (if (holdsV r x).1 = true then acc ++ [r] else acc).length + rows.length ≤ 10001 := by
      split
      · simp; omega
      · omega
    obtain ⟨h1, h2⟩ := filGo_form x rows _ (leastI l (holdsV r x).2) hl
    refine ⟨?_, ?_⟩
    · rw [h1, least0]
      simp only [List.mem_cons, forall_eq_or_imp, and_assoc]
    · rw [h2, List.filter_cons]
      split <;> simp_all
theorem filS_form (rows : List (List Va)) (x : Ex) (h : rows.length ≤ 10000) : ((filS rows x).2 = 0 ↔ ∀ r ∈ rows, (holdsV r x).2 = 0) ∧ ((filS rows x).2 = 0 → (filS rows x).1 = rows.filter fun r => (holdsV r x).1) := by
  obtain ⟨h1, h2⟩ := filGo_form x rows [] 0 (by simp; omega)
  have hl : (rows.filter fun r => (holdsV r x).1).length ≤ rows.length := List.length_filter_le _ _
  simp only [true_and, List.nil_append] at h1 h2
  unfold filS ansS
  rw [h2]
  by_cases h0 : (rows.foldl (filStep x) ([], 0)).2 = 0
  · rw [if_neg (by simp [h0]), if_neg (by omega)]
    exact ⟨⟨fun _ => h1.1 h0, fun _ => rfl⟩, fun _ => rfl⟩
  · rw [if_pos h0]
    exact ⟨⟨fun h => absurd h h0, fun h => absurd (h1.2 h) h0⟩, fun h => absurd h h0⟩
theorem wGo_form (row : List Va) : ∀ (l : List (Ex × Int)) (s : List Va) (e : Int), (l.foldl (wStep row) (s, e)).1 = (l.foldl (wStep row) (s, 0)).1 ∧ ((l.foldl (wStep row) (s, e)).2 = 0 ↔ e = 0 ∧ ∀ q ∈ l, (evalV row q.1).2 = 0)
  | [], s, e => by simp
  | q :: l, s, e => by
    rw [List.foldl_cons, List.foldl_cons]
    have h1 := wGo_form row l (wStep row (s, e) q).1 (wStep row (s, e) q).2
    have h2 := wGo_form row l (wStep row (s, 0) q).1 (wStep row (s, 0) q).2
    have e1 : (wStep row (s, e) q).1 = (wStep row (s, 0) q).1 := rfl
    have e2 : (wStep row (s, e) q).2 = leastI e (evalV row q.1).2 := rfl
    refine ⟨?_, ?_⟩
    · have a := h1.1
      have b := h2.1
      rw [e1] at a
      exact a.trans b.symm
    · have a := h1.2
      rw [e2] at a
      refine Iff.trans a ?_
      rw [least0]
      simp only [List.mem_cons, forall_eq_or_imp, and_assoc]
theorem wrk_form (row : List Va) (xs : List Ex) (cs : List Int) (e : Int) : (wrkS row xs cs e).1 = (wrkS row xs cs 0).1 ∧ ((wrkS row xs cs e).2 = 0 ↔ e = 0 ∧ (wrkS row xs cs 0).2 = 0) := by
  obtain ⟨h1, h2⟩ := wGo_form row (xs.zip cs) row e
  obtain ⟨_, h3⟩ := wGo_form row (xs.zip cs) row 0
  refine ⟨h1, ?_⟩
  unfold wrkS
  rw [h2, h3]
  simp
theorem uGo_form (xs : List Ex) (cs : List Int) : ∀ (l : List (List Va)) (acc : List Wr) (e : Int), (l.foldl (uStep xs cs) (acc, e)).1 = acc ++ l.map (fun r => (r, some (wrkS r xs cs 0).1)) ∧ ((l.foldl (uStep xs cs) (acc, e)).2 = 0 ↔ e = 0 ∧ ∀ r ∈ l, (wrkS r xs cs 0).2 = 0)
  | [], acc, e => by simp
  | r :: l, acc, e => by
    rw [List.foldl_cons]
    have hst : uStep xs cs (acc, e) r = (acc ++ [(r, some (wrkS r xs cs 0).1)], (wrkS r xs cs e).2) := by
      unfold uStep
      rw [(wrk_form r xs cs e).1]
    rw [hst]
    obtain ⟨h1, h2⟩ := uGo_form xs cs l (acc ++ [(r, some (wrkS r xs cs 0).1)]) (wrkS r xs cs e).2
    refine ⟨by rw [h1]; simp, ?_⟩
    rw [h2, (wrk_form r xs cs e).2]
    simp only [List.mem_cons, forall_eq_or_imp, and_assoc]
theorem soundS_0 (cols : List Tc) (rows : List (List Va)) : soundS cols rows = 0 ↔ ∀ r ∈ rows, rowOk cols r = true := by
  unfold soundS
  rw [← List.all_eq_true]
  split <;> simp_all
theorem updS_err (s : Sm) (nm : ByteArray) (cols : List Tc) (rows : List (List Va)) (h : (updS s nm cols rows).2 ≠ 0) : (updS s nm cols rows).1 = [] := by
  unfold updS finU at *
  repeat' split
  all_goals first | rfl | skip
  all_goals simp_all
theorem updS_form (s : Sm) (nm : ByteArray) (cols : List Tc) : (∃ e, e ≠ 0 ∧ ∀ rows, updS s nm cols rows = ([], e)) ∨
    (s.kind = 5 ∧ (tgtS s.names cols).2 = 0 ∧ ∃ (good : List Va → Prop) (hp : List Va → Bool) (g : List Va → List Va), (∀ r, (g r).length = r.length) ∧
      ∀ rows : List (List Va), rows.length ≤ 10000 → ((updS s nm cols rows).2 = 0 ↔ ∀ r ∈ rows, good r) ∧ ((updS s nm cols rows).2 = 0 → (updS s nm cols rows).1 = (rows.filter hp).map fun r => (r, some (g r)))) := by
  by_cases h1 : s.kind = 5
  case neg => exact .inl ⟨1, by decide, fun rows => by unfold updS; rw [if_pos h1]⟩
  by_cases h2 : (tgtS s.names cols).2 = 0
  case neg => exact .inl ⟨_, h2, fun rows => by unfold updS; rw [if_neg (by simp [h1]), if_pos h2]⟩
  by_cases h3 : (asgS (scopeS nm cols) cols s.sets (tgtS s.names cols).1).2 = 0
  case neg => exact .inl ⟨_, h3, fun rows => by unfold updS; rw [if_neg (by simp [h1]), if_neg (by simp [h2]), if_pos h3]⟩
  by_cases h4 : (whereS s nm cols).2 = 0
  case neg => exact .inl ⟨_, h4, fun rows => by
    have : hitS s nm cols rows = ([], (whereS s nm cols).2) := by unfold hitS; rw [if_pos h4]
    unfold updS; rw [if_neg (by simp [h1]), if_neg (by simp [h2]), if_neg (by simp [h3]), this, if_pos h4]⟩
  refine .inr ⟨h1, h2, ?_⟩
  generalize hxs : (asgS (scopeS nm cols) cols s.sets (tgtS s.names cols).1).1 = xs at *
  generalize hcs : (tgtS s.names cols).1 = cs at *
  generalize hx : (whereS s nm cols).1.headD trueE = x at *
  refine ⟨fun r => (holdsV r x).2 = 0 ∧ ((holdsV r x).1 = true → (wrkS r xs cs 0).2 = 0 ∧ rowOk cols (wrkS r xs cs 0).1 = true), fun r => (holdsV r x).1, fun r => (wrkS r xs cs 0).1, fun r => wrkS_len r xs cs 0, fun rows hr => ?_⟩
  have hu : updS s nm cols rows = if (filS rows x).2 ≠ 0 then ([], (filS rows x).2) else finU cols ((filS rows x).1.foldl (uStep xs cs) ([], 0)) := by
    have hh : hitS s nm cols rows = filS rows x := by unfold hitS; rw [if_neg (by simp [h4]), hx]
    unfold updS
    rw [if_neg (by simp [h1]), if_neg (by simp [h2]), hcs, if_neg (by simp [h3]), hh, hxs]
  rw [hu]
  obtain ⟨f1, f2⟩ := filS_form rows x hr
  by_cases h5 : (filS rows x).2 = 0
  · rw [if_neg (by simp [h5]), f2 h5]
    obtain ⟨u1, u2⟩ := uGo_form xs cs (rows.filter fun r => (holdsV r x).1) [] 0
    simp only [true_and, List.nil_append] at u1 u2
    unfold finU
    rw [u1]
    have hmap : (((rows.filter fun r => (holdsV r x).1).map fun r => ((r, some (wrkS r xs cs 0).1) : Wr)).map newR) = (rows.filter fun r => (holdsV r x).1).map fun r => (wrkS r xs cs 0).1 := by
      rw [List.map_map]; rfl
    rw [hmap]
    have hs := soundS_0 cols ((rows.filter fun r => (holdsV r x).1).map fun r => (wrkS r xs cs 0).1)
    by_cases h6 : ((rows.filter fun r => (holdsV r x).1).foldl (uStep xs cs) ([], 0)).2 = 0
    · rw [if_neg (by simp [h6])]
      by_cases h7 : soundS cols ((rows.filter fun r => (holdsV r x).1).map fun r => (wrkS r xs cs 0).1) = 0
      · rw [if_neg (by simp [h7])]
        refine ⟨⟨fun _ r hr => ⟨f1.1 h5 r hr, fun hp => ⟨u2.1 h6 r (List.mem_filter.2 ⟨hr, hp⟩), hs.1 h7 _ (List.mem_map.2 ⟨r, List.mem_filter.2 ⟨hr, hp⟩, rfl⟩)⟩⟩, fun _ => rfl⟩, fun _ => rfl⟩
      · rw [if_pos h7]
        refine ⟨⟨fun h => absurd h h7, fun h => absurd (hs.2 fun r hr => ?_) h7⟩, fun h => absurd h h7⟩
        obtain ⟨q, hq, rfl⟩ := List.mem_map.1 hr
        obtain ⟨hq1, hq2⟩ := List.mem_filter.1 hq
        exact ((h q hq1).2 hq2).2
    · rw [if_pos h6]
      refine ⟨⟨fun h => absurd h h6, fun h => absurd (u2.2 fun r hr => ?_) h6⟩, fun h => absurd h h6⟩
      obtain ⟨hq1, hq2⟩ := List.mem_filter.1 hr
      exact ((h r hq1).2 hq2).1
  · rw [if_pos h5]
    exact ⟨⟨fun h => absurd h h5, fun h => absurd (f1.2 fun r hr => (h r hr).1) h5⟩, fun h => absurd h h5⟩
theorem updS_nn (s : Sm) (nm : ByteArray) (cols : List Tc) (hcl : cols.length ≤ 4398046511104) (rows : List (List Va)) (hr : rows.length ≤ 10000) (hrc : ∀ r ∈ rows, r.length = cols.length) (hne : s.kind = 5 → s.names ≠ []) : nnW (updS s nm cols rows).1 := by
  rcases updS_form s nm cols with ⟨e, _, h⟩ | ⟨h1, h2, good, hp, g, hg, h⟩
  · rw [h rows]; intro w hw; simp at hw
  · obtain ⟨ha, hb⟩ := h rows hr
    by_cases h0 : (updS s nm cols rows).2 = 0
    · rw [hb h0]
      intro w hw
      obtain ⟨r, hr, rfl⟩ := List.mem_map.1 hw
      have hl := hrc r (List.mem_filter.1 hr).1
      have hgl := hg r
      obtain ⟨t1, t2⟩ := tgtS_ok s.names cols h2
      have hpos : 0 < cols.length := by
        have hn : 0 < s.names.length := List.length_pos_iff.2 (hne h1)
        rw [← t1] at hn
        obtain ⟨c, hc⟩ := List.exists_mem_of_length_pos hn
        have := (t2 c hc).2
        omega
      refine ⟨g r, rfl, fun e => ?_, by omega, by show r.length ≤ _; omega⟩
      rw [e] at hgl; simp at hgl; omega
    · rw [updS_err _ _ _ _ h0]; intro w hw; simp at hw
theorem updS_len (s : Sm) (nm : ByteArray) (cols : List Tc) (rows : List (List Va)) (hr : rows.length ≤ 10000) : (updS s nm cols rows).1.length ≤ rows.length := by
  rcases updS_form s nm cols with ⟨e, _, h⟩ | ⟨h1, h2, good, hp, g, hg, h⟩
  · rw [h rows]; simp
  · obtain ⟨ha, hb⟩ := h rows hr
    by_cases h0 : (updS s nm cols rows).2 = 0
    · rw [hb h0, List.length_map]; exact List.length_filter_le _ _
    · rw [updS_err _ _ _ _ h0]; simp
/-- Two parts of the rows. -/
theorem updS_split (s : Sm) (nm : ByteArray) (cols : List Tc) (rows : List (List Va)) (k : Nat) (hr : rows.length ≤ 10000) :
    ((updS s nm cols rows).2 = 0 ↔ (updS s nm cols (rows.take k)).2 = 0 ∧ (updS s nm cols (rows.drop k)).2 = 0) ∧ (updS s nm cols []).1 = [] ∧
    ((updS s nm cols rows).2 = 0 → (updS s nm cols []).2 = 0 ∧ (updS s nm cols rows).1 = (updS s nm cols (rows.take k)).1 ++ (updS s nm cols (rows.drop k)).1) := by
  have hN : (updS s nm cols []).1 = [] := by
    have := updS_len s nm cols [] (by simp)
    exact List.eq_nil_of_length_eq_zero (by simpa using this)
  rcases updS_form s nm cols with ⟨e, he, h⟩ | ⟨h1, h2, good, hp, g, hg, h⟩
  · rw [h rows, h (rows.take k), h (rows.drop k), h []]
    exact ⟨by simp [he], rfl, fun h0 => absurd h0 he⟩
  · obtain ⟨a1, b1⟩ := h rows hr
    obtain ⟨a2, b2⟩ := h (rows.take k) (by rw [List.length_take]; omega)
    obtain ⟨a3, b3⟩ := h (rows.drop k) (by rw [List.length_drop]; omega)
    obtain ⟨a4, b4⟩ := h [] (by simp)
    have hiff : (updS s nm cols rows).2 = 0 ↔ (updS s nm cols (rows.take k)).2 = 0 ∧ (updS s nm cols (rows.drop k)).2 = 0 := by
      rw [a1, a2, a3]
      conv => lhs; rw [← List.take_append_drop k rows]
      simp only [List.mem_append, or_imp, forall_and]
    refine ⟨hiff, hN, fun h0 => ⟨a4.2 (by simp), ?_⟩⟩
    obtain ⟨h2', h3'⟩ := hiff.1 h0
    rw [b1 h0, b2 h2', b3 h3', ← List.map_append, ← List.filter_append, List.take_append_drop]
end Go.Proofs.Ytcnkmandddfdmaa
namespace Go.Proofs.Ytcnkmandddfdmaa
open Go.RowKit
open Nat (reducePow reduceAdd reduceSub reduceMul reduceEqDiff reduceLeDiff)
theorem ty15_XSo : (type_of% ck_2) ∧ (type_of% cx_2) ∧ (type_of% ck_3) ∧ (type_of% cx_3) ∧ (type_of% ck_9) ∧ (type_of% cx_9) ∧ (type_of% ck_50) ∧ (type_of% cx_50) ∧ (type_of% ce_50) := ⟨ck_2, cx_2, ck_3, cx_3, ck_9, cx_9, ck_50, cx_50, ce_50⟩
theorem fdiv2 (n : Int) : (n.fdiv 2 = 0) = (n = 0 ∨ n = 1) := by
  rw [Int.fdiv_eq_ediv_of_nonneg _ (by decide)]
  apply propext
  omega
theorem list_nil {s : ByteArray} : (s.toList = []) = (s.size = 0) := by
  rw [ba_list]
  apply propext
  constructor
  · intro h; have := congrArg List.length h; simpa using this
  · intro h; apply List.eq_nil_of_length_eq_zero; simpa using h
set_option maxRecDepth 100000 in
set_option maxHeartbeats 8000000 in
theorem aokR (v : Va) (σ : St) : ACalls Try.prog 15 [vaA v] σ fun r s => s = σ ∧ r = boolV (okV v) := by
  refine ACalls.pureF (R := fun r => r = boolV (okV v)) ?_ rfl σ
  obtain ⟨k, n, t⟩ := v
  refine acalls_of cx_ok dr_ok Try.func15 (by kernel_rfl) rfl (nt := 57) (rs := [.tmp 2]) rfl rfl ?_
  simp only [vaA, vaC, List.map_cons, List.map_nil]
  repeat' first | ((with_reducible first | refine cond_split (fun h => ?_) (fun h => ?_) | refine want_split (fun h => ?_) (fun h => ?_)) <;> (try simp only [h])) | (simp only [↓wBA, wBB, wBC, cx_muts, cx_arr, wBD, convA, Nat.reduceBEq, reduceIte, reduceCtorEq, reducePow, reduceAdd, reduceSub, reduceMul, reduceEqDiff, reduceLeDiff, Nat.reduceLT, Int.reduceLT, Int.reduceLE, Int.reduceToNat, ty15_XSo, bu_len, bu_max, bu_min, binStr])
  all_goals refine ret_is (a := _) ?_ rfl rfl
  all_goals simp only [↓wBA, wBB, wBC, cx_muts, cx_arr, wBD, convA, Nat.reduceBEq, reduceIte, reduceCtorEq, reducePow, reduceAdd, reduceSub, reduceMul, reduceEqDiff, reduceLeDiff, Nat.reduceLT, Int.reduceLT, Int.reduceLE, Int.reduceToNat, ty15_XSo]
  all_goals simp_all [resA, resL, resV, leT, leG, leA, leC, leM, leaf, tokLt, tokLtL, intV, boolV, nilA, nilSl, okV, emp, fdiv2, list_nil]
  all_goals (try omega)
  all_goals grind
end Go.Proofs.Ytcnkmandddfdmaa
