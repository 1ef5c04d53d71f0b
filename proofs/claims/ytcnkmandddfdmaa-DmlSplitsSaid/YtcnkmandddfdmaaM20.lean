/- The finder: what expressions come to. What expressions come to: Eval, Holds. Rows cloned. Rows filtered. -/
import Derived.Test.YtcnkmandddfdmaaM19
import Derived.Test.YtcnkmandddfdmaaM17
set_option linter.unusedSimpArgs false
set_option linter.unusedVariables false
namespace Go.Proofs.Ytcnkmandddfdmaa
open Go.RowKit
open Nat (reducePow reduceAdd reduceSub reduceMul reduceEqDiff reduceLeDiff)
theorem ty86_XFe : (type_of% ck_3) ∧ (type_of% cx_3) ∧ (type_of% ck_50) ∧ (type_of% cx_50) ∧ (type_of% ce_50) := ⟨ck_3, cx_3, ck_50, cx_50, ce_50⟩
theorem ty83_XFe : (type_of% ck_3) ∧ (type_of% cx_3) ∧ (type_of% ck_4) ∧ (type_of% cx_4) ∧ (type_of% ck_33) ∧ (type_of% cx_33) ∧ (type_of% @ks_33) ∧ (type_of% @ko_33) ∧ (type_of% @kn_33) ∧ (type_of% kz_33) ∧ (type_of% ck_40) ∧ (type_of% cx_40) ∧ (type_of% ck_50) ∧ (type_of% cx_50) ∧ (type_of% ce_50) ∧ (type_of% ck_86) ∧ (type_of% cx_86) ∧ (type_of% ck_135) ∧ (type_of% cx_135) ∧ (type_of% ck_137) ∧ (type_of% cx_137) := ⟨ck_3, cx_3, ck_4, cx_4, ck_33, cx_33, @ks_33, @ko_33, @kn_33, kz_33, ck_40, cx_40, ck_50, cx_50, ce_50, ck_86, cx_86, ck_135, cx_135, ck_137, cx_137⟩
theorem ty78_XFe : (type_of% ck_2) ∧ (type_of% cx_2) ∧ (type_of% ck_3) ∧ (type_of% cx_3) ∧ (type_of% ck_4) ∧ (type_of% cx_4) ∧ (type_of% ck_33) ∧ (type_of% cx_33) ∧ (type_of% @ks_33) ∧ (type_of% @ko_33) ∧ (type_of% @kn_33) ∧ (type_of% kz_33) ∧ (type_of% ck_40) ∧ (type_of% cx_40) ∧ (type_of% ck_50) ∧ (type_of% cx_50) ∧ (type_of% ce_50) ∧ (type_of% ck_86) ∧ (type_of% cx_86) ∧ (type_of% ck_135) ∧ (type_of% cx_135) := ⟨ck_2, cx_2, ck_3, cx_3, ck_4, cx_4, ck_33, cx_33, @ks_33, @ko_33, @kn_33, kz_33, ck_40, cx_40, ck_50, cx_50, ce_50, ck_86, cx_86, ck_135, cx_135⟩
theorem ty79_XFe : (type_of% ck_2) ∧ (type_of% cx_2) ∧ (type_of% ck_3) ∧ (type_of% cx_3) ∧ (type_of% ck_4) ∧ (type_of% cx_4) ∧ (type_of% ck_33) ∧ (type_of% cx_33) ∧ (type_of% @ks_33) ∧ (type_of% @ko_33) ∧ (type_of% @kn_33) ∧ (type_of% kz_33) ∧ (type_of% ck_40) ∧ (type_of% cx_40) ∧ (type_of% ck_50) ∧ (type_of% cx_50) ∧ (type_of% ce_50) ∧ (type_of% ck_86) ∧ (type_of% cx_86) ∧ (type_of% ck_135) ∧ (type_of% cx_135) ∧ (type_of% ck_137) ∧ (type_of% cx_137) ∧ (type_of% ck_163) ∧ (type_of% cx_163) ∧ (type_of% @ks_163) ∧ (type_of% @ko_163) ∧ (type_of% @kn_163) ∧ (type_of% kz_163) := ⟨ck_2, cx_2, ck_3, cx_3, ck_4, cx_4, ck_33, cx_33, @ks_33, @ko_33, @kn_33, kz_33, ck_40, cx_40, ck_50, cx_50, ce_50, ck_86, cx_86, ck_135, cx_135, ck_137, cx_137, ck_163, cx_163, @ks_163, @ko_163, @kn_163, kz_163⟩
/-- What the finder finds of an expression. -/
def FindOK (row : List Va) (x : Ex) : Prop := ∀ e, OCalls (fdO row) 65 (fun t => [.mp t 2 0 0, exA x]) e fun r e' => r = vaA (findV row x e).1 ∧ e' = (findV row x e).2
set_option maxRecDepth 100000 in
set_option maxHeartbeats 4000000 in
theorem asomeV (v : Va) (σ : St) : ACalls Try.prog 86 [vaA v] σ fun r s => s = σ ∧ r = boolV (someV v) := by
  refine ACalls.pureF (R := fun r => r = boolV (someV v)) ?_ rfl σ
  obtain ⟨k, n, t⟩ := v
  refine acalls_of cx_ok dr_ok Try.func86 (by kernel_rfl) rfl (nt := 10) (rs := [.tmp 2]) rfl rfl ?_
  simp only [vaA, vaC, List.map_cons, List.map_nil]
  repeat' first | ((with_reducible first | refine cond_split (fun h => ?_) (fun h => ?_) | refine want_split (fun h => ?_) (fun h => ?_)) <;> (try simp only [h])) | (simp only [↓wBA, wBB, wBC, cx_muts, cx_arr, wBD, convA, Nat.reduceBEq, reduceIte, reduceCtorEq, reducePow, reduceAdd, reduceSub, reduceMul, reduceEqDiff, reduceLeDiff, Nat.reduceLT, Int.reduceLT, Int.reduceLE, Int.reduceToNat, ty86_XFe, bu_len, bu_max, bu_min])
  all_goals refine ret_is (a := _) ?_ rfl rfl
  all_goals simp only [↓wBA, wBB, wBC, cx_muts, cx_arr, wBD, convA, Nat.reduceBEq, reduceIte, reduceCtorEq, reducePow, reduceAdd, reduceSub, reduceMul, reduceEqDiff, reduceLeDiff, Nat.reduceLT, Int.reduceLT, Int.reduceLE, Int.reduceToNat, ty86_XFe]
  all_goals simp_all [resA, resL, resV, leT, leG, leA, leC, leM, leaf, tokLt, tokLtL, intV, boolV, nilA, nilSl, someV]
  all_goals grind
set_option maxRecDepth 100000 in
set_option maxHeartbeats 8000000 in
theorem alogV (row : List Va) (k vk vn : Int) (vs tb nm : ByteArray) (s : Int) (x y : Ex) (hy : FindOK row y) (a : Va) (e : Int) : OCalls (fdO row) 83 (fun t => [.mp t 2 0 0, exA (.mk k vk vn vs tb nm s [x, y]), vaA a]) e fun r e' => r = vaA (match logA k a e with | some r => r | none => logB k a (findV row y e).1 (findV row y e).2).1 ∧ e' = (match logA k a e with | some r => r | none => logB k a (findV row y e).1 (findV row y e).2).2 := by
  refine OCalls.of (fdP row) (fun t => rfl) rfl ?_
  obtain ⟨a1, a2, a3⟩ := a
  refine acalls_of cx_ok dr_ok Try.func83 (by kernel_rfl) rfl (nt := 64) (rs := [.cell 6 50]) rfl rfl ?_
  simp only [fdO, exA, exC, exL, vaA, vaC, List.map_cons, List.map_nil]
  have hb : findV row y e = ((findV row y e).1, (findV row y e).2) := rfl
  generalize hb1 : (findV row y e).1 = b at *
  generalize hb2 : (findV row y e).2 = e2 at *
  repeat' first | ((with_reducible first | refine cond_split (fun h => ?_) (fun h => ?_) | refine want_split (fun h => ?_) (fun h => ?_)) <;> (try simp only [h])) | (simp only [↓wBA, wBB, wBC, cx_muts, cx_arr, wBD, convA, Nat.reduceBEq, reduceIte, reduceCtorEq, reducePow, reduceAdd, reduceSub, reduceMul, reduceEqDiff, reduceLeDiff, Nat.reduceLT, Int.reduceLT, Int.reduceLE, Int.reduceToNat, ty83_XFe, bu_len, bu_max, bu_min, exC_len]) | ((with_reducible show ACalls _ _ _ _ _); refine (afail row _ _ _ 0 rfl).mono ?_; rintro _ _ ⟨_, ⟨rfl, rfl⟩, rfl⟩; simp only [fdO, vaA, vaC, List.map_cons, List.map_nil]) | ((with_reducible show ACalls _ _ _ _ _); refine (atruth _ _).mono ?_; rintro _ _ ⟨rfl, rfl⟩; simp only [vaA, vaC, trV, List.map_cons, List.map_nil]) | ((with_reducible show ACalls _ _ _ _ _); refine (asomeV (_, _, _) _).mono ?_; rintro _ _ ⟨rfl, rfl⟩) | ((with_reducible show ACalls _ _ _ _ _); refine (hy _ _ 0 rfl).mono ?_; rintro _ _ ⟨_, ⟨rfl, rfl⟩, rfl⟩; simp only [hb1, hb2]; obtain ⟨b1, b2, b3⟩ := b; simp only [fdO, vaA, vaC, List.map_cons, List.map_nil])
  all_goals refine ret_obI (a := _) (b := _) (fdP _ _) ?_ rfl rfl
  all_goals simp only [↓wBA, wBB, wBC, cx_muts, cx_arr, wBD, convA, Nat.reduceBEq, reduceIte, reduceCtorEq, reducePow, reduceAdd, reduceSub, reduceMul, reduceEqDiff, reduceLeDiff, Nat.reduceLT, Int.reduceLT, Int.reduceLE, Int.reduceToNat, ty83_XFe]
  all_goals simp_all [resA, resL, resV, leT, leG, leA, leC, leM, leaf, tokLt, tokLtL, intV, boolV, nilA, nilSl, fdO, vaA, vaC, logA, logB, eqV, trV, failV, va0, emp]
  all_goals grind
set_option maxRecDepth 100000 in
set_option maxHeartbeats 8000000 in
theorem aoneV (row : List Va) (k vk vn : Int) (vs tb nm : ByteArray) (s : Int) (x : Ex) (hx : FindOK row x) (e : Int) : OCalls (fdO row) 78 (fun t => [.mp t 2 0 0, exA (.mk k vk vn vs tb nm s [x])]) e fun r e' => r = vaA (oneV k (findV row x e).1 (findV row x e).2).1 ∧ e' = (oneV k (findV row x e).1 (findV row x e).2).2 := by
  refine OCalls.of (fdP row) (fun t => rfl) rfl ?_
  refine acalls_of cx_ok dr_ok Try.func78 (by kernel_rfl) rfl (nt := 63) (rs := [.cell 4 50]) rfl rfl ?_
  simp only [fdO, exA, exC, exL, List.map_cons, List.map_nil]
  generalize hb1 : (findV row x e).1 = b at *
  generalize hb2 : (findV row x e).2 = e2 at *
  repeat' first | ((with_reducible first | refine cond_split (fun h => ?_) (fun h => ?_) | refine want_split (fun h => ?_) (fun h => ?_)) <;> (try simp only [h])) | (simp only [↓wBA, wBB, wBC, cx_muts, cx_arr, wBD, convA, Nat.reduceBEq, reduceIte, reduceCtorEq, reducePow, reduceAdd, reduceSub, reduceMul, reduceEqDiff, reduceLeDiff, Nat.reduceLT, Int.reduceLT, Int.reduceLE, Int.reduceToNat, ty78_XFe, bu_len, bu_max, bu_min, exC_len, List.length_map]) | ((with_reducible show ACalls _ _ _ _ _); refine (afail row _ _ _ 0 rfl).mono ?_; rintro _ _ ⟨_, ⟨rfl, rfl⟩, rfl⟩; simp only [fdO, vaA, vaC, List.map_cons, List.map_nil]) | ((with_reducible show ACalls _ _ _ _ _); refine (atruth _ _).mono ?_; rintro _ _ ⟨rfl, rfl⟩; simp only [vaA, vaC, trV, List.map_cons, List.map_nil]) | ((with_reducible show ACalls _ _ _ _ _); refine (hx _ _ 0 rfl).mono ?_; rintro _ _ ⟨_, ⟨rfl, rfl⟩, rfl⟩; simp only [hb1, hb2]; obtain ⟨b1, b2, b3⟩ := b; simp only [fdO, vaA, vaC, List.map_cons, List.map_nil])
  all_goals refine ret_obI (a := _) (b := _) (fdP _ _) ?_ rfl rfl
  all_goals simp only [↓wBA, wBB, wBC, cx_muts, cx_arr, wBD, convA, Nat.reduceBEq, reduceIte, reduceCtorEq, reducePow, reduceAdd, reduceSub, reduceMul, reduceEqDiff, reduceLeDiff, Nat.reduceLT, Int.reduceLT, Int.reduceLE, Int.reduceToNat, ty78_XFe]
  all_goals simp_all [resA, resL, resV, leT, leG, leA, leC, leM, leaf, tokLt, tokLtL, intV, boolV, nilA, nilSl, fdO, vaA, vaC, oneV, trV, failV, va0, emp]
  all_goals grind
theorem rel_get (k c : Int) (h : 10 ≤ k) (h' : k ≤ 15) : ([[PV.v (.bool (c == 0))], [.v (.bool (c != 0))], [.v (.bool (decide (c < 0)))], [.v (.bool (decide (c ≤ 0)))], [.v (.bool (decide (c > 0)))], [.v (.bool (decide (c ≥ 0)))]] : List (List PV))[(k - 10).toNat]? = some [.v (.bool (relV k c))] := by
  have : k = 10 ∨ k = 11 ∨ k = 12 ∨ k = 13 ∨ k = 14 ∨ k = 15 := by omega
  rcases this with rfl | rfl | rfl | rfl | rfl | rfl <;> simp [relV, bne] <;> grind
set_option maxRecDepth 100000 in
set_option maxHeartbeats 8000000 in
theorem atwoV (row : List Va) (k vk vn : Int) (vs tb nm : ByteArray) (s : Int) (hk : 5 ≤ k ∧ k ≤ 17) (x y : Ex) (hx : FindOK row x) (hy : FindOK row y) (e : Int) : OCalls (fdO row) 79 (fun t => [.mp t 2 0 0, exA (.mk k vk vn vs tb nm s [x, y])]) e fun r e' => r = vaA (findV row (.mk k vk vn vs tb nm s [x, y]) e).1 ∧ e' = (findV row (.mk k vk vn vs tb nm s [x, y]) e).2 := by
  refine OCalls.of (fdP row) (fun t => rfl) rfl ?_
  refine acalls_of cx_ok dr_ok Try.func79 (by kernel_rfl) rfl (nt := 98) (rs := [.cell 4 50]) rfl rfl ?_
  simp only [fdO, exA, exC, exL, List.map_cons, List.map_nil]
  have hL := fun a e => alogV row k vk vn vs tb nm s x y hy a e
  have hk2 : kidsV k = 2 := by unfold kidsV; rw [if_neg (by omega), if_neg (by omega), if_pos hk]
  simp only [findV, hk2]
  generalize hb1 : (findV row x e).1 = a at *
  generalize hb2 : (findV row x e).2 = e2 at *
  obtain ⟨a1, a2, a3⟩ := a
  generalize hc1 : (findV row y e2).1 = b at *
  generalize hc2 : (findV row y e2).2 = e3 at *
  obtain ⟨b1, b2, b3⟩ := b
  rcases (by omega : k ≤ 9 ∨ (10 ≤ k ∧ k ≤ 15) ∨ 16 ≤ k) with h9 | ⟨h10, h15⟩ | h16
  · have d1 : decide (k ≥ 16) = false := by simp; omega
    have d2 : decide (k ≤ 9) = true := by simp; omega
    have d3 : ¬ 16 ≤ k := by omega
    repeat' first | ((with_reducible first | refine cond_split (fun h => ?_) (fun h => ?_) | refine want_split (fun h => ?_) (fun h => ?_)) <;> (try simp only [h])) | (simp only [↓wBA, wBB, wBC, cx_muts, cx_arr, wBD, convA, Nat.reduceBEq, reduceIte, reduceCtorEq, reducePow, reduceAdd, reduceSub, reduceMul, reduceEqDiff, reduceLeDiff, Nat.reduceLT, Int.reduceLT, Int.reduceLE, Int.reduceToNat, ty79_XFe, bu_len, bu_max, bu_min, exC_len, List.length_map, d1, d2]) | ((with_reducible show ACalls _ _ _ _ _); refine (afail row _ _ _ 0 rfl).mono ?_; rintro _ _ ⟨_, ⟨rfl, rfl⟩, rfl⟩; simp only [fdO, vaA, vaC, List.map_cons, List.map_nil]) | ((with_reducible show ACalls _ _ _ _ _); refine (hx _ _ 0 rfl).mono ?_; rintro _ _ ⟨_, ⟨rfl, rfl⟩, rfl⟩; simp only [hb1, hb2]; simp only [fdO, vaA, vaC, List.map_cons, List.map_nil]) | ((with_reducible show ACalls _ _ _ _ _); refine (hy _ _ 0 rfl).mono ?_; rintro _ _ ⟨_, ⟨rfl, rfl⟩, rfl⟩; simp only [hc1, hc2]; simp only [fdO, vaA, vaC, List.map_cons, List.map_nil]) | ((with_reducible show ACalls _ _ _ _ _); refine (anumV row _ _ _ _ _ 0 rfl).mono ?_; rintro _ _ ⟨_, ⟨rfl, rfl⟩, rfl⟩; simp only [fdO, vaA, vaC, List.map_cons, List.map_nil])
    all_goals simp only [d3, ne_eq, not_true_eq_false, if_false]
    all_goals refine ret_obI (a := _) (b := _) (fdP _ _) ?_ rfl rfl
    all_goals simp only [↓wBA, wBB, wBC, cx_muts, cx_arr, wBD, convA, Nat.reduceBEq, reduceIte, reduceCtorEq, reducePow, reduceAdd, reduceSub, reduceMul, reduceEqDiff, reduceLeDiff, Nat.reduceLT, Int.reduceLT, Int.reduceLE, Int.reduceToNat, ty79_XFe]
    all_goals simp_all [resA, resL, resV, leT, leG, leA, leC, leM, leaf, tokLt, tokLtL, intV, boolV, nilA, nilSl, fdO, vaA, vaC, twoV, trV, failV, va0, emp]
    all_goals grind
  · have d1 : decide (k ≥ 16) = false := by simp; omega
    have d2 : decide (k ≤ 9) = false := by simp; omega
    have d3 : ¬ 16 ≤ k := by omega
    have d4 : ¬ k ≤ 9 := by omega
    have hw : IntKind.i64.wrap (k - 10) = k - 10 := wrap_i64 (by omega) (by omega)
    have h0 : ((0 : Int) ≤ k - 10) = True := eq_true (by omega)
    have hg := fun c => rel_get k c h10 h15
    repeat' first | ((with_reducible first | refine cond_split (fun h => ?_) (fun h => ?_) | refine want_split (fun h => ?_) (fun h => ?_)) <;> (try simp only [h])) | (simp only [↓wBA, wBB, wBC, cx_muts, cx_arr, wBD, convA, Nat.reduceBEq, reduceIte, reduceCtorEq, reducePow, reduceAdd, reduceSub, reduceMul, reduceEqDiff, reduceLeDiff, Nat.reduceLT, Int.reduceLT, Int.reduceLE, Int.reduceToNat, ty79_XFe, bu_len, bu_max, bu_min, exC_len, List.length_map, d1, d2, hw, h0, hg]) | ((with_reducible show ACalls _ _ _ _ _); refine (afail row _ _ _ 0 rfl).mono ?_; rintro _ _ ⟨_, ⟨rfl, rfl⟩, rfl⟩; simp only [fdO, vaA, vaC, List.map_cons, List.map_nil]) | ((with_reducible show ACalls _ _ _ _ _); refine (atruth _ _).mono ?_; rintro _ _ ⟨rfl, rfl⟩; simp only [vaA, vaC, trV, List.map_cons, List.map_nil]) | ((with_reducible show ACalls _ _ _ _ _); refine (hx _ _ 0 rfl).mono ?_; rintro _ _ ⟨_, ⟨rfl, rfl⟩, rfl⟩; simp only [hb1, hb2]; simp only [fdO, vaA, vaC, List.map_cons, List.map_nil]) | ((with_reducible show ACalls _ _ _ _ _); refine (hy _ _ 0 rfl).mono ?_; rintro _ _ ⟨_, ⟨rfl, rfl⟩, rfl⟩; simp only [hc1, hc2]; simp only [fdO, vaA, vaC, List.map_cons, List.map_nil]) | ((with_reducible show ACalls _ _ _ _ _); refine (acmpV (_, _, _) (_, _, _) _).mono ?_; rintro _ _ ⟨rfl, rfl⟩)
    all_goals simp only [d3, d4, ne_eq, not_true_eq_false, if_false]
    all_goals refine ret_obI (a := _) (b := _) (fdP _ _) ?_ rfl rfl
    all_goals simp only [↓wBA, wBB, wBC, cx_muts, cx_arr, wBD, convA, Nat.reduceBEq, reduceIte, reduceCtorEq, reducePow, reduceAdd, reduceSub, reduceMul, reduceEqDiff, reduceLeDiff, Nat.reduceLT, Int.reduceLT, Int.reduceLE, Int.reduceToNat, ty79_XFe]
    all_goals simp_all [resA, resL, resV, leT, leG, leA, leC, leM, leaf, tokLt, tokLtL, intV, boolV, nilA, nilSl, fdO, vaA, vaC, twoV, trV, failV, va0, emp]
    all_goals grind
  · have d1 : decide (k ≥ 16) = true := by simp; omega
    repeat' first | ((with_reducible first | refine cond_split (fun h => ?_) (fun h => ?_) | refine want_split (fun h => ?_) (fun h => ?_)) <;> (try simp only [h])) | (simp only [↓wBA, wBB, wBC, cx_muts, cx_arr, wBD, convA, Nat.reduceBEq, reduceIte, reduceCtorEq, reducePow, reduceAdd, reduceSub, reduceMul, reduceEqDiff, reduceLeDiff, Nat.reduceLT, Int.reduceLT, Int.reduceLE, Int.reduceToNat, ty79_XFe, bu_len, bu_max, bu_min, exC_len, List.length_map, d1]) | ((with_reducible show ACalls _ _ _ _ _); refine (hx _ _ 0 rfl).mono ?_; rintro _ _ ⟨_, ⟨rfl, rfl⟩, rfl⟩; simp only [hb1, hb2]; simp only [fdO, vaA, vaC, List.map_cons, List.map_nil]) | ((with_reducible show ACalls _ _ _ _ _); refine (hL (_, _, _) _ _ 0 rfl).mono ?_; rintro _ _ ⟨_, ⟨rfl, rfl⟩, rfl⟩; simp only [fdO, vaA, vaC, List.map_cons, List.map_nil])
    all_goals simp only [h16, ne_eq, not_true_eq_false, if_false, if_true]
    all_goals refine ret_obI (a := _) (b := _) (fdP _ _) ?_ rfl rfl
    all_goals simp only [↓wBA, wBB, wBC, cx_muts, cx_arr, wBD, convA, Nat.reduceBEq, reduceIte, reduceCtorEq, reducePow, reduceAdd, reduceSub, reduceMul, reduceEqDiff, reduceLeDiff, Nat.reduceLT, Int.reduceLT, Int.reduceLE, Int.reduceToNat, ty79_XFe]
    all_goals simp_all [resA, resL, resV, leT, leG, leA, leC, leM, leaf, tokLt, tokLtL, intV, boolV, nilA, nilSl, fdO, vaA, vaC]
    all_goals grind
end Go.Proofs.Ytcnkmandddfdmaa
namespace Go.Proofs.Ytcnkmandddfdmaa
open Go.RowKit
open Nat (reducePow reduceAdd reduceSub reduceMul reduceEqDiff reduceLeDiff)
def pl65_1_XFf : Plan := (.det 0 (.det 1 (.det 2 (.det 3 (.det 4 (.act 5 (.det 6 .done)))))))
def pl65_3_XFf : Plan := (.det 0 (.det 1 (.det 2 (.det 3 (.det 4 (.det 5 (.det 7 (.det 8 (.det 9 (.det 12 (.act 6 (.det 10 (.det 11 (.fin 13 (.fin 14 .done)))))))))))))))
def pl41_4_XFf : Plan := (.det 0 (.det 1 (.det 2 (.det 3 (.det 4 (.act 5 (.det 6 .done)))))))
theorem ty65_XFf : (type_of% ck_3) ∧ (type_of% cx_3) ∧ (type_of% ck_33) ∧ (type_of% cx_33) ∧ (type_of% @ks_33) ∧ (type_of% @ko_33) ∧ (type_of% @kn_33) ∧ (type_of% kz_33) ∧ (type_of% ck_40) ∧ (type_of% cx_40) ∧ (type_of% ck_50) ∧ (type_of% cx_50) ∧ (type_of% ce_50) ∧ (type_of% ck_86) ∧ (type_of% cx_86) ∧ (type_of% ck_135) ∧ (type_of% cx_135) ∧ (type_of% ck_138) ∧ (type_of% cx_138) ∧ (type_of% ck_153) ∧ (type_of% cx_153) ∧ (type_of% @ks_153) ∧ (type_of% @ko_153) ∧ (type_of% @kn_153) ∧ (type_of% kz_153) := ⟨ck_3, cx_3, ck_33, cx_33, @ks_33, @ko_33, @kn_33, kz_33, ck_40, cx_40, ck_50, cx_50, ce_50, ck_86, cx_86, ck_135, cx_135, ck_138, cx_138, ck_153, cx_153, @ks_153, @ko_153, @kn_153, kz_153⟩
theorem ty41_XFf : (type_of% ck_40) ∧ (type_of% cx_40) ∧ (type_of% ck_50) ∧ (type_of% cx_50) ∧ (type_of% ce_50) ∧ (type_of% ck_86) ∧ (type_of% cx_86) ∧ (type_of% ck_135) ∧ (type_of% cx_135) ∧ (type_of% ck_137) ∧ (type_of% cx_137) := ⟨ck_40, cx_40, ck_50, cx_50, ce_50, ck_86, cx_86, ck_135, cx_135, ck_137, cx_137⟩
theorem ty62_XFf : (type_of% ck_2) ∧ (type_of% cx_2) ∧ (type_of% ck_3) ∧ (type_of% cx_3) ∧ (type_of% ck_40) ∧ (type_of% cx_40) ∧ (type_of% ck_46) ∧ (type_of% cx_46) ∧ (type_of% @ks_46) ∧ (type_of% @ko_46) ∧ (type_of% @kn_46) ∧ (type_of% kz_46) ∧ (type_of% ck_50) ∧ (type_of% cx_50) ∧ (type_of% ce_50) ∧ (type_of% ck_86) ∧ (type_of% cx_86) := ⟨ck_2, cx_2, ck_3, cx_3, ck_40, cx_40, ck_46, cx_46, @ks_46, @ko_46, @kn_46, kz_46, ck_50, cx_50, ce_50, ck_86, cx_86⟩
theorem nc0 : ((0 : Nat) : Int) = 0 := nr rfl
theorem nc1 : ((1 : Nat) : Int) = 1 := nr rfl
theorem nc2 : ((2 : Nat) : Int) = 2 := nr rfl
theorem nc3 : ((3 : Nat) : Int) = 3 := nr rfl
theorem kidsV_le (k : Int) : kidsV k ≤ 2 := by unfold kidsV; split <;> (try split) <;> (try split) <;> omega
set_option maxRecDepth 100000 in
set_option maxHeartbeats 8000000 in
theorem find_nil (row : List Va) (k vk vn : Int) (vs tb nm : ByteArray) (s : Int) : FindOK row (.mk k vk vn vs tb nm s []) := by
  intro e
  refine OCalls.of (fdP row) (fun t => rfl) rfl ?_
  refine acalls_of cx_ok dr_ok Try.func65 (by kernel_rfl) rfl (nt := 26) (rs := [.cell 4 50]) rfl rfl ?_
  simp only [fdO, exA, exC, exL, List.map_cons, List.map_nil]
  have hf := afail row 1 e
  by_cases hk : kidsV k = 0
  · have d : ((0 : Int) != kidsV k) = false := by simp [hk]
    repeat' first | ((with_reducible first | refine cond_split (fun h => ?_) (fun h => ?_) | refine want_split (fun h => ?_) (fun h => ?_)) <;> (try simp only [h])) | (simp only [↓wBA, wBB, wBC, cx_muts, cx_arr, wBD, convA, Nat.reduceBEq, reduceIte, reduceCtorEq, reducePow, reduceAdd, reduceSub, reduceMul, reduceEqDiff, reduceLeDiff, Nat.reduceLT, Int.reduceLT, Int.reduceLE, Int.reduceToNat, ty65_XFf, bu_len, bu_max, bu_min, pl65_1_XFf, pl65_3_XFf, exL, List.length_cons, List.length_nil, d, nc0, nc1, nc2, nc3]) | ((with_reducible show ACalls _ _ _ _ _); refine (afail row _ _ _ 0 rfl).mono ?_; rintro _ _ ⟨_, ⟨rfl, rfl⟩, rfl⟩; simp only [fdO, vaA, vaC, List.map_cons, List.map_nil]) | ((with_reducible show ACalls _ _ _ _ _); refine (akidsV _ _).mono ?_; rintro _ _ ⟨rfl, rfl⟩) | ((with_reducible show ACalls _ _ _ _ _); refine (aleafV row k vk vn vs tb nm s [] _ _ 0 rfl).mono ?_; rintro _ _ ⟨_, ⟨rfl, rfl⟩, rfl⟩; simp only [fdO, vaA, vaC, List.map_cons, List.map_nil]) | (with_reducible refine draw_plan pl65_1_XFf 7 (some 5) (by decide) (by decide) (by kernel_rfl) (by kernel_rfl) ?_) | (with_reducible refine draw_plan pl65_3_XFf 15 (some 14) (by decide) (by decide) (by kernel_rfl) (by kernel_rfl) ?_) | ((with_reducible first | refine wantD_split (fun h => ?_) (fun h => ?_) | refine wantU_split (fun h => ?_) (fun h => ?_)) <;> (try simp only [h])) | (with_reducible refine And.intro ?_ ?_)
    all_goals refine ret_obI (a := _) (b := _) (fdP _ _) ?_ rfl rfl
    all_goals simp only [↓wBA, wBB, wBC, cx_muts, cx_arr, wBD, convA, Nat.reduceBEq, reduceIte, reduceCtorEq, reducePow, reduceAdd, reduceSub, reduceMul, reduceEqDiff, reduceLeDiff, Nat.reduceLT, Int.reduceLT, Int.reduceLE, Int.reduceToNat, ty65_XFf]
    all_goals simp_all [resA, resL, resV, leT, leG, leA, leC, leM, leaf, tokLt, tokLtL, intV, boolV, nilA, nilSl, fdO, vaA, vaC, findV, failV, va0, emp]
  · have d : ((0 : Int) != kidsV k) = true := by simp; omega
    repeat' first | ((with_reducible first | refine cond_split (fun h => ?_) (fun h => ?_) | refine want_split (fun h => ?_) (fun h => ?_)) <;> (try simp only [h])) | (simp only [↓wBA, wBB, wBC, cx_muts, cx_arr, wBD, convA, Nat.reduceBEq, reduceIte, reduceCtorEq, reducePow, reduceAdd, reduceSub, reduceMul, reduceEqDiff, reduceLeDiff, Nat.reduceLT, Int.reduceLT, Int.reduceLE, Int.reduceToNat, ty65_XFf, bu_len, bu_max, bu_min, pl65_1_XFf, pl65_3_XFf, exL, List.length_cons, List.length_nil, d, nc0, nc1, nc2, nc3]) | ((with_reducible show ACalls _ _ _ _ _); refine (afail row _ _ _ 0 rfl).mono ?_; rintro _ _ ⟨_, ⟨rfl, rfl⟩, rfl⟩; simp only [fdO, vaA, vaC, List.map_cons, List.map_nil]) | ((with_reducible show ACalls _ _ _ _ _); refine (akidsV _ _).mono ?_; rintro _ _ ⟨rfl, rfl⟩) | (with_reducible refine draw_plan pl65_1_XFf 7 (some 5) (by decide) (by decide) (by kernel_rfl) (by kernel_rfl) ?_) | (with_reducible refine draw_plan pl65_3_XFf 15 (some 14) (by decide) (by decide) (by kernel_rfl) (by kernel_rfl) ?_) | ((with_reducible first | refine wantD_split (fun h => ?_) (fun h => ?_) | refine wantU_split (fun h => ?_) (fun h => ?_)) <;> (try simp only [h])) | (with_reducible refine And.intro ?_ ?_)
    all_goals refine ret_obI (a := _) (b := _) (fdP _ _) ?_ rfl rfl
    all_goals simp only [↓wBA, wBB, wBC, cx_muts, cx_arr, wBD, convA, Nat.reduceBEq, reduceIte, reduceCtorEq, reducePow, reduceAdd, reduceSub, reduceMul, reduceEqDiff, reduceLeDiff, Nat.reduceLT, Int.reduceLT, Int.reduceLE, Int.reduceToNat, ty65_XFf]
    all_goals simp_all [resA, resL, resV, leT, leG, leA, leC, leM, leaf, tokLt, tokLtL, intV, boolV, nilA, nilSl, fdO, vaA, vaC, findV, failV, va0, emp]
set_option maxRecDepth 100000 in
set_option maxHeartbeats 8000000 in
theorem find_one (row : List Va) (k vk vn : Int) (vs tb nm : ByteArray) (s : Int) (x : Ex) (hx : FindOK row x) : FindOK row (.mk k vk vn vs tb nm s [x]) := by
  intro e
  refine OCalls.of (fdP row) (fun t => rfl) rfl ?_
  refine acalls_of cx_ok dr_ok Try.func65 (by kernel_rfl) rfl (nt := 26) (rs := [.cell 4 50]) rfl rfl ?_
  simp only [fdO, exA, exC, exL, List.map_cons, List.map_nil]
  have hf := afail row 1 e
  by_cases hk : kidsV k = 1
  · have d : ((1 : Int) != kidsV k) = false := by simp [hk]
    repeat' first | ((with_reducible first | refine cond_split (fun h => ?_) (fun h => ?_) | refine want_split (fun h => ?_) (fun h => ?_)) <;> (try simp only [h])) | (simp only [↓wBA, wBB, wBC, cx_muts, cx_arr, wBD, convA, Nat.reduceBEq, reduceIte, reduceCtorEq, reducePow, reduceAdd, reduceSub, reduceMul, reduceEqDiff, reduceLeDiff, Nat.reduceLT, Int.reduceLT, Int.reduceLE, Int.reduceToNat, ty65_XFf, bu_len, bu_max, bu_min, pl65_1_XFf, pl65_3_XFf, exL, List.length_cons, List.length_nil, d, nc0, nc1, nc2, nc3]) | ((with_reducible show ACalls _ _ _ _ _); refine (afail row _ _ _ 0 rfl).mono ?_; rintro _ _ ⟨_, ⟨rfl, rfl⟩, rfl⟩; simp only [fdO, vaA, vaC, List.map_cons, List.map_nil]) | ((with_reducible show ACalls _ _ _ _ _); refine (akidsV _ _).mono ?_; rintro _ _ ⟨rfl, rfl⟩) | ((with_reducible show ACalls _ _ _ _ _); refine (aoneV row k vk vn vs tb nm s x hx _ _ 0 rfl).mono ?_; rintro _ _ ⟨_, ⟨rfl, rfl⟩, rfl⟩; simp only [fdO, vaA, vaC, List.map_cons, List.map_nil]) | (with_reducible refine draw_plan pl65_1_XFf 7 (some 5) (by decide) (by decide) (by kernel_rfl) (by kernel_rfl) ?_) | (with_reducible refine draw_plan pl65_3_XFf 15 (some 14) (by decide) (by decide) (by kernel_rfl) (by kernel_rfl) ?_) | ((with_reducible first | refine wantD_split (fun h => ?_) (fun h => ?_) | refine wantU_split (fun h => ?_) (fun h => ?_)) <;> (try simp only [h])) | (with_reducible refine And.intro ?_ ?_)
    all_goals refine ret_obI (a := _) (b := _) (fdP _ _) ?_ rfl rfl
    all_goals simp only [↓wBA, wBB, wBC, cx_muts, cx_arr, wBD, convA, Nat.reduceBEq, reduceIte, reduceCtorEq, reducePow, reduceAdd, reduceSub, reduceMul, reduceEqDiff, reduceLeDiff, Nat.reduceLT, Int.reduceLT, Int.reduceLE, Int.reduceToNat, ty65_XFf]
    all_goals simp_all [resA, resL, resV, leT, leG, leA, leC, leM, leaf, tokLt, tokLtL, intV, boolV, nilA, nilSl, fdO, vaA, vaC, findV, failV, va0, emp]
  · have d : ((1 : Int) != kidsV k) = true := by simp; omega
    repeat' first | ((with_reducible first | refine cond_split (fun h => ?_) (fun h => ?_) | refine want_split (fun h => ?_) (fun h => ?_)) <;> (try simp only [h])) | (simp only [↓wBA, wBB, wBC, cx_muts, cx_arr, wBD, convA, Nat.reduceBEq, reduceIte, reduceCtorEq, reducePow, reduceAdd, reduceSub, reduceMul, reduceEqDiff, reduceLeDiff, Nat.reduceLT, Int.reduceLT, Int.reduceLE, Int.reduceToNat, ty65_XFf, bu_len, bu_max, bu_min, pl65_1_XFf, pl65_3_XFf, exL, List.length_cons, List.length_nil, d, nc0, nc1, nc2, nc3]) | ((with_reducible show ACalls _ _ _ _ _); refine (afail row _ _ _ 0 rfl).mono ?_; rintro _ _ ⟨_, ⟨rfl, rfl⟩, rfl⟩; simp only [fdO, vaA, vaC, List.map_cons, List.map_nil]) | ((with_reducible show ACalls _ _ _ _ _); refine (akidsV _ _).mono ?_; rintro _ _ ⟨rfl, rfl⟩) | (with_reducible refine draw_plan pl65_1_XFf 7 (some 5) (by decide) (by decide) (by kernel_rfl) (by kernel_rfl) ?_) | (with_reducible refine draw_plan pl65_3_XFf 15 (some 14) (by decide) (by decide) (by kernel_rfl) (by kernel_rfl) ?_) | ((with_reducible first | refine wantD_split (fun h => ?_) (fun h => ?_) | refine wantU_split (fun h => ?_) (fun h => ?_)) <;> (try simp only [h])) | (with_reducible refine And.intro ?_ ?_)
    all_goals refine ret_obI (a := _) (b := _) (fdP _ _) ?_ rfl rfl
    all_goals simp only [↓wBA, wBB, wBC, cx_muts, cx_arr, wBD, convA, Nat.reduceBEq, reduceIte, reduceCtorEq, reducePow, reduceAdd, reduceSub, reduceMul, reduceEqDiff, reduceLeDiff, Nat.reduceLT, Int.reduceLT, Int.reduceLE, Int.reduceToNat, ty65_XFf]
    all_goals simp_all [resA, resL, resV, leT, leG, leA, leC, leM, leaf, tokLt, tokLtL, intV, boolV, nilA, nilSl, fdO, vaA, vaC, findV, failV, va0, emp]
set_option maxRecDepth 100000 in
set_option maxHeartbeats 8000000 in
theorem find_two (row : List Va) (k vk vn : Int) (vs tb nm : ByteArray) (s : Int) (x y : Ex) (hx : FindOK row x) (hy : FindOK row y) : FindOK row (.mk k vk vn vs tb nm s [x, y]) := by
  intro e
  refine OCalls.of (fdP row) (fun t => rfl) rfl ?_
  refine acalls_of cx_ok dr_ok Try.func65 (by kernel_rfl) rfl (nt := 26) (rs := [.cell 4 50]) rfl rfl ?_
  simp only [fdO, exA, exC, exL, List.map_cons, List.map_nil]
  have hf := afail row 1 e
  by_cases hk : kidsV k = 2
  · have d : ((2 : Int) != kidsV k) = false := by simp [hk]
    have hk5 : 5 ≤ k ∧ k ≤ 17 := by
      by_cases h5 : 5 ≤ k ∧ k ≤ 17
      · exact h5
      · exfalso
        unfold kidsV at hk
        rw [if_neg h5] at hk
        split at hk <;> (try split at hk) <;> omega
    repeat' first | ((with_reducible first | refine cond_split (fun h => ?_) (fun h => ?_) | refine want_split (fun h => ?_) (fun h => ?_)) <;> (try simp only [h])) | (simp only [↓wBA, wBB, wBC, cx_muts, cx_arr, wBD, convA, Nat.reduceBEq, reduceIte, reduceCtorEq, reducePow, reduceAdd, reduceSub, reduceMul, reduceEqDiff, reduceLeDiff, Nat.reduceLT, Int.reduceLT, Int.reduceLE, Int.reduceToNat, ty65_XFf, bu_len, bu_max, bu_min, pl65_1_XFf, pl65_3_XFf, exL, List.length_cons, List.length_nil, d, nc0, nc1, nc2, nc3]) | ((with_reducible show ACalls _ _ _ _ _); refine (afail row _ _ _ 0 rfl).mono ?_; rintro _ _ ⟨_, ⟨rfl, rfl⟩, rfl⟩; simp only [fdO, vaA, vaC, List.map_cons, List.map_nil]) | ((with_reducible show ACalls _ _ _ _ _); refine (akidsV _ _).mono ?_; rintro _ _ ⟨rfl, rfl⟩) | ((with_reducible show ACalls _ _ _ _ _); refine (atwoV row k vk vn vs tb nm s hk5 x y hx hy _ _ 0 rfl).mono ?_; rintro _ _ ⟨_, ⟨rfl, rfl⟩, rfl⟩; simp only [fdO, vaA, vaC, List.map_cons, List.map_nil]) | (with_reducible refine draw_plan pl65_1_XFf 7 (some 5) (by decide) (by decide) (by kernel_rfl) (by kernel_rfl) ?_) | (with_reducible refine draw_plan pl65_3_XFf 15 (some 14) (by decide) (by decide) (by kernel_rfl) (by kernel_rfl) ?_) | ((with_reducible first | refine wantD_split (fun h => ?_) (fun h => ?_) | refine wantU_split (fun h => ?_) (fun h => ?_)) <;> (try simp only [h])) | (with_reducible refine And.intro ?_ ?_)
    all_goals refine ret_obI (a := _) (b := _) (fdP _ _) ?_ rfl rfl
    all_goals simp only [↓wBA, wBB, wBC, cx_muts, cx_arr, wBD, convA, Nat.reduceBEq, reduceIte, reduceCtorEq, reducePow, reduceAdd, reduceSub, reduceMul, reduceEqDiff, reduceLeDiff, Nat.reduceLT, Int.reduceLT, Int.reduceLE, Int.reduceToNat, ty65_XFf]
    all_goals simp_all [resA, resL, resV, leT, leG, leA, leC, leM, leaf, tokLt, tokLtL, intV, boolV, nilA, nilSl, fdO, vaA, vaC, findV, failV, va0, emp]
  · have d : ((2 : Int) != kidsV k) = true := by simp; omega
    repeat' first | ((with_reducible first | refine cond_split (fun h => ?_) (fun h => ?_) | refine want_split (fun h => ?_) (fun h => ?_)) <;> (try simp only [h])) | (simp only [↓wBA, wBB, wBC, cx_muts, cx_arr, wBD, convA, Nat.reduceBEq, reduceIte, reduceCtorEq, reducePow, reduceAdd, reduceSub, reduceMul, reduceEqDiff, reduceLeDiff, Nat.reduceLT, Int.reduceLT, Int.reduceLE, Int.reduceToNat, ty65_XFf, bu_len, bu_max, bu_min, pl65_1_XFf, pl65_3_XFf, exL, List.length_cons, List.length_nil, d, nc0, nc1, nc2, nc3]) | ((with_reducible show ACalls _ _ _ _ _); refine (afail row _ _ _ 0 rfl).mono ?_; rintro _ _ ⟨_, ⟨rfl, rfl⟩, rfl⟩; simp only [fdO, vaA, vaC, List.map_cons, List.map_nil]) | ((with_reducible show ACalls _ _ _ _ _); refine (akidsV _ _).mono ?_; rintro _ _ ⟨rfl, rfl⟩) | (with_reducible refine draw_plan pl65_1_XFf 7 (some 5) (by decide) (by decide) (by kernel_rfl) (by kernel_rfl) ?_) | (with_reducible refine draw_plan pl65_3_XFf 15 (some 14) (by decide) (by decide) (by kernel_rfl) (by kernel_rfl) ?_) | ((with_reducible first | refine wantD_split (fun h => ?_) (fun h => ?_) | refine wantU_split (fun h => ?_) (fun h => ?_)) <;> (try simp only [h])) | (with_reducible refine And.intro ?_ ?_)
    all_goals refine ret_obI (a := _) (b := _) (fdP _ _) ?_ rfl rfl
    all_goals simp only [↓wBA, wBB, wBC, cx_muts, cx_arr, wBD, convA, Nat.reduceBEq, reduceIte, reduceCtorEq, reducePow, reduceAdd, reduceSub, reduceMul, reduceEqDiff, reduceLeDiff, Nat.reduceLT, Int.reduceLT, Int.reduceLE, Int.reduceToNat, ty65_XFf]
    all_goals simp_all [resA, resL, resV, leT, leG, leA, leC, leM, leaf, tokLt, tokLtL, intV, boolV, nilA, nilSl, fdO, vaA, vaC, findV, failV, va0, emp]
set_option maxRecDepth 100000 in
set_option maxHeartbeats 8000000 in
theorem find_more (row : List Va) (k vk vn : Int) (vs tb nm : ByteArray) (s : Int) (x y z : Ex) (l : List Ex) : FindOK row (.mk k vk vn vs tb nm s (x :: y :: z :: l)) := by
  intro e
  refine OCalls.of (fdP row) (fun t => rfl) rfl ?_
  refine acalls_of cx_ok dr_ok Try.func65 (by kernel_rfl) rfl (nt := 26) (rs := [.cell 4 50]) rfl rfl ?_
  simp only [fdO, exA, exC, exL, List.map_cons, List.map_nil]
  have hf := afail row 1 e
  have d : ((((exL l).length + 1 + 1 + 1 : Nat) : Int) != kidsV k) = true := by have := kidsV_le k; simp; omega
  repeat' first | ((with_reducible first | refine cond_split (fun h => ?_) (fun h => ?_) | refine want_split (fun h => ?_) (fun h => ?_)) <;> (try simp only [h])) | (simp only [↓wBA, wBB, wBC, cx_muts, cx_arr, wBD, convA, Nat.reduceBEq, reduceIte, reduceCtorEq, reducePow, reduceAdd, reduceSub, reduceMul, reduceEqDiff, reduceLeDiff, Nat.reduceLT, Int.reduceLT, Int.reduceLE, Int.reduceToNat, ty65_XFf, bu_len, bu_max, bu_min, pl65_1_XFf, pl65_3_XFf, d]) | ((with_reducible show ACalls _ _ _ _ _); refine (afail row _ _ _ 0 rfl).mono ?_; rintro _ _ ⟨_, ⟨rfl, rfl⟩, rfl⟩; simp only [fdO, vaA, vaC, List.map_cons, List.map_nil]) | ((with_reducible show ACalls _ _ _ _ _); refine (akidsV _ _).mono ?_; rintro _ _ ⟨rfl, rfl⟩) | (with_reducible refine draw_plan pl65_1_XFf 7 (some 5) (by decide) (by decide) (by kernel_rfl) (by kernel_rfl) ?_) | (with_reducible refine draw_plan pl65_3_XFf 15 (some 14) (by decide) (by decide) (by kernel_rfl) (by kernel_rfl) ?_) | ((with_reducible first | refine wantD_split (fun h => ?_) (fun h => ?_) | refine wantU_split (fun h => ?_) (fun h => ?_)) <;> (try simp only [h])) | (with_reducible refine And.intro ?_ ?_)
  all_goals refine ret_obI (a := _) (b := _) (fdP _ _) ?_ rfl rfl
  all_goals simp only [↓wBA, wBB, wBC, cx_muts, cx_arr, wBD, convA, Nat.reduceBEq, reduceIte, reduceCtorEq, reducePow, reduceAdd, reduceSub, reduceMul, reduceEqDiff, reduceLeDiff, Nat.reduceLT, Int.reduceLT, Int.reduceLE, Int.reduceToNat, ty65_XFf]
  all_goals simp_all [resA, resL, resV, leT, leG, leA, leC, leM, leaf, tokLt, tokLtL, intV, boolV, nilA, nilSl, fdO, vaA, vaC, findV, failV, va0, emp]
mutual
theorem afind (row : List Va) : ∀ x : Ex, FindOK row x
  | .mk k vk vn vs tb nm s [] => find_nil row k vk vn vs tb nm s
  | .mk k vk vn vs tb nm s [x] => find_one row k vk vn vs tb nm s x (afind row x)
  | .mk k vk vn vs tb nm s [x, y] => find_two row k vk vn vs tb nm s x y (afind row x) (afind row y)
  | .mk k vk vn vs tb nm s (x :: y :: z :: l) => find_more row k vk vn vs tb nm s x y z l
end
set_option maxRecDepth 100000 in
set_option maxHeartbeats 8000000 in
theorem aevalV (row : List Va) (x : Ex) (σ : St) : ACalls Try.prog 41 [exA x, .p (.sl 3 (enV row))] σ fun r s => s = σ ∧ r = .tup [vaA (evalV row x).1, intV .i64 (evalV row x).2] := by
  refine ACalls.pureF (R := fun r => r = .tup [vaA (evalV row x).1, intV .i64 (evalV row x).2]) ?_ (by cases x; rfl) σ
  have hx := afind row x 0
  generalize hb : findV row x 0 = b at *
  obtain ⟨⟨b1, b2, b3⟩, e2⟩ := b
  obtain ⟨k, vk, vn, vs, tb, nm, s, kids⟩ := x
  refine acalls_of cx_ok dr_ok Try.func41 (by kernel_rfl) rfl (nt := 23) (rs := [.cell 4 50, .tmp 5]) rfl rfl ?_
  simp only [exA, exC, List.map_cons, List.map_nil]
  have hc : ∀ σ t, σ[t]? = some (some (.row 2 [[.p (.sl 3 (enV row)), .p (.v (.int .i64 0))]])) → ACalls Try.prog 65 [.mp t 2 0 0, .agg ((exC (.mk k vk vn vs tb nm s kids)).map .p)] σ fun r σ' => r = vaA (b1, b2, b3) ∧ σ' = σ.set t (some (fdO row e2)) := fun σ t ht => (hx σ t ht).mono fun r σ' ⟨e', ⟨h1, h2⟩, h3⟩ => by subst h1 h2 h3; exact ⟨rfl, rfl⟩
  simp only [exC, List.map_cons, List.map_nil] at hc
  repeat' first | ((with_reducible first | refine cond_split (fun h => ?_) (fun h => ?_) | refine want_split (fun h => ?_) (fun h => ?_)) <;> (try simp only [h])) | (simp only [↓wBA, wBB, wBC, cx_muts, cx_arr, wBD, convA, Nat.reduceBEq, reduceIte, reduceCtorEq, reducePow, reduceAdd, reduceSub, reduceMul, reduceEqDiff, reduceLeDiff, Nat.reduceLT, Int.reduceLT, Int.reduceLE, Int.reduceToNat, ty41_XFf, bu_len, bu_max, bu_min, pl41_4_XFf]) | ((with_reducible show ACalls _ _ _ _ _); refine (hc _ 2 rfl).mono ?_; rintro _ _ ⟨rfl, rfl⟩; simp only [fdO, vaA, vaC, List.map_cons, List.map_nil]) | (with_reducible refine draw_plan pl41_4_XFf 7 (some 19) (by decide) (by decide) (by kernel_rfl) (by kernel_rfl) ?_) | ((with_reducible first | refine wantD_split (fun h => ?_) (fun h => ?_) | refine wantU_split (fun h => ?_) (fun h => ?_)) <;> (try simp only [h])) | (with_reducible refine And.intro ?_ ?_)
  all_goals refine ret_is (a := _) ?_ rfl rfl
  all_goals simp only [↓wBA, wBB, wBC, cx_muts, cx_arr, wBD, convA, Nat.reduceBEq, reduceIte, reduceCtorEq, reducePow, reduceAdd, reduceSub, reduceMul, reduceEqDiff, reduceLeDiff, Nat.reduceLT, Int.reduceLT, Int.reduceLE, Int.reduceToNat, ty41_XFf]
  all_goals simp_all [resA, resL, resV, leT, leG, leA, leC, leM, leaf, tokLt, tokLtL, intV, boolV, nilA, nilSl, vaA, vaC, evalV, va0, emp]
set_option maxRecDepth 100000 in
set_option maxHeartbeats 8000000 in
theorem aholdsV (row : List Va) (x : Ex) (σ : St) : ACalls Try.prog 62 [exA x, .p (.sl 3 (enV row))] σ fun r s => s = σ ∧ r = .tup [boolV (holdsV row x).1, intV .i64 (holdsV row x).2] := by
  refine ACalls.pureF (R := fun r => r = .tup [boolV (holdsV row x).1, intV .i64 (holdsV row x).2]) ?_ (by cases x; rfl) σ
  have hx := aevalV row x
  generalize hb : evalV row x = b at *
  obtain ⟨⟨b1, b2, b3⟩, e2⟩ := b
  obtain ⟨k, vk, vn, vs, tb, nm, s, kids⟩ := x
  simp only [exA, exC, vaA, vaC, List.map_cons, List.map_nil] at hx
  refine acalls_of cx_ok dr_ok Try.func62 (by kernel_rfl) rfl (nt := 37) (rs := [.tmp 4, .tmp 5]) rfl rfl ?_
  simp only [exA, exC, List.map_cons, List.map_nil]
  repeat' first | ((with_reducible first | refine cond_split (fun h => ?_) (fun h => ?_) | refine want_split (fun h => ?_) (fun h => ?_)) <;> (try simp only [h])) | (simp only [↓wBA, wBB, wBC, cx_muts, cx_arr, wBD, convA, Nat.reduceBEq, reduceIte, reduceCtorEq, reducePow, reduceAdd, reduceSub, reduceMul, reduceEqDiff, reduceLeDiff, Nat.reduceLT, Int.reduceLT, Int.reduceLE, Int.reduceToNat, ty62_XFf, bu_len, bu_max, bu_min]) | ((with_reducible show ACalls _ _ _ _ _); refine (hx _).mono ?_; rintro _ _ ⟨rfl, rfl⟩)
  all_goals refine ret_is (a := _) ?_ rfl rfl
  all_goals simp only [↓wBA, wBB, wBC, cx_muts, cx_arr, wBD, convA, Nat.reduceBEq, reduceIte, reduceCtorEq, reducePow, reduceAdd, reduceSub, reduceMul, reduceEqDiff, reduceLeDiff, Nat.reduceLT, Int.reduceLT, Int.reduceLE, Int.reduceToNat, ty62_XFf]
  all_goals simp_all [resA, resL, resV, leT, leG, leA, leC, leM, leaf, tokLt, tokLtL, intV, boolV, nilA, nilSl, holdsV]
  all_goals grind
end Go.Proofs.Ytcnkmandddfdmaa
namespace Go.Proofs.Ytcnkmandddfdmaa
open Go.RowKit
open Nat (reducePow reduceAdd reduceSub reduceMul reduceEqDiff reduceLeDiff)
theorem ty40_XCl : (type_of% ck_46) ∧ (type_of% cx_46) ∧ (type_of% @ks_46) ∧ (type_of% @ko_46) ∧ (type_of% @kn_46) ∧ (type_of% kz_46) := ⟨ck_46, cx_46, @ks_46, @ko_46, @kn_46, kz_46⟩
theorem enV_cons (v : Va) (l : List Va) : enV (v :: l) = vaC v :: enV l := rfl
set_option maxRecDepth 100000 in
set_option maxHeartbeats 4000000 in
theorem aclone (l : List Va) (hl : l.length ≤ 4398046511104) (σ : St) : ACalls Try.prog 40 [.p (.sl 3 (enV l))] σ fun r s => s = σ ∧ r = .p (.sl 3 (enV l)) := by
  refine ACalls.pureF (R := fun r => r = .p (.sl 3 (enV l))) ?_ rfl σ
  cases l with
  | nil =>
    refine ACalls.nilSplit ?_ fun ad c => ?_
    · skip
      refine acalls_of cx_ok dr_ok Try.func40 (by kernel_rfl) rfl (nt := 7) (rs := [.tmp 2]) rfl rfl ?_
      repeat' first | ((with_reducible first | refine cond_split (fun h => ?_) (fun h => ?_) | refine want_split (fun h => ?_) (fun h => ?_)) <;> (try simp only [h])) | (simp only [↓wBA, wBB, wBC, cx_muts, cx_arr, wBD, convA, Nat.reduceBEq, reduceIte, reduceCtorEq, reducePow, reduceAdd, reduceSub, reduceMul, reduceEqDiff, reduceLeDiff, Nat.reduceLT, Int.reduceLT, Int.reduceLE, Int.reduceToNat, ty40_XCl, bu_len, bu_max, bu_min, appendA, srcA])
      all_goals refine ret_is (a := _) ?_ rfl rfl
      all_goals simp only [↓wBA, wBB, wBC, cx_muts, cx_arr, wBD, convA, Nat.reduceBEq, reduceIte, reduceCtorEq, reducePow, reduceAdd, reduceSub, reduceMul, reduceEqDiff, reduceLeDiff, Nat.reduceLT, Int.reduceLT, Int.reduceLE, Int.reduceToNat, ty40_XCl]
      all_goals simp_all [resA, resL, resV, leT, leG, leA, leC, leM, leaf, tokLt, tokLtL, intV, boolV, nilA, nilSl, enV]
    · skip
      refine acalls_of cx_ok dr_ok Try.func40 (by kernel_rfl) rfl (nt := 7) (rs := [.tmp 2]) rfl rfl ?_
      have hlim2 : (0 ≤ maxLen) = True := eq_true (Nat.zero_le _)
      repeat' first | ((with_reducible first | refine cond_split (fun h => ?_) (fun h => ?_) | refine want_split (fun h => ?_) (fun h => ?_)) <;> (try simp only [h])) | (simp only [↓wBA, wBB, wBC, cx_muts, cx_arr, wBD, convA, Nat.reduceBEq, reduceIte, reduceCtorEq, reducePow, reduceAdd, reduceSub, reduceMul, reduceEqDiff, reduceLeDiff, Nat.reduceLT, Int.reduceLT, Int.reduceLE, Int.reduceToNat, ty40_XCl, bu_len, bu_max, bu_min, appendA, srcA, hlim2, Nat.zero_le, Nat.zero_mul])
      all_goals refine ret_is (a := _) ?_ rfl rfl
      all_goals simp only [↓wBA, wBB, wBC, cx_muts, cx_arr, wBD, convA, Nat.reduceBEq, reduceIte, reduceCtorEq, reducePow, reduceAdd, reduceSub, reduceMul, reduceEqDiff, reduceLeDiff, Nat.reduceLT, Int.reduceLT, Int.reduceLE, Int.reduceToNat, ty40_XCl]
      all_goals simp_all [resA, resL, resV, leT, leG, leA, leC, leM, leaf, tokLt, tokLtL, intV, boolV, nilA, nilSl, enV]
  | cons v l =>
    simp only [List.length_cons] at hl
    have hlim1 : ((l.length + 1) * 32 ≤ 140737488355328) = True := eq_true (by omega)
    have hlim2 : (l.length + 1 ≤ maxLen) = True := eq_true (by unfold maxLen; omega)
    refine acalls_of cx_ok dr_ok Try.func40 (by kernel_rfl) rfl (nt := 7) (rs := [.tmp 2]) rfl rfl ?_
    simp only [enV_cons]
    repeat' first | ((with_reducible first | refine cond_split (fun h => ?_) (fun h => ?_) | refine want_split (fun h => ?_) (fun h => ?_)) <;> (try simp only [h])) | (simp only [↓wBA, wBB, wBC, cx_muts, cx_arr, wBD, convA, Nat.reduceBEq, reduceIte, reduceCtorEq, reducePow, reduceAdd, reduceSub, reduceMul, reduceEqDiff, reduceLeDiff, Nat.reduceLT, Int.reduceLT, Int.reduceLE, Int.reduceToNat, ty40_XCl, bu_len, bu_max, bu_min, appendA, srcA, enV_len, hlim1, hlim2])
    all_goals refine ret_is (a := _) ?_ rfl rfl
    all_goals simp only [↓wBA, wBB, wBC, cx_muts, cx_arr, wBD, convA, Nat.reduceBEq, reduceIte, reduceCtorEq, reducePow, reduceAdd, reduceSub, reduceMul, reduceEqDiff, reduceLeDiff, Nat.reduceLT, Int.reduceLT, Int.reduceLE, Int.reduceToNat, ty40_XCl]
    all_goals simp_all [resA, resL, resV, leT, leG, leA, leC, leM, leaf, tokLt, tokLtL, intV, boolV, nilA, nilSl, enV]
/-- The same, where the new row is written later. -/
def cxM : Ctx := { cx with muts := [46 * 100000 + 7] }
theorem cxM_ok : cxM.ok Try.prog := cx_ok
theorem drM_ok : DrawOk Try.prog (aDraw Try.prog cxM) := aDraw_ok cxM_ok (by kernel_rfl)
theorem kindM (t : TypeId) : cxM.kind t = cx.kind t := nr rfl
theorem tyM (t : TypeId) : cxM.ty t = cx.ty t := nr rfl
theorem mutsM : cxM.muts = [46 * 100000 + 7] := nr rfl
theorem get_concat {σ : St} {x : Option Ob} : (σ ++ [x])[σ.length]? = some x := by simp
theorem set_concat {σ : St} {x y : Option Ob} : (σ ++ [x]).set σ.length y = σ ++ [y] := by simp
theorem len_concat {σ : St} {x : Option Ob} : (σ ++ [x]).length = σ.length + 1 := by simp
theorem app_concat {σ : St} {x y : Option Ob} : σ ++ [x] ++ [y] = σ ++ [x, y] := by simp
/-- A row that may be written. -/
def muR (l : List Va) : List (List AV) := l.map fun v => (vaC v).map .p
theorem muR_len (l : List Va) : (muR l).length = l.length := by simp [muR]
set_option maxRecDepth 100000 in
set_option maxHeartbeats 4000000 in
theorem acloneM (v : Va) (l : List Va) (hl : l.length + 1 ≤ 4398046511104) (σ : St) : ACalls Try.prog 40 [.p (.sl 3 (enV (v :: l)))] σ fun r s => r = .ms (σ.length + 1) 3 0 (l.length + 1) ∧ s = σ ++ [none, some (.row 3 (muR (v :: l)))] := by
  have hlim1 : ((l.length + 1) * 32 ≤ 140737488355328) = True := eq_true (by omega)
  have hlim2 : (l.length + 1 ≤ maxLen) = True := eq_true (by unfold maxLen; omega)
  refine acalls_of cxM_ok drM_ok Try.func40 (by kernel_rfl) rfl (nt := 7) (rs := [.tmp 2]) rfl rfl ?_
  simp only [enV_cons]
  repeat' first | ((with_reducible first | refine cond_split (fun h => ?_) (fun h => ?_) | refine want_split (fun h => ?_) (fun h => ?_)) <;> (try simp only [h])) | (simp only [↓wBA, wBB, wBC, cx_muts, cx_arr, wBD, convA, Nat.reduceBEq, reduceIte, reduceCtorEq, reducePow, reduceAdd, reduceSub, reduceMul, reduceEqDiff, reduceLeDiff, Nat.reduceLT, Int.reduceLT, Int.reduceLE, Int.reduceToNat, ty40_XCl, bu_len, bu_max, bu_min, appendM, srcA, enV_len, hlim1, hlim2, kindM, tyM, mutsM, get_concat, set_concat, len_concat, app_concat])
  refine ⟨.inl rfl, _, _, _, rfl, .inl ⟨rfl, rfl⟩, by simp, rfl, ?_⟩
  simp [muR, enV]
end Go.Proofs.Ytcnkmandddfdmaa
namespace Go.Proofs.Ytcnkmandddfdmaa
open Go.RowKit
open Nat (reducePow reduceAdd reduceSub reduceMul reduceEqDiff reduceLeDiff)
theorem ty63_XFi : (type_of% ck_40) ∧ (type_of% cx_40) ∧ (type_of% ck_130) ∧ (type_of% cx_130) := ⟨ck_40, cx_40, ck_130, cx_130⟩
theorem ty64_XFi : (type_of% ck_3) ∧ (type_of% cx_3) ∧ (type_of% ck_25) ∧ (type_of% cx_25) ∧ (type_of% @ks_25) ∧ (type_of% @ko_25) ∧ (type_of% @kn_25) ∧ (type_of% kz_25) ∧ (type_of% ck_40) ∧ (type_of% cx_40) := ⟨ck_3, cx_3, ck_25, cx_25, @ks_25, @ko_25, @kn_25, kz_25, ck_40, cx_40⟩
theorem ty39_XFi : (type_of% ck_3) ∧ (type_of% cx_3) ∧ (type_of% ck_25) ∧ (type_of% cx_25) ∧ (type_of% @ks_25) ∧ (type_of% @ko_25) ∧ (type_of% @kn_25) ∧ (type_of% kz_25) ∧ (type_of% ck_40) ∧ (type_of% cx_40) ∧ (type_of% ck_46) ∧ (type_of% cx_46) ∧ (type_of% @ks_46) ∧ (type_of% @ko_46) ∧ (type_of% @kn_46) ∧ (type_of% kz_46) ∧ (type_of% ck_86) ∧ (type_of% cx_86) ∧ (type_of% ck_130) ∧ (type_of% cx_130) := ⟨ck_3, cx_3, ck_25, cx_25, @ks_25, @ko_25, @kn_25, kz_25, ck_40, cx_40, ck_46, cx_46, @ks_46, @ko_46, @kn_46, kz_46, ck_86, cx_86, ck_130, cx_130⟩
/-- The least error so far. -/
def leastI (l e : Int) : Int := if e ≠ 0 ∧ (l = 0 ∨ e < l) then e else l
def lsO (e : Int) : Ob := .row 1 [[intV .i64 e]]
theorem lsP (e : Int) : PlainOb (lsO e) := ⟨fun g => by simp [renOb, lsO, renL, renA, intV], fun n => by simp [tokOb, lsO, tokLtL, tokLt, intV], 1, _, rfl⟩
set_option maxRecDepth 100000 in
set_option maxHeartbeats 4000000 in
theorem asee (l e : Int) : OCalls lsO 63 (fun t => [.mp t 1 0 0, intV .i64 e]) l fun r l' => r = .tup [] ∧ l' = leastI l e := by
  refine OCalls.of lsP (fun t => rfl) rfl ?_
  refine acalls_of cx_ok dr_ok Try.func63 (by kernel_rfl) rfl (nt := 20) (rs := []) rfl rfl ?_
  simp only [lsO]
  repeat' first | ((with_reducible first | refine cond_split (fun h => ?_) (fun h => ?_) | refine want_split (fun h => ?_) (fun h => ?_)) <;> (try simp only [h])) | (simp only [↓wBA, wBB, wBC, cx_muts, cx_arr, wBD, convA, Nat.reduceBEq, reduceIte, reduceCtorEq, reducePow, reduceAdd, reduceSub, reduceMul, reduceEqDiff, reduceLeDiff, Nat.reduceLT, Int.reduceLT, Int.reduceLE, Int.reduceToNat, ty63_XFi, bu_len, bu_max, bu_min])
  all_goals refine ret_obI (a := _) (b := _) (lsP _) ?_ rfl rfl
  all_goals simp only [↓wBA, wBB, wBC, cx_muts, cx_arr, wBD, convA, Nat.reduceBEq, reduceIte, reduceCtorEq, reducePow, reduceAdd, reduceSub, reduceMul, reduceEqDiff, reduceLeDiff, Nat.reduceLT, Int.reduceLT, Int.reduceLE, Int.reduceToNat, ty63_XFi]
  all_goals simp_all [resA, resL, resV, leT, leG, leA, leC, leM, leaf, tokLt, tokLtL, intV, boolV, nilA, nilSl, lsO, leastI]
  all_goals grind
/-- Rows, or the least error. -/
def ansS (l : Int) (rows : List (List Va)) : List (List Va) × Int := if l ≠ 0 then ([], l) else if rows.length > 10000 then ([], 20) else (rows, 0)
set_option maxRecDepth 100000 in
set_option maxHeartbeats 4000000 in
theorem aanswer (l : Int) (rows : List (List Va)) (σ : St) : ACalls Try.prog 64 [intV .i64 l, .p (nilSl 1 (enVV rows))] σ fun r s => s = σ ∧ r = .tup [.p (.sl 1 (enVV (ansS l rows).1)), intV .i64 (ansS l rows).2] := by
  refine ACalls.pureF (R := fun r => r = .tup [.p (.sl 1 (enVV (ansS l rows).1)), intV .i64 (ansS l rows).2]) ?_ rfl σ
  cases rows with
  | nil =>
    refine acalls_of cx_ok dr_ok Try.func64 (by kernel_rfl) rfl (nt := 13) (rs := [.tmp 4, .tmp 5]) rfl rfl ?_
    simp only [nilSl, enVV, List.map_nil, List.isEmpty_nil, if_true]
    repeat' first | ((with_reducible first | refine cond_split (fun h => ?_) (fun h => ?_) | refine want_split (fun h => ?_) (fun h => ?_)) <;> (try simp only [h])) | (simp only [↓wBA, wBB, wBC, cx_muts, cx_arr, wBD, convA, Nat.reduceBEq, reduceIte, reduceCtorEq, reducePow, reduceAdd, reduceSub, reduceMul, reduceEqDiff, reduceLeDiff, Nat.reduceLT, Int.reduceLT, Int.reduceLE, Int.reduceToNat, ty64_XFi, bu_len, bu_max, bu_min])
    all_goals refine ret_is (a := _) ?_ rfl rfl
    all_goals simp only [↓wBA, wBB, wBC, cx_muts, cx_arr, wBD, convA, Nat.reduceBEq, reduceIte, reduceCtorEq, reducePow, reduceAdd, reduceSub, reduceMul, reduceEqDiff, reduceLeDiff, Nat.reduceLT, Int.reduceLT, Int.reduceLE, Int.reduceToNat, ty64_XFi]
    all_goals simp_all [resA, resL, resV, leT, leG, leA, leC, leM, leaf, tokLt, tokLtL, intV, boolV, nilA, nilSl, ansS, enVV]
    all_goals grind
  | cons r rows =>
    refine acalls_of cx_ok dr_ok Try.func64 (by kernel_rfl) rfl (nt := 13) (rs := [.tmp 4, .tmp 5]) rfl rfl ?_
    simp only [nilSl, enVV, List.map_cons, List.isEmpty_cons, Bool.false_eq_true, if_false]
    repeat' first | ((with_reducible first | refine cond_split (fun h => ?_) (fun h => ?_) | refine want_split (fun h => ?_) (fun h => ?_)) <;> (try simp only [h])) | (simp only [↓wBA, wBB, wBC, cx_muts, cx_arr, wBD, convA, Nat.reduceBEq, reduceIte, reduceCtorEq, reducePow, reduceAdd, reduceSub, reduceMul, reduceEqDiff, reduceLeDiff, Nat.reduceLT, Int.reduceLT, Int.reduceLE, Int.reduceToNat, ty64_XFi, bu_len, bu_max, bu_min, List.length_map])
    all_goals refine ret_is (a := _) ?_ rfl rfl
    all_goals simp only [↓wBA, wBB, wBC, cx_muts, cx_arr, wBD, convA, Nat.reduceBEq, reduceIte, reduceCtorEq, reducePow, reduceAdd, reduceSub, reduceMul, reduceEqDiff, reduceLeDiff, Nat.reduceLT, Int.reduceLT, Int.reduceLE, Int.reduceToNat, ty64_XFi]
    all_goals simp_all [resA, resL, resV, leT, leG, leA, leC, leM, leaf, tokLt, tokLtL, intV, boolV, nilA, nilSl, ansS, enVV]
    all_goals grind
def filStep (x : Ex) (s : List (List Va) × Int) (r : List Va) : List (List Va) × Int := (if (holdsV r x).1 = true ∧ s.1.length ≤ 10000 then s.1 ++ [r] else s.1, leastI s.2 (holdsV r x).2)
def filS (rows : List (List Va)) (x : Ex) : List (List Va) × Int := ansS (rows.foldl (filStep x) ([], 0)).2 (rows.foldl (filStep x) ([], 0)).1
theorem take_step {α β : Type} (f : β → α → β) (b : β) (l : List α) (i : Nat) (h : i < l.length) : (l.take (i + 1)).foldl f b = f ((l.take i).foldl f b) l[i] := by
  rw [List.take_succ_eq_append_getElem h, List.foldl_append]; rfl
/-- No row is longer than memory. -/
def OkRows (rows : List (List Va)) : Prop := rows.length ≤ 4398046511104 ∧ ∀ r ∈ rows, r.length ≤ 4398046511104
set_option maxRecDepth 100000 in
set_option maxHeartbeats 8000000 in
theorem afilter (rows : List (List Va)) (x : Ex) (hr : OkRows rows) (σ : St) : ACalls Try.prog 39 [.p (.sl 1 (enVV rows)), exA x] σ fun r s => s = σ ∧ r = .tup [.p (.sl 1 (enVV (filS rows x).1)), intV .i64 (filS rows x).2] := by
  refine ACalls.pureF (R := fun r => r = .tup [.p (.sl 1 (enVV (filS rows x).1)), intV .i64 (filS rows x).2]) ?_ (by cases x; rfl) σ
  obtain ⟨hn, hr⟩ := hr
  have hH := fun row => aholdsV row x
  unfold filS
  generalize hst : filStep x = stp at *
  have hstp : ∀ s r, stp s r = (if (holdsV r x).1 = true ∧ s.1.length ≤ 10000 then s.1 ++ [r] else s.1, leastI s.2 (holdsV r x).2) := fun s r => by rw [← hst]; rfl
  generalize hhv : (fun r => holdsV r x) = hv at *
  have hhv' : ∀ r, holdsV r x = hv r := fun r => by rw [← hhv]
  simp only [hhv'] at hH hstp
  clear hst hhv hhv'
  obtain ⟨k, vk, vn, vs, tb, nm, s, kids⟩ := x
  simp only [exA, exC, List.map_cons, List.map_nil] at hH
  refine acalls_of cx_ok dr_ok Try.func39 (by kernel_rfl) rfl (nt := 41) (rs := [.tmp 4, .tmp 5]) rfl rfl ?_
  simp only [exA, exC, List.map_cons, List.map_nil]
  simp only [↓wBA, wBB, wBC, cx_muts, cx_arr, wBD, convA, Nat.reduceBEq, reduceIte, reduceCtorEq, reducePow, reduceAdd, reduceSub, reduceMul, reduceEqDiff, reduceLeDiff, Nat.reduceLT, Int.reduceLT, Int.reduceLE, Int.reduceToNat, ty39_XFi, enVV_len]
  refine awp_loopN (rows.length) (fun i => [(7, .nown 2 1 (enVV ((rows.take i).foldl stp ([], 0)).1)), (14, intV .i64 (i : Nat)), (9, .any), (10, .any), (11, .any), (15, .any), (16, .any), (17, .any), (18, .any), (19, .any), (20, .any), (21, .any), (22, .any), (23, .any), (24, .any), (25, .any), (26, .any), (27, .any), (28, .any), (29, .any), (30, .any), (31, .any), (32, .any), (33, .any), (34, .any), (35, .any), (36, .any), (37, .any)]) (fun i => [(1, .row 1 [[intV .i64 ((rows.take i).foldl stp ([], 0)).2]]), (2, .nright 46 (((rows.take i).foldl stp ([], 0)).1.length * 1))]) (fun i => True) ?_ ?_ ?_
  · trivial
  · skip
    simp only [setsF_cons, setsF_nil, setsO_cons, setsO_nil, List.set_cons_zero, List.set_cons_succ, List.length_cons, List.length_nil, St.put, Nat.zero_add, Nat.reduceAdd, Nat.reduceLT, Nat.lt_irrefl, reduceIte, List.cons_append, List.nil_append]
    simp [WeakE, Weak, setsF, setsO, St.put, leL, leT, leM, leG, leA, leC, leR, leS, leO, tokLt, tokLtL, intV, boolV, leaf, nilA, nilSl, enVV]
  · intro i hi _
    simp only [setsF_cons, setsF_nil, setsO_cons, setsO_nil, List.set_cons_zero, List.set_cons_succ, List.length_cons, List.length_nil, St.put, Nat.zero_add, Nat.reduceAdd, Nat.reduceLT, Nat.lt_irrefl, reduceIte, List.cons_append, List.nil_append]
    by_cases hlt : i < rows.length
    · have hdec : decide ((i : Int) < (rows.length : Int)) = true := by simp; omega
      have hi0 : ((0 : Int) ≤ (i : Int)) = True := eq_true (by omega)
      have hw : IntKind.i64.wrap ((i : Int) + 1) = ((i + 1 : Nat) : Int) := by rw [wrap_i64 (by omega) (by omega)]; simp
      have hg := enVV_get rows i hlt
      have hst := take_step stp ([], 0) rows i hlt
      have hrl := hr rows[i] (List.getElem_mem hlt)
      rw [hstp] at hst
      generalize hs : (rows.take i).foldl stp ([], 0) = st at *
      obtain ⟨out, l⟩ := st
      simp only at hst
      generalize hrow : rows[i] = row at *
      by_cases ho : out.length ≤ 10000
      · have hd : decide ((out.length : Int) ≤ 10000) = true := by simp; omega
        have hlim1 : ((out.length + 1) * 24 ≤ 140737488355328) = True := eq_true (by omega)
        have hlim2 : (out.length + 1 ≤ maxLen) = True := eq_true (by unfold maxLen; omega)
        repeat' first | ((with_reducible first | refine cond_split (fun h => ?_) (fun h => ?_) | refine want_split (fun h => ?_) (fun h => ?_)) <;> (try simp only [h])) | (simp only [↓wBA, wBB, wBC, cx_muts, cx_arr, wBD, convA, Nat.reduceBEq, reduceIte, reduceCtorEq, reducePow, reduceAdd, reduceSub, reduceMul, reduceEqDiff, reduceLeDiff, Nat.reduceLT, Int.reduceLT, Int.reduceLE, Int.reduceToNat, ty39_XFi, bu_len, bu_max, bu_min, enVV_len, hdec, hi0, hg, hw, hd, hlim1, hlim2, appendA, srcA, List.length_append]) | ((with_reducible show ACalls _ _ _ _ _); refine (hH _ _).mono ?_; rintro _ _ ⟨rfl, rfl⟩) | ((with_reducible show ACalls _ _ _ _ _); refine (asee _ _ _ 1 rfl).mono ?_; rintro _ _ ⟨_, ⟨rfl, rfl⟩, rfl⟩; simp only [lsO]) | ((with_reducible show ACalls _ _ _ _ _); refine (aclone _ hrl _).mono ?_; rintro _ _ ⟨rfl, rfl⟩)
        all_goals refine ⟨⟨i + 1, by omega, trivial⟩, by show rows.length - (i + 1) < rows.length - i; omega, ?_⟩
        all_goals simp only [setsF_cons, setsF_nil, setsO_cons, setsO_nil, List.set_cons_zero, List.set_cons_succ, List.length_cons, List.length_nil, St.put, Nat.zero_add, Nat.reduceAdd, Nat.reduceLT, Nat.lt_irrefl, reduceIte, List.cons_append, List.nil_append]
        all_goals simp_all [WeakE, Weak, setsF, setsO, St.put, leL, leT, leM, leG, leA, leC, leR, leS, leO, tokLt, tokLtL, intV, boolV, leaf, nilA, nilSl, enVV]
      · have hd : decide ((out.length : Int) ≤ 10000) = false := by simp; omega
        repeat' first | ((with_reducible first | refine cond_split (fun h => ?_) (fun h => ?_) | refine want_split (fun h => ?_) (fun h => ?_)) <;> (try simp only [h])) | (simp only [↓wBA, wBB, wBC, cx_muts, cx_arr, wBD, convA, Nat.reduceBEq, reduceIte, reduceCtorEq, reducePow, reduceAdd, reduceSub, reduceMul, reduceEqDiff, reduceLeDiff, Nat.reduceLT, Int.reduceLT, Int.reduceLE, Int.reduceToNat, ty39_XFi, bu_len, bu_max, bu_min, enVV_len, hdec, hi0, hg, hw, hd]) | ((with_reducible show ACalls _ _ _ _ _); refine (hH _ _).mono ?_; rintro _ _ ⟨rfl, rfl⟩) | ((with_reducible show ACalls _ _ _ _ _); refine (asee _ _ _ 1 rfl).mono ?_; rintro _ _ ⟨_, ⟨rfl, rfl⟩, rfl⟩; simp only [lsO])
        all_goals refine ⟨⟨i + 1, by omega, trivial⟩, by show rows.length - (i + 1) < rows.length - i; omega, ?_⟩
        all_goals simp only [setsF_cons, setsF_nil, setsO_cons, setsO_nil, List.set_cons_zero, List.set_cons_succ, List.length_cons, List.length_nil, St.put, Nat.zero_add, Nat.reduceAdd, Nat.reduceLT, Nat.lt_irrefl, reduceIte, List.cons_append, List.nil_append]
        all_goals simp_all [WeakE, Weak, setsF, setsO, St.put, leL, leT, leM, leG, leA, leC, leR, leS, leO, tokLt, tokLtL, intV, boolV, leaf, nilA, nilSl, enVV]
    · have hdec : decide ((i : Int) < (rows.length : Int)) = false := by simp; omega
      have ht : rows.take i = rows := List.take_of_length_le (by omega)
      simp only [ht]
      repeat' first | ((with_reducible first | refine cond_split (fun h => ?_) (fun h => ?_) | refine want_split (fun h => ?_) (fun h => ?_)) <;> (try simp only [h])) | (simp only [↓wBA, wBB, wBC, cx_muts, cx_arr, wBD, convA, Nat.reduceBEq, reduceIte, reduceCtorEq, reducePow, reduceAdd, reduceSub, reduceMul, reduceEqDiff, reduceLeDiff, Nat.reduceLT, Int.reduceLT, Int.reduceLE, Int.reduceToNat, ty39_XFi, bu_len, bu_max, bu_min, enVV_len, hdec]) | ((with_reducible show ACalls _ _ _ _ _); refine ACalls.frzArgs ?_; simp only [frzL, frzA]; refine (aanswer _ _ _).mono ?_; rintro _ _ ⟨rfl, rfl⟩)
      all_goals refine ret_is (a := _) ?_ rfl rfl
      all_goals simp only [↓wBA, wBB, wBC, cx_muts, cx_arr, wBD, convA, Nat.reduceBEq, reduceIte, reduceCtorEq, reducePow, reduceAdd, reduceSub, reduceMul, reduceEqDiff, reduceLeDiff, Nat.reduceLT, Int.reduceLT, Int.reduceLE, Int.reduceToNat, ty39_XFi]
      all_goals simp_all [resA, resL, resV, leT, leG, leA, leC, leM, leaf, tokLt, tokLtL, intV, boolV, nilA, nilSl]
end Go.Proofs.Ytcnkmandddfdmaa
