/- The reference's lexer: it ends, and answers tokens. Values without objects under other numbers. A reader of tokens, as an object of the abstract machine: contracts of its methods at any state. The reader's small methods. -/
import Derived.Test.YtcnkmandddfdmaaM09
import Derived.Test.YtcnkmandddfdmaaM08
set_option linter.unusedSimpArgs false
set_option linter.unusedVariables false
namespace Go.Proofs.Ytcnkmandddfdmaa
open Go.RowKit
open Nat (reducePow reduceAdd reduceSub reduceMul reduceEqDiff reduceLeDiff)
theorem ty22_XLa : (type_of% ck_3) ∧ (type_of% cx_3) ∧ (type_of% ck_4) ∧ (type_of% cx_4) ∧ (type_of% ck_5) ∧ (type_of% cx_5) ∧ (type_of% ck_9) ∧ (type_of% cx_9) ∧ (type_of% ck_40) ∧ (type_of% cx_40) ∧ (type_of% ck_72) ∧ (type_of% cx_72) ∧ (type_of% @ks_72) ∧ (type_of% @ko_72) ∧ (type_of% @kn_72) ∧ (type_of% kz_72) ∧ (type_of% ck_102) ∧ (type_of% cx_102) ∧ (type_of% ce_102) := ⟨ck_3, cx_3, ck_4, cx_4, ck_5, cx_5, ck_9, cx_9, ck_40, cx_40, ck_72, cx_72, @ks_72, @ko_72, @kn_72, kz_72, ck_102, cx_102, ce_102⟩

abbrev Tok := Int × ByteArray × Int
def encT (l : List Tok) : List (List PV) := l.map fun t => tokC t.1 t.2.1 t.2.2
theorem encT_len (l : List Tok) : (encT l).length = l.length := by simp [encT]
theorem ext_size (s : ByteArray) (i j : Nat) (h : j ≤ s.size) : (s.extract i j).size = j - i := by simp [ByteArray.size_extract]; omega
theorem slice_ij {C : Ctx} {T : Nat} (hT : C.kind T = some .str) (s : ByteArray) (i j : Nat) (hij : i ≤ j) (hj : j ≤ s.size) :
    sliceA C T (.p (.v (.string s))) (some (.p (.v (.int .i64 (i : Int))))) (some (.p (.v (.int .i64 (j : Int))))) = some (.p (.v (.string (s.extract i j)))) := by
  simp [sliceA, hT, boundA, intA, hij, hj]
theorem slice_i {C : Ctx} {T : Nat} (hT : C.kind T = some .str) (s : ByteArray) (i : Nat) (hij : i ≤ s.size) :
    sliceA C T (.p (.v (.string s))) (some (.p (.v (.int .i64 (i : Int))))) none = some (.p (.v (.string (s.extract i s.size)))) := by
  simp [sliceA, hT, boundA, intA, hij]

def AllR (r : AV) : Prop := ∃ (ts : List Tok) (e : Int), ts.length ≤ 2048 ∧ r = .tup [.p (nilSl 3 (encT ts)), intV .i64 e]
set_option maxRecDepth 100000 in
set_option maxHeartbeats 4000000 in
theorem aall (s : ByteArray) (σ : St) : ACalls Try.prog 22 [.p (.v (.string s))] σ fun r σ' => σ' = σ ∧ AllR r := by
  refine ACalls.pureF ?_ rfl σ
  refine acalls_of cx_ok dr_ok Try.func22 (by kernel_rfl) rfl (nt := 155) (rs := [.tmp 2, .tmp 3]) rfl rfl ?_
  by_cases hbig : 2048 < s.size
  · have hdec : decide ((s.size : Int) > 2048) = true := by simp; omega
    simp only [↓wBA, wBB, wBC, cx_muts, cx_arr, wBD, convA, Nat.reduceBEq, reduceIte, reduceCtorEq, reducePow, reduceAdd, reduceSub, reduceMul, reduceEqDiff, reduceLeDiff, Nat.reduceLT, Int.reduceLT, Int.reduceLE, Int.reduceToNat, ty22_XLa, hdec]
    exact ret_own (R := AllR) rfl rfl rfl ⟨[], _, by simp, rfl⟩
  · have hdec : decide ((s.size : Int) > 2048) = false := by simp; omega
    simp only [↓wBA, wBB, wBC, cx_muts, cx_arr, wBD, convA, Nat.reduceBEq, reduceIte, reduceCtorEq, reducePow, reduceAdd, reduceSub, reduceMul, reduceEqDiff, reduceLeDiff, Nat.reduceLT, Int.reduceLT, Int.reduceLE, Int.reduceToNat, ty22_XLa, hdec]
    refine awp_loop' (X := { q : List Tok × Nat // q.1.length ≤ q.2 ∧ q.2 ≤ s.size }) (fun q => ([.p (.v (.string s)), .any, .any, .any, .nown 0 3 (encT q.1.1), intV .i64 (q.1.2 : Nat), .any, .any, .any, .any, .any, .any, .any, .any, .any, .any, .any, .any, .any, .any, .any, .any, .any, .any, .any, .any, .any, .any, .any, .any, .any, .any, .any, .any, .any, .any, .any, .any, .any, .any, .any, .any, .any, .any, .any, .any, .any, .any, .any, .any, .any, .any, .any, .any, .any, .any, .any, .any, .any, .any, .any, .any, .any, .any, .any, .any, .any, .any, .any, .any, .any, .any, .any, .any, .any, .any, .any, .any, .any, .any, .any, .any, .any, .any, .any, .any, .any, .any, .any, .any, .any, .any, .any, .any, .any, .any, .any, .any, .any, .any, .any, .any, .any, .any, .any, .any, .any, .any, .any, .any, .any, .any, .any, .any, .any, .any, .any, .any, .any, .any, .any, .any, .any, .any, .any, .any, .any, .any, .any, .any, .any, .any, .any, .any, .any, .any, .any, .any, .any, .any, .any, .any, .any, .any, .any, .any, .any, .any, .any, .any, .any, .any, .any, .any, .any, .any], [some (.nright 102 (q.1.1.length * 3))])) (fun q => s.size - q.1.2) ⟨([], 0), by simp⟩ (fun _ => by simp) ?_ ?_
    · simp [WeakE, Weak, leL, leT, leM, leG, leA, leC, leS, leO, tokLt, tokLtL, intV, nilA, encT]
    · rintro ⟨⟨ts, k⟩, hts, hk⟩
      simp only at hts hk
      have hen := encT_len ts
      by_cases hlt : k < s.size
      · have hd1 : decide ((k : Int) < (s.size : Int)) = true := by simp; omega
        obtain ⟨b, hb⟩ := ba_get s k hlt
        have hw1 : IntKind.i64.wrap ((k : Int) + 1) = ((k + 1 : Nat) : Int) := by rw [wrap_i64 (by omega) (by omega)]; simp
        have hlim1 : ((ts.length + 1) * 40 ≤ 140737488355328) = True := eq_true (by omega)
        have hlim1' : ((ts.length + 1) * 32 ≤ 140737488355328) = True := eq_true (by omega)
        have hlim2 : (ts.length + 1 ≤ maxLen) = True := eq_true (by unfold maxLen; omega)
        simp only [↓wBA, wBB, wBC, cx_muts, cx_arr, wBD, convA, Nat.reduceBEq, reduceIte, reduceCtorEq, reducePow, reduceAdd, reduceSub, reduceMul, reduceEqDiff, reduceLeDiff, Nat.reduceLT, Int.reduceLT, Int.reduceLE, Int.reduceToNat, ty22_XLa, hd1, hb]
        refine (aclass b _).mono ?_
        rintro _ _ ⟨rfl, rfl⟩
        generalize hcl : classL (b.toNat : Int) = c
        simp only [↓wBA, wBB, wBC, cx_muts, cx_arr, wBD, convA, Nat.reduceBEq, reduceIte, reduceCtorEq, reducePow, reduceAdd, reduceSub, reduceMul, reduceEqDiff, reduceLeDiff, Nat.reduceLT, Int.reduceLT, Int.reduceLE, Int.reduceToNat, ty22_XLa]
        refine cond_split (fun h1 => ?_) (fun h1 => ?_)
        · skip
          simp only [↓wBA, wBB, wBC, cx_muts, cx_arr, wBD, convA, Nat.reduceBEq, reduceIte, reduceCtorEq, reducePow, reduceAdd, reduceSub, reduceMul, reduceEqDiff, reduceLeDiff, Nat.reduceLT, Int.reduceLT, Int.reduceLE, Int.reduceToNat, ty22_XLa, hw1]
          refine ⟨⟨(ts, k + 1), by simp; omega⟩, by show s.size - (k + 1) < s.size - k; omega, ?_⟩
          simp [WeakE, Weak, leL, leT, leM, leG, leA, leC, leS, leO, tokLt, tokLtL, intV]
        · skip
          simp only [↓wBA, wBB, wBC, cx_muts, cx_arr, wBD, convA, Nat.reduceBEq, reduceIte, reduceCtorEq, reducePow, reduceAdd, reduceSub, reduceMul, reduceEqDiff, reduceLeDiff, Nat.reduceLT, Int.reduceLT, Int.reduceLE, Int.reduceToNat, ty22_XLa]
          refine cond_split (fun h2 => ?_) (fun h2 => ?_)
          · skip
            simp only [↓wBA, wBB, wBC, cx_muts, cx_arr, wBD, convA, Nat.reduceBEq, reduceIte, reduceCtorEq, reducePow, reduceAdd, reduceSub, reduceMul, reduceEqDiff, reduceLeDiff, Nat.reduceLT, Int.reduceLT, Int.reduceLE, Int.reduceToNat, ty22_XLa]
            refine awp_loop' (X := { j : Nat // k ≤ j ∧ j ≤ s.size }) (fun j => ([.p (.v (.string s)), .any, .any, .any, .nown 0 3 (encT ts), intV .i64 (j.1 : Nat), .any, intV .i64 (k : Nat), .any, .any, .any, .any, .any, .any, .any, .any, .any, .any, .any, .any, .any, .any, .any, .any, .any, .any, .any, .any, .any, .any, .any, .any, .any, .any, .any, .any, .any, .any, .any, .any, .any, .any, .any, .any, .any, .any, .any, .any, .any, .any, .any, .any, .any, .any, .any, .any, .any, .any, .any, .any, .any, .any, .any, .any, .any, .any, .any, .any, .any, .any, .any, .any, .any, .any, .any, .any, .any, .any, .any, .any, .any, .any, .any, .any, .any, .any, .any, .any, .any, .any, .any, .any, .any, .any, .any, .any, .any, .any, .any, .any, .any, .any, .any, .any, .any, .any, .any, .any, .any, .any, .any, .any, .any, .any, .any, .any, .any, .any, .any, .any, .any, .any, .any, .any, .any, .any, .any, .any, .any, .any, .any, .any, .any, .any, .any, .any, .any, .any, .any, .any, .any, .any, .any, .any, .any, .any, .any, .any, .any, .any, .any, .any, .any, .any, .any, .any], [some (.nright 102 (ts.length * 3))])) (fun j => s.size - j.1) ⟨k, by omega⟩ (fun _ => by simp) ?_ ?_
            · simp [WeakE, Weak, leL, leT, leM, leG, leA, leC, leS, leO, tokLt, tokLtL, intV]
            · rintro ⟨j, hj1, hj2⟩
              have hwj : IntKind.i64.wrap ((j : Int) + 1) = ((j + 1 : Nat) : Int) := by rw [wrap_i64 (by omega) (by omega)]; simp
              have hsl := slice_ij (C := cx) (T := 9) ck_9 s k j hj1 hj2
              by_cases hjl : j < s.size
              · have hd2 : decide ((j : Int) < (s.size : Int)) = true := by simp; omega
                obtain ⟨b2, hb2⟩ := ba_get s j hjl
                simp only [↓wBA, wBB, wBC, cx_muts, cx_arr, wBD, convA, Nat.reduceBEq, reduceIte, reduceCtorEq, reducePow, reduceAdd, reduceSub, reduceMul, reduceEqDiff, reduceLeDiff, Nat.reduceLT, Int.reduceLT, Int.reduceLE, Int.reduceToNat, ty22_XLa, hd2, hb2]
                refine (aclass b2 _).mono ?_
                rintro _ _ ⟨rfl, rfl⟩
                cases hc1 : (classL (b2.toNat : Int) == 1)
                · skip
                  simp only [↓wBA, wBB, wBC, cx_muts, cx_arr, wBD, convA, Nat.reduceBEq, reduceIte, reduceCtorEq, reducePow, reduceAdd, reduceSub, reduceMul, reduceEqDiff, reduceLeDiff, Nat.reduceLT, Int.reduceLT, Int.reduceLE, Int.reduceToNat, ty22_XLa, hc1, hb2]
                  refine (aclass b2 _).mono ?_
                  rintro _ _ ⟨rfl, rfl⟩
                  simp only [↓wBA, wBB, wBC, cx_muts, cx_arr, wBD, convA, Nat.reduceBEq, reduceIte, reduceCtorEq, reducePow, reduceAdd, reduceSub, reduceMul, reduceEqDiff, reduceLeDiff, Nat.reduceLT, Int.reduceLT, Int.reduceLE, Int.reduceToNat, ty22_XLa]
                  refine cond_split (fun h3 => ?_) (fun h3 => ?_)
                  · skip
                    simp only [↓wBA, wBB, wBC, cx_muts, cx_arr, wBD, convA, Nat.reduceBEq, reduceIte, reduceCtorEq, reducePow, reduceAdd, reduceSub, reduceMul, reduceEqDiff, reduceLeDiff, Nat.reduceLT, Int.reduceLT, Int.reduceLE, Int.reduceToNat, ty22_XLa, hwj]
                    refine ⟨⟨j + 1, by omega⟩, by show s.size - (j + 1) < s.size - j; omega, ?_⟩
                    simp [WeakE, Weak, leL, leT, leM, leG, leA, leC, leS, leO, tokLt, tokLtL, intV]
                  · have hkj : k < j := by
                      rcases Nat.lt_or_ge k j with h | h
                      · exact h
                      · have : j = k := by omega
                        subst this
                        rw [hb] at hb2
                        simp at hb2; subst hb2
                        rw [hcl, h2] at hc1; simp at hc1
                    simp only [↓wBA, wBB, wBC, cx_muts, cx_arr, wBD, convA, Nat.reduceBEq, reduceIte, reduceCtorEq, reducePow, reduceAdd, reduceSub, reduceMul, reduceEqDiff, reduceLeDiff, Nat.reduceLT, Int.reduceLT, Int.reduceLE, Int.reduceToNat, ty22_XLa, hsl]
                    refine (aword _ (by rw [ext_size _ _ _ hj2]; omega) _).mono ?_
                    rintro _ _ ⟨rfl, k', t', e', rfl⟩
                    simp only [tokA, intV]
                    simp only [↓wBA, wBB, wBC, cx_muts, cx_arr, wBD, convA, Nat.reduceBEq, reduceIte, reduceCtorEq, reducePow, reduceAdd, reduceSub, reduceMul, reduceEqDiff, reduceLeDiff, Nat.reduceLT, Int.reduceLT, Int.reduceLE, Int.reduceToNat, ty22_XLa]
                    refine cond_split (fun h4 => ?_) (fun h4 => ?_)
                    · skip
                      simp only [↓wBA, wBB, wBC, cx_muts, cx_arr, wBD, convA, Nat.reduceBEq, reduceIte, reduceCtorEq, reducePow, reduceAdd, reduceSub, reduceMul, reduceEqDiff, reduceLeDiff, Nat.reduceLT, Int.reduceLT, Int.reduceLE, Int.reduceToNat, ty22_XLa]
                      exact ret_own (R := AllR) rfl rfl rfl ⟨[], _, by simp, rfl⟩
                    · skip
                      simp only [↓wBA, wBB, wBC, cx_muts, cx_arr, wBD, convA, Nat.reduceBEq, reduceIte, reduceCtorEq, reducePow, reduceAdd, reduceSub, reduceMul, reduceEqDiff, reduceLeDiff, Nat.reduceLT, Int.reduceLT, Int.reduceLE, Int.reduceToNat, ty22_XLa, appendA, srcA, hen, hlim1, hlim1', hlim2, toPss, toPs, toP, fillS, Nat.reducePow]
                      refine ⟨⟨(ts ++ [(k', t', 0)], j), by simp; omega⟩, by show s.size - j < s.size - k; omega, ?_⟩
                      simp [WeakE, Weak, leL, leT, leM, leG, leA, leC, leS, leO, tokLt, tokLtL, intV, encT, tokC]
                · skip
                  simp only [↓wBA, wBB, wBC, cx_muts, cx_arr, wBD, convA, Nat.reduceBEq, reduceIte, reduceCtorEq, reducePow, reduceAdd, reduceSub, reduceMul, reduceEqDiff, reduceLeDiff, Nat.reduceLT, Int.reduceLT, Int.reduceLE, Int.reduceToNat, ty22_XLa, hc1, hwj]
                  refine ⟨⟨j + 1, by omega⟩, by show s.size - (j + 1) < s.size - j; omega, ?_⟩
                  simp [WeakE, Weak, leL, leT, leM, leG, leA, leC, leS, leO, tokLt, tokLtL, intV]
              · have hd2 : decide ((j : Int) < (s.size : Int)) = false := by simp; omega
                simp only [↓wBA, wBB, wBC, cx_muts, cx_arr, wBD, convA, Nat.reduceBEq, reduceIte, reduceCtorEq, reducePow, reduceAdd, reduceSub, reduceMul, reduceEqDiff, reduceLeDiff, Nat.reduceLT, Int.reduceLT, Int.reduceLE, Int.reduceToNat, ty22_XLa, hd2, hsl]
                refine (aword _ (by rw [ext_size _ _ _ hj2]; omega) _).mono ?_
                rintro _ _ ⟨rfl, k', t', e', rfl⟩
                simp only [tokA, intV]
                simp only [↓wBA, wBB, wBC, cx_muts, cx_arr, wBD, convA, Nat.reduceBEq, reduceIte, reduceCtorEq, reducePow, reduceAdd, reduceSub, reduceMul, reduceEqDiff, reduceLeDiff, Nat.reduceLT, Int.reduceLT, Int.reduceLE, Int.reduceToNat, ty22_XLa]
                refine cond_split (fun h4 => ?_) (fun h4 => ?_)
                · skip
                  simp only [↓wBA, wBB, wBC, cx_muts, cx_arr, wBD, convA, Nat.reduceBEq, reduceIte, reduceCtorEq, reducePow, reduceAdd, reduceSub, reduceMul, reduceEqDiff, reduceLeDiff, Nat.reduceLT, Int.reduceLT, Int.reduceLE, Int.reduceToNat, ty22_XLa]
                  exact ret_own (R := AllR) rfl rfl rfl ⟨[], _, by simp, rfl⟩
                · skip
                  simp only [↓wBA, wBB, wBC, cx_muts, cx_arr, wBD, convA, Nat.reduceBEq, reduceIte, reduceCtorEq, reducePow, reduceAdd, reduceSub, reduceMul, reduceEqDiff, reduceLeDiff, Nat.reduceLT, Int.reduceLT, Int.reduceLE, Int.reduceToNat, ty22_XLa, appendA, srcA, hen, hlim1, hlim1', hlim2, toPss, toPs, toP, fillS, Nat.reducePow]
                  refine ⟨⟨(ts ++ [(k', t', 0)], j), by simp; omega⟩, by show s.size - j < s.size - k; omega, ?_⟩
                  simp [WeakE, Weak, leL, leT, leM, leG, leA, leC, leS, leO, tokLt, tokLtL, intV, encT, tokC]
          · skip
            simp only [↓wBA, wBB, wBC, cx_muts, cx_arr, wBD, convA, Nat.reduceBEq, reduceIte, reduceCtorEq, reducePow, reduceAdd, reduceSub, reduceMul, reduceEqDiff, reduceLeDiff, Nat.reduceLT, Int.reduceLT, Int.reduceLE, Int.reduceToNat, ty22_XLa]
            refine cond_split (fun h2' => ?_) (fun h2' => ?_)
            · skip
              simp only [↓wBA, wBB, wBC, cx_muts, cx_arr, wBD, convA, Nat.reduceBEq, reduceIte, reduceCtorEq, reducePow, reduceAdd, reduceSub, reduceMul, reduceEqDiff, reduceLeDiff, Nat.reduceLT, Int.reduceLT, Int.reduceLE, Int.reduceToNat, ty22_XLa]
              refine awp_loop' (X := { j : Nat // k ≤ j ∧ j ≤ s.size }) (fun j => ([.p (.v (.string s)), .any, .any, .any, .nown 0 3 (encT ts), intV .i64 (j.1 : Nat), .any, intV .i64 (k : Nat), .any, .any, .any, .any, .any, .any, .any, .any, .any, .any, .any, .any, .any, .any, .any, .any, .any, .any, .any, .any, .any, .any, .any, .any, .any, .any, .any, .any, .any, .any, .any, .any, .any, .any, .any, .any, .any, .any, .any, .any, .any, .any, .any, .any, .any, .any, .any, .any, .any, .any, .any, .any, .any, .any, .any, .any, .any, .any, .any, .any, .any, .any, .any, .any, .any, .any, .any, .any, .any, .any, .any, .any, .any, .any, .any, .any, .any, .any, .any, .any, .any, .any, .any, .any, .any, .any, .any, .any, .any, .any, .any, .any, .any, .any, .any, .any, .any, .any, .any, .any, .any, .any, .any, .any, .any, .any, .any, .any, .any, .any, .any, .any, .any, .any, .any, .any, .any, .any, .any, .any, .any, .any, .any, .any, .any, .any, .any, .any, .any, .any, .any, .any, .any, .any, .any, .any, .any, .any, .any, .any, .any, .any, .any, .any, .any, .any, .any, .any], [some (.nright 102 (ts.length * 3))])) (fun j => s.size - j.1) ⟨k, by omega⟩ (fun _ => by simp) ?_ ?_
              · simp [WeakE, Weak, leL, leT, leM, leG, leA, leC, leS, leO, tokLt, tokLtL, intV]
              · rintro ⟨j, hj1, hj2⟩
                have hwj : IntKind.i64.wrap ((j : Int) + 1) = ((j + 1 : Nat) : Int) := by rw [wrap_i64 (by omega) (by omega)]; simp
                have hsl := slice_ij (C := cx) (T := 9) ck_9 s k j hj1 hj2
                by_cases hjl : j < s.size
                · have hd2 : decide ((j : Int) < (s.size : Int)) = true := by simp; omega
                  obtain ⟨b2, hb2⟩ := ba_get s j hjl
                  simp only [↓wBA, wBB, wBC, cx_muts, cx_arr, wBD, convA, Nat.reduceBEq, reduceIte, reduceCtorEq, reducePow, reduceAdd, reduceSub, reduceMul, reduceEqDiff, reduceLeDiff, Nat.reduceLT, Int.reduceLT, Int.reduceLE, Int.reduceToNat, ty22_XLa, hd2, hb2]
                  refine (aclass b2 _).mono ?_
                  rintro _ _ ⟨rfl, rfl⟩
                  simp only [↓wBA, wBB, wBC, cx_muts, cx_arr, wBD, convA, Nat.reduceBEq, reduceIte, reduceCtorEq, reducePow, reduceAdd, reduceSub, reduceMul, reduceEqDiff, reduceLeDiff, Nat.reduceLT, Int.reduceLT, Int.reduceLE, Int.reduceToNat, ty22_XLa]
                  refine cond_split (fun h3 => ?_) (fun h3 => ?_)
                  · skip
                    simp only [↓wBA, wBB, wBC, cx_muts, cx_arr, wBD, convA, Nat.reduceBEq, reduceIte, reduceCtorEq, reducePow, reduceAdd, reduceSub, reduceMul, reduceEqDiff, reduceLeDiff, Nat.reduceLT, Int.reduceLT, Int.reduceLE, Int.reduceToNat, ty22_XLa, hwj]
                    refine ⟨⟨j + 1, by omega⟩, by show s.size - (j + 1) < s.size - j; omega, ?_⟩
                    simp [WeakE, Weak, leL, leT, leM, leG, leA, leC, leS, leO, tokLt, tokLtL, intV]
                  · have hkj : k < j := by
                      rcases Nat.lt_or_ge k j with h | h
                      · exact h
                      · have : j = k := by omega
                        subst this
                        rw [hb] at hb2
                        simp at hb2; subst hb2
                        rw [hcl, h2'] at h3; simp at h3
                    simp only [↓wBA, wBB, wBC, cx_muts, cx_arr, wBD, convA, Nat.reduceBEq, reduceIte, reduceCtorEq, reducePow, reduceAdd, reduceSub, reduceMul, reduceEqDiff, reduceLeDiff, Nat.reduceLT, Int.reduceLT, Int.reduceLE, Int.reduceToNat, ty22_XLa, hd2, hb2]
                    refine (aclass b2 _).mono ?_
                    rintro _ _ ⟨rfl, rfl⟩
                    simp only [↓wBA, wBB, wBC, cx_muts, cx_arr, wBD, convA, Nat.reduceBEq, reduceIte, reduceCtorEq, reducePow, reduceAdd, reduceSub, reduceMul, reduceEqDiff, reduceLeDiff, Nat.reduceLT, Int.reduceLT, Int.reduceLE, Int.reduceToNat, ty22_XLa]
                    refine cond_split (fun h4 => ?_) (fun h4 => ?_)
                    · skip
                      simp only [↓wBA, wBB, wBC, cx_muts, cx_arr, wBD, convA, Nat.reduceBEq, reduceIte, reduceCtorEq, reducePow, reduceAdd, reduceSub, reduceMul, reduceEqDiff, reduceLeDiff, Nat.reduceLT, Int.reduceLT, Int.reduceLE, Int.reduceToNat, ty22_XLa]
                      exact ret_own (R := AllR) rfl rfl rfl ⟨[], _, by simp, rfl⟩
                    · skip
                      simp only [↓wBA, wBB, wBC, cx_muts, cx_arr, wBD, convA, Nat.reduceBEq, reduceIte, reduceCtorEq, reducePow, reduceAdd, reduceSub, reduceMul, reduceEqDiff, reduceLeDiff, Nat.reduceLT, Int.reduceLT, Int.reduceLE, Int.reduceToNat, ty22_XLa, hsl]
                      refine (anumber _ (by rw [ext_size _ _ _ hj2]; omega) _).mono ?_
                      rintro _ _ ⟨rfl, n', ok', rfl⟩
                      simp only [intV, boolV]
                      simp only [↓wBA, wBB, wBC, cx_muts, cx_arr, wBD, convA, Nat.reduceBEq, reduceIte, reduceCtorEq, reducePow, reduceAdd, reduceSub, reduceMul, reduceEqDiff, reduceLeDiff, Nat.reduceLT, Int.reduceLT, Int.reduceLE, Int.reduceToNat, ty22_XLa]
                      refine cond_split (fun h5 => ?_) (fun h5 => ?_)
                      · skip
                        simp only [↓wBA, wBB, wBC, cx_muts, cx_arr, wBD, convA, Nat.reduceBEq, reduceIte, reduceCtorEq, reducePow, reduceAdd, reduceSub, reduceMul, reduceEqDiff, reduceLeDiff, Nat.reduceLT, Int.reduceLT, Int.reduceLE, Int.reduceToNat, ty22_XLa]
                        exact ret_own (R := AllR) rfl rfl rfl ⟨[], _, by simp, rfl⟩
                      · skip
                        simp only [↓wBA, wBB, wBC, cx_muts, cx_arr, wBD, convA, Nat.reduceBEq, reduceIte, reduceCtorEq, reducePow, reduceAdd, reduceSub, reduceMul, reduceEqDiff, reduceLeDiff, Nat.reduceLT, Int.reduceLT, Int.reduceLE, Int.reduceToNat, ty22_XLa, appendA, srcA, hen, hlim1, hlim1', hlim2, toPss, toPs, toP, fillS, Nat.reducePow]
                        refine ⟨⟨(ts ++ [(3, ⟨#[]⟩, n')], j), by simp; omega⟩, by show s.size - j < s.size - k; omega, ?_⟩
                        simp [WeakE, Weak, leL, leT, leM, leG, leA, leC, leS, leO, tokLt, tokLtL, intV, encT, tokC]
                · have hd2 : decide ((j : Int) < (s.size : Int)) = false := by simp; omega
                  simp only [↓wBA, wBB, wBC, cx_muts, cx_arr, wBD, convA, Nat.reduceBEq, reduceIte, reduceCtorEq, reducePow, reduceAdd, reduceSub, reduceMul, reduceEqDiff, reduceLeDiff, Nat.reduceLT, Int.reduceLT, Int.reduceLE, Int.reduceToNat, ty22_XLa, hd2, hsl]
                  refine (anumber _ (by rw [ext_size _ _ _ hj2]; omega) _).mono ?_
                  rintro _ _ ⟨rfl, n', ok', rfl⟩
                  simp only [intV, boolV]
                  simp only [↓wBA, wBB, wBC, cx_muts, cx_arr, wBD, convA, Nat.reduceBEq, reduceIte, reduceCtorEq, reducePow, reduceAdd, reduceSub, reduceMul, reduceEqDiff, reduceLeDiff, Nat.reduceLT, Int.reduceLT, Int.reduceLE, Int.reduceToNat, ty22_XLa]
                  refine cond_split (fun h5 => ?_) (fun h5 => ?_)
                  · skip
                    simp only [↓wBA, wBB, wBC, cx_muts, cx_arr, wBD, convA, Nat.reduceBEq, reduceIte, reduceCtorEq, reducePow, reduceAdd, reduceSub, reduceMul, reduceEqDiff, reduceLeDiff, Nat.reduceLT, Int.reduceLT, Int.reduceLE, Int.reduceToNat, ty22_XLa]
                    exact ret_own (R := AllR) rfl rfl rfl ⟨[], _, by simp, rfl⟩
                  · skip
                    simp only [↓wBA, wBB, wBC, cx_muts, cx_arr, wBD, convA, Nat.reduceBEq, reduceIte, reduceCtorEq, reducePow, reduceAdd, reduceSub, reduceMul, reduceEqDiff, reduceLeDiff, Nat.reduceLT, Int.reduceLT, Int.reduceLE, Int.reduceToNat, ty22_XLa, appendA, srcA, hen, hlim1, hlim1', hlim2, toPss, toPs, toP, fillS, Nat.reducePow]
                    refine ⟨⟨(ts ++ [(3, ⟨#[]⟩, n')], j), by simp; omega⟩, by show s.size - j < s.size - k; omega, ?_⟩
                    simp [WeakE, Weak, leL, leT, leM, leG, leA, leC, leS, leO, tokLt, tokLtL, intV, encT, tokC]
            · skip
              simp only [↓wBA, wBB, wBC, cx_muts, cx_arr, wBD, convA, Nat.reduceBEq, reduceIte, reduceCtorEq, reducePow, reduceAdd, reduceSub, reduceMul, reduceEqDiff, reduceLeDiff, Nat.reduceLT, Int.reduceLT, Int.reduceLE, Int.reduceToNat, ty22_XLa, hb]
              refine cond_split (fun h6 => ?_) (fun h6 => ?_)
              · skip
                simp only [↓wBA, wBB, wBC, cx_muts, cx_arr, wBD, convA, Nat.reduceBEq, reduceIte, reduceCtorEq, reducePow, reduceAdd, reduceSub, reduceMul, reduceEqDiff, reduceLeDiff, Nat.reduceLT, Int.reduceLT, Int.reduceLE, Int.reduceToNat, ty22_XLa]
                refine (aquoted s k (by omega) hlt _).mono ?_
                rintro _ _ ⟨rfl, s', q, hq, rfl⟩
                simp only [intV]
                simp only [↓wBA, wBB, wBC, cx_muts, cx_arr, wBD, convA, Nat.reduceBEq, reduceIte, reduceCtorEq, reducePow, reduceAdd, reduceSub, reduceMul, reduceEqDiff, reduceLeDiff, Nat.reduceLT, Int.reduceLT, Int.reduceLE, Int.reduceToNat, ty22_XLa]
                rcases hq with rfl | ⟨q, rfl, hq1, hq2⟩
                · skip
                  simp only [↓wBA, wBB, wBC, cx_muts, cx_arr, wBD, convA, Nat.reduceBEq, reduceIte, reduceCtorEq, reducePow, reduceAdd, reduceSub, reduceMul, reduceEqDiff, reduceLeDiff, Nat.reduceLT, Int.reduceLT, Int.reduceLE, Int.reduceToNat, ty22_XLa, Int.reduceLT, Int.reduceNeg, Int.reduceLT]
                  exact ret_own (R := AllR) rfl rfl rfl ⟨[], _, by simp, rfl⟩
                · have hd3 : decide ((q : Int) < 0) = false := by simp
                  simp only [↓wBA, wBB, wBC, cx_muts, cx_arr, wBD, convA, Nat.reduceBEq, reduceIte, reduceCtorEq, reducePow, reduceAdd, reduceSub, reduceMul, reduceEqDiff, reduceLeDiff, Nat.reduceLT, Int.reduceLT, Int.reduceLE, Int.reduceToNat, ty22_XLa, hd3]
                  refine cond_split (fun h7 => ?_) (fun h7 => ?_)
                  · skip
                    simp only [↓wBA, wBB, wBC, cx_muts, cx_arr, wBD, convA, Nat.reduceBEq, reduceIte, reduceCtorEq, reducePow, reduceAdd, reduceSub, reduceMul, reduceEqDiff, reduceLeDiff, Nat.reduceLT, Int.reduceLT, Int.reduceLE, Int.reduceToNat, ty22_XLa]
                    exact ret_own (R := AllR) rfl rfl rfl ⟨[], _, by simp, rfl⟩
                  · skip
                    simp only [↓wBA, wBB, wBC, cx_muts, cx_arr, wBD, convA, Nat.reduceBEq, reduceIte, reduceCtorEq, reducePow, reduceAdd, reduceSub, reduceMul, reduceEqDiff, reduceLeDiff, Nat.reduceLT, Int.reduceLT, Int.reduceLE, Int.reduceToNat, ty22_XLa, appendA, srcA, hen, hlim1, hlim1', hlim2, toPss, toPs, toP, fillS, Nat.reducePow]
                    refine ⟨⟨(ts ++ [(4, s', 0)], q), by simp; omega⟩, by show s.size - q < s.size - k; omega, ?_⟩
                    simp [WeakE, Weak, leL, leT, leM, leG, leA, leC, leS, leO, tokLt, tokLtL, intV, encT, tokC]
              · have hsl := slice_i (C := cx) (T := 9) ck_9 s k hk
                simp only [↓wBA, wBB, wBC, cx_muts, cx_arr, wBD, convA, Nat.reduceBEq, reduceIte, reduceCtorEq, reducePow, reduceAdd, reduceSub, reduceMul, reduceEqDiff, reduceLeDiff, Nat.reduceLT, Int.reduceLT, Int.reduceLE, Int.reduceToNat, ty22_XLa, hsl, Option.map_none]
                refine (asign _ (by rw [ext_size _ _ _ (Nat.le_refl _)]; omega) _).mono ?_
                rintro _ _ ⟨rfl, n, hn1, hn2, rfl⟩
                rw [ext_size _ _ _ (Nat.le_refl _)] at hn2
                simp only [intV]
                by_cases hn0 : n = 0
                · subst hn0
                  simp only [↓wBA, wBB, wBC, cx_muts, cx_arr, wBD, convA, Nat.reduceBEq, reduceIte, reduceCtorEq, reducePow, reduceAdd, reduceSub, reduceMul, reduceEqDiff, reduceLeDiff, Nat.reduceLT, Int.reduceLT, Int.reduceLE, Int.reduceToNat, ty22_XLa, Int.natCast_zero, Int.reduceBEq]
                  exact ret_own (R := AllR) rfl rfl rfl ⟨[], _, by simp, rfl⟩
                · have hd3 : (((n : Nat) : Int) == 0) = false := by simp; omega
                  have hwn : IntKind.i64.wrap ((k : Int) + (n : Int)) = ((k + n : Nat) : Int) := by rw [wrap_i64 (by omega) (by omega)]; simp
                  have hsl2 := slice_ij (C := cx) (T := 9) ck_9 s k (k + n) (by omega) (by omega)
                  simp only [↓wBA, wBB, wBC, cx_muts, cx_arr, wBD, convA, Nat.reduceBEq, reduceIte, reduceCtorEq, reducePow, reduceAdd, reduceSub, reduceMul, reduceEqDiff, reduceLeDiff, Nat.reduceLT, Int.reduceLT, Int.reduceLE, Int.reduceToNat, ty22_XLa, hd3, hwn, hsl2, appendA, srcA, hen, hlim1, hlim1', hlim2, toPss, toPs, toP, fillS, Nat.reducePow]
                  refine ⟨⟨(ts ++ [(5, s.extract k (k + n), 0)], k + n), by simp; omega⟩, by show s.size - (k + n) < s.size - k; omega, ?_⟩
                  simp [WeakE, Weak, leL, leT, leM, leG, leA, leC, leS, leO, tokLt, tokLtL, intV, encT, tokC]
      · have hd1 : decide ((k : Int) < (s.size : Int)) = false := by simp; omega
        simp only [↓wBA, wBB, wBC, cx_muts, cx_arr, wBD, convA, Nat.reduceBEq, reduceIte, reduceCtorEq, reducePow, reduceAdd, reduceSub, reduceMul, reduceEqDiff, reduceLeDiff, Nat.reduceLT, Int.reduceLT, Int.reduceLE, Int.reduceToNat, ty22_XLa, hd1]
        exact ret_own (R := AllR) rfl rfl rfl ⟨ts, _, by omega, rfl⟩
end Go.Proofs.Ytcnkmandddfdmaa
namespace Go.Proofs.Ytcnkmandddfdmaa
open Go.RowKit

theorem bu_len {C : Ctx} {tk : Nat} {T : TypeId} {x : AV} {σ : St} : builtinA C tk .len [T] [x] σ = (lenA C T x).map fun (n : Nat) => (intV .i64 (n : Int), σ) := nr rfl
mutual
theorem renA_free (g : Nat → Nat) : ∀ (a : AV), tokLt 0 a = true → renA g a = a
  | .any, h => by rfl
  | .p x, h => by rfl
  | .ip c o, h => by rfl
  | .own t e ls, h => by simp [tokLt] at h
  | .nown t e ls, h => by simp [tokLt] at h
  | .mp t e i o, h => by simp [tokLt] at h
  | .ms t e i n, h => by simp [tokLt] at h
  | .fn f us vs, h => by
    simp only [tokLt, Bool.and_eq_true] at h
    simp only [renA, renL_free g us h.1, renL_free g vs h.2]
  | .agg l, h => by
    simp only [tokLt] at h
    simp only [renA, renL_free g l h]
  | .tup l, h => by
    simp only [tokLt] at h
    simp only [renA, renL_free g l h]
theorem renL_free (g : Nat → Nat) : ∀ (l : List AV), tokLtL 0 l = true → renL g l = l
  | [], h => by rfl
  | a :: l, h => by
    simp only [tokLtL, Bool.and_eq_true] at h
    simp only [renL, renA_free g a h.1, renL_free g l h.2]
end
mutual
theorem tokLt_mono (n : Nat) : ∀ (a : AV), tokLt 0 a = true → tokLt n a = true
  | .any, h => by rfl
  | .p x, h => by rfl
  | .ip c o, h => by rfl
  | .own t e ls, h => by simp [tokLt] at h
  | .nown t e ls, h => by simp [tokLt] at h
  | .mp t e i o, h => by simp [tokLt] at h
  | .ms t e i m, h => by simp [tokLt] at h
  | .fn f us vs, h => by
    simp only [tokLt, Bool.and_eq_true] at h ⊢
    exact ⟨tokLtL_mono n us h.1, tokLtL_mono n vs h.2⟩
  | .agg l, h => by
    simp only [tokLt] at h ⊢
    exact tokLtL_mono n l h
  | .tup l, h => by
    simp only [tokLt] at h ⊢
    exact tokLtL_mono n l h
theorem tokLtL_mono (n : Nat) : ∀ (l : List AV), tokLtL 0 l = true → tokLtL n l = true
  | [], h => by rfl
  | a :: l, h => by
    simp only [tokLtL, Bool.and_eq_true] at h ⊢
    exact ⟨tokLt_mono n a h.1, tokLtL_mono n l h.2⟩
end
end Go.Proofs.Ytcnkmandddfdmaa
namespace Go.Proofs.Ytcnkmandddfdmaa
open Go.RowKit

/-- The reader's object: tokens, a place, whether it is bad. -/
def rdO (ts : List Tok) (k : Nat) (b : Bool) : Ob := .row 3 [[.p (nilSl 3 (encT ts)), intV .i64 (k : Nat), boolV b]]
/-- What a call of a method comes to, whatever else there is. -/
def RCalls (f : FuncId) (args : List AV) (ts : List Tok) (k : Nat) (b : Bool) (R : AV → Nat → Bool → Prop) : Prop :=
  ∀ (σ : St) (t : Nat), σ[t]? = some (some (rdO ts k b)) → ACalls Try.prog f (.mp t 3 0 0 :: args) σ fun r σ' => ∃ k' b', R r k' b' ∧ σ' = σ.set t (some (rdO ts k' b'))
/-- What a walk of a method shows, at the reader alone. -/
def RdPost (ts : List Tok) (R : AV → Nat → Bool → Prop) (r : AV) (σ' : St) : Prop := ∃ k' b', tokLt 0 r = true ∧ R r k' b' ∧ σ'[0]? = some (some (rdO ts k' b'))
theorem rdO_ren (g : Nat → Nat) (ts : List Tok) (k : Nat) (b : Bool) : renOb g (rdO ts k b) = rdO ts k b := by simp [renOb, rdO, renL, renA, intV, boolV]
theorem rdO_tok (n : Nat) (ts : List Tok) (k : Nat) (b : Bool) : tokOb n (rdO ts k b) = true := by simp [tokOb, rdO, tokLtL, tokLt, intV, boolV]
/-- From a walk at the reader alone. -/
theorem RCalls.of {f : FuncId} {args : List AV} {ts : List Tok} {k : Nat} {b : Bool} {R : AV → Nat → Bool → Prop} (ha : tokLtL 0 args = true)
    (h : ACalls Try.prog f (.mp 0 3 0 0 :: args) [some (rdO ts k b)] fun r σ' => RdPost ts R (frzA r) σ') : RCalls f args ts k b R := by
  intro σ t ht
  have h1 := ACalls.frz (R := RdPost ts R) h
  have h2 := ACalls.at h1 [t] σ (by simp) rfl (fun t' s hs => by
    cases t' with
    | zero =>
      simp at hs; subst hs
      exact ⟨rdO ts k b, rfl, rdO_tok _ _ _ _, by rw [rdO_ren]; exact ht⟩
    | succ t' => simp at hs) (by
      simp only [tokLtL, Bool.and_eq_true]
      exact ⟨by simp [tokLt], tokLtL_mono _ _ ha⟩) (fun r s ⟨k', b', h1, h2, h3⟩ => ⟨tokLt_mono _ _ h1, fun t' ob ht' ho => by
        have : t' = 0 := by simp at ht'; omega
        subst this
        unfold St.at at ho
        rw [h3] at ho
        simp at ho; subst ho
        exact rdO_tok _ _ _ _⟩)
  have e1 : renL (fun t' => [t].getD t' 0) (.mp 0 3 0 0 :: args) = .mp t 3 0 0 :: args := by
    simp only [renL, renL_free _ args ha]
    rfl
  rw [e1] at h2
  refine h2.mono ?_
  rintro r σ' ⟨r0, σ0, ⟨k', b', h3, h4, h5⟩, rfl, rfl⟩
  refine ⟨k', b', by rw [renA_free _ _ h3]; exact h4, ?_⟩
  cases σ0 with
  | nil => simp at h5
  | cons o σ0 =>
    simp at h5; subst h5
    simp [setsS, rdO_ren]
/-- The end of a method. -/
theorem ret_rd {C : Ctx} {fr : List AV} {ts : List Tok} {k' : Nat} {b' : Bool} {rest : St} {rs : List ResultVar} {R : AV → Nat → Bool → Prop} {r0 : AV} {e : Exit} (he : e = .ret ∨ e = .normal) (h1 : resA C rs fr (some (rdO ts k' b') :: rest) = some r0) (h2 : tokLt (rest.length + 1) r0 = true) (h3 : tokLt 0 (frzA r0) = true) (h4 : R (frzA r0) k' b') :
    retA C rs 1 (fun r σ' => RdPost ts R (frzA r) σ') e fr (some (rdO ts k' b') :: rest) := by
  refine ⟨he, r0, r0, some (rdO ts k' b') :: List.replicate rest.length none, h1, .inr ⟨⟨.inl (.inl (.inr (.inl ⟨rfl, by simpa using h2⟩))), trivial⟩, ?_⟩, by simp, k', b', h3, h4, rfl⟩
  simp only [leS]
  refine ⟨?_, leS_none _ _ _ rest⟩
  simp [rdO, leO, tokLtL, tokLt, intV, boolV]
/-- How far a method goes. -/
def Adv (ts : List Tok) (k : Nat) (b : Bool) (k' : Nat) (b' : Bool) : Prop := k ≤ k' ∧ k' ≤ ts.length ∧ (b' = false → b = false ∧ k < k')
theorem tok_get (ts : List Tok) (k : Nat) (h : k < ts.length) : ∃ t : Tok, (encT ts)[k]? = some (tokC t.1 t.2.1 t.2.2) := ⟨ts[k], by simp [encT, h]⟩
theorem nilT (ts : List Tok) (h : ts ≠ []) : nilSl 3 (encT ts) = .sl 3 (encT ts) := by
  cases ts with
  | nil => exact (h rfl).elim
  | cons t ts => rfl
end Go.Proofs.Ytcnkmandddfdmaa
namespace Go.Proofs.Ytcnkmandddfdmaa
open Go.RowKit
open Nat (reducePow reduceAdd reduceSub reduceMul reduceEqDiff reduceLeDiff)
theorem ty69_XRp : (type_of% ck_3) ∧ (type_of% cx_3) ∧ (type_of% ck_4) ∧ (type_of% cx_4) ∧ (type_of% ck_72) ∧ (type_of% cx_72) ∧ (type_of% @ks_72) ∧ (type_of% @ko_72) ∧ (type_of% @kn_72) ∧ (type_of% kz_72) ∧ (type_of% ck_77) ∧ (type_of% cx_77) ∧ (type_of% ck_102) ∧ (type_of% cx_102) ∧ (type_of% ce_102) := ⟨ck_3, cx_3, ck_4, cx_4, ck_72, cx_72, @ks_72, @ko_72, @kn_72, kz_72, ck_77, cx_77, ck_102, cx_102, ce_102⟩
theorem ty48_XRp : (type_of% ck_3) ∧ (type_of% cx_3) ∧ (type_of% ck_9) ∧ (type_of% cx_9) ∧ (type_of% ck_75) ∧ (type_of% cx_75) ∧ (type_of% ck_77) ∧ (type_of% cx_77) ∧ (type_of% ck_102) ∧ (type_of% cx_102) ∧ (type_of% ce_102) := ⟨ck_3, cx_3, ck_9, cx_9, ck_75, cx_75, ck_77, cx_77, ck_102, cx_102, ce_102⟩
theorem ty31_XRp : (type_of% ck_3) ∧ (type_of% cx_3) ∧ (type_of% ck_9) ∧ (type_of% cx_9) ∧ (type_of% ck_75) ∧ (type_of% cx_75) := ⟨ck_3, cx_3, ck_9, cx_9, ck_75, cx_75⟩
theorem ty23_XRp : (type_of% ck_3) ∧ (type_of% cx_3) ∧ (type_of% ck_9) ∧ (type_of% cx_9) ∧ (type_of% ck_75) ∧ (type_of% cx_75) := ⟨ck_3, cx_3, ck_9, cx_9, ck_75, cx_75⟩
theorem ty28_XRp : (type_of% ck_3) ∧ (type_of% cx_3) ∧ (type_of% ck_4) ∧ (type_of% cx_4) ∧ (type_of% ck_9) ∧ (type_of% cx_9) ∧ (type_of% ck_75) ∧ (type_of% cx_75) ∧ (type_of% ck_77) ∧ (type_of% cx_77) := ⟨ck_3, cx_3, ck_4, cx_4, ck_9, cx_9, ck_75, cx_75, ck_77, cx_77⟩
theorem ty55_XRp : (type_of% ck_3) ∧ (type_of% cx_3) ∧ (type_of% ck_4) ∧ (type_of% cx_4) ∧ (type_of% ck_75) ∧ (type_of% cx_75) ∧ (type_of% ck_77) ∧ (type_of% cx_77) ∧ (type_of% ck_102) ∧ (type_of% cx_102) ∧ (type_of% ce_102) := ⟨ck_3, cx_3, ck_4, cx_4, ck_75, cx_75, ck_77, cx_77, ck_102, cx_102, ce_102⟩
theorem ty29_XRp : (type_of% ck_3) ∧ (type_of% cx_3) ∧ (type_of% ck_75) ∧ (type_of% cx_75) ∧ (type_of% ck_102) ∧ (type_of% cx_102) ∧ (type_of% ce_102) := ⟨ck_3, cx_3, ck_75, cx_75, ck_102, cx_102, ce_102⟩

def PeekR (ts : List Tok) (k : Nat) (b : Bool) (r : AV) (k' : Nat) (b' : Bool) : Prop := k' = k ∧ b' = b ∧ ∃ t : Tok, r = tokA t.1 t.2.1 t.2.2 ∧ (t.1 ≠ 0 → b = false ∧ k < ts.length)
set_option maxRecDepth 100000 in
set_option maxHeartbeats 4000000 in
theorem apeek (ts : List Tok) (k : Nat) (b : Bool) : RCalls 69 [] ts k b (PeekR ts k b) := by
  refine RCalls.of rfl ?_
  refine acalls_of cx_ok dr_ok Try.func69 (by kernel_rfl) rfl (nt := 29) (rs := [.cell 2 102]) rfl rfl ?_
  simp only [rdO, intV, boolV]
  simp only [↓wBA, wBB, wBC, cx_muts, cx_arr, wBD, convA, Nat.reduceBEq, reduceIte, reduceCtorEq, reducePow, reduceAdd, reduceSub, reduceMul, reduceEqDiff, reduceLeDiff, Nat.reduceLT, Int.reduceLT, Int.reduceLE, Int.reduceToNat, ty69_XRp]
  refine ⟨(.det 0 (.det 1 (.det 2 (.det 3 (.det 4 (.det 5 (.det 6 (.det 7 (.det 8 (.det 9 (.det 10 (.det 11 (.det 12 (.det 13 (.det 14 (.det 15 .done)))))))))))))))), by decide, by kernel_rfl, by kernel_rfl, ?_⟩
  cases b
  · by_cases hk : k < ts.length
    · have hne : ts ≠ [] := fun h => by subst h; simp at hk
      have hnt := nilT ts hne
      have hen := encT_len ts
      obtain ⟨t, ht⟩ := tok_get ts k hk
      have hd : decide ((k : Int) ≥ (ts.length : Int)) = false := by simp; omega
      simp only [↓wBA, wBB, wBC, cx_muts, cx_arr, wBD, convA, Nat.reduceBEq, reduceIte, reduceCtorEq, reducePow, reduceAdd, reduceSub, reduceMul, reduceEqDiff, reduceLeDiff, Nat.reduceLT, Int.reduceLT, Int.reduceLE, Int.reduceToNat, ty69_XRp, hnt, hen, hd, unmaskS, bu_len]
      refine ⟨(.det 0 (.det 1 (.det 2 (.det 3 (.det 4 (.det 5 (.det 6 (.det 7 (.det 8 (.det 9 (.fin 10 .done))))))))))), by decide, by kernel_rfl, by kernel_rfl, ?_⟩
      simp only [tokC] at ht
      simp only [↓wBA, wBB, wBC, cx_muts, cx_arr, wBD, convA, Nat.reduceBEq, reduceIte, reduceCtorEq, reducePow, reduceAdd, reduceSub, reduceMul, reduceEqDiff, reduceLeDiff, Nat.reduceLT, Int.reduceLT, Int.reduceLE, Int.reduceToNat, ty69_XRp, hnt, hen, hd, unmaskS, bu_len, ht]
      simp only [← hnt]
      refine ret_rd (R := PeekR ts k false) (k' := k) (b' := false) (.inl rfl) rfl rfl rfl ⟨rfl, rfl, t, rfl, fun _ => ⟨rfl, hk⟩⟩
    · by_cases hne : ts = []
      · subst hne
        have hd : decide ((k : Int) ≥ ((0 : Nat) : Int)) = true := by simp
        have hnt : nilSl 3 (encT []) = .v (.slice none 0 0) := rfl
        simp only [↓wBA, wBB, wBC, cx_muts, cx_arr, wBD, convA, Nat.reduceBEq, reduceIte, reduceCtorEq, reducePow, reduceAdd, reduceSub, reduceMul, reduceEqDiff, reduceLeDiff, Nat.reduceLT, Int.reduceLT, Int.reduceLE, Int.reduceToNat, ty69_XRp, hnt, hd, unmaskS, bu_len]
        refine ret_rd (R := PeekR [] k false) (k' := k) (b' := false) (.inl rfl) rfl rfl rfl ⟨rfl, rfl, (0, ⟨#[]⟩, 0), rfl, fun h => (h rfl).elim⟩
      · have hnt := nilT ts hne
        have hen := encT_len ts
        have hd : decide ((k : Int) ≥ (ts.length : Int)) = true := by simp; omega
        simp only [↓wBA, wBB, wBC, cx_muts, cx_arr, wBD, convA, Nat.reduceBEq, reduceIte, reduceCtorEq, reducePow, reduceAdd, reduceSub, reduceMul, reduceEqDiff, reduceLeDiff, Nat.reduceLT, Int.reduceLT, Int.reduceLE, Int.reduceToNat, ty69_XRp, hnt, hen, hd, unmaskS, bu_len]
        simp only [← hnt]
        refine ret_rd (R := PeekR ts k false) (k' := k) (b' := false) (.inl rfl) rfl rfl rfl ⟨rfl, rfl, (0, ⟨#[]⟩, 0), rfl, fun h => (h rfl).elim⟩
  · skip
    simp only [↓wBA, wBB, wBC, cx_muts, cx_arr, wBD, convA, Nat.reduceBEq, reduceIte, reduceCtorEq, reducePow, reduceAdd, reduceSub, reduceMul, reduceEqDiff, reduceLeDiff, Nat.reduceLT, Int.reduceLT, Int.reduceLE, Int.reduceToNat, ty69_XRp, unmaskS, bu_len]
    refine ret_rd (R := PeekR ts k true) (k' := k) (b' := true) (.inl rfl) rfl rfl rfl ⟨rfl, rfl, (0, ⟨#[]⟩, 0), rfl, fun h => (h rfl).elim⟩

def IsR (ts : List Tok) (k : Nat) (b : Bool) (r : AV) (k' : Nat) (b' : Bool) : Prop := b' = b ∧ ∃ v : Bool, r = boolV v ∧ (v = true → b = false ∧ k' = k + 1 ∧ k + 1 ≤ ts.length) ∧ (v = false → k' = k)
set_option maxRecDepth 100000 in
set_option maxHeartbeats 4000000 in
theorem ais (kd : Int) (hkd : kd ≠ 0) (s : ByteArray) (ts : List Tok) (hts : ts.length ≤ 2048) (k : Nat) (b : Bool) : RCalls 48 [intV .i64 kd, .p (.v (.string s))] ts k b (IsR ts k b) := by
  refine RCalls.of rfl ?_
  refine acalls_of cx_ok dr_ok Try.func48 (by kernel_rfl) rfl (nt := 24) (rs := [.tmp 6]) rfl rfl ?_
  simp only [↓wBA, wBB, wBC, cx_muts, cx_arr, wBD, convA, Nat.reduceBEq, reduceIte, reduceCtorEq, reducePow, reduceAdd, reduceSub, reduceMul, reduceEqDiff, reduceLeDiff, Nat.reduceLT, Int.reduceLT, Int.reduceLE, Int.reduceToNat, ty48_XRp]
  refine (apeek ts k b _ 0 rfl).mono ?_
  rintro _ _ ⟨k', b', ⟨rfl, rfl, t, rfl, ht⟩, rfl⟩
  simp only [tokA, rdO, intV, boolV]
  cases h1 : (t.1 == kd)
  · skip
    simp only [↓wBA, wBB, wBC, cx_muts, cx_arr, wBD, convA, Nat.reduceBEq, reduceIte, reduceCtorEq, reducePow, reduceAdd, reduceSub, reduceMul, reduceEqDiff, reduceLeDiff, Nat.reduceLT, Int.reduceLT, Int.reduceLE, Int.reduceToNat, ty48_XRp, h1]
    exact ret_rd (k' := k') (b' := b') (.inl rfl) rfl rfl rfl ⟨rfl, false, rfl, fun h => by simp at h, fun _ => rfl⟩
  · skip
    simp only [↓wBA, wBB, wBC, cx_muts, cx_arr, wBD, convA, Nat.reduceBEq, reduceIte, reduceCtorEq, reducePow, reduceAdd, reduceSub, reduceMul, reduceEqDiff, reduceLeDiff, Nat.reduceLT, Int.reduceLT, Int.reduceLE, Int.reduceToNat, ty48_XRp, h1, binStr]
    refine cond_split (fun h2 => ?_) (fun h2 => ?_)
    · obtain ⟨hb, hk⟩ := ht (by simp at h1; omega)
      have hw : IntKind.i64.wrap ((k' : Int) + 1) = ((k' + 1 : Nat) : Int) := by rw [wrap_i64 (by omega) (by omega)]; simp
      simp only [↓wBA, wBB, wBC, cx_muts, cx_arr, wBD, convA, Nat.reduceBEq, reduceIte, reduceCtorEq, reducePow, reduceAdd, reduceSub, reduceMul, reduceEqDiff, reduceLeDiff, Nat.reduceLT, Int.reduceLT, Int.reduceLE, Int.reduceToNat, ty48_XRp, hw]
      exact ret_rd (k' := k' + 1) (b' := b') (.inl rfl) rfl rfl rfl ⟨rfl, true, rfl, fun _ => ⟨hb, rfl, hk⟩, fun h => by simp at h⟩
    · skip
      simp only [↓wBA, wBB, wBC, cx_muts, cx_arr, wBD, convA, Nat.reduceBEq, reduceIte, reduceCtorEq, reducePow, reduceAdd, reduceSub, reduceMul, reduceEqDiff, reduceLeDiff, Nat.reduceLT, Int.reduceLT, Int.reduceLE, Int.reduceToNat, ty48_XRp]
      exact ret_rd (k' := k') (b' := b') (.inl rfl) rfl rfl rfl ⟨rfl, false, rfl, fun h => by simp at h, fun _ => rfl⟩

set_option maxRecDepth 100000 in
set_option maxHeartbeats 4000000 in
theorem aRsign (s : ByteArray) (ts : List Tok) (hts : ts.length ≤ 2048) (k : Nat) (b : Bool) : RCalls 31 [.p (.v (.string s))] ts k b (IsR ts k b) := by
  refine RCalls.of rfl ?_
  refine acalls_of cx_ok dr_ok Try.func31 (by kernel_rfl) rfl (nt := 6) (rs := [.tmp 4]) rfl rfl ?_
  simp only [↓wBA, wBB, wBC, cx_muts, cx_arr, wBD, convA, Nat.reduceBEq, reduceIte, reduceCtorEq, reducePow, reduceAdd, reduceSub, reduceMul, reduceEqDiff, reduceLeDiff, Nat.reduceLT, Int.reduceLT, Int.reduceLE, Int.reduceToNat, ty31_XRp]
  refine (ais 5 (by decide) s ts hts k b _ 0 rfl).mono ?_
  rintro _ _ ⟨k', b', ⟨rfl, v, rfl, h1, h2⟩, rfl⟩
  simp only [rdO, intV, boolV]
  simp only [↓wBA, wBB, wBC, cx_muts, cx_arr, wBD, convA, Nat.reduceBEq, reduceIte, reduceCtorEq, reducePow, reduceAdd, reduceSub, reduceMul, reduceEqDiff, reduceLeDiff, Nat.reduceLT, Int.reduceLT, Int.reduceLE, Int.reduceToNat, ty31_XRp]
  exact ret_rd (k' := k') (b' := b') (.inl rfl) rfl rfl rfl ⟨rfl, v, rfl, h1, h2⟩

set_option maxRecDepth 100000 in
set_option maxHeartbeats 4000000 in
theorem aRword (s : ByteArray) (ts : List Tok) (hts : ts.length ≤ 2048) (k : Nat) (b : Bool) : RCalls 23 [.p (.v (.string s))] ts k b (IsR ts k b) := by
  refine RCalls.of rfl ?_
  refine acalls_of cx_ok dr_ok Try.func23 (by kernel_rfl) rfl (nt := 6) (rs := [.tmp 4]) rfl rfl ?_
  simp only [↓wBA, wBB, wBC, cx_muts, cx_arr, wBD, convA, Nat.reduceBEq, reduceIte, reduceCtorEq, reducePow, reduceAdd, reduceSub, reduceMul, reduceEqDiff, reduceLeDiff, Nat.reduceLT, Int.reduceLT, Int.reduceLE, Int.reduceToNat, ty23_XRp]
  refine (ais 1 (by decide) s ts hts k b _ 0 rfl).mono ?_
  rintro _ _ ⟨k', b', ⟨rfl, v, rfl, h1, h2⟩, rfl⟩
  simp only [rdO, intV, boolV]
  simp only [↓wBA, wBB, wBC, cx_muts, cx_arr, wBD, convA, Nat.reduceBEq, reduceIte, reduceCtorEq, reducePow, reduceAdd, reduceSub, reduceMul, reduceEqDiff, reduceLeDiff, Nat.reduceLT, Int.reduceLT, Int.reduceLE, Int.reduceToNat, ty23_XRp]
  exact ret_rd (k' := k') (b' := b') (.inl rfl) rfl rfl rfl ⟨rfl, v, rfl, h1, h2⟩

def WantR (ts : List Tok) (k : Nat) (b : Bool) (r : AV) (k' : Nat) (b' : Bool) : Prop := r = .tup [] ∧ Adv ts k b k' b'
set_option maxRecDepth 100000 in
set_option maxHeartbeats 4000000 in
theorem awant (kd : Int) (hkd : kd ≠ 0) (s : ByteArray) (ts : List Tok) (hts : ts.length ≤ 2048) (k : Nat) (hk : k ≤ ts.length) (b : Bool) : RCalls 28 [intV .i64 kd, .p (.v (.string s))] ts k b (WantR ts k b) := by
  refine RCalls.of rfl ?_
  refine acalls_of cx_ok dr_ok Try.func28 (by kernel_rfl) rfl (nt := 11) (rs := []) rfl rfl ?_
  simp only [↓wBA, wBB, wBC, cx_muts, cx_arr, wBD, convA, Nat.reduceBEq, reduceIte, reduceCtorEq, reducePow, reduceAdd, reduceSub, reduceMul, reduceEqDiff, reduceLeDiff, Nat.reduceLT, Int.reduceLT, Int.reduceLE, Int.reduceToNat, ty28_XRp]
  refine (ais kd hkd s ts hts k b _ 0 rfl).mono ?_
  rintro _ _ ⟨k', b', ⟨rfl, v, rfl, h1, h2⟩, rfl⟩
  simp only [rdO, intV, boolV]
  cases v
  · skip
    simp only [↓wBA, wBB, wBC, cx_muts, cx_arr, wBD, convA, Nat.reduceBEq, reduceIte, reduceCtorEq, reducePow, reduceAdd, reduceSub, reduceMul, reduceEqDiff, reduceLeDiff, Nat.reduceLT, Int.reduceLT, Int.reduceLE, Int.reduceToNat, ty28_XRp]
    exact ret_rd (k' := k') (b' := true) (.inr rfl) rfl rfl rfl ⟨rfl, by have := h2 rfl; omega, by have := h2 rfl; omega, fun h => by simp at h⟩
  · skip
    simp only [↓wBA, wBB, wBC, cx_muts, cx_arr, wBD, convA, Nat.reduceBEq, reduceIte, reduceCtorEq, reducePow, reduceAdd, reduceSub, reduceMul, reduceEqDiff, reduceLeDiff, Nat.reduceLT, Int.reduceLT, Int.reduceLE, Int.reduceToNat, ty28_XRp]
    obtain ⟨g1, g2, g3⟩ := h1 rfl
    exact ret_rd (k' := k') (b' := b') (.inr rfl) rfl rfl rfl ⟨rfl, by omega, by omega, fun h => ⟨g1, by omega⟩⟩

def AnyR (ts : List Tok) (k : Nat) (b : Bool) (r : AV) (k' : Nat) (b' : Bool) : Prop := (∃ t : Tok, r = tokA t.1 t.2.1 t.2.2) ∧ Adv ts k b k' b'
set_option maxRecDepth 100000 in
set_option maxHeartbeats 4000000 in
theorem aany (kd : Int) (hkd : kd ≠ 0) (ts : List Tok) (hts : ts.length ≤ 2048) (k : Nat) (hk : k ≤ ts.length) (b : Bool) : RCalls 55 [intV .i64 kd] ts k b (AnyR ts k b) := by
  refine RCalls.of rfl ?_
  refine acalls_of cx_ok dr_ok Try.func55 (by kernel_rfl) rfl (nt := 22) (rs := [.cell 4 102]) rfl rfl ?_
  simp only [↓wBA, wBB, wBC, cx_muts, cx_arr, wBD, convA, Nat.reduceBEq, reduceIte, reduceCtorEq, reducePow, reduceAdd, reduceSub, reduceMul, reduceEqDiff, reduceLeDiff, Nat.reduceLT, Int.reduceLT, Int.reduceLE, Int.reduceToNat, ty55_XRp]
  refine (apeek ts k b _ 0 rfl).mono ?_
  rintro _ _ ⟨k', b', ⟨rfl, rfl, t, rfl, ht⟩, rfl⟩
  simp only [tokA, rdO, intV, boolV]
  simp only [↓wBA, wBB, wBC, cx_muts, cx_arr, wBD, convA, Nat.reduceBEq, reduceIte, reduceCtorEq, reducePow, reduceAdd, reduceSub, reduceMul, reduceEqDiff, reduceLeDiff, Nat.reduceLT, Int.reduceLT, Int.reduceLE, Int.reduceToNat, ty55_XRp]
  refine cond_split (fun h1 => ?_) (fun h1 => ?_)
  · skip
    simp only [↓wBA, wBB, wBC, cx_muts, cx_arr, wBD, convA, Nat.reduceBEq, reduceIte, reduceCtorEq, reducePow, reduceAdd, reduceSub, reduceMul, reduceEqDiff, reduceLeDiff, Nat.reduceLT, Int.reduceLT, Int.reduceLE, Int.reduceToNat, ty55_XRp]
    exact ret_rd (k' := k') (b' := true) (.inl rfl) rfl rfl rfl ⟨⟨(0, ⟨#[]⟩, 0), rfl⟩, by omega, by omega, fun h => by simp at h⟩
  · obtain ⟨hb, hk⟩ := ht (by simp at h1; omega)
    have hw : IntKind.i64.wrap ((k' : Int) + 1) = ((k' + 1 : Nat) : Int) := by rw [wrap_i64 (by omega) (by omega)]; simp
    simp only [↓wBA, wBB, wBC, cx_muts, cx_arr, wBD, convA, Nat.reduceBEq, reduceIte, reduceCtorEq, reducePow, reduceAdd, reduceSub, reduceMul, reduceEqDiff, reduceLeDiff, Nat.reduceLT, Int.reduceLT, Int.reduceLE, Int.reduceToNat, ty55_XRp, hw]
    exact ret_rd (k' := k' + 1) (b' := b') (.inl rfl) rfl rfl rfl ⟨⟨t, rfl⟩, by omega, by omega, fun h => ⟨hb, by omega⟩⟩

def NameR (ts : List Tok) (k : Nat) (b : Bool) (r : AV) (k' : Nat) (b' : Bool) : Prop := (∃ s : ByteArray, r = .p (.v (.string s))) ∧ Adv ts k b k' b'
set_option maxRecDepth 100000 in
set_option maxHeartbeats 4000000 in
theorem aname (ts : List Tok) (hts : ts.length ≤ 2048) (k : Nat) (hk : k ≤ ts.length) (b : Bool) : RCalls 29 [] ts k b (NameR ts k b) := by
  refine RCalls.of rfl ?_
  refine acalls_of cx_ok dr_ok Try.func29 (by kernel_rfl) rfl (nt := 5) (rs := [.tmp 2]) rfl rfl ?_
  simp only [↓wBA, wBB, wBC, cx_muts, cx_arr, wBD, convA, Nat.reduceBEq, reduceIte, reduceCtorEq, reducePow, reduceAdd, reduceSub, reduceMul, reduceEqDiff, reduceLeDiff, Nat.reduceLT, Int.reduceLT, Int.reduceLE, Int.reduceToNat, ty29_XRp]
  refine (aany 2 (by decide) ts hts k hk b _ 0 rfl).mono ?_
  rintro _ _ ⟨k', b', ⟨⟨t, rfl⟩, h1⟩, rfl⟩
  simp only [tokA, rdO, intV, boolV]
  simp only [↓wBA, wBB, wBC, cx_muts, cx_arr, wBD, convA, Nat.reduceBEq, reduceIte, reduceCtorEq, reducePow, reduceAdd, reduceSub, reduceMul, reduceEqDiff, reduceLeDiff, Nat.reduceLT, Int.reduceLT, Int.reduceLE, Int.reduceToNat, ty29_XRp]
  exact ret_rd (k' := k') (b' := b') (.inl rfl) rfl rfl rfl ⟨⟨_, rfl⟩, h1⟩
end Go.Proofs.Ytcnkmandddfdmaa
