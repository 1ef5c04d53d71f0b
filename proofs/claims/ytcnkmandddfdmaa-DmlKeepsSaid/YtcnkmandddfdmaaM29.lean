/- The reference's lexer: it ends, and answers tokens. A reader of tokens, as an object of the abstract machine: contracts of its methods at any state. -/
import Derived.Test.YtcnkmandddfdmaaM28
import Derived.Test.YtcnkmandddfdmaaM21
set_option linter.unusedSimpArgs false
set_option linter.unusedVariables false
set_option linter.defProp false
set_option maxRecDepth 100000
set_option maxHeartbeats 32000000
namespace Go.Proofs.Ytcnkmandddfdmaa
open Go.RowKit
open Nat renaming reduceBEq → ZA, reducePow → ZB, reduceAdd → ZC, reduceSub → ZD, reduceMul → ZE, reduceEqDiff → ZF, reduceLeDiff → ZG, reduceLT → ZH
open Int renaming reduceLT → ZI, reduceLE → ZJ, reduceToNat → ZK
def tLa := aa wX <| aa T3 <| aa T4 <| aa T5 <| aa T9 <| aa T40 <| aa T72 T102
abbrev Tok := Int × ByteArray × Int
def encT (l : List Tok) : List (List PV) := l.map fun t => tokC t.1 t.2.1 (IntKind.i64.wrap t.2.2)
theorem encT_len (l : List Tok) : (encT l).length = l.length := by simp [encT]
theorem ext_size (s : ByteArray) (i j : Nat) (h : j ≤ s.size) : (s.extract i j).size = j - i := by simp [ByteArray.size_extract]; omega
theorem slice_ij {C : Ctx} {T : Nat} (hT : C.kind T = some .str) (s : ByteArray) (i j : Nat) (hij : i ≤ j) (hj : j ≤ s.size) :
 sliceA C T (.p (.v (.string s))) (some (.p (.v (.int .i64 (i : Int))))) (some (.p (.v (.int .i64 (j : Int))))) = some (.p (.v (.string (s.extract i j)))) := by
 simp [sliceA, hT, boundA, intA, hij, hj]
theorem slice_i {C : Ctx} {T : Nat} (hT : C.kind T = some .str) (s : ByteArray) (i : Nat) (hij : i ≤ s.size) :
 sliceA C T (.p (.v (.string s))) (some (.p (.v (.int .i64 (i : Int))))) none = some (.p (.v (.string (s.extract i s.size)))) := by
 simp [sliceA, hT, boundA, intA, hij]
def AllR (r : AV) : Prop := ∃ (ts : List Tok) (e : Int), ts.length ≤ 2048 ∧ r = .tup [.p (nilSl 3 (encT ts)), intV .i64 e]
theorem aall (s : ByteArray) (σ : St) : ACalls Try.prog 22 [.p (.v (.string s))] σ fun r σ' => σ' = σ ∧ AllR r := by
 refine ACalls.pureF ?_ rfl σ
 refine acalls_of cx_ok dr_ok Try.func22 (by kernel_rfl) rfl (nt := 155) (rs := [.tmp 2, .tmp 3]) rfl rfl ?_
 by_cases hbig : 2048 < s.size
 ·have hdec : decide ((s.size : Int) > 2048) = true := by simp; omega
  simp only [↓wBA, tLa, convA, ZA, reduceIte, reduceCtorEq, ZB, ZC, ZD, ZE, ZF, ZG, ZH, ZI, ZJ, ZK, hdec]
  exact ret_own (R := AllR) rfl rfl rfl ⟨[], _, by simp, rfl⟩
 ·have hdec : decide ((s.size : Int) > 2048) = false := by simp; omega
  simp only [↓wBA, tLa, convA, ZA, reduceIte, reduceCtorEq, ZB, ZC, ZD, ZE, ZF, ZG, ZH, ZI, ZJ, ZK, hdec]
  refine awp_loop' (X := { q : List Tok × Nat // q.1.length ≤ q.2 ∧ q.2 ≤ s.size }) (fun q => ([.p (.v (.string s)), .any, .any, .any, .nown 0 3 (encT q.1.1), intV .i64 (q.1.2 : Nat), .any, .any, .any, .any, .any, .any, .any, .any, .any, .any, .any, .any, .any, .any, .any, .any, .any, .any, .any, .any, .any, .any, .any, .any, .any, .any, .any, .any, .any, .any, .any, .any, .any, .any, .any, .any, .any, .any, .any, .any, .any, .any, .any, .any, .any, .any, .any, .any, .any, .any, .any, .any, .any, .any, .any, .any, .any, .any, .any, .any, .any, .any, .any, .any, .any, .any, .any, .any, .any, .any, .any, .any, .any, .any, .any, .any, .any, .any, .any, .any, .any, .any, .any, .any, .any, .any, .any, .any, .any, .any, .any, .any, .any, .any, .any, .any, .any, .any, .any, .any, .any, .any, .any, .any, .any, .any, .any, .any, .any, .any, .any, .any, .any, .any, .any, .any, .any, .any, .any, .any, .any, .any, .any, .any, .any, .any, .any, .any, .any, .any, .any, .any, .any, .any, .any, .any, .any, .any, .any, .any, .any, .any, .any, .any, .any, .any, .any, .any, .any, .any], [some (.nright 102 (q.1.1.length * 3))])) (fun q => s.size - q.1.2) ⟨([], 0), by simp⟩ (fun _ => by simp) ?_ ?_
  ·simp [WeakE, Weak, leL, leT, leM, leG, leA, leC, leS, leO, tokLt, tokLtL, intV, nilA, encT]
  ·rintro ⟨⟨ts, k⟩, hts, hk⟩
   simp only at hts hk
   have hen := encT_len ts
   by_cases hlt : k < s.size
   ·have hd1 := dT (i := k) (n := s.size) (by omega)
    obtain ⟨b, hb⟩ := ba_get s k hlt
    have hw1 := wI k (by omega)
    have hlim1 := tL (n := (ts.length + 1) * 40) (by omega)
    have hlim1' := tL (n := (ts.length + 1) * 32) (by omega)
    have hlim2 := lM (n := ts.length + 1) (by omega)
    simp only [↓wBA, tLa, convA, ZA, reduceIte, reduceCtorEq, ZB, ZC, ZD, ZE, ZF, ZG, ZH, ZI, ZJ, ZK, hd1, hb]
    refine (aclass b _).mono ?_
    rintro _ _ ⟨rfl, rfl⟩
    generalize hcl : classL (b.toNat : Int) = c
    simp only [↓wBA, tLa, convA, ZA, reduceIte, reduceCtorEq, ZB, ZC, ZD, ZE, ZF, ZG, ZH, ZI, ZJ, ZK]
    refine cond_split (fun h1 => ?_) (fun h1 => ?_)
    ·skip
     simp only [↓wBA, tLa, convA, ZA, reduceIte, reduceCtorEq, ZB, ZC, ZD, ZE, ZF, ZG, ZH, ZI, ZJ, ZK, hw1]
     refine ⟨⟨(ts, k + 1), by simp; omega⟩, by show s.size - (k + 1) < s.size - k; omega, ?_⟩
     simp [WeakE, Weak, leL, leT, leM, leG, leA, leC, leS, leO, tokLt, tokLtL, intV]
    ·skip
     simp only [↓wBA, tLa, convA, ZA, reduceIte, reduceCtorEq, ZB, ZC, ZD, ZE, ZF, ZG, ZH, ZI, ZJ, ZK]
     refine cond_split (fun h2 => ?_) (fun h2 => ?_)
     ·skip
      simp only [↓wBA, tLa, convA, ZA, reduceIte, reduceCtorEq, ZB, ZC, ZD, ZE, ZF, ZG, ZH, ZI, ZJ, ZK]
      refine awp_loop' (X := { j : Nat // k ≤ j ∧ j ≤ s.size }) (fun j => ([.p (.v (.string s)), .any, .any, .any, .nown 0 3 (encT ts), intV .i64 (j.1 : Nat), .any, intV .i64 (k : Nat), .any, .any, .any, .any, .any, .any, .any, .any, .any, .any, .any, .any, .any, .any, .any, .any, .any, .any, .any, .any, .any, .any, .any, .any, .any, .any, .any, .any, .any, .any, .any, .any, .any, .any, .any, .any, .any, .any, .any, .any, .any, .any, .any, .any, .any, .any, .any, .any, .any, .any, .any, .any, .any, .any, .any, .any, .any, .any, .any, .any, .any, .any, .any, .any, .any, .any, .any, .any, .any, .any, .any, .any, .any, .any, .any, .any, .any, .any, .any, .any, .any, .any, .any, .any, .any, .any, .any, .any, .any, .any, .any, .any, .any, .any, .any, .any, .any, .any, .any, .any, .any, .any, .any, .any, .any, .any, .any, .any, .any, .any, .any, .any, .any, .any, .any, .any, .any, .any, .any, .any, .any, .any, .any, .any, .any, .any, .any, .any, .any, .any, .any, .any, .any, .any, .any, .any, .any, .any, .any, .any, .any, .any, .any, .any, .any, .any, .any, .any], [some (.nright 102 (ts.length * 3))])) (fun j => s.size - j.1) ⟨k, by omega⟩ (fun _ => by simp) ?_ ?_
      ·simp [WeakE, Weak, leL, leT, leM, leG, leA, leC, leS, leO, tokLt, tokLtL, intV]
      ·rintro ⟨j, hj1, hj2⟩
       have hwj := wI j (by omega)
       have hsl := slice_ij (C := cx) (T := 9) ck_9 s k j hj1 hj2
       by_cases hjl : j < s.size
       ·have hd2 := dT (i := j) (n := s.size) (by omega)
        obtain ⟨b2, hb2⟩ := ba_get s j hjl
        simp only [↓wBA, tLa, convA, ZA, reduceIte, reduceCtorEq, ZB, ZC, ZD, ZE, ZF, ZG, ZH, ZI, ZJ, ZK, hd2, hb2]
        refine (aclass b2 _).mono ?_
        rintro _ _ ⟨rfl, rfl⟩
        cases hc1 : (classL (b2.toNat : Int) == 1)
        ·skip
         simp only [↓wBA, tLa, convA, ZA, reduceIte, reduceCtorEq, ZB, ZC, ZD, ZE, ZF, ZG, ZH, ZI, ZJ, ZK, hc1, hb2]
         refine (aclass b2 _).mono ?_
         rintro _ _ ⟨rfl, rfl⟩
         simp only [↓wBA, tLa, convA, ZA, reduceIte, reduceCtorEq, ZB, ZC, ZD, ZE, ZF, ZG, ZH, ZI, ZJ, ZK]
         refine cond_split (fun h3 => ?_) (fun h3 => ?_)
         ·skip
          simp only [↓wBA, tLa, convA, ZA, reduceIte, reduceCtorEq, ZB, ZC, ZD, ZE, ZF, ZG, ZH, ZI, ZJ, ZK, hwj]
          refine ⟨⟨j + 1, by omega⟩, by show s.size - (j + 1) < s.size - j; omega, ?_⟩
          simp [WeakE, Weak, leL, leT, leM, leG, leA, leC, leS, leO, tokLt, tokLtL, intV]
         ·have hkj : k < j := by
           rcases Nat.lt_or_ge k j with h | h
           ·exact h
           ·have : j = k := by omega
            subst this
            rw [hb] at hb2
            simp at hb2; subst hb2
            rw [hcl, h2] at hc1; simp at hc1
          simp only [↓wBA, tLa, convA, ZA, reduceIte, reduceCtorEq, ZB, ZC, ZD, ZE, ZF, ZG, ZH, ZI, ZJ, ZK, hsl]
          refine (aword _ (by rw [ext_size _ _ _ hj2]; omega) _).mono ?_
          rintro _ _ ⟨rfl, k', t', e', rfl⟩
          simp only [tokA, intV]
          simp only [↓wBA, tLa, convA, ZA, reduceIte, reduceCtorEq, ZB, ZC, ZD, ZE, ZF, ZG, ZH, ZI, ZJ, ZK]
          refine cond_split (fun h4 => ?_) (fun h4 => ?_)
          ·skip
           simp only [↓wBA, tLa, convA, ZA, reduceIte, reduceCtorEq, ZB, ZC, ZD, ZE, ZF, ZG, ZH, ZI, ZJ, ZK]
           exact ret_own (R := AllR) rfl rfl rfl ⟨[], _, by simp, rfl⟩
          ·skip
           simp only [↓wBA, tLa, convA, ZA, reduceIte, reduceCtorEq, ZB, ZC, ZD, ZE, ZF, ZG, ZH, ZI, ZJ, ZK, appendA, srcA, hen, hlim1, hlim1', hlim2, toPss, toPs, toP, fillS, Nat.reducePow]
           refine ⟨⟨(ts ++ [(k', t', 0)], j), by simp; omega⟩, by show s.size - j < s.size - k; omega, ?_⟩
           simp [WeakE, Weak, leL, leT, leM, leG, leA, leC, leS, leO, tokLt, tokLtL, intV, encT, tokC, wz0]
        ·skip
         simp only [↓wBA, tLa, convA, ZA, reduceIte, reduceCtorEq, ZB, ZC, ZD, ZE, ZF, ZG, ZH, ZI, ZJ, ZK, hc1, hwj]
         refine ⟨⟨j + 1, by omega⟩, by show s.size - (j + 1) < s.size - j; omega, ?_⟩
         simp [WeakE, Weak, leL, leT, leM, leG, leA, leC, leS, leO, tokLt, tokLtL, intV]
       ·have hd2 := dF (i := j) (n := s.size) (by omega)
        simp only [↓wBA, tLa, convA, ZA, reduceIte, reduceCtorEq, ZB, ZC, ZD, ZE, ZF, ZG, ZH, ZI, ZJ, ZK, hd2, hsl]
        refine (aword _ (by rw [ext_size _ _ _ hj2]; omega) _).mono ?_
        rintro _ _ ⟨rfl, k', t', e', rfl⟩
        simp only [tokA, intV]
        simp only [↓wBA, tLa, convA, ZA, reduceIte, reduceCtorEq, ZB, ZC, ZD, ZE, ZF, ZG, ZH, ZI, ZJ, ZK]
        refine cond_split (fun h4 => ?_) (fun h4 => ?_)
        ·skip
         simp only [↓wBA, tLa, convA, ZA, reduceIte, reduceCtorEq, ZB, ZC, ZD, ZE, ZF, ZG, ZH, ZI, ZJ, ZK]
         exact ret_own (R := AllR) rfl rfl rfl ⟨[], _, by simp, rfl⟩
        ·skip
         simp only [↓wBA, tLa, convA, ZA, reduceIte, reduceCtorEq, ZB, ZC, ZD, ZE, ZF, ZG, ZH, ZI, ZJ, ZK, appendA, srcA, hen, hlim1, hlim1', hlim2, toPss, toPs, toP, fillS, Nat.reducePow]
         refine ⟨⟨(ts ++ [(k', t', 0)], j), by simp; omega⟩, by show s.size - j < s.size - k; omega, ?_⟩
         simp [WeakE, Weak, leL, leT, leM, leG, leA, leC, leS, leO, tokLt, tokLtL, intV, encT, tokC, wz0]
     ·skip
      simp only [↓wBA, tLa, convA, ZA, reduceIte, reduceCtorEq, ZB, ZC, ZD, ZE, ZF, ZG, ZH, ZI, ZJ, ZK]
      refine cond_split (fun h2' => ?_) (fun h2' => ?_)
      ·skip
       simp only [↓wBA, tLa, convA, ZA, reduceIte, reduceCtorEq, ZB, ZC, ZD, ZE, ZF, ZG, ZH, ZI, ZJ, ZK]
       refine awp_loop' (X := { j : Nat // k ≤ j ∧ j ≤ s.size }) (fun j => ([.p (.v (.string s)), .any, .any, .any, .nown 0 3 (encT ts), intV .i64 (j.1 : Nat), .any, intV .i64 (k : Nat), .any, .any, .any, .any, .any, .any, .any, .any, .any, .any, .any, .any, .any, .any, .any, .any, .any, .any, .any, .any, .any, .any, .any, .any, .any, .any, .any, .any, .any, .any, .any, .any, .any, .any, .any, .any, .any, .any, .any, .any, .any, .any, .any, .any, .any, .any, .any, .any, .any, .any, .any, .any, .any, .any, .any, .any, .any, .any, .any, .any, .any, .any, .any, .any, .any, .any, .any, .any, .any, .any, .any, .any, .any, .any, .any, .any, .any, .any, .any, .any, .any, .any, .any, .any, .any, .any, .any, .any, .any, .any, .any, .any, .any, .any, .any, .any, .any, .any, .any, .any, .any, .any, .any, .any, .any, .any, .any, .any, .any, .any, .any, .any, .any, .any, .any, .any, .any, .any, .any, .any, .any, .any, .any, .any, .any, .any, .any, .any, .any, .any, .any, .any, .any, .any, .any, .any, .any, .any, .any, .any, .any, .any, .any, .any, .any, .any, .any, .any], [some (.nright 102 (ts.length * 3))])) (fun j => s.size - j.1) ⟨k, by omega⟩ (fun _ => by simp) ?_ ?_
       ·simp [WeakE, Weak, leL, leT, leM, leG, leA, leC, leS, leO, tokLt, tokLtL, intV]
       ·rintro ⟨j, hj1, hj2⟩
        have hwj := wI j (by omega)
        have hsl := slice_ij (C := cx) (T := 9) ck_9 s k j hj1 hj2
        by_cases hjl : j < s.size
        ·have hd2 := dT (i := j) (n := s.size) (by omega)
         obtain ⟨b2, hb2⟩ := ba_get s j hjl
         simp only [↓wBA, tLa, convA, ZA, reduceIte, reduceCtorEq, ZB, ZC, ZD, ZE, ZF, ZG, ZH, ZI, ZJ, ZK, hd2, hb2]
         refine (aclass b2 _).mono ?_
         rintro _ _ ⟨rfl, rfl⟩
         simp only [↓wBA, tLa, convA, ZA, reduceIte, reduceCtorEq, ZB, ZC, ZD, ZE, ZF, ZG, ZH, ZI, ZJ, ZK]
         refine cond_split (fun h3 => ?_) (fun h3 => ?_)
         ·skip
          simp only [↓wBA, tLa, convA, ZA, reduceIte, reduceCtorEq, ZB, ZC, ZD, ZE, ZF, ZG, ZH, ZI, ZJ, ZK, hwj]
          refine ⟨⟨j + 1, by omega⟩, by show s.size - (j + 1) < s.size - j; omega, ?_⟩
          simp [WeakE, Weak, leL, leT, leM, leG, leA, leC, leS, leO, tokLt, tokLtL, intV]
         ·have hkj : k < j := by
           rcases Nat.lt_or_ge k j with h | h
           ·exact h
           ·have : j = k := by omega
            subst this
            rw [hb] at hb2
            simp at hb2; subst hb2
            rw [hcl, h2'] at h3; simp at h3
          simp only [↓wBA, tLa, convA, ZA, reduceIte, reduceCtorEq, ZB, ZC, ZD, ZE, ZF, ZG, ZH, ZI, ZJ, ZK, hd2, hb2]
          refine (aclass b2 _).mono ?_
          rintro _ _ ⟨rfl, rfl⟩
          simp only [↓wBA, tLa, convA, ZA, reduceIte, reduceCtorEq, ZB, ZC, ZD, ZE, ZF, ZG, ZH, ZI, ZJ, ZK]
          refine cond_split (fun h4 => ?_) (fun h4 => ?_)
          ·skip
           simp only [↓wBA, tLa, convA, ZA, reduceIte, reduceCtorEq, ZB, ZC, ZD, ZE, ZF, ZG, ZH, ZI, ZJ, ZK]
           exact ret_own (R := AllR) rfl rfl rfl ⟨[], _, by simp, rfl⟩
          ·skip
           simp only [↓wBA, tLa, convA, ZA, reduceIte, reduceCtorEq, ZB, ZC, ZD, ZE, ZF, ZG, ZH, ZI, ZJ, ZK, hsl]
           refine (anumL _ (by rw [ext_size _ _ _ hj2]; omega) _).mono ?_
           rintro _ _ ⟨rfl, n', ok', rfl⟩
           simp only [intV, boolV]
           simp only [↓wBA, tLa, convA, ZA, reduceIte, reduceCtorEq, ZB, ZC, ZD, ZE, ZF, ZG, ZH, ZI, ZJ, ZK]
           refine cond_split (fun h5 => ?_) (fun h5 => ?_)
           ·skip
            simp only [↓wBA, tLa, convA, ZA, reduceIte, reduceCtorEq, ZB, ZC, ZD, ZE, ZF, ZG, ZH, ZI, ZJ, ZK]
            exact ret_own (R := AllR) rfl rfl rfl ⟨[], _, by simp, rfl⟩
           ·skip
            simp only [↓wBA, tLa, convA, ZA, reduceIte, reduceCtorEq, ZB, ZC, ZD, ZE, ZF, ZG, ZH, ZI, ZJ, ZK, appendA, srcA, hen, hlim1, hlim1', hlim2, toPss, toPs, toP, fillS, Nat.reducePow]
            refine ⟨⟨(ts ++ [(3, ⟨#[]⟩, n')], j), by simp; omega⟩, by show s.size - j < s.size - k; omega, ?_⟩
            simp [WeakE, Weak, leL, leT, leM, leG, leA, leC, leS, leO, tokLt, tokLtL, intV, encT, tokC, wz0]
        ·have hd2 := dF (i := j) (n := s.size) (by omega)
         simp only [↓wBA, tLa, convA, ZA, reduceIte, reduceCtorEq, ZB, ZC, ZD, ZE, ZF, ZG, ZH, ZI, ZJ, ZK, hd2, hsl]
         refine (anumL _ (by rw [ext_size _ _ _ hj2]; omega) _).mono ?_
         rintro _ _ ⟨rfl, n', ok', rfl⟩
         simp only [intV, boolV]
         simp only [↓wBA, tLa, convA, ZA, reduceIte, reduceCtorEq, ZB, ZC, ZD, ZE, ZF, ZG, ZH, ZI, ZJ, ZK]
         refine cond_split (fun h5 => ?_) (fun h5 => ?_)
         ·skip
          simp only [↓wBA, tLa, convA, ZA, reduceIte, reduceCtorEq, ZB, ZC, ZD, ZE, ZF, ZG, ZH, ZI, ZJ, ZK]
          exact ret_own (R := AllR) rfl rfl rfl ⟨[], _, by simp, rfl⟩
         ·skip
          simp only [↓wBA, tLa, convA, ZA, reduceIte, reduceCtorEq, ZB, ZC, ZD, ZE, ZF, ZG, ZH, ZI, ZJ, ZK, appendA, srcA, hen, hlim1, hlim1', hlim2, toPss, toPs, toP, fillS, Nat.reducePow]
          refine ⟨⟨(ts ++ [(3, ⟨#[]⟩, n')], j), by simp; omega⟩, by show s.size - j < s.size - k; omega, ?_⟩
          simp [WeakE, Weak, leL, leT, leM, leG, leA, leC, leS, leO, tokLt, tokLtL, intV, encT, tokC, wz0]
      ·skip
       simp only [↓wBA, tLa, convA, ZA, reduceIte, reduceCtorEq, ZB, ZC, ZD, ZE, ZF, ZG, ZH, ZI, ZJ, ZK, hb]
       refine cond_split (fun h6 => ?_) (fun h6 => ?_)
       ·skip
        simp only [↓wBA, tLa, convA, ZA, reduceIte, reduceCtorEq, ZB, ZC, ZD, ZE, ZF, ZG, ZH, ZI, ZJ, ZK]
        refine (aquoted s k (by omega) hlt _).mono ?_
        rintro _ _ ⟨rfl, s', q, hq, rfl⟩
        simp only [intV]
        simp only [↓wBA, tLa, convA, ZA, reduceIte, reduceCtorEq, ZB, ZC, ZD, ZE, ZF, ZG, ZH, ZI, ZJ, ZK]
        rcases hq with rfl | ⟨q, rfl, hq1, hq2⟩
        ·skip
         simp only [↓wBA, tLa, convA, ZA, reduceIte, reduceCtorEq, ZB, ZC, ZD, ZE, ZF, ZG, ZH, ZI, ZJ, ZK, Int.reduceLT, Int.reduceNeg, Int.reduceLT]
         exact ret_own (R := AllR) rfl rfl rfl ⟨[], _, by simp, rfl⟩
        ·have hd3 : decide ((q : Int) < 0) = false := by simp
         simp only [↓wBA, tLa, convA, ZA, reduceIte, reduceCtorEq, ZB, ZC, ZD, ZE, ZF, ZG, ZH, ZI, ZJ, ZK, hd3]
         refine cond_split (fun h7 => ?_) (fun h7 => ?_)
         ·skip
          simp only [↓wBA, tLa, convA, ZA, reduceIte, reduceCtorEq, ZB, ZC, ZD, ZE, ZF, ZG, ZH, ZI, ZJ, ZK]
          exact ret_own (R := AllR) rfl rfl rfl ⟨[], _, by simp, rfl⟩
         ·skip
          simp only [↓wBA, tLa, convA, ZA, reduceIte, reduceCtorEq, ZB, ZC, ZD, ZE, ZF, ZG, ZH, ZI, ZJ, ZK, appendA, srcA, hen, hlim1, hlim1', hlim2, toPss, toPs, toP, fillS, Nat.reducePow]
          refine ⟨⟨(ts ++ [(4, s', 0)], q), by simp; omega⟩, by show s.size - q < s.size - k; omega, ?_⟩
          simp [WeakE, Weak, leL, leT, leM, leG, leA, leC, leS, leO, tokLt, tokLtL, intV, encT, tokC, wz0]
       ·have hsl := slice_i (C := cx) (T := 9) ck_9 s k hk
        simp only [↓wBA, tLa, convA, ZA, reduceIte, reduceCtorEq, ZB, ZC, ZD, ZE, ZF, ZG, ZH, ZI, ZJ, ZK, hsl, Option.map_none]
        refine (asign _ (by rw [ext_size _ _ _ (Nat.le_refl _)]; omega) _).mono ?_
        rintro _ _ ⟨rfl, n, hn1, hn2, rfl⟩
        rw [ext_size _ _ _ (Nat.le_refl _)] at hn2
        simp only [intV]
        by_cases hn0 : n = 0
        ·subst hn0
         simp only [↓wBA, tLa, convA, ZA, reduceIte, reduceCtorEq, ZB, ZC, ZD, ZE, ZF, ZG, ZH, ZI, ZJ, ZK, Int.natCast_zero, Int.reduceBEq]
         exact ret_own (R := AllR) rfl rfl rfl ⟨[], _, by simp, rfl⟩
        ·have hd3 : (((n : Nat) : Int) == 0) = false := by simp; omega
         have hwn : IntKind.i64.wrap ((k : Int) + (n : Int)) = ((k + n : Nat) : Int) := by rw [wrap_i64 (by omega) (by omega)]; simp
         have hsl2 := slice_ij (C := cx) (T := 9) ck_9 s k (k + n) (by omega) (by omega)
         simp only [↓wBA, tLa, convA, ZA, reduceIte, reduceCtorEq, ZB, ZC, ZD, ZE, ZF, ZG, ZH, ZI, ZJ, ZK, hd3, hwn, hsl2, appendA, srcA, hen, hlim1, hlim1', hlim2, toPss, toPs, toP, fillS, Nat.reducePow]
         refine ⟨⟨(ts ++ [(5, s.extract k (k + n), 0)], k + n), by simp; omega⟩, by show s.size - (k + n) < s.size - k; omega, ?_⟩
         simp [WeakE, Weak, leL, leT, leM, leG, leA, leC, leS, leO, tokLt, tokLtL, intV, encT, tokC, wz0]
   ·have hd1 := dF (i := k) (n := s.size) (by omega)
    simp only [↓wBA, tLa, convA, ZA, reduceIte, reduceCtorEq, ZB, ZC, ZD, ZE, ZF, ZG, ZH, ZI, ZJ, ZK, hd1]
    exact ret_own (R := AllR) rfl rfl rfl ⟨ts, _, by omega, rfl⟩
end Go.Proofs.Ytcnkmandddfdmaa
namespace Go.Proofs.Ytcnkmandddfdmaa
open Go.RowKit
def rdO (ts : List Tok) (k : Nat) (b : Bool) : Ob := .row 3 [[.p (nilSl 3 (encT ts)), intV .i64 (k : Nat), boolV b]]
def RCalls (f : FuncId) (args : List AV) (ts : List Tok) (k : Nat) (b : Bool) (R : AV → Nat → Bool → Prop) : Prop :=
 ∀ (σ : St) (t : Nat), σ[t]? = some (some (rdO ts k b)) → ACalls Try.prog f (.mp t 3 0 0 :: args) σ fun r σ' => ∃ k' b', R r k' b' ∧ σ' = σ.set t (some (rdO ts k' b'))
def RdPost (ts : List Tok) (R : AV → Nat → Bool → Prop) (r : AV) (σ' : St) : Prop := ∃ k' b', tokLt 0 r = true ∧ R r k' b' ∧ σ'[0]? = some (some (rdO ts k' b'))
theorem rdO_ren (g : Nat → Nat) (ts : List Tok) (k : Nat) (b : Bool) : renOb g (rdO ts k b) = rdO ts k b := by simp [renOb, rdO, renL, renA, intV, boolV]
theorem rdO_tok (n : Nat) (ts : List Tok) (k : Nat) (b : Bool) : tokOb n (rdO ts k b) = true := by simp [tokOb, rdO, tokLtL, tokLt, intV, boolV]
theorem RCalls.of {f : FuncId} {args : List AV} {ts : List Tok} {k : Nat} {b : Bool} {R : AV → Nat → Bool → Prop} (ha : tokLtL 0 args = true)
    (h : ACalls Try.prog f (.mp 0 3 0 0 :: args) [some (rdO ts k b)] fun r σ' => RdPost ts R (frzA r) σ') : RCalls f args ts k b R := by
  intro σ t ht
  have h1 := ACalls.frz (R := RdPost ts R) h
  have h2 := ACalls.at h1 [t] σ (by simp) rfl (fun t' s hs => by
    cases t' with
    | zero =>
      simp at hs; subst hs
      exact ⟨rdO ts k b, rfl, rdO_tok _ _ _ _, by rw [rdO_ren]; exact ht⟩
    | succ t' => simp at hs) (by
      simp only [tokLtL, Bool.and_eq_true]
      exact ⟨by simp [tokLt], tokLtL_mono _ _ ha⟩) (fun r s ⟨k', b', h1, h2, h3⟩ => ⟨tokLt_mono _ _ h1, fun t' ob ht' ho => by
        have : t' = 0 := by simp at ht'; omega
        subst this
        unfold St.at at ho
        rw [h3] at ho
        simp at ho; subst ho
        exact rdO_tok _ _ _ _⟩)
  have e1 : renL (fun t' => [t].getD t' 0) (.mp 0 3 0 0 :: args) = .mp t 3 0 0 :: args := by
    simp only [renL, renL_free _ args ha]
    rfl
  rw [e1] at h2
  refine h2.mono ?_
  rintro r σ' ⟨r0, σ0, ⟨k', b', h3, h4, h5⟩, rfl, rfl⟩
  refine ⟨k', b', by rw [renA_free _ _ h3]; exact h4, ?_⟩
  cases σ0 with
  | nil => simp at h5
  | cons o σ0 =>
    simp at h5; subst h5
    simp [setsS, rdO_ren]
theorem ret_rd {C : Ctx} {fr : List AV} {ts : List Tok} {k' : Nat} {b' : Bool} {rest : St} {rs : List ResultVar} {R : AV → Nat → Bool → Prop} {r0 : AV} {e : Exit} (he : e = .ret ∨ e = .normal) (h1 : resA C rs fr (some (rdO ts k' b') :: rest) = some r0) (h2 : tokLt (rest.length + 1) r0 = true) (h3 : tokLt 0 (frzA r0) = true) (h4 : R (frzA r0) k' b') :
 retA C rs 1 (fun r σ' => RdPost ts R (frzA r) σ') e fr (some (rdO ts k' b') :: rest) := by
 refine ⟨he, r0, r0, some (rdO ts k' b') :: List.replicate rest.length none, h1, .inr ⟨⟨.inl (.inl (.inr (.inl ⟨rfl, by simpa using h2⟩))), trivial⟩, ?_⟩, by simp, k', b', h3, h4, rfl⟩
 simp only [leS]
 refine ⟨?_, leS_none _ _ _ rest⟩
 simp [rdO, leO, tokLtL, tokLt, intV, boolV]
def Adv (ts : List Tok) (k : Nat) (b : Bool) (k' : Nat) (b' : Bool) : Prop := k ≤ k' ∧ k' ≤ ts.length ∧ (b' = false → b = false ∧ k < k')
theorem tok_get (ts : List Tok) (k : Nat) (h : k < ts.length) : ∃ t : Tok, i64R t.2.2 ∧ (encT ts)[k]? = some (tokC t.1 t.2.1 t.2.2) := ⟨(ts[k].1, ts[k].2.1, IntKind.i64.wrap ts[k].2.2), i64R_wrap _, by simp [encT, h]⟩
theorem nilT (ts : List Tok) (h : ts ≠ []) : nilSl 3 (encT ts) = .sl 3 (encT ts) := by
 cases ts with
 | nil => exact (h rfl).elim
 | cons t ts => rfl
end Go.Proofs.Ytcnkmandddfdmaa
