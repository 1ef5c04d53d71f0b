/- The reader's expressions. -/
import Derived.Test.YtcnkmandddfdmaaM31
set_option linter.unusedSimpArgs false
set_option linter.unusedVariables false
set_option linter.defProp false
set_option maxRecDepth 100000
set_option maxHeartbeats 32000000
namespace Go.Proofs.Ytcnkmandddfdmaa
open Go.RowKit
open Nat renaming reduceBEq → ZA, reducePow → ZB, reduceAdd → ZC, reduceSub → ZD, reduceMul → ZE, reduceEqDiff → ZF, reduceLeDiff → ZG, reduceLT → ZH
open Int renaming reduceLT → ZI, reduceLE → ZJ, reduceToNat → ZK
def tRe := aa wX <| aa T3 <| aa T4 <| aa T9 <| aa T33 <| aa T75 <| aa T77 T86
theorem expr_of (ts : List Tok) (hts : ts.length ≤ 2048) (k : Nat) (hk : k ≤ ts.length) (b : Bool) (n : Int)
 (hF : ∀ b', RCalls 70 [] ts k b' (ExR ts k b'))
 (hE : ∀ k' b' (n : Int), k < k' → k' ≤ ts.length → RCalls 53 [intV .i64 n] ts k' b' (ExR ts k' b')) :
 RCalls 53 [intV .i64 n] ts k b (ExR ts k b) := by
 refine RCalls.of rfl ?_
 refine acalls_of cx_ok dr_ok Try.func53 (by kernel_rfl) rfl (nt := 90) (rs := [.cell 4 86]) rfl rfl ?_
 simp only [↓wBA, tRe, convA, ZA, reduceIte, reduceCtorEq, ZB, ZC, ZD, ZE, ZF, ZG, ZH, ZI, ZJ, ZK]
 cases hN : decide (n < 3)
 ·skip
  simp only [↓wBA, tRe, convA, ZA, reduceIte, reduceCtorEq, ZB, ZC, ZD, ZE, ZF, ZG, ZH, ZI, ZJ, ZK, hN]
  refine (hF _ _ 0 rfl).mono ?_
  rintro _ _ ⟨k2, b2, ⟨⟨x, rfl, hx⟩, g1, g2, g3⟩, rfl⟩
  rcases x with ⟨kd, vk, vn, vs, tb, nm, sl, kids⟩
  simp only [exA, exC, rdO, intV, boolV, List.map_cons, List.map_nil]
  simp only [↓wBA, tRe, convA, ZA, reduceIte, reduceCtorEq, ZB, ZC, ZD, ZE, ZF, ZG, ZH, ZI, ZJ, ZK]
  refine awp_loop' (X := { q : Nat × Bool × Ex × Bool // k ≤ q.1 ∧ q.1 ≤ ts.length ∧ (q.2.1 = false → b = false ∧ k < q.1) ∧ okE q.2.2.1 }) (fun q => ([.mp 0 3 0 0, intV .i64 n, .any, .any, .mp 1 8 0 0, .mp 2 8 0 0, boolV q.1.2.2.2, .any, .any, .any, .any, .any, .any, .any, .any, .any, .any, .any, .any, .any, .any, .any, .any, .any, .any, .any, .any, .any, .any, .any, .any, .any, .any, .any, .any, .any, .any, .any, .any, .any, .any, .any, .any, .any, .any, .any, .any, .any, .any, .any, .any, .any, .any, .any, .any, .any, .any, .any, .any, .any, .any, .any, .any, .any, .any, .any, .any, .any, .any, .any, .any, .any, .any, .any, .any, .any, .any, .any, .any, .any, .any, .any, .any, .any, .any, .any, .any, .any, .any, .any, .any, .any], [some (rdO ts q.1.1 q.1.2.1), some (.row 8 [[.p (.v (.int .i64 0)), .p (.v (.int .i64 0)), .p (.v (.int .i64 0)), .p (.v (.string ⟨#[]⟩)), .p (.v (.string ⟨#[]⟩)), .p (.v (.string ⟨#[]⟩)), .p (.v (.int .i64 0)), .p (.v (.slice none 0 0))]]), some (.row 8 [(exC q.1.2.2.1).map .p])])) (fun q => ts.length - q.1.1) ⟨(k2, b2, .mk kd vk vn vs tb nm sl kids, false), by omega, by omega, fun h => g3 h, hx⟩ (fun q => by simp) ?_ ?_
  ·simp [WeakE, Weak, leL, leT, leM, leG, leA, leC, leR, leS, leO, tokLt, tokLtL, intV, boolV, exC, exL, leaf, nilA, rdO, emp]
  ·rintro ⟨⟨k1, b1, ⟨kd, vk, vn, vs, tb, nm, sl, kids⟩, c⟩, h1, h2, h3, hx⟩
   simp only at h1 h2 h3 hx
   simp only [exC, rdO, intV, boolV, List.map_cons, List.map_nil]
   cases b1
   ·skip
    simp only [↓wBA, tRe, convA, ZA, reduceIte, reduceCtorEq, ZB, ZC, ZD, ZE, ZF, ZG, ZH, ZI, ZJ, ZK]
    refine (abinary ts k1 false _ 0 rfl).mono ?_
    rintro _ _ ⟨k2, b2, ⟨rfl, rfl, ki, bd, rfl, hki⟩, rfl⟩
    simp only [rdO, intV, boolV]
    cases hP : decide (ki > 0)
    ·cases hK : (ki == 0)
     ·skip
      simp only [↓wBA, tRe, convA, ZA, reduceIte, reduceCtorEq, ZB, ZC, ZD, ZE, ZF, ZG, ZH, ZI, ZJ, ZK, hP, hK]
      exact ret_rdW (k' := k2) (b' := false) (exA (.mk kd vk vn vs tb nm sl kids)) (.inl rfl) rfl (by simp [leT, leG, leC, leA, exA, exC, exL, ex0, emp, leaf, tokLt, nilA]) (exA_tok _) (exA_frz _) ⟨⟨_, rfl, hx⟩, h1, h2, h3⟩
     ·cases hN4 : decide (n < 4)
      ·skip
       simp only [↓wBA, tRe, convA, ZA, reduceIte, reduceCtorEq, ZB, ZC, ZD, ZE, ZF, ZG, ZH, ZI, ZJ, ZK, hP, hK, hN4]
       exact ret_rdW (k' := k2) (b' := false) (exA (.mk kd vk vn vs tb nm sl kids)) (.inl rfl) rfl (by simp [leT, leG, leC, leA, exA, exC, exL, ex0, emp, leaf, tokLt, nilA]) (exA_tok _) (exA_frz _) ⟨⟨_, rfl, hx⟩, h1, h2, h3⟩
      ·cases c
       ·skip
        simp only [↓wBA, tRe, convA, ZA, reduceIte, reduceCtorEq, ZB, ZC, ZD, ZE, ZF, ZG, ZH, ZI, ZJ, ZK, hP, hK, hN4]
        refine (aRword _ ts hts _ _ _ 0 rfl).mono ?_
        rintro _ _ ⟨k3, b3, ⟨rfl, v, rfl, e1, e2⟩, rfl⟩
        simp only [rdO, intV, boolV]
        cases v
        ·obtain rfl := e2 rfl
         simp only [↓wBA, tRe, convA, ZA, reduceIte, reduceCtorEq, ZB, ZC, ZD, ZE, ZF, ZG, ZH, ZI, ZJ, ZK]
         exact ret_rdW (k' := k3) (b' := false) (exA (.mk kd vk vn vs tb nm sl kids)) (.inl rfl) rfl (by simp [leT, leG, leC, leA, exA, exC, exL, ex0, emp, leaf, tokLt, nilA]) (exA_tok _) (exA_frz _) ⟨⟨_, rfl, hx⟩, h1, h2, h3⟩
        ·obtain ⟨_, rfl, e3⟩ := e1 rfl
         simp only [↓wBA, tRe, convA, ZA, reduceIte, reduceCtorEq, ZB, ZC, ZD, ZE, ZF, ZG, ZH, ZI, ZJ, ZK]
         refine (aRword _ ts hts _ _ _ 0 rfl).mono ?_
         rintro _ _ ⟨k4, b4, ⟨rfl, v, rfl, e4, e5⟩, rfl⟩
         simp only [rdO, intV, boolV]
         have hk4 : k2 + 1 ≤ k4 ∧ k4 ≤ ts.length := by cases v <;> simp_all <;> omega
         cases v
         ·skip
          simp only [↓wBA, tRe, convA, ZA, reduceIte, reduceCtorEq, ZB, ZC, ZD, ZE, ZF, ZG, ZH, ZI, ZJ, ZK]
          refine (awant 1 (by decide) _ ts hts _ hk4.2 _ _ 0 rfl).mono ?_
          rintro _ _ ⟨k5, b5, ⟨rfl, m1, m2, m3⟩, rfl⟩
          simp only [rdO, intV, boolV]
          simp only [↓wBA, tRe, convA, ZA, reduceIte, reduceCtorEq, ZB, ZC, ZD, ZE, ZF, ZG, ZH, ZI, ZJ, ZK]
          refine ⟨⟨(k5, b5, .mk 18 0 0 emp emp emp 0 [.mk kd vk vn vs tb nm sl kids], true), by omega, by omega, fun h => ⟨(h3 rfl).1, by omega⟩, okE_mk1 hx⟩, by show ts.length - k5 < ts.length - k2; omega, ?_⟩
          simp [WeakE, Weak, leL, leT, leM, leG, leA, leC, leR, leS, leO, tokLt, tokLtL, intV, boolV, exC, exL, leaf, nilA, rdO, emp]
         ·skip
          simp only [↓wBA, tRe, convA, ZA, reduceIte, reduceCtorEq, ZB, ZC, ZD, ZE, ZF, ZG, ZH, ZI, ZJ, ZK]
          refine (awant 1 (by decide) _ ts hts _ hk4.2 _ _ 0 rfl).mono ?_
          rintro _ _ ⟨k5, b5, ⟨rfl, m1, m2, m3⟩, rfl⟩
          simp only [rdO, intV, boolV]
          simp only [↓wBA, tRe, convA, ZA, reduceIte, reduceCtorEq, ZB, ZC, ZD, ZE, ZF, ZG, ZH, ZI, ZJ, ZK]
          refine ⟨⟨(k5, b5, .mk 19 0 0 emp emp emp 0 [.mk kd vk vn vs tb nm sl kids], true), by omega, by omega, fun h => ⟨(h3 rfl).1, by omega⟩, okE_mk1 hx⟩, by show ts.length - k5 < ts.length - k2; omega, ?_⟩
          simp [WeakE, Weak, leL, leT, leM, leG, leA, leC, leR, leS, leO, tokLt, tokLtL, intV, boolV, exC, exL, leaf, nilA, rdO, emp]
       ·skip
        simp only [↓wBA, tRe, convA, ZA, reduceIte, reduceCtorEq, ZB, ZC, ZD, ZE, ZF, ZG, ZH, ZI, ZJ, ZK, hP, hK, hN4]
        exact ret_rdW (k' := k2) (b' := false) (exA (.mk kd vk vn vs tb nm sl kids)) (.inl rfl) rfl (by simp [leT, leG, leC, leA, exA, exC, exL, ex0, emp, leaf, tokLt, nilA]) (exA_tok _) (exA_frz _) ⟨⟨_, rfl, hx⟩, h1, h2, h3⟩
    ·have hK : (ki == 0) = false := by simp at hP; simp; omega
     obtain ⟨_, hlt⟩ := hki (by simpa using hP)
     cases hQ : decide (bd > n)
     ·skip
      simp only [↓wBA, tRe, convA, ZA, reduceIte, reduceCtorEq, ZB, ZC, ZD, ZE, ZF, ZG, ZH, ZI, ZJ, ZK, hP, hQ, hK]
      exact ret_rdW (k' := k2) (b' := false) (exA (.mk kd vk vn vs tb nm sl kids)) (.inl rfl) rfl (by simp [leT, leG, leC, leA, exA, exC, exL, ex0, emp, leaf, tokLt, nilA]) (exA_tok _) (exA_frz _) ⟨⟨_, rfl, hx⟩, h1, h2, h3⟩
     ·cases c
      ·have hR : True = True := rfl
       have hw := wI k2 (by omega)
       simp only [↓wBA, tRe, convA, ZA, reduceIte, reduceCtorEq, ZB, ZC, ZD, ZE, ZF, ZG, ZH, ZI, ZJ, ZK, hP, hQ, hw]
       refine (hE _ _ _ (by omega) (by omega) _ 0 rfl).mono ?_
       rintro _ _ ⟨k4, b4, ⟨⟨y, rfl, hy⟩, g1, g2, g3⟩, rfl⟩
       rcases y with ⟨kd', vk', vn', vs', tb', nm', sl', kids'⟩
       simp only [exA, exC, rdO, intV, boolV, List.map_cons, List.map_nil]
       simp only [↓wBA, tRe, convA, ZA, reduceIte, reduceCtorEq, ZB, ZC, ZD, ZE, ZF, ZG, ZH, ZI, ZJ, ZK, hP, hQ]
       refine ⟨⟨(k4, b4, .mk ki 0 0 emp emp emp 0 [.mk kd vk vn vs tb nm sl kids, .mk kd' vk' vn' vs' tb' nm' sl' kids'], decide (bd ≤ 4)), by omega, by omega, fun h => ⟨(h3 rfl).1, by omega⟩, okE_mk2 hx hy⟩, by show ts.length - k4 < ts.length - k2; omega, ?_⟩
       simp [WeakE, Weak, leL, leT, leM, leG, leA, leC, leR, leS, leO, tokLt, tokLtL, intV, boolV, exC, exL, leaf, nilA, rdO, emp]
      ·cases hR : decide (bd ≥ 4)
       ·skip
        have hw := wI k2 (by omega)
        simp only [↓wBA, tRe, convA, ZA, reduceIte, reduceCtorEq, ZB, ZC, ZD, ZE, ZF, ZG, ZH, ZI, ZJ, ZK, hP, hQ, hR, hw]
        refine (hE _ _ _ (by omega) (by omega) _ 0 rfl).mono ?_
        rintro _ _ ⟨k4, b4, ⟨⟨y, rfl, hy⟩, g1, g2, g3⟩, rfl⟩
        rcases y with ⟨kd', vk', vn', vs', tb', nm', sl', kids'⟩
        simp only [exA, exC, rdO, intV, boolV, List.map_cons, List.map_nil]
        simp only [↓wBA, tRe, convA, ZA, reduceIte, reduceCtorEq, ZB, ZC, ZD, ZE, ZF, ZG, ZH, ZI, ZJ, ZK, hP, hQ, hR]
        refine ⟨⟨(k4, b4, .mk ki 0 0 emp emp emp 0 [.mk kd vk vn vs tb nm sl kids, .mk kd' vk' vn' vs' tb' nm' sl' kids'], true), by omega, by omega, fun h => ⟨(h3 rfl).1, by omega⟩, okE_mk2 hx hy⟩, by show ts.length - k4 < ts.length - k2; omega, ?_⟩
        simp [WeakE, Weak, leL, leT, leM, leG, leA, leC, leR, leS, leO, tokLt, tokLtL, intV, boolV, exC, exL, leaf, nilA, rdO, emp]
       ·skip
        simp only [↓wBA, tRe, convA, ZA, reduceIte, reduceCtorEq, ZB, ZC, ZD, ZE, ZF, ZG, ZH, ZI, ZJ, ZK, hP, hQ, hR, hK]
        exact ret_rdW (k' := k2) (b' := false) (exA (.mk kd vk vn vs tb nm sl kids)) (.inl rfl) rfl (by simp [leT, leG, leC, leA, exA, exC, exL, ex0, emp, leaf, tokLt, nilA]) (exA_tok _) (exA_frz _) ⟨⟨_, rfl, hx⟩, h1, h2, h3⟩
   ·skip
    simp only [↓wBA, tRe, convA, ZA, reduceIte, reduceCtorEq, ZB, ZC, ZD, ZE, ZF, ZG, ZH, ZI, ZJ, ZK]
    exact ret_rdW (k' := k1) (b' := true) (exA (.mk kd vk vn vs tb nm sl kids)) (.inl rfl) rfl (by simp [leT, leG, leC, leA, exA, exC, exL, ex0, emp, leaf, tokLt, nilA]) (exA_tok _) (exA_frz _) ⟨⟨_, rfl, hx⟩, h1, h2, h3⟩
 ·skip
  simp only [↓wBA, tRe, convA, ZA, reduceIte, reduceCtorEq, ZB, ZC, ZD, ZE, ZF, ZG, ZH, ZI, ZJ, ZK, hN]
  refine (aRword _ ts hts _ _ _ 0 rfl).mono ?_
  rintro _ _ ⟨k0, b0, ⟨hb0, v, rfl, e1, e2⟩, rfl⟩
  have hb0' := hb0.symm
  subst hb0'
  simp only [rdO, intV, boolV]
  cases v
  ·have hk0 := (e2 rfl).symm
   subst hk0
   simp only [↓wBA, tRe, convA, ZA, reduceIte, reduceCtorEq, ZB, ZC, ZD, ZE, ZF, ZG, ZH, ZI, ZJ, ZK, hN]
   refine (hF _ _ 0 rfl).mono ?_
   rintro _ _ ⟨k2, b2, ⟨⟨x, rfl, hx⟩, g1, g2, g3⟩, rfl⟩
   rcases x with ⟨kd, vk, vn, vs, tb, nm, sl, kids⟩
   simp only [exA, exC, rdO, intV, boolV, List.map_cons, List.map_nil]
   simp only [↓wBA, tRe, convA, ZA, reduceIte, reduceCtorEq, ZB, ZC, ZD, ZE, ZF, ZG, ZH, ZI, ZJ, ZK]
   refine awp_loop' (X := { q : Nat × Bool × Ex × Bool // k ≤ q.1 ∧ q.1 ≤ ts.length ∧ (q.2.1 = false → b = false ∧ k < q.1) ∧ okE q.2.2.1 }) (fun q => ([.mp 0 3 0 0, intV .i64 n, .any, .any, .mp 1 8 0 0, .mp 2 8 0 0, boolV q.1.2.2.2, .any, .any, .any, .any, .any, .any, .any, .any, .any, .any, .any, .any, .any, .any, .any, .any, .any, .any, .any, .any, .any, .any, .any, .any, .any, .any, .any, .any, .any, .any, .any, .any, .any, .any, .any, .any, .any, .any, .any, .any, .any, .any, .any, .any, .any, .any, .any, .any, .any, .any, .any, .any, .any, .any, .any, .any, .any, .any, .any, .any, .any, .any, .any, .any, .any, .any, .any, .any, .any, .any, .any, .any, .any, .any, .any, .any, .any, .any, .any, .any, .any, .any, .any, .any, .any], [some (rdO ts q.1.1 q.1.2.1), some (.row 8 [[.p (.v (.int .i64 0)), .p (.v (.int .i64 0)), .p (.v (.int .i64 0)), .p (.v (.string ⟨#[]⟩)), .p (.v (.string ⟨#[]⟩)), .p (.v (.string ⟨#[]⟩)), .p (.v (.int .i64 0)), .p (.v (.slice none 0 0))]]), some (.row 8 [(exC q.1.2.2.1).map .p])])) (fun q => ts.length - q.1.1) ⟨(k2, b2, .mk kd vk vn vs tb nm sl kids, false), by omega, by omega, fun h => g3 h, hx⟩ (fun q => by simp) ?_ ?_
   ·simp [WeakE, Weak, leL, leT, leM, leG, leA, leC, leR, leS, leO, tokLt, tokLtL, intV, boolV, exC, exL, leaf, nilA, rdO, emp]
   ·rintro ⟨⟨k1, b1, ⟨kd, vk, vn, vs, tb, nm, sl, kids⟩, c⟩, h1, h2, h3, hx⟩
    simp only at h1 h2 h3 hx
    simp only [exC, rdO, intV, boolV, List.map_cons, List.map_nil]
    cases b1
    ·skip
     simp only [↓wBA, tRe, convA, ZA, reduceIte, reduceCtorEq, ZB, ZC, ZD, ZE, ZF, ZG, ZH, ZI, ZJ, ZK]
     refine (abinary ts k1 false _ 0 rfl).mono ?_
     rintro _ _ ⟨k2, b2, ⟨rfl, rfl, ki, bd, rfl, hki⟩, rfl⟩
     simp only [rdO, intV, boolV]
     cases hP : decide (ki > 0)
     ·cases hK : (ki == 0)
      ·skip
       simp only [↓wBA, tRe, convA, ZA, reduceIte, reduceCtorEq, ZB, ZC, ZD, ZE, ZF, ZG, ZH, ZI, ZJ, ZK, hP, hK]
       exact ret_rdW (k' := k2) (b' := false) (exA (.mk kd vk vn vs tb nm sl kids)) (.inl rfl) rfl (by simp [leT, leG, leC, leA, exA, exC, exL, ex0, emp, leaf, tokLt, nilA]) (exA_tok _) (exA_frz _) ⟨⟨_, rfl, hx⟩, h1, h2, h3⟩
      ·cases hN4 : decide (n < 4)
       ·skip
        simp only [↓wBA, tRe, convA, ZA, reduceIte, reduceCtorEq, ZB, ZC, ZD, ZE, ZF, ZG, ZH, ZI, ZJ, ZK, hP, hK, hN4]
        exact ret_rdW (k' := k2) (b' := false) (exA (.mk kd vk vn vs tb nm sl kids)) (.inl rfl) rfl (by simp [leT, leG, leC, leA, exA, exC, exL, ex0, emp, leaf, tokLt, nilA]) (exA_tok _) (exA_frz _) ⟨⟨_, rfl, hx⟩, h1, h2, h3⟩
       ·cases c
        ·skip
         simp only [↓wBA, tRe, convA, ZA, reduceIte, reduceCtorEq, ZB, ZC, ZD, ZE, ZF, ZG, ZH, ZI, ZJ, ZK, hP, hK, hN4]
         refine (aRword _ ts hts _ _ _ 0 rfl).mono ?_
         rintro _ _ ⟨k3, b3, ⟨rfl, v, rfl, e1, e2⟩, rfl⟩
         simp only [rdO, intV, boolV]
         cases v
         ·obtain rfl := e2 rfl
          simp only [↓wBA, tRe, convA, ZA, reduceIte, reduceCtorEq, ZB, ZC, ZD, ZE, ZF, ZG, ZH, ZI, ZJ, ZK]
          exact ret_rdW (k' := k3) (b' := false) (exA (.mk kd vk vn vs tb nm sl kids)) (.inl rfl) rfl (by simp [leT, leG, leC, leA, exA, exC, exL, ex0, emp, leaf, tokLt, nilA]) (exA_tok _) (exA_frz _) ⟨⟨_, rfl, hx⟩, h1, h2, h3⟩
         ·obtain ⟨_, rfl, e3⟩ := e1 rfl
          simp only [↓wBA, tRe, convA, ZA, reduceIte, reduceCtorEq, ZB, ZC, ZD, ZE, ZF, ZG, ZH, ZI, ZJ, ZK]
          refine (aRword _ ts hts _ _ _ 0 rfl).mono ?_
          rintro _ _ ⟨k4, b4, ⟨rfl, v, rfl, e4, e5⟩, rfl⟩
          simp only [rdO, intV, boolV]
          have hk4 : k2 + 1 ≤ k4 ∧ k4 ≤ ts.length := by cases v <;> simp_all <;> omega
          cases v
          ·skip
           simp only [↓wBA, tRe, convA, ZA, reduceIte, reduceCtorEq, ZB, ZC, ZD, ZE, ZF, ZG, ZH, ZI, ZJ, ZK]
           refine (awant 1 (by decide) _ ts hts _ hk4.2 _ _ 0 rfl).mono ?_
           rintro _ _ ⟨k5, b5, ⟨rfl, m1, m2, m3⟩, rfl⟩
           simp only [rdO, intV, boolV]
           simp only [↓wBA, tRe, convA, ZA, reduceIte, reduceCtorEq, ZB, ZC, ZD, ZE, ZF, ZG, ZH, ZI, ZJ, ZK]
           refine ⟨⟨(k5, b5, .mk 18 0 0 emp emp emp 0 [.mk kd vk vn vs tb nm sl kids], true), by omega, by omega, fun h => ⟨(h3 rfl).1, by omega⟩, okE_mk1 hx⟩, by show ts.length - k5 < ts.length - k2; omega, ?_⟩
           simp [WeakE, Weak, leL, leT, leM, leG, leA, leC, leR, leS, leO, tokLt, tokLtL, intV, boolV, exC, exL, leaf, nilA, rdO, emp]
          ·skip
           simp only [↓wBA, tRe, convA, ZA, reduceIte, reduceCtorEq, ZB, ZC, ZD, ZE, ZF, ZG, ZH, ZI, ZJ, ZK]
           refine (awant 1 (by decide) _ ts hts _ hk4.2 _ _ 0 rfl).mono ?_
           rintro _ _ ⟨k5, b5, ⟨rfl, m1, m2, m3⟩, rfl⟩
           simp only [rdO, intV, boolV]
           simp only [↓wBA, tRe, convA, ZA, reduceIte, reduceCtorEq, ZB, ZC, ZD, ZE, ZF, ZG, ZH, ZI, ZJ, ZK]
           refine ⟨⟨(k5, b5, .mk 19 0 0 emp emp emp 0 [.mk kd vk vn vs tb nm sl kids], true), by omega, by omega, fun h => ⟨(h3 rfl).1, by omega⟩, okE_mk1 hx⟩, by show ts.length - k5 < ts.length - k2; omega, ?_⟩
           simp [WeakE, Weak, leL, leT, leM, leG, leA, leC, leR, leS, leO, tokLt, tokLtL, intV, boolV, exC, exL, leaf, nilA, rdO, emp]
        ·skip
         simp only [↓wBA, tRe, convA, ZA, reduceIte, reduceCtorEq, ZB, ZC, ZD, ZE, ZF, ZG, ZH, ZI, ZJ, ZK, hP, hK, hN4]
         exact ret_rdW (k' := k2) (b' := false) (exA (.mk kd vk vn vs tb nm sl kids)) (.inl rfl) rfl (by simp [leT, leG, leC, leA, exA, exC, exL, ex0, emp, leaf, tokLt, nilA]) (exA_tok _) (exA_frz _) ⟨⟨_, rfl, hx⟩, h1, h2, h3⟩
     ·have hK : (ki == 0) = false := by simp at hP; simp; omega
      obtain ⟨_, hlt⟩ := hki (by simpa using hP)
      cases hQ : decide (bd > n)
      ·skip
       simp only [↓wBA, tRe, convA, ZA, reduceIte, reduceCtorEq, ZB, ZC, ZD, ZE, ZF, ZG, ZH, ZI, ZJ, ZK, hP, hQ, hK]
       exact ret_rdW (k' := k2) (b' := false) (exA (.mk kd vk vn vs tb nm sl kids)) (.inl rfl) rfl (by simp [leT, leG, leC, leA, exA, exC, exL, ex0, emp, leaf, tokLt, nilA]) (exA_tok _) (exA_frz _) ⟨⟨_, rfl, hx⟩, h1, h2, h3⟩
      ·cases c
       ·have hR : True = True := rfl
        have hw := wI k2 (by omega)
        simp only [↓wBA, tRe, convA, ZA, reduceIte, reduceCtorEq, ZB, ZC, ZD, ZE, ZF, ZG, ZH, ZI, ZJ, ZK, hP, hQ, hw]
        refine (hE _ _ _ (by omega) (by omega) _ 0 rfl).mono ?_
        rintro _ _ ⟨k4, b4, ⟨⟨y, rfl, hy⟩, g1, g2, g3⟩, rfl⟩
        rcases y with ⟨kd', vk', vn', vs', tb', nm', sl', kids'⟩
        simp only [exA, exC, rdO, intV, boolV, List.map_cons, List.map_nil]
        simp only [↓wBA, tRe, convA, ZA, reduceIte, reduceCtorEq, ZB, ZC, ZD, ZE, ZF, ZG, ZH, ZI, ZJ, ZK, hP, hQ]
        refine ⟨⟨(k4, b4, .mk ki 0 0 emp emp emp 0 [.mk kd vk vn vs tb nm sl kids, .mk kd' vk' vn' vs' tb' nm' sl' kids'], decide (bd ≤ 4)), by omega, by omega, fun h => ⟨(h3 rfl).1, by omega⟩, okE_mk2 hx hy⟩, by show ts.length - k4 < ts.length - k2; omega, ?_⟩
        simp [WeakE, Weak, leL, leT, leM, leG, leA, leC, leR, leS, leO, tokLt, tokLtL, intV, boolV, exC, exL, leaf, nilA, rdO, emp]
       ·cases hR : decide (bd ≥ 4)
        ·skip
         have hw := wI k2 (by omega)
         simp only [↓wBA, tRe, convA, ZA, reduceIte, reduceCtorEq, ZB, ZC, ZD, ZE, ZF, ZG, ZH, ZI, ZJ, ZK, hP, hQ, hR, hw]
         refine (hE _ _ _ (by omega) (by omega) _ 0 rfl).mono ?_
         rintro _ _ ⟨k4, b4, ⟨⟨y, rfl, hy⟩, g1, g2, g3⟩, rfl⟩
         rcases y with ⟨kd', vk', vn', vs', tb', nm', sl', kids'⟩
         simp only [exA, exC, rdO, intV, boolV, List.map_cons, List.map_nil]
         simp only [↓wBA, tRe, convA, ZA, reduceIte, reduceCtorEq, ZB, ZC, ZD, ZE, ZF, ZG, ZH, ZI, ZJ, ZK, hP, hQ, hR]
         refine ⟨⟨(k4, b4, .mk ki 0 0 emp emp emp 0 [.mk kd vk vn vs tb nm sl kids, .mk kd' vk' vn' vs' tb' nm' sl' kids'], true), by omega, by omega, fun h => ⟨(h3 rfl).1, by omega⟩, okE_mk2 hx hy⟩, by show ts.length - k4 < ts.length - k2; omega, ?_⟩
         simp [WeakE, Weak, leL, leT, leM, leG, leA, leC, leR, leS, leO, tokLt, tokLtL, intV, boolV, exC, exL, leaf, nilA, rdO, emp]
        ·skip
         simp only [↓wBA, tRe, convA, ZA, reduceIte, reduceCtorEq, ZB, ZC, ZD, ZE, ZF, ZG, ZH, ZI, ZJ, ZK, hP, hQ, hR, hK]
         exact ret_rdW (k' := k2) (b' := false) (exA (.mk kd vk vn vs tb nm sl kids)) (.inl rfl) rfl (by simp [leT, leG, leC, leA, exA, exC, exL, ex0, emp, leaf, tokLt, nilA]) (exA_tok _) (exA_frz _) ⟨⟨_, rfl, hx⟩, h1, h2, h3⟩
    ·skip
     simp only [↓wBA, tRe, convA, ZA, reduceIte, reduceCtorEq, ZB, ZC, ZD, ZE, ZF, ZG, ZH, ZI, ZJ, ZK]
     exact ret_rdW (k' := k1) (b' := true) (exA (.mk kd vk vn vs tb nm sl kids)) (.inl rfl) rfl (by simp [leT, leG, leC, leA, exA, exC, exL, ex0, emp, leaf, tokLt, nilA]) (exA_tok _) (exA_frz _) ⟨⟨_, rfl, hx⟩, h1, h2, h3⟩
  ·obtain ⟨hbf, rfl, e3⟩ := e1 rfl
   simp only [↓wBA, tRe, convA, ZA, reduceIte, reduceCtorEq, ZB, ZC, ZD, ZE, ZF, ZG, ZH, ZI, ZJ, ZK]
   refine (hE _ _ _ (by omega) (by omega) _ 0 rfl).mono ?_
   rintro _ _ ⟨k2, b2, ⟨⟨x, rfl, hx⟩, g1, g2, g3⟩, rfl⟩
   rcases x with ⟨kd, vk, vn, vs, tb, nm, sl, kids⟩
   simp only [exA, exC, rdO, intV, boolV, List.map_cons, List.map_nil]
   simp only [↓wBA, tRe, convA, ZA, reduceIte, reduceCtorEq, ZB, ZC, ZD, ZE, ZF, ZG, ZH, ZI, ZJ, ZK]
   refine awp_loop' (X := { q : Nat × Bool × Ex × Bool // k ≤ q.1 ∧ q.1 ≤ ts.length ∧ (q.2.1 = false → b = false ∧ k < q.1) ∧ okE q.2.2.1 }) (fun q => ([.mp 0 3 0 0, intV .i64 n, .any, .any, .mp 1 8 0 0, .mp 2 8 0 0, boolV q.1.2.2.2, .any, .any, .any, .any, .any, .any, .any, .any, .any, .any, .any, .any, .any, .any, .any, .any, .any, .any, .any, .any, .any, .any, .any, .any, .any, .any, .any, .any, .any, .any, .any, .any, .any, .any, .any, .any, .any, .any, .any, .any, .any, .any, .any, .any, .any, .any, .any, .any, .any, .any, .any, .any, .any, .any, .any, .any, .any, .any, .any, .any, .any, .any, .any, .any, .any, .any, .any, .any, .any, .any, .any, .any, .any, .any, .any, .any, .any, .any, .any, .any, .any, .any, .any, .any, .any], [some (rdO ts q.1.1 q.1.2.1), some (.row 8 [[.p (.v (.int .i64 0)), .p (.v (.int .i64 0)), .p (.v (.int .i64 0)), .p (.v (.string ⟨#[]⟩)), .p (.v (.string ⟨#[]⟩)), .p (.v (.string ⟨#[]⟩)), .p (.v (.int .i64 0)), .p (.v (.slice none 0 0))]]), some (.row 8 [(exC q.1.2.2.1).map .p]), none])) (fun q => ts.length - q.1.1) ⟨(k2, b2, .mk 4 0 0 emp emp emp 0 [.mk kd vk vn vs tb nm sl kids], true), by omega, by omega, fun h => ⟨hbf, by omega⟩, okE_mk1 hx⟩ (fun q => by simp) ?_ ?_
   ·simp [WeakE, Weak, leL, leT, leM, leG, leA, leC, leR, leS, leO, tokLt, tokLtL, intV, boolV, exC, exL, leaf, nilA, rdO, emp]
   ·rintro ⟨⟨k1, b1, ⟨kd, vk, vn, vs, tb, nm, sl, kids⟩, c⟩, h1, h2, h3, hx⟩
    simp only at h1 h2 h3 hx
    simp only [exC, rdO, intV, boolV, List.map_cons, List.map_nil]
    cases b1
    ·skip
     simp only [↓wBA, tRe, convA, ZA, reduceIte, reduceCtorEq, ZB, ZC, ZD, ZE, ZF, ZG, ZH, ZI, ZJ, ZK]
     refine (abinary ts k1 false _ 0 rfl).mono ?_
     rintro _ _ ⟨k2, b2, ⟨rfl, rfl, ki, bd, rfl, hki⟩, rfl⟩
     simp only [rdO, intV, boolV]
     cases hP : decide (ki > 0)
     ·cases hK : (ki == 0)
      ·skip
       simp only [↓wBA, tRe, convA, ZA, reduceIte, reduceCtorEq, ZB, ZC, ZD, ZE, ZF, ZG, ZH, ZI, ZJ, ZK, hP, hK]
       exact ret_rdW (k' := k2) (b' := false) (exA (.mk kd vk vn vs tb nm sl kids)) (.inl rfl) rfl (by simp [leT, leG, leC, leA, exA, exC, exL, ex0, emp, leaf, tokLt, nilA]) (exA_tok _) (exA_frz _) ⟨⟨_, rfl, hx⟩, h1, h2, h3⟩
      ·cases hN4 : decide (n < 4)
       ·skip
        simp only [↓wBA, tRe, convA, ZA, reduceIte, reduceCtorEq, ZB, ZC, ZD, ZE, ZF, ZG, ZH, ZI, ZJ, ZK, hP, hK, hN4]
        exact ret_rdW (k' := k2) (b' := false) (exA (.mk kd vk vn vs tb nm sl kids)) (.inl rfl) rfl (by simp [leT, leG, leC, leA, exA, exC, exL, ex0, emp, leaf, tokLt, nilA]) (exA_tok _) (exA_frz _) ⟨⟨_, rfl, hx⟩, h1, h2, h3⟩
       ·cases c
        ·skip
         simp only [↓wBA, tRe, convA, ZA, reduceIte, reduceCtorEq, ZB, ZC, ZD, ZE, ZF, ZG, ZH, ZI, ZJ, ZK, hP, hK, hN4]
         refine (aRword _ ts hts _ _ _ 0 rfl).mono ?_
         rintro _ _ ⟨k3, b3, ⟨rfl, v, rfl, e1, e2⟩, rfl⟩
         simp only [rdO, intV, boolV]
         cases v
         ·obtain rfl := e2 rfl
          simp only [↓wBA, tRe, convA, ZA, reduceIte, reduceCtorEq, ZB, ZC, ZD, ZE, ZF, ZG, ZH, ZI, ZJ, ZK]
          exact ret_rdW (k' := k3) (b' := false) (exA (.mk kd vk vn vs tb nm sl kids)) (.inl rfl) rfl (by simp [leT, leG, leC, leA, exA, exC, exL, ex0, emp, leaf, tokLt, nilA]) (exA_tok _) (exA_frz _) ⟨⟨_, rfl, hx⟩, h1, h2, h3⟩
         ·obtain ⟨_, rfl, e3⟩ := e1 rfl
          simp only [↓wBA, tRe, convA, ZA, reduceIte, reduceCtorEq, ZB, ZC, ZD, ZE, ZF, ZG, ZH, ZI, ZJ, ZK]
          refine (aRword _ ts hts _ _ _ 0 rfl).mono ?_
          rintro _ _ ⟨k4, b4, ⟨rfl, v, rfl, e4, e5⟩, rfl⟩
          simp only [rdO, intV, boolV]
          have hk4 : k2 + 1 ≤ k4 ∧ k4 ≤ ts.length := by cases v <;> simp_all <;> omega
          cases v
          ·skip
           simp only [↓wBA, tRe, convA, ZA, reduceIte, reduceCtorEq, ZB, ZC, ZD, ZE, ZF, ZG, ZH, ZI, ZJ, ZK]
           refine (awant 1 (by decide) _ ts hts _ hk4.2 _ _ 0 rfl).mono ?_
           rintro _ _ ⟨k5, b5, ⟨rfl, m1, m2, m3⟩, rfl⟩
           simp only [rdO, intV, boolV]
           simp only [↓wBA, tRe, convA, ZA, reduceIte, reduceCtorEq, ZB, ZC, ZD, ZE, ZF, ZG, ZH, ZI, ZJ, ZK]
           refine ⟨⟨(k5, b5, .mk 18 0 0 emp emp emp 0 [.mk kd vk vn vs tb nm sl kids], true), by omega, by omega, fun h => ⟨(h3 rfl).1, by omega⟩, okE_mk1 hx⟩, by show ts.length - k5 < ts.length - k2; omega, ?_⟩
           simp [WeakE, Weak, leL, leT, leM, leG, leA, leC, leR, leS, leO, tokLt, tokLtL, intV, boolV, exC, exL, leaf, nilA, rdO, emp]
          ·skip
           simp only [↓wBA, tRe, convA, ZA, reduceIte, reduceCtorEq, ZB, ZC, ZD, ZE, ZF, ZG, ZH, ZI, ZJ, ZK]
           refine (awant 1 (by decide) _ ts hts _ hk4.2 _ _ 0 rfl).mono ?_
           rintro _ _ ⟨k5, b5, ⟨rfl, m1, m2, m3⟩, rfl⟩
           simp only [rdO, intV, boolV]
           simp only [↓wBA, tRe, convA, ZA, reduceIte, reduceCtorEq, ZB, ZC, ZD, ZE, ZF, ZG, ZH, ZI, ZJ, ZK]
           refine ⟨⟨(k5, b5, .mk 19 0 0 emp emp emp 0 [.mk kd vk vn vs tb nm sl kids], true), by omega, by omega, fun h => ⟨(h3 rfl).1, by omega⟩, okE_mk1 hx⟩, by show ts.length - k5 < ts.length - k2; omega, ?_⟩
           simp [WeakE, Weak, leL, leT, leM, leG, leA, leC, leR, leS, leO, tokLt, tokLtL, intV, boolV, exC, exL, leaf, nilA, rdO, emp]
        ·skip
         simp only [↓wBA, tRe, convA, ZA, reduceIte, reduceCtorEq, ZB, ZC, ZD, ZE, ZF, ZG, ZH, ZI, ZJ, ZK, hP, hK, hN4]
         exact ret_rdW (k' := k2) (b' := false) (exA (.mk kd vk vn vs tb nm sl kids)) (.inl rfl) rfl (by simp [leT, leG, leC, leA, exA, exC, exL, ex0, emp, leaf, tokLt, nilA]) (exA_tok _) (exA_frz _) ⟨⟨_, rfl, hx⟩, h1, h2, h3⟩
     ·have hK : (ki == 0) = false := by simp at hP; simp; omega
      obtain ⟨_, hlt⟩ := hki (by simpa using hP)
      cases hQ : decide (bd > n)
      ·skip
       simp only [↓wBA, tRe, convA, ZA, reduceIte, reduceCtorEq, ZB, ZC, ZD, ZE, ZF, ZG, ZH, ZI, ZJ, ZK, hP, hQ, hK]
       exact ret_rdW (k' := k2) (b' := false) (exA (.mk kd vk vn vs tb nm sl kids)) (.inl rfl) rfl (by simp [leT, leG, leC, leA, exA, exC, exL, ex0, emp, leaf, tokLt, nilA]) (exA_tok _) (exA_frz _) ⟨⟨_, rfl, hx⟩, h1, h2, h3⟩
      ·cases c
       ·have hR : True = True := rfl
        have hw := wI k2 (by omega)
        simp only [↓wBA, tRe, convA, ZA, reduceIte, reduceCtorEq, ZB, ZC, ZD, ZE, ZF, ZG, ZH, ZI, ZJ, ZK, hP, hQ, hw]
        refine (hE _ _ _ (by omega) (by omega) _ 0 rfl).mono ?_
        rintro _ _ ⟨k4, b4, ⟨⟨y, rfl, hy⟩, g1, g2, g3⟩, rfl⟩
        rcases y with ⟨kd', vk', vn', vs', tb', nm', sl', kids'⟩
        simp only [exA, exC, rdO, intV, boolV, List.map_cons, List.map_nil]
        simp only [↓wBA, tRe, convA, ZA, reduceIte, reduceCtorEq, ZB, ZC, ZD, ZE, ZF, ZG, ZH, ZI, ZJ, ZK, hP, hQ]
        refine ⟨⟨(k4, b4, .mk ki 0 0 emp emp emp 0 [.mk kd vk vn vs tb nm sl kids, .mk kd' vk' vn' vs' tb' nm' sl' kids'], decide (bd ≤ 4)), by omega, by omega, fun h => ⟨(h3 rfl).1, by omega⟩, okE_mk2 hx hy⟩, by show ts.length - k4 < ts.length - k2; omega, ?_⟩
        simp [WeakE, Weak, leL, leT, leM, leG, leA, leC, leR, leS, leO, tokLt, tokLtL, intV, boolV, exC, exL, leaf, nilA, rdO, emp]
       ·cases hR : decide (bd ≥ 4)
        ·skip
         have hw := wI k2 (by omega)
         simp only [↓wBA, tRe, convA, ZA, reduceIte, reduceCtorEq, ZB, ZC, ZD, ZE, ZF, ZG, ZH, ZI, ZJ, ZK, hP, hQ, hR, hw]
         refine (hE _ _ _ (by omega) (by omega) _ 0 rfl).mono ?_
         rintro _ _ ⟨k4, b4, ⟨⟨y, rfl, hy⟩, g1, g2, g3⟩, rfl⟩
         rcases y with ⟨kd', vk', vn', vs', tb', nm', sl', kids'⟩
         simp only [exA, exC, rdO, intV, boolV, List.map_cons, List.map_nil]
         simp only [↓wBA, tRe, convA, ZA, reduceIte, reduceCtorEq, ZB, ZC, ZD, ZE, ZF, ZG, ZH, ZI, ZJ, ZK, hP, hQ, hR]
         refine ⟨⟨(k4, b4, .mk ki 0 0 emp emp emp 0 [.mk kd vk vn vs tb nm sl kids, .mk kd' vk' vn' vs' tb' nm' sl' kids'], true), by omega, by omega, fun h => ⟨(h3 rfl).1, by omega⟩, okE_mk2 hx hy⟩, by show ts.length - k4 < ts.length - k2; omega, ?_⟩
         simp [WeakE, Weak, leL, leT, leM, leG, leA, leC, leR, leS, leO, tokLt, tokLtL, intV, boolV, exC, exL, leaf, nilA, rdO, emp]
        ·skip
         simp only [↓wBA, tRe, convA, ZA, reduceIte, reduceCtorEq, ZB, ZC, ZD, ZE, ZF, ZG, ZH, ZI, ZJ, ZK, hP, hQ, hR, hK]
         exact ret_rdW (k' := k2) (b' := false) (exA (.mk kd vk vn vs tb nm sl kids)) (.inl rfl) rfl (by simp [leT, leG, leC, leA, exA, exC, exL, ex0, emp, leaf, tokLt, nilA]) (exA_tok _) (exA_frz _) ⟨⟨_, rfl, hx⟩, h1, h2, h3⟩
    ·skip
     simp only [↓wBA, tRe, convA, ZA, reduceIte, reduceCtorEq, ZB, ZC, ZD, ZE, ZF, ZG, ZH, ZI, ZJ, ZK]
     exact ret_rdW (k' := k1) (b' := true) (exA (.mk kd vk vn vs tb nm sl kids)) (.inl rfl) rfl (by simp [leT, leG, leC, leA, exA, exC, exL, ex0, emp, leaf, tokLt, nilA]) (exA_tok _) (exA_frz _) ⟨⟨_, rfl, hx⟩, h1, h2, h3⟩
end Go.Proofs.Ytcnkmandddfdmaa
