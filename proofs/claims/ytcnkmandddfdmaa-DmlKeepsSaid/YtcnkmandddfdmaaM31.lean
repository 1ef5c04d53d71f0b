/- The reader's factors and expressions: whatever tokens come, an expression is read, or the reader is bad. -/
import Derived.Test.YtcnkmandddfdmaaM30
import Derived.Test.YtcnkmandddfdmaaM18
set_option linter.unusedSimpArgs false
set_option linter.unusedVariables false
set_option linter.defProp false
set_option maxRecDepth 100000
set_option maxHeartbeats 32000000
namespace Go.Proofs.Ytcnkmandddfdmaa
open Go.RowKit
open Nat renaming reduceBEq → ZA, reducePow → ZB, reduceAdd → ZC, reduceSub → ZD, reduceMul → ZE, reduceEqDiff → ZF, reduceLeDiff → ZG, reduceLT → ZH
open Int renaming reduceLT → ZI, reduceLE → ZJ, reduceToNat → ZK
def tRf := aa wX <| aa T2 <| aa T3 <| aa T4 <| aa T9 <| aa T33 <| aa T50 <| aa T75 <| aa T77 <| aa T86 <| aa T102 T155
theorem ret_rdW {C : Ctx} {fr : List AV} {ts : List Tok} {k' : Nat} {b' : Bool} {rest : St} {rs : List ResultVar} {R : AV → Nat → Bool → Prop} {r0 : AV} {e : Exit} (r1 : AV) (he : e = .ret ∨ e = .normal) (h1 : resA C rs fr (some (rdO ts k' b') :: rest) = some r0) (h2 : leT (some (rdO ts k' b') :: rest) 1 [some (rdO ts k' b')] r0 r1) (h3 : tokLt 0 r1 = true) (h4 : frzA r1 = r1) (h5 : R r1 k' b') :
 retA C rs 1 (fun r σ' => RdPost ts R (frzA r) σ') e fr (some (rdO ts k' b') :: rest) := by
 refine ⟨he, r0, r1, [some (rdO ts k' b')], h1, .inr ⟨?_, ?_⟩, by simp, k', b', by rw [h4]; exact h3, by rw [h4]; exact h5, rfl⟩
 ·have : min (some (rdO ts k' b') :: rest).length [some (rdO ts k' b')].length = 1 := by simp
  rw [this]; exact ⟨h2, trivial⟩
 ·simp [leS, rdO, leO, tokLtL, tokLt, intV, boolV]
def ExR (ts : List Tok) (k : Nat) (b : Bool) (r : AV) (k' : Nat) (b' : Bool) : Prop := (∃ x : Ex, r = exA x ∧ okE x) ∧ Adv ts k b k' b'
theorem exA_frz (x : Ex) : frzA (exA x) = exA x := by cases x; rfl
theorem exA_tok (x : Ex) : tokLt 0 (exA x) = true := by cases x; rfl
theorem ag_get : ∀ k < 4, ∃ s : ByteArray, ([.p (.v (.string ⟨#[67, 79, 85, 78, 84]⟩)), .p (.v (.string ⟨#[83, 85, 77]⟩)), .p (.v (.string ⟨#[77, 73, 78]⟩)), .p (.v (.string ⟨#[77, 65, 88]⟩))] : List AV)[k]? = some (.p (.v (.string s))) := by
 intro k hk
 match k, hk with
 | 0, _ => exact ⟨_, rfl⟩
 | 1, _ => exact ⟨_, rfl⟩
 | 2, _ => exact ⟨_, rfl⟩
 | 3, _ => exact ⟨_, rfl⟩
theorem factor_of (ts : List Tok) (hts : ts.length ≤ 2048) (k : Nat) (hk : k ≤ ts.length) (b : Bool)
 (hF : ∀ k' b', k < k' → k' ≤ ts.length → RCalls 70 [] ts k' b' (ExR ts k' b'))
 (hE : ∀ k' b' (n : Int), k < k' → k' ≤ ts.length → RCalls 53 [intV .i64 n] ts k' b' (ExR ts k' b')) :
 RCalls 70 [] ts k b (ExR ts k b) := by
 refine RCalls.of rfl ?_
 refine acalls_of cx_ok dr_ok Try.func70 (by kernel_rfl) rfl (nt := 124) (rs := [.cell 2 86]) rfl rfl ?_
 simp only [↓wBA, tRf, convA, ZA, reduceIte, reduceCtorEq, ZB, ZC, ZD, ZE, ZF, ZG, ZH, ZI, ZJ, ZK]
 refine (aRsign _ ts hts k b _ 0 rfl).mono ?_
 rintro _ _ ⟨k', b', ⟨rfl, v, rfl, h1, h2⟩, rfl⟩
 simp only [rdO, intV, boolV]
 cases v
 ·obtain rfl := h2 rfl
  clear h1 h2
  simp only [↓wBA, tRf, convA, ZA, reduceIte, reduceCtorEq, ZB, ZC, ZD, ZE, ZF, ZG, ZH, ZI, ZJ, ZK]
  refine (apeek ts k' b' _ 0 rfl).mono ?_
  rintro _ _ ⟨k', b', ⟨rfl, rfl, t, rfl, ht⟩, rfl⟩
  obtain ⟨tk, tt, tn⟩ := t
  simp only at ht
  simp only [tokA, rdO, intV, boolV]
  simp only [↓wBA, tRf, convA, ZA, reduceIte, reduceCtorEq, ZB, ZC, ZD, ZE, ZF, ZG, ZH, ZI, ZJ, ZK]
  cases hA : (tk == 0)
  ·obtain ⟨hb, hlt, htn⟩ := ht (by simp at hA; omega)
   subst hb
   have hw : IntKind.i64.wrap ((k' : Int) + 1) = ((k' + 1 : Nat) : Int) := by rw [wrap_i64 (by omega) (by omega)]; simp
   simp only [↓wBA, tRf, convA, ZA, reduceIte, reduceCtorEq, ZB, ZC, ZD, ZE, ZF, ZG, ZH, ZI, ZJ, ZK, hA, hw]
   cases hB : (tk == 3)
   ·skip
    simp only [↓wBA, tRf, convA, ZA, reduceIte, reduceCtorEq, ZB, ZC, ZD, ZE, ZF, ZG, ZH, ZI, ZJ, ZK, hB]
    cases hC : (tk == 4)
    ·skip
     simp only [↓wBA, tRf, convA, ZA, reduceIte, reduceCtorEq, ZB, ZC, ZD, ZE, ZF, ZG, ZH, ZI, ZJ, ZK, hC]
     cases hD : (tk == 2)
     ·skip
      simp only [↓wBA, tRf, convA, ZA, reduceIte, reduceCtorEq, ZB, ZC, ZD, ZE, ZF, ZG, ZH, ZI, ZJ, ZK, hD]
      refine cond_split (fun hT => ?_) (fun hT => ?_)
      ·skip
       simp only [↓wBA, tRf, convA, ZA, reduceIte, reduceCtorEq, ZB, ZC, ZD, ZE, ZF, ZG, ZH, ZI, ZJ, ZK]
       exact ret_rdW (k' := k' + 1) (b' := false) (exA (.mk 1 2 1 emp emp emp 0 [])) (.inl rfl) rfl (by simp [leT, leG, leC, leA, exA, exC, exL, ex0, emp, leaf, tokLt, nilA]) (exA_tok _) (exA_frz _) ⟨⟨_, rfl, okE_mk0⟩, by omega, by omega, fun h => ⟨rfl, by omega⟩⟩
      ·skip
       simp only [↓wBA, tRf, convA, ZA, reduceIte, reduceCtorEq, ZB, ZC, ZD, ZE, ZF, ZG, ZH, ZI, ZJ, ZK, binStr]
       refine cond_split (fun hT => ?_) (fun hT => ?_)
       ·skip
        simp only [↓wBA, tRf, convA, ZA, reduceIte, reduceCtorEq, ZB, ZC, ZD, ZE, ZF, ZG, ZH, ZI, ZJ, ZK]
        exact ret_rdW (k' := k' + 1) (b' := false) (exA (.mk 1 2 0 emp emp emp 0 [])) (.inl rfl) rfl (by simp [leT, leG, leC, leA, exA, exC, exL, ex0, emp, leaf, tokLt, nilA]) (exA_tok _) (exA_frz _) ⟨⟨_, rfl, okE_mk0⟩, by omega, by omega, fun h => ⟨rfl, by omega⟩⟩
       ·skip
        simp only [↓wBA, tRf, convA, ZA, reduceIte, reduceCtorEq, ZB, ZC, ZD, ZE, ZF, ZG, ZH, ZI, ZJ, ZK, binStr]
        refine cond_split (fun hT => ?_) (fun hT => ?_)
        ·skip
         simp only [↓wBA, tRf, convA, ZA, reduceIte, reduceCtorEq, ZB, ZC, ZD, ZE, ZF, ZG, ZH, ZI, ZJ, ZK]
         exact ret_rdW (k' := k' + 1) (b' := false) (exA (.mk 1 0 0 emp emp emp 0 [])) (.inl rfl) rfl (by simp [leT, leG, leC, leA, exA, exC, exL, ex0, emp, leaf, tokLt, nilA]) (exA_tok _) (exA_frz _) ⟨⟨_, rfl, okE_mk0⟩, by omega, by omega, fun h => ⟨rfl, by omega⟩⟩
        ·skip
         cases hP : (tk == 5)
         ·skip
          simp only [↓wBA, tRf, convA, ZA, reduceIte, reduceCtorEq, ZB, ZC, ZD, ZE, ZF, ZG, ZH, ZI, ZJ, ZK, hP, binStr]
          refine awp_loopS (X := { i : Nat // i ≤ 4 }) (fun i => [.mp 0 3 0 0, .any, .mp 1 8 0 0, .mp 2 3 0 0, .any, .mp 3 4 0 0, intV .i64 (i.1 : Nat), .any, .any, .any, .any, .any, .any, .any, .any, .any, .any, .any, .any, .any, .any, .any, .any, .any, .any, .any, .any, .any, .any, .any, .any, .any, .any, .any, .any, .any, .any, .any, .any, .any, .any, .any, .any, .any, .any, .any, .any, .any, .any, .any, .any, .any, .any, .any, .any, .any, .any, .any, .any, .any, .any, .any, .any, .any, .any, .any, .any, .any, .any, .any, .any, .any, .any, .any, .any, .any, .any, .any, .any, .any, .any, .any, .any, .any, .any, .any, .any, .any, .any, .any, .any, .any, .any, .any, .any, .any, .any, .any, .any, .any, .any, .any, .any, .any, .any, .any, .any, .any, .any, .any, .any, .any, .any, .any, .any, .any, .any, .any, .any, .any, .any, .any, .any, .any, .any]) (fun i => 4 - i.1) ⟨0, by omega⟩ ?_ ?_
          ·simp [WeakE, Weak, leL, leT, leM, leG, leA, leC, leS, leO, tokLt, tokLtL, intV, boolV]
          ·rintro ⟨i, hi⟩
           by_cases hlt : i < 4
           ·have hdec : decide ((i : Int) < 4) = true := by simp; omega
            obtain ⟨s, hs⟩ := ag_get i hlt
            have hi0 := nnI i
            have hi1 : ((i : Int) < ((4 : Nat) : Int)) = True := eq_true (by omega)
            have hw1 := wI i (by omega)
            simp only [↓wBA, tRf, convA, ZA, reduceIte, reduceCtorEq, ZB, ZC, ZD, ZE, ZF, ZG, ZH, ZI, ZJ, ZK, hdec]
            refine ⟨(.det 0 (.det 1 (.det 2 (.det 3 (.det 4 (.det 5 .done)))))), by decide, by kernel_rfl, by kernel_rfl, ?_⟩
            simp only [↓wBA, tRf, convA, ZA, reduceIte, reduceCtorEq, ZB, ZC, ZD, ZE, ZF, ZG, ZH, ZI, ZJ, ZK, hi0, hi1, Nat.mul_one, hs, binStr, unmaskS]
            refine cond_split (fun hS => ?_) (fun hS => ?_)
            ·skip
             simp only [↓wBA, tRf, convA, ZA, reduceIte, reduceCtorEq, ZB, ZC, ZD, ZE, ZF, ZG, ZH, ZI, ZJ, ZK]
             refine (awant 5 (by decide) _ ts hts _ (by omega) _ _ 0 rfl).mono ?_
             rintro _ _ ⟨k2, b2, ⟨rfl, e1, e2, e3⟩, rfl⟩
             simp only [rdO, intV, boolV]
             cases hZ : decide ((i : Int) > 0)
             ·skip
              simp only [↓wBA, tRf, convA, ZA, reduceIte, reduceCtorEq, ZB, ZC, ZD, ZE, ZF, ZG, ZH, ZI, ZJ, ZK, hZ]
              refine (aRsign _ ts hts _ _ _ 0 rfl).mono ?_
              rintro _ _ ⟨k3, b3, ⟨rfl, v, rfl, h1, h2⟩, rfl⟩
              simp only [rdO, intV, boolV]
              cases v
              ·obtain rfl := h2 rfl
               simp only [↓wBA, tRf, convA, ZA, reduceIte, reduceCtorEq, ZB, ZC, ZD, ZE, ZF, ZG, ZH, ZI, ZJ, ZK]
               refine (hE _ _ _ (by omega) (by omega) _ 0 rfl).mono ?_
               rintro _ _ ⟨k4, b4, ⟨⟨x, rfl, hx⟩, g1, g2, g3⟩, rfl⟩
               rcases x with ⟨kd, vk, vn, vs, tb, nm, sl, kids⟩
               simp only [exA, exC, rdO, intV, boolV, List.map_cons, List.map_nil]
               simp only [↓wBA, tRf, convA, ZA, reduceIte, reduceCtorEq, ZB, ZC, ZD, ZE, ZF, ZG, ZH, ZI, ZJ, ZK]
               refine (awant 5 (by decide) _ ts hts _ g2 _ _ 0 rfl).mono ?_
               rintro _ _ ⟨k5, b5, ⟨rfl, m1, m2, m3⟩, rfl⟩
               simp only [rdO, intV, boolV]
               simp only [↓wBA, tRf, convA, ZA, reduceIte, reduceCtorEq, ZB, ZC, ZD, ZE, ZF, ZG, ZH, ZI, ZJ, ZK]
               exact ret_rdW (k' := k5) (b' := b5) (exA (.mk (IntKind.i64.wrap (20 + (i : Int))) 0 0 emp emp emp 0 [.mk kd vk vn vs tb nm sl kids])) (.inl rfl) rfl (by simp [leT, leG, leC, leA, exA, exC, exL, ex0, emp, leaf, tokLt, nilA]) (exA_tok _) (exA_frz _) ⟨⟨_, rfl, okE_mk1 hx⟩, by omega, by omega, fun h => ⟨rfl, by omega⟩⟩
              ·obtain ⟨hb2, rfl, h3⟩ := h1 rfl
               simp only [↓wBA, tRf, convA, ZA, reduceIte, reduceCtorEq, ZB, ZC, ZD, ZE, ZF, ZG, ZH, ZI, ZJ, ZK]
               refine (awant 5 (by decide) _ ts hts _ h3 _ _ 0 rfl).mono ?_
               rintro _ _ ⟨k5, b5, ⟨rfl, m1, m2, m3⟩, rfl⟩
               simp only [rdO, intV, boolV]
               simp only [↓wBA, tRf, convA, ZA, reduceIte, reduceCtorEq, ZB, ZC, ZD, ZE, ZF, ZG, ZH, ZI, ZJ, ZK]
               exact ret_rdW (k' := k5) (b' := b5) (exA (.mk (IntKind.i64.wrap (20 + (i : Int))) 0 0 emp emp emp 0 [])) (.inl rfl) rfl (by simp [leT, leG, leC, leA, exA, exC, exL, ex0, emp, leaf, tokLt, nilA]) (exA_tok _) (exA_frz _) ⟨⟨_, rfl, okE_mk0⟩, by omega, by omega, fun h => ⟨rfl, by omega⟩⟩
             ·skip
              simp only [↓wBA, tRf, convA, ZA, reduceIte, reduceCtorEq, ZB, ZC, ZD, ZE, ZF, ZG, ZH, ZI, ZJ, ZK, hZ]
              refine (hE _ _ _ (by omega) (by omega) _ 0 rfl).mono ?_
              rintro _ _ ⟨k4, b4, ⟨⟨x, rfl, hx⟩, g1, g2, g3⟩, rfl⟩
              rcases x with ⟨kd, vk, vn, vs, tb, nm, sl, kids⟩
              simp only [exA, exC, rdO, intV, boolV, List.map_cons, List.map_nil]
              simp only [↓wBA, tRf, convA, ZA, reduceIte, reduceCtorEq, ZB, ZC, ZD, ZE, ZF, ZG, ZH, ZI, ZJ, ZK]
              refine (awant 5 (by decide) _ ts hts _ g2 _ _ 0 rfl).mono ?_
              rintro _ _ ⟨k5, b5, ⟨rfl, m1, m2, m3⟩, rfl⟩
              simp only [rdO, intV, boolV]
              simp only [↓wBA, tRf, convA, ZA, reduceIte, reduceCtorEq, ZB, ZC, ZD, ZE, ZF, ZG, ZH, ZI, ZJ, ZK]
              exact ret_rdW (k' := k5) (b' := b5) (exA (.mk (IntKind.i64.wrap (20 + (i : Int))) 0 0 emp emp emp 0 [.mk kd vk vn vs tb nm sl kids])) (.inl rfl) rfl (by simp [leT, leG, leC, leA, exA, exC, exL, ex0, emp, leaf, tokLt, nilA]) (exA_tok _) (exA_frz _) ⟨⟨_, rfl, okE_mk1 hx⟩, by omega, by omega, fun h => ⟨rfl, by omega⟩⟩
            ·skip
             simp only [↓wBA, tRf, convA, ZA, reduceIte, reduceCtorEq, ZB, ZC, ZD, ZE, ZF, ZG, ZH, ZI, ZJ, ZK, hw1]
             refine ⟨⟨i + 1, by omega⟩, by show 4 - (i + 1) < 4 - i; omega, ?_⟩
             simp [WeakE, Weak, leL, leT, leM, leG, leA, leC, leS, leO, tokLt, tokLtL, intV, boolV]
           ·have hdec : decide ((i : Int) < 4) = false := by simp; omega
            simp only [↓wBA, tRf, convA, ZA, reduceIte, reduceCtorEq, ZB, ZC, ZD, ZE, ZF, ZG, ZH, ZI, ZJ, ZK, hdec]
            exact ret_rdW (k' := k' + 1) (b' := true) (exA (ex0)) (.inl rfl) rfl (by simp [leT, leG, leC, leA, exA, exC, exL, ex0, emp, leaf, tokLt, nilA]) (exA_tok _) (exA_frz _) ⟨⟨_, rfl, okE_ex0⟩, by omega, by omega, fun h => by simp at h⟩
         ·skip
          simp only [↓wBA, tRf, convA, ZA, reduceIte, reduceCtorEq, ZB, ZC, ZD, ZE, ZF, ZG, ZH, ZI, ZJ, ZK, hP, binStr]
          refine cond_split (fun hT => ?_) (fun hT => ?_)
          ·skip
           simp only [↓wBA, tRf, convA, ZA, reduceIte, reduceCtorEq, ZB, ZC, ZD, ZE, ZF, ZG, ZH, ZI, ZJ, ZK]
           refine (hE _ _ _ (by omega) (by omega) _ 0 rfl).mono ?_
           rintro _ _ ⟨k2, b2, ⟨⟨x, rfl, hx⟩, g1, g2, g3⟩, rfl⟩
           rcases x with ⟨kd, vk, vn, vs, tb, nm, sl, kids⟩
           simp only [exA, exC, rdO, intV, boolV, List.map_cons, List.map_nil]
           simp only [↓wBA, tRf, convA, ZA, reduceIte, reduceCtorEq, ZB, ZC, ZD, ZE, ZF, ZG, ZH, ZI, ZJ, ZK]
           refine (awant 5 (by decide) _ ts hts k2 g2 b2 _ 0 rfl).mono ?_
           rintro _ _ ⟨k3, b3, ⟨rfl, e1, e2, e3⟩, rfl⟩
           simp only [rdO, intV, boolV]
           simp only [↓wBA, tRf, convA, ZA, reduceIte, reduceCtorEq, ZB, ZC, ZD, ZE, ZF, ZG, ZH, ZI, ZJ, ZK]
           exact ret_rdW (k' := k3) (b' := b3) (exA (.mk kd vk vn vs tb nm sl kids)) (.inl rfl) rfl (by simp [leT, leG, leC, leA, exA, exC, exL, ex0, emp, leaf, tokLt, nilA]) (exA_tok _) (exA_frz _) ⟨⟨_, rfl, hx⟩, by omega, by omega, fun h => ⟨rfl, by have := e3 h; have := g3 this.1; omega⟩⟩
          ·skip
           simp only [↓wBA, tRf, convA, ZA, reduceIte, reduceCtorEq, ZB, ZC, ZD, ZE, ZF, ZG, ZH, ZI, ZJ, ZK]
           refine awp_loopS (X := { i : Nat // i ≤ 4 }) (fun i => [.mp 0 3 0 0, .any, .mp 1 8 0 0, .mp 2 3 0 0, .any, .mp 3 4 0 0, intV .i64 (i.1 : Nat), .any, .any, .any, .any, .any, .any, .any, .any, .any, .any, .any, .any, .any, .any, .any, .any, .any, .any, .any, .any, .any, .any, .any, .any, .any, .any, .any, .any, .any, .any, .any, .any, .any, .any, .any, .any, .any, .any, .any, .any, .any, .any, .any, .any, .any, .any, .any, .any, .any, .any, .any, .any, .any, .any, .any, .any, .any, .any, .any, .any, .any, .any, .any, .any, .any, .any, .any, .any, .any, .any, .any, .any, .any, .any, .any, .any, .any, .any, .any, .any, .any, .any, .any, .any, .any, .any, .any, .any, .any, .any, .any, .any, .any, .any, .any, .any, .any, .any, .any, .any, .any, .any, .any, .any, .any, .any, .any, .any, .any, .any, .any, .any, .any, .any, .any, .any, .any, .any]) (fun i => 4 - i.1) ⟨0, by omega⟩ ?_ ?_
           ·simp [WeakE, Weak, leL, leT, leM, leG, leA, leC, leS, leO, tokLt, tokLtL, intV, boolV]
           ·rintro ⟨i, hi⟩
            by_cases hlt : i < 4
            ·have hdec : decide ((i : Int) < 4) = true := by simp; omega
             obtain ⟨s, hs⟩ := ag_get i hlt
             have hi0 := nnI i
             have hi1 : ((i : Int) < ((4 : Nat) : Int)) = True := eq_true (by omega)
             have hw1 := wI i (by omega)
             simp only [↓wBA, tRf, convA, ZA, reduceIte, reduceCtorEq, ZB, ZC, ZD, ZE, ZF, ZG, ZH, ZI, ZJ, ZK, hdec]
             refine ⟨(.det 0 (.det 1 (.det 2 (.det 3 (.det 4 (.det 5 .done)))))), by decide, by kernel_rfl, by kernel_rfl, ?_⟩
             simp only [↓wBA, tRf, convA, ZA, reduceIte, reduceCtorEq, ZB, ZC, ZD, ZE, ZF, ZG, ZH, ZI, ZJ, ZK, hi0, hi1, Nat.mul_one, hs, binStr, unmaskS]
             refine cond_split (fun hS => ?_) (fun hS => ?_)
             ·skip
              simp only [↓wBA, tRf, convA, ZA, reduceIte, reduceCtorEq, ZB, ZC, ZD, ZE, ZF, ZG, ZH, ZI, ZJ, ZK]
              refine (awant 5 (by decide) _ ts hts _ (by omega) _ _ 0 rfl).mono ?_
              rintro _ _ ⟨k2, b2, ⟨rfl, e1, e2, e3⟩, rfl⟩
              simp only [rdO, intV, boolV]
              cases hZ : decide ((i : Int) > 0)
              ·skip
               simp only [↓wBA, tRf, convA, ZA, reduceIte, reduceCtorEq, ZB, ZC, ZD, ZE, ZF, ZG, ZH, ZI, ZJ, ZK, hZ]
               refine (aRsign _ ts hts _ _ _ 0 rfl).mono ?_
               rintro _ _ ⟨k3, b3, ⟨rfl, v, rfl, h1, h2⟩, rfl⟩
               simp only [rdO, intV, boolV]
               cases v
               ·obtain rfl := h2 rfl
                simp only [↓wBA, tRf, convA, ZA, reduceIte, reduceCtorEq, ZB, ZC, ZD, ZE, ZF, ZG, ZH, ZI, ZJ, ZK]
                refine (hE _ _ _ (by omega) (by omega) _ 0 rfl).mono ?_
                rintro _ _ ⟨k4, b4, ⟨⟨x, rfl, hx⟩, g1, g2, g3⟩, rfl⟩
                rcases x with ⟨kd, vk, vn, vs, tb, nm, sl, kids⟩
                simp only [exA, exC, rdO, intV, boolV, List.map_cons, List.map_nil]
                simp only [↓wBA, tRf, convA, ZA, reduceIte, reduceCtorEq, ZB, ZC, ZD, ZE, ZF, ZG, ZH, ZI, ZJ, ZK]
                refine (awant 5 (by decide) _ ts hts _ g2 _ _ 0 rfl).mono ?_
                rintro _ _ ⟨k5, b5, ⟨rfl, m1, m2, m3⟩, rfl⟩
                simp only [rdO, intV, boolV]
                simp only [↓wBA, tRf, convA, ZA, reduceIte, reduceCtorEq, ZB, ZC, ZD, ZE, ZF, ZG, ZH, ZI, ZJ, ZK]
                exact ret_rdW (k' := k5) (b' := b5) (exA (.mk (IntKind.i64.wrap (20 + (i : Int))) 0 0 emp emp emp 0 [.mk kd vk vn vs tb nm sl kids])) (.inl rfl) rfl (by simp [leT, leG, leC, leA, exA, exC, exL, ex0, emp, leaf, tokLt, nilA]) (exA_tok _) (exA_frz _) ⟨⟨_, rfl, okE_mk1 hx⟩, by omega, by omega, fun h => ⟨rfl, by omega⟩⟩
               ·obtain ⟨hb2, rfl, h3⟩ := h1 rfl
                simp only [↓wBA, tRf, convA, ZA, reduceIte, reduceCtorEq, ZB, ZC, ZD, ZE, ZF, ZG, ZH, ZI, ZJ, ZK]
                refine (awant 5 (by decide) _ ts hts _ h3 _ _ 0 rfl).mono ?_
                rintro _ _ ⟨k5, b5, ⟨rfl, m1, m2, m3⟩, rfl⟩
                simp only [rdO, intV, boolV]
                simp only [↓wBA, tRf, convA, ZA, reduceIte, reduceCtorEq, ZB, ZC, ZD, ZE, ZF, ZG, ZH, ZI, ZJ, ZK]
                exact ret_rdW (k' := k5) (b' := b5) (exA (.mk (IntKind.i64.wrap (20 + (i : Int))) 0 0 emp emp emp 0 [])) (.inl rfl) rfl (by simp [leT, leG, leC, leA, exA, exC, exL, ex0, emp, leaf, tokLt, nilA]) (exA_tok _) (exA_frz _) ⟨⟨_, rfl, okE_mk0⟩, by omega, by omega, fun h => ⟨rfl, by omega⟩⟩
              ·skip
               simp only [↓wBA, tRf, convA, ZA, reduceIte, reduceCtorEq, ZB, ZC, ZD, ZE, ZF, ZG, ZH, ZI, ZJ, ZK, hZ]
               refine (hE _ _ _ (by omega) (by omega) _ 0 rfl).mono ?_
               rintro _ _ ⟨k4, b4, ⟨⟨x, rfl, hx⟩, g1, g2, g3⟩, rfl⟩
               rcases x with ⟨kd, vk, vn, vs, tb, nm, sl, kids⟩
               simp only [exA, exC, rdO, intV, boolV, List.map_cons, List.map_nil]
               simp only [↓wBA, tRf, convA, ZA, reduceIte, reduceCtorEq, ZB, ZC, ZD, ZE, ZF, ZG, ZH, ZI, ZJ, ZK]
               refine (awant 5 (by decide) _ ts hts _ g2 _ _ 0 rfl).mono ?_
               rintro _ _ ⟨k5, b5, ⟨rfl, m1, m2, m3⟩, rfl⟩
               simp only [rdO, intV, boolV]
               simp only [↓wBA, tRf, convA, ZA, reduceIte, reduceCtorEq, ZB, ZC, ZD, ZE, ZF, ZG, ZH, ZI, ZJ, ZK]
               exact ret_rdW (k' := k5) (b' := b5) (exA (.mk (IntKind.i64.wrap (20 + (i : Int))) 0 0 emp emp emp 0 [.mk kd vk vn vs tb nm sl kids])) (.inl rfl) rfl (by simp [leT, leG, leC, leA, exA, exC, exL, ex0, emp, leaf, tokLt, nilA]) (exA_tok _) (exA_frz _) ⟨⟨_, rfl, okE_mk1 hx⟩, by omega, by omega, fun h => ⟨rfl, by omega⟩⟩
             ·skip
              simp only [↓wBA, tRf, convA, ZA, reduceIte, reduceCtorEq, ZB, ZC, ZD, ZE, ZF, ZG, ZH, ZI, ZJ, ZK, hw1]
              refine ⟨⟨i + 1, by omega⟩, by show 4 - (i + 1) < 4 - i; omega, ?_⟩
              simp [WeakE, Weak, leL, leT, leM, leG, leA, leC, leS, leO, tokLt, tokLtL, intV, boolV]
            ·have hdec : decide ((i : Int) < 4) = false := by simp; omega
             simp only [↓wBA, tRf, convA, ZA, reduceIte, reduceCtorEq, ZB, ZC, ZD, ZE, ZF, ZG, ZH, ZI, ZJ, ZK, hdec]
             exact ret_rdW (k' := k' + 1) (b' := true) (exA (ex0)) (.inl rfl) rfl (by simp [leT, leG, leC, leA, exA, exC, exL, ex0, emp, leaf, tokLt, nilA]) (exA_tok _) (exA_frz _) ⟨⟨_, rfl, okE_ex0⟩, by omega, by omega, fun h => by simp at h⟩
     ·skip
      simp only [↓wBA, tRf, convA, ZA, reduceIte, reduceCtorEq, ZB, ZC, ZD, ZE, ZF, ZG, ZH, ZI, ZJ, ZK, hD]
      refine (aRsign _ ts hts _ _ _ 0 rfl).mono ?_
      rintro _ _ ⟨k2, b2, ⟨rfl, v, rfl, h1, h2⟩, rfl⟩
      simp only [rdO, intV, boolV]
      cases v
      ·obtain rfl := h2 rfl
       simp only [↓wBA, tRf, convA, ZA, reduceIte, reduceCtorEq, ZB, ZC, ZD, ZE, ZF, ZG, ZH, ZI, ZJ, ZK]
       exact ret_rdW (k' := k' + 1) (b' := false) (exA (.mk 2 0 0 emp emp tt 0 [])) (.inl rfl) rfl (by simp [leT, leG, leC, leA, exA, exC, exL, ex0, emp, leaf, tokLt, nilA]) (exA_tok _) (exA_frz _) ⟨⟨_, rfl, okE_mk0⟩, by omega, by omega, fun h => ⟨rfl, by omega⟩⟩
      ·obtain ⟨_, rfl, h3⟩ := h1 rfl
       simp only [↓wBA, tRf, convA, ZA, reduceIte, reduceCtorEq, ZB, ZC, ZD, ZE, ZF, ZG, ZH, ZI, ZJ, ZK]
       refine ⟨(.det 0 (.det 1 (.det 2 (.act 3 (.det 4 (.fin 5 .done)))))), by decide, by kernel_rfl, by kernel_rfl, ?_⟩
       simp only [↓wBA, tRf, convA, ZA, reduceIte, reduceCtorEq, ZB, ZC, ZD, ZE, ZF, ZG, ZH, ZI, ZJ, ZK]
       refine (aname ts hts _ h3 _ _ 0 rfl).mono ?_
       rintro _ _ ⟨k3, b3, ⟨⟨s, rfl⟩, g1, g2, g3⟩, rfl⟩
       simp only [rdO, intV, boolV]
       simp only [↓wBA, tRf, convA, ZA, reduceIte, reduceCtorEq, ZB, ZC, ZD, ZE, ZF, ZG, ZH, ZI, ZJ, ZK, unmaskS]
       exact ret_rdW (k' := k3) (b' := b3) (exA (.mk 2 0 0 emp tt s 0 [])) (.inl rfl) rfl (by simp [leT, leG, leC, leA, exA, exC, exL, ex0, emp, leaf, tokLt, nilA]) (exA_tok _) (exA_frz _) ⟨⟨_, rfl, okE_mk0⟩, by omega, by omega, fun h => ⟨rfl, by omega⟩⟩
    ·skip
     simp only [↓wBA, tRf, convA, ZA, reduceIte, reduceCtorEq, ZB, ZC, ZD, ZE, ZF, ZG, ZH, ZI, ZJ, ZK, hC]
     exact ret_rdW (k' := k' + 1) (b' := false) (exA (.mk 1 3 0 tt emp emp 0 [])) (.inl rfl) rfl (by simp [leT, leG, leC, leA, exA, exC, exL, ex0, emp, leaf, tokLt, nilA]) (exA_tok _) (exA_frz _) ⟨⟨_, rfl, okE_mk0⟩, by omega, by omega, fun h => ⟨rfl, by omega⟩⟩
   ·skip
    simp only [↓wBA, tRf, convA, ZA, reduceIte, reduceCtorEq, ZB, ZC, ZD, ZE, ZF, ZG, ZH, ZI, ZJ, ZK, hB]
    exact ret_rdW (k' := k' + 1) (b' := false) (exA (.mk 1 1 tn emp emp emp 0 [])) (.inl rfl) rfl (by simp [leT, leG, leC, leA, exA, exC, exL, ex0, emp, leaf, tokLt, nilA]) (exA_tok _) (exA_frz _) ⟨⟨_, rfl, okE_mk0 htn⟩, by omega, by omega, fun h => ⟨rfl, by omega⟩⟩
  ·skip
   simp only [↓wBA, tRf, convA, ZA, reduceIte, reduceCtorEq, ZB, ZC, ZD, ZE, ZF, ZG, ZH, ZI, ZJ, ZK, hA]
   exact ret_rdW (k' := k') (b' := true) (exA (ex0)) (.inl rfl) rfl (by simp [leT, leG, leC, leA, exA, exC, exL, ex0, emp, leaf, tokLt, nilA]) (exA_tok _) (exA_frz _) ⟨⟨_, rfl, okE_ex0⟩, by omega, by omega, fun h => by simp at h⟩
 ·obtain ⟨rfl, rfl, h3⟩ := h1 rfl
  simp only [↓wBA, tRf, convA, ZA, reduceIte, reduceCtorEq, ZB, ZC, ZD, ZE, ZF, ZG, ZH, ZI, ZJ, ZK]
  refine (hF _ _ (by omega) h3 _ 0 rfl).mono ?_
  rintro _ _ ⟨k', b', ⟨⟨x, rfl, hx⟩, g1, g2, g3⟩, rfl⟩
  rcases x with ⟨kd, vk, vn, vs, tb, nm, sl, kids⟩
  simp only [exA, exC, rdO, intV, boolV, List.map_cons, List.map_nil]
  simp only [↓wBA, tRf, convA, ZA, reduceIte, reduceCtorEq, ZB, ZC, ZD, ZE, ZF, ZG, ZH, ZI, ZJ, ZK]
  exact ret_rdW (k' := k') (b' := b') (exA (.mk 3 0 0 emp emp emp 0 [.mk kd vk vn vs tb nm sl kids])) (.inl rfl) rfl (by simp [leT, leG, leC, leA, exA, exC, exL, ex0, emp, leaf, tokLt, nilA]) (exA_tok _) (exA_frz _) ⟨⟨_, rfl, okE_mk1 hx⟩, by omega, by omega, fun h => ⟨rfl, by omega⟩⟩
end Go.Proofs.Ytcnkmandddfdmaa
