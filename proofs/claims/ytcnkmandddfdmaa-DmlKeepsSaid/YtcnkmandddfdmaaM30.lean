/- The reader's small methods. The reader's operators. -/
import Derived.Test.YtcnkmandddfdmaaM29
import Derived.Test.YtcnkmandddfdmaaM22
set_option linter.unusedSimpArgs false
set_option linter.unusedVariables false
set_option linter.defProp false
set_option maxRecDepth 100000
set_option maxHeartbeats 32000000
namespace Go.Proofs.Ytcnkmandddfdmaa
open Go.RowKit
open Nat renaming reduceBEq → ZA, reducePow → ZB, reduceAdd → ZC, reduceSub → ZD, reduceMul → ZE, reduceEqDiff → ZF, reduceLeDiff → ZG, reduceLT → ZH
open Int renaming reduceLT → ZI, reduceLE → ZJ, reduceToNat → ZK
def tRp := aa wX <| aa T3 <| aa T4 <| aa T9 <| aa T72 <| aa T75 <| aa T77 T102
def PeekR (ts : List Tok) (k : Nat) (b : Bool) (r : AV) (k' : Nat) (b' : Bool) : Prop := k' = k ∧ b' = b ∧ ∃ t : Tok, r = tokA t.1 t.2.1 t.2.2 ∧ (t.1 ≠ 0 → b = false ∧ k < ts.length ∧ i64R t.2.2)
theorem apeek (ts : List Tok) (k : Nat) (b : Bool) : RCalls 69 [] ts k b (PeekR ts k b) := by
 refine RCalls.of rfl ?_
 refine acalls_of cx_ok dr_ok Try.func69 (by kernel_rfl) rfl (nt := 29) (rs := [.cell 2 102]) rfl rfl ?_
 simp only [rdO, intV, boolV]
 simp only [↓wBA, tRp, convA, ZA, reduceIte, reduceCtorEq, ZB, ZC, ZD, ZE, ZF, ZG, ZH, ZI, ZJ, ZK]
 refine ⟨(.det 0 (.det 1 (.det 2 (.det 3 (.det 4 (.det 5 (.det 6 (.det 7 (.det 8 (.det 9 (.det 10 (.det 11 (.det 12 (.det 13 (.det 14 (.det 15 .done)))))))))))))))), by decide, by kernel_rfl, by kernel_rfl, ?_⟩
 cases b
 ·by_cases hk : k < ts.length
  ·have hne : ts ≠ [] := fun h => by subst h; simp at hk
   have hnt := nilT ts hne
   have hen := encT_len ts
   obtain ⟨t, hti, ht⟩ := tok_get ts k hk
   have hd : decide ((k : Int) ≥ (ts.length : Int)) = false := by simp; omega
   simp only [↓wBA, tRp, convA, ZA, reduceIte, reduceCtorEq, ZB, ZC, ZD, ZE, ZF, ZG, ZH, ZI, ZJ, ZK, hnt, hen, hd, unmaskS, bu_len]
   refine ⟨(.det 0 (.det 1 (.det 2 (.det 3 (.det 4 (.det 5 (.det 6 (.det 7 (.det 8 (.det 9 (.fin 10 .done))))))))))), by decide, by kernel_rfl, by kernel_rfl, ?_⟩
   simp only [tokC] at ht
   simp only [↓wBA, tRp, convA, ZA, reduceIte, reduceCtorEq, ZB, ZC, ZD, ZE, ZF, ZG, ZH, ZI, ZJ, ZK, hnt, hen, hd, unmaskS, bu_len, ht]
   simp only [← hnt]
   refine ret_rd (R := PeekR ts k false) (k' := k) (b' := false) (.inl rfl) rfl rfl rfl ⟨rfl, rfl, t, rfl, fun _ => ⟨rfl, hk, hti⟩⟩
  ·by_cases hne : ts = []
   ·subst hne
    have hd : decide ((k : Int) ≥ ((0 : Nat) : Int)) = true := by simp
    have hnt : nilSl 3 (encT []) = .v (.slice none 0 0) := rfl
    simp only [↓wBA, tRp, convA, ZA, reduceIte, reduceCtorEq, ZB, ZC, ZD, ZE, ZF, ZG, ZH, ZI, ZJ, ZK, hnt, hd, unmaskS, bu_len]
    refine ret_rd (R := PeekR [] k false) (k' := k) (b' := false) (.inl rfl) rfl rfl rfl ⟨rfl, rfl, (0, ⟨#[]⟩, 0), rfl, fun h => (h rfl).elim⟩
   ·have hnt := nilT ts hne
    have hen := encT_len ts
    have hd : decide ((k : Int) ≥ (ts.length : Int)) = true := by simp; omega
    simp only [↓wBA, tRp, convA, ZA, reduceIte, reduceCtorEq, ZB, ZC, ZD, ZE, ZF, ZG, ZH, ZI, ZJ, ZK, hnt, hen, hd, unmaskS, bu_len]
    simp only [← hnt]
    refine ret_rd (R := PeekR ts k false) (k' := k) (b' := false) (.inl rfl) rfl rfl rfl ⟨rfl, rfl, (0, ⟨#[]⟩, 0), rfl, fun h => (h rfl).elim⟩
 ·skip
  simp only [↓wBA, tRp, convA, ZA, reduceIte, reduceCtorEq, ZB, ZC, ZD, ZE, ZF, ZG, ZH, ZI, ZJ, ZK, unmaskS, bu_len]
  refine ret_rd (R := PeekR ts k true) (k' := k) (b' := true) (.inl rfl) rfl rfl rfl ⟨rfl, rfl, (0, ⟨#[]⟩, 0), rfl, fun h => (h rfl).elim⟩
def IsR (ts : List Tok) (k : Nat) (b : Bool) (r : AV) (k' : Nat) (b' : Bool) : Prop := b' = b ∧ ∃ v : Bool, r = boolV v ∧ (v = true → b = false ∧ k' = k + 1 ∧ k + 1 ≤ ts.length) ∧ (v = false → k' = k)
theorem ais (kd : Int) (hkd : kd ≠ 0) (s : ByteArray) (ts : List Tok) (hts : ts.length ≤ 2048) (k : Nat) (b : Bool) : RCalls 48 [intV .i64 kd, .p (.v (.string s))] ts k b (IsR ts k b) := by
 refine RCalls.of rfl ?_
 refine acalls_of cx_ok dr_ok Try.func48 (by kernel_rfl) rfl (nt := 24) (rs := [.tmp 6]) rfl rfl ?_
 simp only [↓wBA, tRp, convA, ZA, reduceIte, reduceCtorEq, ZB, ZC, ZD, ZE, ZF, ZG, ZH, ZI, ZJ, ZK]
 refine (apeek ts k b _ 0 rfl).mono ?_
 rintro _ _ ⟨k', b', ⟨rfl, rfl, t, rfl, ht⟩, rfl⟩
 simp only [tokA, rdO, intV, boolV]
 cases h1 : (t.1 == kd)
 ·skip
  simp only [↓wBA, tRp, convA, ZA, reduceIte, reduceCtorEq, ZB, ZC, ZD, ZE, ZF, ZG, ZH, ZI, ZJ, ZK, h1]
  exact ret_rd (k' := k') (b' := b') (.inl rfl) rfl rfl rfl ⟨rfl, false, rfl, fun h => by simp at h, fun _ => rfl⟩
 ·skip
  simp only [↓wBA, tRp, convA, ZA, reduceIte, reduceCtorEq, ZB, ZC, ZD, ZE, ZF, ZG, ZH, ZI, ZJ, ZK, h1, binStr]
  refine cond_split (fun h2 => ?_) (fun h2 => ?_)
  ·obtain ⟨hb, hk, _⟩ := ht (by simp at h1; omega)
   have hw : IntKind.i64.wrap ((k' : Int) + 1) = ((k' + 1 : Nat) : Int) := by rw [wrap_i64 (by omega) (by omega)]; simp
   simp only [↓wBA, tRp, convA, ZA, reduceIte, reduceCtorEq, ZB, ZC, ZD, ZE, ZF, ZG, ZH, ZI, ZJ, ZK, hw]
   exact ret_rd (k' := k' + 1) (b' := b') (.inl rfl) rfl rfl rfl ⟨rfl, true, rfl, fun _ => ⟨hb, rfl, hk⟩, fun h => by simp at h⟩
  ·skip
   simp only [↓wBA, tRp, convA, ZA, reduceIte, reduceCtorEq, ZB, ZC, ZD, ZE, ZF, ZG, ZH, ZI, ZJ, ZK]
   exact ret_rd (k' := k') (b' := b') (.inl rfl) rfl rfl rfl ⟨rfl, false, rfl, fun h => by simp at h, fun _ => rfl⟩
theorem aRsign (s : ByteArray) (ts : List Tok) (hts : ts.length ≤ 2048) (k : Nat) (b : Bool) : RCalls 31 [.p (.v (.string s))] ts k b (IsR ts k b) := by
 refine RCalls.of rfl ?_
 refine acalls_of cx_ok dr_ok Try.func31 (by kernel_rfl) rfl (nt := 6) (rs := [.tmp 4]) rfl rfl ?_
 simp only [↓wBA, tRp, convA, ZA, reduceIte, reduceCtorEq, ZB, ZC, ZD, ZE, ZF, ZG, ZH, ZI, ZJ, ZK]
 refine (ais 5 (by decide) s ts hts k b _ 0 rfl).mono ?_
 rintro _ _ ⟨k', b', ⟨rfl, v, rfl, h1, h2⟩, rfl⟩
 simp only [rdO, intV, boolV]
 simp only [↓wBA, tRp, convA, ZA, reduceIte, reduceCtorEq, ZB, ZC, ZD, ZE, ZF, ZG, ZH, ZI, ZJ, ZK]
 exact ret_rd (k' := k') (b' := b') (.inl rfl) rfl rfl rfl ⟨rfl, v, rfl, h1, h2⟩
theorem aRword (s : ByteArray) (ts : List Tok) (hts : ts.length ≤ 2048) (k : Nat) (b : Bool) : RCalls 23 [.p (.v (.string s))] ts k b (IsR ts k b) := by
 refine RCalls.of rfl ?_
 refine acalls_of cx_ok dr_ok Try.func23 (by kernel_rfl) rfl (nt := 6) (rs := [.tmp 4]) rfl rfl ?_
 simp only [↓wBA, tRp, convA, ZA, reduceIte, reduceCtorEq, ZB, ZC, ZD, ZE, ZF, ZG, ZH, ZI, ZJ, ZK]
 refine (ais 1 (by decide) s ts hts k b _ 0 rfl).mono ?_
 rintro _ _ ⟨k', b', ⟨rfl, v, rfl, h1, h2⟩, rfl⟩
 simp only [rdO, intV, boolV]
 simp only [↓wBA, tRp, convA, ZA, reduceIte, reduceCtorEq, ZB, ZC, ZD, ZE, ZF, ZG, ZH, ZI, ZJ, ZK]
 exact ret_rd (k' := k') (b' := b') (.inl rfl) rfl rfl rfl ⟨rfl, v, rfl, h1, h2⟩
def WantR (ts : List Tok) (k : Nat) (b : Bool) (r : AV) (k' : Nat) (b' : Bool) : Prop := r = .tup [] ∧ Adv ts k b k' b'
theorem awant (kd : Int) (hkd : kd ≠ 0) (s : ByteArray) (ts : List Tok) (hts : ts.length ≤ 2048) (k : Nat) (hk : k ≤ ts.length) (b : Bool) : RCalls 28 [intV .i64 kd, .p (.v (.string s))] ts k b (WantR ts k b) := by
 refine RCalls.of rfl ?_
 refine acalls_of cx_ok dr_ok Try.func28 (by kernel_rfl) rfl (nt := 11) (rs := []) rfl rfl ?_
 simp only [↓wBA, tRp, convA, ZA, reduceIte, reduceCtorEq, ZB, ZC, ZD, ZE, ZF, ZG, ZH, ZI, ZJ, ZK]
 refine (ais kd hkd s ts hts k b _ 0 rfl).mono ?_
 rintro _ _ ⟨k', b', ⟨rfl, v, rfl, h1, h2⟩, rfl⟩
 simp only [rdO, intV, boolV]
 cases v
 ·skip
  simp only [↓wBA, tRp, convA, ZA, reduceIte, reduceCtorEq, ZB, ZC, ZD, ZE, ZF, ZG, ZH, ZI, ZJ, ZK]
  exact ret_rd (k' := k') (b' := true) (.inr rfl) rfl rfl rfl ⟨rfl, by have := h2 rfl; omega, by have := h2 rfl; omega, fun h => by simp at h⟩
 ·skip
  simp only [↓wBA, tRp, convA, ZA, reduceIte, reduceCtorEq, ZB, ZC, ZD, ZE, ZF, ZG, ZH, ZI, ZJ, ZK]
  obtain ⟨g1, g2, g3⟩ := h1 rfl
  exact ret_rd (k' := k') (b' := b') (.inr rfl) rfl rfl rfl ⟨rfl, by omega, by omega, fun h => ⟨g1, by omega⟩⟩
def AnyR (ts : List Tok) (k : Nat) (b : Bool) (r : AV) (k' : Nat) (b' : Bool) : Prop := (∃ t : Tok, r = tokA t.1 t.2.1 t.2.2) ∧ Adv ts k b k' b'
theorem aany (kd : Int) (hkd : kd ≠ 0) (ts : List Tok) (hts : ts.length ≤ 2048) (k : Nat) (hk : k ≤ ts.length) (b : Bool) : RCalls 55 [intV .i64 kd] ts k b (AnyR ts k b) := by
 refine RCalls.of rfl ?_
 refine acalls_of cx_ok dr_ok Try.func55 (by kernel_rfl) rfl (nt := 22) (rs := [.cell 4 102]) rfl rfl ?_
 simp only [↓wBA, tRp, convA, ZA, reduceIte, reduceCtorEq, ZB, ZC, ZD, ZE, ZF, ZG, ZH, ZI, ZJ, ZK]
 refine (apeek ts k b _ 0 rfl).mono ?_
 rintro _ _ ⟨k', b', ⟨rfl, rfl, t, rfl, ht⟩, rfl⟩
 simp only [tokA, rdO, intV, boolV]
 simp only [↓wBA, tRp, convA, ZA, reduceIte, reduceCtorEq, ZB, ZC, ZD, ZE, ZF, ZG, ZH, ZI, ZJ, ZK]
 refine cond_split (fun h1 => ?_) (fun h1 => ?_)
 ·skip
  simp only [↓wBA, tRp, convA, ZA, reduceIte, reduceCtorEq, ZB, ZC, ZD, ZE, ZF, ZG, ZH, ZI, ZJ, ZK]
  exact ret_rd (k' := k') (b' := true) (.inl rfl) rfl rfl rfl ⟨⟨(0, ⟨#[]⟩, 0), rfl⟩, by omega, by omega, fun h => by simp at h⟩
 ·obtain ⟨hb, hk, _⟩ := ht (by simp at h1; omega)
  have hw : IntKind.i64.wrap ((k' : Int) + 1) = ((k' + 1 : Nat) : Int) := by rw [wrap_i64 (by omega) (by omega)]; simp
  simp only [↓wBA, tRp, convA, ZA, reduceIte, reduceCtorEq, ZB, ZC, ZD, ZE, ZF, ZG, ZH, ZI, ZJ, ZK, hw]
  exact ret_rd (k' := k' + 1) (b' := b') (.inl rfl) rfl rfl rfl ⟨⟨t, rfl⟩, by omega, by omega, fun h => ⟨hb, by omega⟩⟩
def NameR (ts : List Tok) (k : Nat) (b : Bool) (r : AV) (k' : Nat) (b' : Bool) : Prop := (∃ s : ByteArray, r = .p (.v (.string s))) ∧ Adv ts k b k' b'
theorem aname (ts : List Tok) (hts : ts.length ≤ 2048) (k : Nat) (hk : k ≤ ts.length) (b : Bool) : RCalls 29 [] ts k b (NameR ts k b) := by
 refine RCalls.of rfl ?_
 refine acalls_of cx_ok dr_ok Try.func29 (by kernel_rfl) rfl (nt := 5) (rs := [.tmp 2]) rfl rfl ?_
 simp only [↓wBA, tRp, convA, ZA, reduceIte, reduceCtorEq, ZB, ZC, ZD, ZE, ZF, ZG, ZH, ZI, ZJ, ZK]
 refine (aany 2 (by decide) ts hts k hk b _ 0 rfl).mono ?_
 rintro _ _ ⟨k', b', ⟨⟨t, rfl⟩, h1⟩, rfl⟩
 simp only [tokA, rdO, intV, boolV]
 simp only [↓wBA, tRp, convA, ZA, reduceIte, reduceCtorEq, ZB, ZC, ZD, ZE, ZF, ZG, ZH, ZI, ZJ, ZK]
 exact ret_rd (k' := k') (b' := b') (.inl rfl) rfl rfl rfl ⟨⟨_, rfl⟩, h1⟩
end Go.Proofs.Ytcnkmandddfdmaa
namespace Go.Proofs.Ytcnkmandddfdmaa
open Go.RowKit
open Nat renaming reduceBEq → ZA, reducePow → ZB, reduceAdd → ZC, reduceSub → ZD, reduceMul → ZE, reduceEqDiff → ZF, reduceLeDiff → ZG, reduceLT → ZH
open Int renaming reduceLT → ZI, reduceLE → ZJ, reduceToNat → ZK
def tRb := aa wX <| aa T3 <| aa T9 <| aa T75 <| aa T102 <| aa T156 T157
theorem tx_get : ∀ k < 13, ∃ s : ByteArray, ([.p (.v (.string ⟨#[79, 82]⟩)), .p (.v (.string ⟨#[65, 78, 68]⟩)), .p (.v (.string ⟨#[61]⟩)), .p (.v (.string ⟨#[60, 62]⟩)), .p (.v (.string ⟨#[60]⟩)), .p (.v (.string ⟨#[60, 61]⟩)), .p (.v (.string ⟨#[62]⟩)), .p (.v (.string ⟨#[62, 61]⟩)), .p (.v (.string ⟨#[43]⟩)), .p (.v (.string ⟨#[45]⟩)), .p (.v (.string ⟨#[42]⟩)), .p (.v (.string ⟨#[47]⟩)), .p (.v (.string ⟨#[37]⟩))] : List AV)[k]? = some (.p (.v (.string s))) := by
 intro k hk
 match k, hk with
 | 0, _ => exact ⟨_, rfl⟩
 | 1, _ => exact ⟨_, rfl⟩
 | 2, _ => exact ⟨_, rfl⟩
 | 3, _ => exact ⟨_, rfl⟩
 | 4, _ => exact ⟨_, rfl⟩
 | 5, _ => exact ⟨_, rfl⟩
 | 6, _ => exact ⟨_, rfl⟩
 | 7, _ => exact ⟨_, rfl⟩
 | 8, _ => exact ⟨_, rfl⟩
 | 9, _ => exact ⟨_, rfl⟩
 | 10, _ => exact ⟨_, rfl⟩
 | 11, _ => exact ⟨_, rfl⟩
 | 12, _ => exact ⟨_, rfl⟩
theorem kd_get : ∀ k < 13, ∃ n : Int, ([.p (.v (.int .i64 17)), .p (.v (.int .i64 16)), .p (.v (.int .i64 10)), .p (.v (.int .i64 11)), .p (.v (.int .i64 12)), .p (.v (.int .i64 13)), .p (.v (.int .i64 14)), .p (.v (.int .i64 15)), .p (.v (.int .i64 5)), .p (.v (.int .i64 6)), .p (.v (.int .i64 7)), .p (.v (.int .i64 8)), .p (.v (.int .i64 9))] : List AV)[k]? = some (.p (.v (.int .i64 n))) := by
 intro k hk
 match k, hk with
 | 0, _ => exact ⟨_, rfl⟩
 | 1, _ => exact ⟨_, rfl⟩
 | 2, _ => exact ⟨_, rfl⟩
 | 3, _ => exact ⟨_, rfl⟩
 | 4, _ => exact ⟨_, rfl⟩
 | 5, _ => exact ⟨_, rfl⟩
 | 6, _ => exact ⟨_, rfl⟩
 | 7, _ => exact ⟨_, rfl⟩
 | 8, _ => exact ⟨_, rfl⟩
 | 9, _ => exact ⟨_, rfl⟩
 | 10, _ => exact ⟨_, rfl⟩
 | 11, _ => exact ⟨_, rfl⟩
 | 12, _ => exact ⟨_, rfl⟩
theorem bd_get : ∀ k < 13, ∃ n : Int, ([.p (.v (.int .i64 1)), .p (.v (.int .i64 2)), .p (.v (.int .i64 4)), .p (.v (.int .i64 4)), .p (.v (.int .i64 4)), .p (.v (.int .i64 4)), .p (.v (.int .i64 4)), .p (.v (.int .i64 4)), .p (.v (.int .i64 5)), .p (.v (.int .i64 5)), .p (.v (.int .i64 6)), .p (.v (.int .i64 6)), .p (.v (.int .i64 6))] : List AV)[k]? = some (.p (.v (.int .i64 n))) := by
 intro k hk
 match k, hk with
 | 0, _ => exact ⟨_, rfl⟩
 | 1, _ => exact ⟨_, rfl⟩
 | 2, _ => exact ⟨_, rfl⟩
 | 3, _ => exact ⟨_, rfl⟩
 | 4, _ => exact ⟨_, rfl⟩
 | 5, _ => exact ⟨_, rfl⟩
 | 6, _ => exact ⟨_, rfl⟩
 | 7, _ => exact ⟨_, rfl⟩
 | 8, _ => exact ⟨_, rfl⟩
 | 9, _ => exact ⟨_, rfl⟩
 | 10, _ => exact ⟨_, rfl⟩
 | 11, _ => exact ⟨_, rfl⟩
 | 12, _ => exact ⟨_, rfl⟩
def BinR (ts : List Tok) (k : Nat) (b : Bool) (r : AV) (k' : Nat) (b' : Bool) : Prop := k' = k ∧ b' = b ∧ ∃ kd bd : Int, r = .tup [intV .i64 kd, intV .i64 bd] ∧ (kd > 0 → b = false ∧ k < ts.length)
theorem abinary (ts : List Tok) (k : Nat) (b : Bool) : RCalls 71 [] ts k b (BinR ts k b) := by
 refine RCalls.of rfl ?_
 refine acalls_of cx_ok dr_ok Try.func71 (by kernel_rfl) rfl (nt := 47) (rs := [.tmp 2, .tmp 3]) rfl rfl ?_
 simp only [↓wBA, tRb, convA, ZA, reduceIte, reduceCtorEq, ZB, ZC, ZD, ZE, ZF, ZG, ZH, ZI, ZJ, ZK]
 refine (apeek ts k b _ 0 rfl).mono ?_
 rintro _ _ ⟨k', b', ⟨rfl, rfl, t, rfl, ht⟩, rfl⟩
 simp only [tokA, rdO, intV, boolV]
 simp only [↓wBA, tRb, convA, ZA, reduceIte, reduceCtorEq, ZB, ZC, ZD, ZE, ZF, ZG, ZH, ZI, ZJ, ZK]
 refine awp_loopS (X := { i : Nat // i ≤ 13 }) (fun i => [.mp 0 3 0 0, .any, .any, .any, .mp 1 3 0 0, .mp 2 13 0 0, .mp 3 13 0 0, .mp 4 13 0 0, intV .i64 (i.1 : Nat), .any, .any, .any, .any, .any, .any, .any, .any, .any, .any, .any, .any, .any, .any, .any, .any, .any, .any, .any, .any, .any, .any, .any, .any, .any, .any, .any, .any, .any, .any, .any, .any, .any, .any, .any, .any, .any, .any, .any]) (fun i => 13 - i.1) ⟨0, by omega⟩ ?_ ?_
 ·simp [WeakE, Weak, leL, leT, leM, leG, leA, leC, leS, leO, tokLt, tokLtL, intV, boolV]
 ·rintro ⟨i, hi⟩
  by_cases hlt : i < 13
  ·have hdec : decide ((i : Int) < 13) = true := by simp; omega
   obtain ⟨s, hs⟩ := tx_get i hlt
   obtain ⟨kd, hkd⟩ := kd_get i hlt
   obtain ⟨bd, hbd⟩ := bd_get i hlt
   have hi0 := nnI i
   have hi1 : ((i : Int) < ((13 : Nat) : Int)) = True := eq_true (by omega)
   have hw := wI i (by omega)
   simp only [↓wBA, tRb, convA, ZA, reduceIte, reduceCtorEq, ZB, ZC, ZD, ZE, ZF, ZG, ZH, ZI, ZJ, ZK, hdec]
   refine ⟨(.det 0 (.det 1 (.det 2 (.det 3 (.det 4 (.det 5 (.det 6 (.det 7 (.det 8 (.det 9 (.det 10 (.det 11 (.det 12 (.det 13 (.det 14 (.det 15 (.det 16 (.det 17 (.det 18 (.det 19 (.det 20 (.det 21 (.det 22 (.det 23 .done)))))))))))))))))))))))), by decide, by kernel_rfl, by kernel_rfl, ?_⟩
   cases hA : (t.2.1.toList == s.toList)
   ·skip
    simp only [↓wBA, tRb, convA, ZA, reduceIte, reduceCtorEq, ZB, ZC, ZD, ZE, ZF, ZG, ZH, ZI, ZJ, ZK, hi0, hi1, Nat.mul_one, hs, hA, binStr, unmaskS, hw]
    refine ⟨⟨i + 1, by omega⟩, by show 13 - (i + 1) < 13 - i; omega, ?_⟩
    simp [WeakE, Weak, leL, leT, leM, leG, leA, leC, leS, leO, tokLt, tokLtL, intV, boolV]
   ·by_cases h2 : i < 2
    ·have hB : decide ((i : Int) < 2) = true := by simp; omega
     have hB' : decide ((i : Int) ≥ 2) = false := by simp; omega
     cases hC : (t.1 == 1)
     ·skip
      simp only [↓wBA, tRb, convA, ZA, reduceIte, reduceCtorEq, ZB, ZC, ZD, ZE, ZF, ZG, ZH, ZI, ZJ, ZK, hi0, hi1, Nat.mul_one, hs, hA, binStr, unmaskS, hB, hB', hC, hw]
      refine ⟨⟨i + 1, by omega⟩, by show 13 - (i + 1) < 13 - i; omega, ?_⟩
      simp [WeakE, Weak, leL, leT, leM, leG, leA, leC, leS, leO, tokLt, tokLtL, intV, boolV]
     ·skip
      simp only [↓wBA, tRb, convA, ZA, reduceIte, reduceCtorEq, ZB, ZC, ZD, ZE, ZF, ZG, ZH, ZI, ZJ, ZK, hi0, hi1, Nat.mul_one, hs, hA, binStr, unmaskS, hB, hB', hC]
      refine ⟨(.det 0 (.det 1 (.det 2 (.det 3 (.det 4 (.det 5 (.det 6 (.det 7 .done)))))))), by decide, by kernel_rfl, by kernel_rfl, ?_⟩
      simp only [↓wBA, tRb, convA, ZA, reduceIte, reduceCtorEq, ZB, ZC, ZD, ZE, ZF, ZG, ZH, ZI, ZJ, ZK, hi0, hi1, Nat.mul_one, hs, hA, binStr, unmaskS, hB, hB', hC, hkd, hbd]
      exact ret_rd (k' := k') (b' := b') (.inl rfl) rfl rfl rfl ⟨rfl, rfl, kd, bd, rfl, fun _ => ⟨(ht (by simp at hC; omega)).1, (ht (by simp at hC; omega)).2.1⟩⟩
    ·have hB : decide ((i : Int) < 2) = false := by simp; omega
     have hB' : decide ((i : Int) ≥ 2) = true := by simp; omega
     cases hC : (t.1 == 5)
     ·skip
      simp only [↓wBA, tRb, convA, ZA, reduceIte, reduceCtorEq, ZB, ZC, ZD, ZE, ZF, ZG, ZH, ZI, ZJ, ZK, hi0, hi1, Nat.mul_one, hs, hA, binStr, unmaskS, hB, hB', hC, hw]
      refine ⟨⟨i + 1, by omega⟩, by show 13 - (i + 1) < 13 - i; omega, ?_⟩
      simp [WeakE, Weak, leL, leT, leM, leG, leA, leC, leS, leO, tokLt, tokLtL, intV, boolV]
     ·skip
      simp only [↓wBA, tRb, convA, ZA, reduceIte, reduceCtorEq, ZB, ZC, ZD, ZE, ZF, ZG, ZH, ZI, ZJ, ZK, hi0, hi1, Nat.mul_one, hs, hA, binStr, unmaskS, hB, hB', hC]
      refine ⟨(.det 0 (.det 1 (.det 2 (.det 3 (.det 4 (.det 5 (.det 6 (.det 7 .done)))))))), by decide, by kernel_rfl, by kernel_rfl, ?_⟩
      simp only [↓wBA, tRb, convA, ZA, reduceIte, reduceCtorEq, ZB, ZC, ZD, ZE, ZF, ZG, ZH, ZI, ZJ, ZK, hi0, hi1, Nat.mul_one, hs, hA, binStr, unmaskS, hB, hB', hC, hkd, hbd]
      exact ret_rd (k' := k') (b' := b') (.inl rfl) rfl rfl rfl ⟨rfl, rfl, kd, bd, rfl, fun _ => ⟨(ht (by simp at hC; omega)).1, (ht (by simp at hC; omega)).2.1⟩⟩
  ·have hdec : decide ((i : Int) < 13) = false := by simp; omega
   simp only [↓wBA, tRb, convA, ZA, reduceIte, reduceCtorEq, ZB, ZC, ZD, ZE, ZF, ZG, ZH, ZI, ZJ, ZK, hdec]
   exact ret_rd (k' := k') (b' := b') (.inl rfl) rfl rfl rfl ⟨rfl, rfl, 0, 0, rfl, fun h => by omega⟩
end Go.Proofs.Ytcnkmandddfdmaa
