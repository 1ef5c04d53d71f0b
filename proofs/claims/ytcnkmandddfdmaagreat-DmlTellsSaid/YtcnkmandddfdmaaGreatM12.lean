/- The reader's small methods. The reader's operators. The reader's factors and expressions: whatever tokens come, an expression is read, or the reader is bad. -/
import Derived.Test.YtcnkmandddfdmaaGreatM11
import Derived.Test.YtcnkmandddfdmaaGreatM09
set_option linter.unusedSimpArgs false
set_option linter.unusedVariables false
set_option linter.defProp false
set_option maxRecDepth 100000
set_option maxHeartbeats 32000000
namespace Go.Proofs.YtcnkmandddfdmaaGreat
open Go.RowKit
open Nat renaming reduceBEq → ZA, reducePow → ZB, reduceAdd → ZC, reduceSub → ZD, reduceMul → ZE, reduceEqDiff → ZF, reduceLeDiff → ZG, reduceLT → ZH
open Int renaming reduceLT → ZI, reduceLE → ZJ, reduceToNat → ZK
def tRp := aa wX <| aa T3 <| aa T4 <| aa T9 <| aa T85 <| aa T88 <| aa T90 T119
def PeekR (ts : List Tok) (k : Nat) (b : Bool) (r : AV) (k' : Nat) (b' : Bool) : Prop := k' = k ∧ b' = b ∧ ∃ t : Tok, r = tokA t.1 t.2.1 t.2.2 ∧ (t.1 ≠ 0 → b = false ∧ k < ts.length ∧ i64R t.2.2)
theorem apeek (ts : List Tok) (k : Nat) (b : Bool) : RCalls 98 [] ts k b (PeekR ts k b) := by
 refine RCalls.of rfl ?_
 refine acalls_of cx_ok dr_ok Tryz.func98 (by kernel_rfl) rfl (nt := 29) (rs := [.cell 2 119]) rfl rfl ?_
 simp only [rdO, intV, boolV]
 simp only [↓wBA, tRp, convA, ZA, reduceIte, reduceCtorEq, ZB, ZC, ZD, ZE, ZF, ZG, ZH, ZI, ZJ, ZK]
 refine ⟨(.det 0 (.det 1 (.det 2 (.det 3 (.det 4 (.det 5 (.det 6 (.det 7 (.det 8 (.det 9 (.det 10 (.det 11 (.det 12 (.det 13 (.det 14 (.det 15 .done)))))))))))))))), by decide, by kernel_rfl, by kernel_rfl, ?_⟩
 cases b
 ·by_cases hk : k < ts.length
  ·have hne : ts ≠ [] := fun h => by subst h; simp at hk
   have hnt := nilT ts hne
   have hen := encT_len ts
   obtain ⟨t, hti, ht⟩ := tok_get ts k hk
   have hd : decide ((k : Int) ≥ (ts.length : Int)) = false := by simp; omega
   simp only [↓wBA, tRp, convA, ZA, reduceIte, reduceCtorEq, ZB, ZC, ZD, ZE, ZF, ZG, ZH, ZI, ZJ, ZK, hnt, hen, hd, unmaskS, bu_len]
   refine ⟨(.det 0 (.det 1 (.det 2 (.det 3 (.det 4 (.det 5 (.det 6 (.det 7 (.det 8 (.det 9 (.fin 10 .done))))))))))), by decide, by kernel_rfl, by kernel_rfl, ?_⟩
   simp only [tokC] at ht
   simp only [↓wBA, tRp, convA, ZA, reduceIte, reduceCtorEq, ZB, ZC, ZD, ZE, ZF, ZG, ZH, ZI, ZJ, ZK, hnt, hen, hd, unmaskS, bu_len, ht]
   simp only [← hnt]
   refine ret_rd (R := PeekR ts k false) (k' := k) (b' := false) (.inl rfl) rfl rfl rfl ⟨rfl, rfl, t, rfl, fun _ => ⟨rfl, hk, hti⟩⟩
  ·by_cases hne : ts = []
   ·subst hne
    have hd : decide ((k : Int) ≥ ((0 : Nat) : Int)) = true := by simp
    have hnt : nilSl 3 (encT []) = .v (.slice none 0 0) := rfl
    simp only [↓wBA, tRp, convA, ZA, reduceIte, reduceCtorEq, ZB, ZC, ZD, ZE, ZF, ZG, ZH, ZI, ZJ, ZK, hnt, hd, unmaskS, bu_len]
    refine ret_rd (R := PeekR [] k false) (k' := k) (b' := false) (.inl rfl) rfl rfl rfl ⟨rfl, rfl, (0, ⟨#[]⟩, 0), rfl, fun h => (h rfl).elim⟩
   ·have hnt := nilT ts hne
    have hen := encT_len ts
    have hd : decide ((k : Int) ≥ (ts.length : Int)) = true := by simp; omega
    simp only [↓wBA, tRp, convA, ZA, reduceIte, reduceCtorEq, ZB, ZC, ZD, ZE, ZF, ZG, ZH, ZI, ZJ, ZK, hnt, hen, hd, unmaskS, bu_len]
    simp only [← hnt]
    refine ret_rd (R := PeekR ts k false) (k' := k) (b' := false) (.inl rfl) rfl rfl rfl ⟨rfl, rfl, (0, ⟨#[]⟩, 0), rfl, fun h => (h rfl).elim⟩
 ·skip
  simp only [↓wBA, tRp, convA, ZA, reduceIte, reduceCtorEq, ZB, ZC, ZD, ZE, ZF, ZG, ZH, ZI, ZJ, ZK, unmaskS, bu_len]
  refine ret_rd (R := PeekR ts k true) (k' := k) (b' := true) (.inl rfl) rfl rfl rfl ⟨rfl, rfl, (0, ⟨#[]⟩, 0), rfl, fun h => (h rfl).elim⟩
def IsR (ts : List Tok) (k : Nat) (b : Bool) (r : AV) (k' : Nat) (b' : Bool) : Prop := b' = b ∧ ∃ v : Bool, r = boolV v ∧ (v = true → b = false ∧ k' = k + 1 ∧ k + 1 ≤ ts.length) ∧ (v = false → k' = k)
theorem ais (kd : Int) (hkd : kd ≠ 0) (s : ByteArray) (ts : List Tok) (hts : ts.length ≤ 2048) (k : Nat) (b : Bool) : RCalls 70 [intV .i64 kd, .p (.v (.string s))] ts k b (IsR ts k b) := by
 refine RCalls.of rfl ?_
 refine acalls_of cx_ok dr_ok Tryz.func70 (by kernel_rfl) rfl (nt := 24) (rs := [.tmp 6]) rfl rfl ?_
 simp only [↓wBA, tRp, convA, ZA, reduceIte, reduceCtorEq, ZB, ZC, ZD, ZE, ZF, ZG, ZH, ZI, ZJ, ZK]
 refine (apeek ts k b _ 0 rfl).mono ?_
 rintro _ _ ⟨k', b', ⟨rfl, rfl, t, rfl, ht⟩, rfl⟩
 simp only [tokA, rdO, intV, boolV]
 cases h1 : (t.1 == kd)
 ·skip
  simp only [↓wBA, tRp, convA, ZA, reduceIte, reduceCtorEq, ZB, ZC, ZD, ZE, ZF, ZG, ZH, ZI, ZJ, ZK, h1]
  exact ret_rd (k' := k') (b' := b') (.inl rfl) rfl rfl rfl ⟨rfl, false, rfl, fun h => by simp at h, fun _ => rfl⟩
 ·skip
  simp only [↓wBA, tRp, convA, ZA, reduceIte, reduceCtorEq, ZB, ZC, ZD, ZE, ZF, ZG, ZH, ZI, ZJ, ZK, h1, binStr]
  refine cond_split (fun h2 => ?_) (fun h2 => ?_)
  ·obtain ⟨hb, hk, _⟩ := ht (by simp at h1; omega)
   have hw : IntKind.i64.wrap ((k' : Int) + 1) = ((k' + 1 : Nat) : Int) := by rw [wrap_i64 (by omega) (by omega)]; simp
   simp only [↓wBA, tRp, convA, ZA, reduceIte, reduceCtorEq, ZB, ZC, ZD, ZE, ZF, ZG, ZH, ZI, ZJ, ZK, hw]
   exact ret_rd (k' := k' + 1) (b' := b') (.inl rfl) rfl rfl rfl ⟨rfl, true, rfl, fun _ => ⟨hb, rfl, hk⟩, fun h => by simp at h⟩
  ·skip
   simp only [↓wBA, tRp, convA, ZA, reduceIte, reduceCtorEq, ZB, ZC, ZD, ZE, ZF, ZG, ZH, ZI, ZJ, ZK]
   exact ret_rd (k' := k') (b' := b') (.inl rfl) rfl rfl rfl ⟨rfl, false, rfl, fun h => by simp at h, fun _ => rfl⟩
theorem aRsign (s : ByteArray) (ts : List Tok) (hts : ts.length ≤ 2048) (k : Nat) (b : Bool) : RCalls 45 [.p (.v (.string s))] ts k b (IsR ts k b) := by
 refine RCalls.of rfl ?_
 refine acalls_of cx_ok dr_ok Tryz.func45 (by kernel_rfl) rfl (nt := 6) (rs := [.tmp 4]) rfl rfl ?_
 simp only [↓wBA, tRp, convA, ZA, reduceIte, reduceCtorEq, ZB, ZC, ZD, ZE, ZF, ZG, ZH, ZI, ZJ, ZK]
 refine (ais 5 (by decide) s ts hts k b _ 0 rfl).mono ?_
 rintro _ _ ⟨k', b', ⟨rfl, v, rfl, h1, h2⟩, rfl⟩
 simp only [rdO, intV, boolV]
 simp only [↓wBA, tRp, convA, ZA, reduceIte, reduceCtorEq, ZB, ZC, ZD, ZE, ZF, ZG, ZH, ZI, ZJ, ZK]
 exact ret_rd (k' := k') (b' := b') (.inl rfl) rfl rfl rfl ⟨rfl, v, rfl, h1, h2⟩
theorem aRword (s : ByteArray) (ts : List Tok) (hts : ts.length ≤ 2048) (k : Nat) (b : Bool) : RCalls 37 [.p (.v (.string s))] ts k b (IsR ts k b) := by
 refine RCalls.of rfl ?_
 refine acalls_of cx_ok dr_ok Tryz.func37 (by kernel_rfl) rfl (nt := 6) (rs := [.tmp 4]) rfl rfl ?_
 simp only [↓wBA, tRp, convA, ZA, reduceIte, reduceCtorEq, ZB, ZC, ZD, ZE, ZF, ZG, ZH, ZI, ZJ, ZK]
 refine (ais 1 (by decide) s ts hts k b _ 0 rfl).mono ?_
 rintro _ _ ⟨k', b', ⟨rfl, v, rfl, h1, h2⟩, rfl⟩
 simp only [rdO, intV, boolV]
 simp only [↓wBA, tRp, convA, ZA, reduceIte, reduceCtorEq, ZB, ZC, ZD, ZE, ZF, ZG, ZH, ZI, ZJ, ZK]
 exact ret_rd (k' := k') (b' := b') (.inl rfl) rfl rfl rfl ⟨rfl, v, rfl, h1, h2⟩
def WantR (ts : List Tok) (k : Nat) (b : Bool) (r : AV) (k' : Nat) (b' : Bool) : Prop := r = .tup [] ∧ Adv ts k b k' b'
theorem awant (kd : Int) (hkd : kd ≠ 0) (s : ByteArray) (ts : List Tok) (hts : ts.length ≤ 2048) (k : Nat) (hk : k ≤ ts.length) (b : Bool) : RCalls 42 [intV .i64 kd, .p (.v (.string s))] ts k b (WantR ts k b) := by
 refine RCalls.of rfl ?_
 refine acalls_of cx_ok dr_ok Tryz.func42 (by kernel_rfl) rfl (nt := 11) (rs := []) rfl rfl ?_
 simp only [↓wBA, tRp, convA, ZA, reduceIte, reduceCtorEq, ZB, ZC, ZD, ZE, ZF, ZG, ZH, ZI, ZJ, ZK]
 refine (ais kd hkd s ts hts k b _ 0 rfl).mono ?_
 rintro _ _ ⟨k', b', ⟨rfl, v, rfl, h1, h2⟩, rfl⟩
 simp only [rdO, intV, boolV]
 cases v
 ·skip
  simp only [↓wBA, tRp, convA, ZA, reduceIte, reduceCtorEq, ZB, ZC, ZD, ZE, ZF, ZG, ZH, ZI, ZJ, ZK]
  exact ret_rd (k' := k') (b' := true) (.inr rfl) rfl rfl rfl ⟨rfl, by have := h2 rfl; omega, by have := h2 rfl; omega, fun h => by simp at h⟩
 ·skip
  simp only [↓wBA, tRp, convA, ZA, reduceIte, reduceCtorEq, ZB, ZC, ZD, ZE, ZF, ZG, ZH, ZI, ZJ, ZK]
  obtain ⟨g1, g2, g3⟩ := h1 rfl
  exact ret_rd (k' := k') (b' := b') (.inr rfl) rfl rfl rfl ⟨rfl, by omega, by omega, fun h => ⟨g1, by omega⟩⟩
def AnyR (ts : List Tok) (k : Nat) (b : Bool) (r : AV) (k' : Nat) (b' : Bool) : Prop := (∃ t : Tok, r = tokA t.1 t.2.1 t.2.2) ∧ Adv ts k b k' b'
theorem aany (kd : Int) (hkd : kd ≠ 0) (ts : List Tok) (hts : ts.length ≤ 2048) (k : Nat) (hk : k ≤ ts.length) (b : Bool) : RCalls 77 [intV .i64 kd] ts k b (AnyR ts k b) := by
 refine RCalls.of rfl ?_
 refine acalls_of cx_ok dr_ok Tryz.func77 (by kernel_rfl) rfl (nt := 22) (rs := [.cell 4 119]) rfl rfl ?_
 simp only [↓wBA, tRp, convA, ZA, reduceIte, reduceCtorEq, ZB, ZC, ZD, ZE, ZF, ZG, ZH, ZI, ZJ, ZK]
 refine (apeek ts k b _ 0 rfl).mono ?_
 rintro _ _ ⟨k', b', ⟨rfl, rfl, t, rfl, ht⟩, rfl⟩
 simp only [tokA, rdO, intV, boolV]
 simp only [↓wBA, tRp, convA, ZA, reduceIte, reduceCtorEq, ZB, ZC, ZD, ZE, ZF, ZG, ZH, ZI, ZJ, ZK]
 refine cond_split (fun h1 => ?_) (fun h1 => ?_)
 ·skip
  simp only [↓wBA, tRp, convA, ZA, reduceIte, reduceCtorEq, ZB, ZC, ZD, ZE, ZF, ZG, ZH, ZI, ZJ, ZK]
  exact ret_rd (k' := k') (b' := true) (.inl rfl) rfl rfl rfl ⟨⟨(0, ⟨#[]⟩, 0), rfl⟩, by omega, by omega, fun h => by simp at h⟩
 ·obtain ⟨hb, hk, _⟩ := ht (by simp at h1; omega)
  have hw : IntKind.i64.wrap ((k' : Int) + 1) = ((k' + 1 : Nat) : Int) := by rw [wrap_i64 (by omega) (by omega)]; simp
  simp only [↓wBA, tRp, convA, ZA, reduceIte, reduceCtorEq, ZB, ZC, ZD, ZE, ZF, ZG, ZH, ZI, ZJ, ZK, hw]
  exact ret_rd (k' := k' + 1) (b' := b') (.inl rfl) rfl rfl rfl ⟨⟨t, rfl⟩, by omega, by omega, fun h => ⟨hb, by omega⟩⟩
def NameR (ts : List Tok) (k : Nat) (b : Bool) (r : AV) (k' : Nat) (b' : Bool) : Prop := (∃ s : ByteArray, r = .p (.v (.string s))) ∧ Adv ts k b k' b'
theorem aname (ts : List Tok) (hts : ts.length ≤ 2048) (k : Nat) (hk : k ≤ ts.length) (b : Bool) : RCalls 43 [] ts k b (NameR ts k b) := by
 refine RCalls.of rfl ?_
 refine acalls_of cx_ok dr_ok Tryz.func43 (by kernel_rfl) rfl (nt := 5) (rs := [.tmp 2]) rfl rfl ?_
 simp only [↓wBA, tRp, convA, ZA, reduceIte, reduceCtorEq, ZB, ZC, ZD, ZE, ZF, ZG, ZH, ZI, ZJ, ZK]
 refine (aany 2 (by decide) ts hts k hk b _ 0 rfl).mono ?_
 rintro _ _ ⟨k', b', ⟨⟨t, rfl⟩, h1⟩, rfl⟩
 simp only [tokA, rdO, intV, boolV]
 simp only [↓wBA, tRp, convA, ZA, reduceIte, reduceCtorEq, ZB, ZC, ZD, ZE, ZF, ZG, ZH, ZI, ZJ, ZK]
 exact ret_rd (k' := k') (b' := b') (.inl rfl) rfl rfl rfl ⟨⟨_, rfl⟩, h1⟩
end Go.Proofs.YtcnkmandddfdmaaGreat
namespace Go.Proofs.YtcnkmandddfdmaaGreat
open Go.RowKit
open Nat renaming reduceBEq → ZA, reducePow → ZB, reduceAdd → ZC, reduceSub → ZD, reduceMul → ZE, reduceEqDiff → ZF, reduceLeDiff → ZG, reduceLT → ZH
open Int renaming reduceLT → ZI, reduceLE → ZJ, reduceToNat → ZK
def tRb := aa wX <| aa T3 <| aa T9 <| aa T88 <| aa T119 <| aa T180 T181
theorem tx_get : ∀ k < 13, ∃ s : ByteArray, ([.p (.v (.string ⟨#[79, 82]⟩)), .p (.v (.string ⟨#[65, 78, 68]⟩)), .p (.v (.string ⟨#[61]⟩)), .p (.v (.string ⟨#[60, 62]⟩)), .p (.v (.string ⟨#[60]⟩)), .p (.v (.string ⟨#[60, 61]⟩)), .p (.v (.string ⟨#[62]⟩)), .p (.v (.string ⟨#[62, 61]⟩)), .p (.v (.string ⟨#[43]⟩)), .p (.v (.string ⟨#[45]⟩)), .p (.v (.string ⟨#[42]⟩)), .p (.v (.string ⟨#[47]⟩)), .p (.v (.string ⟨#[37]⟩))] : List AV)[k]? = some (.p (.v (.string s))) := by
 intro k hk
 match k, hk with
 | 0, _ => exact ⟨_, rfl⟩
 | 1, _ => exact ⟨_, rfl⟩
 | 2, _ => exact ⟨_, rfl⟩
 | 3, _ => exact ⟨_, rfl⟩
 | 4, _ => exact ⟨_, rfl⟩
 | 5, _ => exact ⟨_, rfl⟩
 | 6, _ => exact ⟨_, rfl⟩
 | 7, _ => exact ⟨_, rfl⟩
 | 8, _ => exact ⟨_, rfl⟩
 | 9, _ => exact ⟨_, rfl⟩
 | 10, _ => exact ⟨_, rfl⟩
 | 11, _ => exact ⟨_, rfl⟩
 | 12, _ => exact ⟨_, rfl⟩
theorem kd_get : ∀ k < 13, ∃ n : Int, ([.p (.v (.int .i64 17)), .p (.v (.int .i64 16)), .p (.v (.int .i64 10)), .p (.v (.int .i64 11)), .p (.v (.int .i64 12)), .p (.v (.int .i64 13)), .p (.v (.int .i64 14)), .p (.v (.int .i64 15)), .p (.v (.int .i64 5)), .p (.v (.int .i64 6)), .p (.v (.int .i64 7)), .p (.v (.int .i64 8)), .p (.v (.int .i64 9))] : List AV)[k]? = some (.p (.v (.int .i64 n))) := by
 intro k hk
 match k, hk with
 | 0, _ => exact ⟨_, rfl⟩
 | 1, _ => exact ⟨_, rfl⟩
 | 2, _ => exact ⟨_, rfl⟩
 | 3, _ => exact ⟨_, rfl⟩
 | 4, _ => exact ⟨_, rfl⟩
 | 5, _ => exact ⟨_, rfl⟩
 | 6, _ => exact ⟨_, rfl⟩
 | 7, _ => exact ⟨_, rfl⟩
 | 8, _ => exact ⟨_, rfl⟩
 | 9, _ => exact ⟨_, rfl⟩
 | 10, _ => exact ⟨_, rfl⟩
 | 11, _ => exact ⟨_, rfl⟩
 | 12, _ => exact ⟨_, rfl⟩
theorem bd_get : ∀ k < 13, ∃ n : Int, ([.p (.v (.int .i64 1)), .p (.v (.int .i64 2)), .p (.v (.int .i64 4)), .p (.v (.int .i64 4)), .p (.v (.int .i64 4)), .p (.v (.int .i64 4)), .p (.v (.int .i64 4)), .p (.v (.int .i64 4)), .p (.v (.int .i64 5)), .p (.v (.int .i64 5)), .p (.v (.int .i64 6)), .p (.v (.int .i64 6)), .p (.v (.int .i64 6))] : List AV)[k]? = some (.p (.v (.int .i64 n))) := by
 intro k hk
 match k, hk with
 | 0, _ => exact ⟨_, rfl⟩
 | 1, _ => exact ⟨_, rfl⟩
 | 2, _ => exact ⟨_, rfl⟩
 | 3, _ => exact ⟨_, rfl⟩
 | 4, _ => exact ⟨_, rfl⟩
 | 5, _ => exact ⟨_, rfl⟩
 | 6, _ => exact ⟨_, rfl⟩
 | 7, _ => exact ⟨_, rfl⟩
 | 8, _ => exact ⟨_, rfl⟩
 | 9, _ => exact ⟨_, rfl⟩
 | 10, _ => exact ⟨_, rfl⟩
 | 11, _ => exact ⟨_, rfl⟩
 | 12, _ => exact ⟨_, rfl⟩
def BinR (ts : List Tok) (k : Nat) (b : Bool) (r : AV) (k' : Nat) (b' : Bool) : Prop := k' = k ∧ b' = b ∧ ∃ kd bd : Int, r = .tup [intV .i64 kd, intV .i64 bd] ∧ (kd > 0 → b = false ∧ k < ts.length)
theorem abinary (ts : List Tok) (k : Nat) (b : Bool) : RCalls 100 [] ts k b (BinR ts k b) := by
 refine RCalls.of rfl ?_
 refine acalls_of cx_ok dr_ok Tryz.func100 (by kernel_rfl) rfl (nt := 47) (rs := [.tmp 2, .tmp 3]) rfl rfl ?_
 simp only [↓wBA, tRb, convA, ZA, reduceIte, reduceCtorEq, ZB, ZC, ZD, ZE, ZF, ZG, ZH, ZI, ZJ, ZK]
 refine (apeek ts k b _ 0 rfl).mono ?_
 rintro _ _ ⟨k', b', ⟨rfl, rfl, t, rfl, ht⟩, rfl⟩
 simp only [tokA, rdO, intV, boolV]
 simp only [↓wBA, tRb, convA, ZA, reduceIte, reduceCtorEq, ZB, ZC, ZD, ZE, ZF, ZG, ZH, ZI, ZJ, ZK]
 refine awp_loopS (X := { i : Nat // i ≤ 13 }) (fun i => [.mp 0 3 0 0, .any, .any, .any, .mp 1 3 0 0, .mp 2 13 0 0, .mp 3 13 0 0, .mp 4 13 0 0, intV .i64 (i.1 : Nat), .any, .any, .any, .any, .any, .any, .any, .any, .any, .any, .any, .any, .any, .any, .any, .any, .any, .any, .any, .any, .any, .any, .any, .any, .any, .any, .any, .any, .any, .any, .any, .any, .any, .any, .any, .any, .any, .any, .any]) (fun i => 13 - i.1) ⟨0, by omega⟩ ?_ ?_
 ·simp [WeakE, Weak, leL, leT, leM, leG, leA, leC, leS, leO, tokLt, tokLtL, intV, boolV]
 ·rintro ⟨i, hi⟩
  by_cases hlt : i < 13
  ·have hdec : decide ((i : Int) < 13) = true := by simp; omega
   obtain ⟨s, hs⟩ := tx_get i hlt
   obtain ⟨kd, hkd⟩ := kd_get i hlt
   obtain ⟨bd, hbd⟩ := bd_get i hlt
   have hi0 := nnI i
   have hi1 : ((i : Int) < ((13 : Nat) : Int)) = True := eq_true (by omega)
   have hw := wI i (by omega)
   simp only [↓wBA, tRb, convA, ZA, reduceIte, reduceCtorEq, ZB, ZC, ZD, ZE, ZF, ZG, ZH, ZI, ZJ, ZK, hdec]
   refine ⟨(.det 0 (.det 1 (.det 2 (.det 3 (.det 4 (.det 5 (.det 6 (.det 7 (.det 8 (.det 9 (.det 10 (.det 11 (.det 12 (.det 13 (.det 14 (.det 15 (.det 16 (.det 17 (.det 18 (.det 19 (.det 20 (.det 21 (.det 22 (.det 23 .done)))))))))))))))))))))))), by decide, by kernel_rfl, by kernel_rfl, ?_⟩
   cases hA : (t.2.1.toList == s.toList)
   ·skip
    simp only [↓wBA, tRb, convA, ZA, reduceIte, reduceCtorEq, ZB, ZC, ZD, ZE, ZF, ZG, ZH, ZI, ZJ, ZK, hi0, hi1, Nat.mul_one, hs, hA, binStr, unmaskS, hw]
    refine ⟨⟨i + 1, by omega⟩, by show 13 - (i + 1) < 13 - i; omega, ?_⟩
    simp [WeakE, Weak, leL, leT, leM, leG, leA, leC, leS, leO, tokLt, tokLtL, intV, boolV]
   ·by_cases h2 : i < 2
    ·have hB : decide ((i : Int) < 2) = true := by simp; omega
     have hB' : decide ((i : Int) ≥ 2) = false := by simp; omega
     cases hC : (t.1 == 1)
     ·skip
      simp only [↓wBA, tRb, convA, ZA, reduceIte, reduceCtorEq, ZB, ZC, ZD, ZE, ZF, ZG, ZH, ZI, ZJ, ZK, hi0, hi1, Nat.mul_one, hs, hA, binStr, unmaskS, hB, hB', hC, hw]
      refine ⟨⟨i + 1, by omega⟩, by show 13 - (i + 1) < 13 - i; omega, ?_⟩
      simp [WeakE, Weak, leL, leT, leM, leG, leA, leC, leS, leO, tokLt, tokLtL, intV, boolV]
     ·skip
      simp only [↓wBA, tRb, convA, ZA, reduceIte, reduceCtorEq, ZB, ZC, ZD, ZE, ZF, ZG, ZH, ZI, ZJ, ZK, hi0, hi1, Nat.mul_one, hs, hA, binStr, unmaskS, hB, hB', hC]
      refine ⟨(.det 0 (.det 1 (.det 2 (.det 3 (.det 4 (.det 5 (.det 6 (.det 7 .done)))))))), by decide, by kernel_rfl, by kernel_rfl, ?_⟩
      simp only [↓wBA, tRb, convA, ZA, reduceIte, reduceCtorEq, ZB, ZC, ZD, ZE, ZF, ZG, ZH, ZI, ZJ, ZK, hi0, hi1, Nat.mul_one, hs, hA, binStr, unmaskS, hB, hB', hC, hkd, hbd]
      exact ret_rd (k' := k') (b' := b') (.inl rfl) rfl rfl rfl ⟨rfl, rfl, kd, bd, rfl, fun _ => ⟨(ht (by simp at hC; omega)).1, (ht (by simp at hC; omega)).2.1⟩⟩
    ·have hB : decide ((i : Int) < 2) = false := by simp; omega
     have hB' : decide ((i : Int) ≥ 2) = true := by simp; omega
     cases hC : (t.1 == 5)
     ·skip
      simp only [↓wBA, tRb, convA, ZA, reduceIte, reduceCtorEq, ZB, ZC, ZD, ZE, ZF, ZG, ZH, ZI, ZJ, ZK, hi0, hi1, Nat.mul_one, hs, hA, binStr, unmaskS, hB, hB', hC, hw]
      refine ⟨⟨i + 1, by omega⟩, by show 13 - (i + 1) < 13 - i; omega, ?_⟩
      simp [WeakE, Weak, leL, leT, leM, leG, leA, leC, leS, leO, tokLt, tokLtL, intV, boolV]
     ·skip
      simp only [↓wBA, tRb, convA, ZA, reduceIte, reduceCtorEq, ZB, ZC, ZD, ZE, ZF, ZG, ZH, ZI, ZJ, ZK, hi0, hi1, Nat.mul_one, hs, hA, binStr, unmaskS, hB, hB', hC]
      refine ⟨(.det 0 (.det 1 (.det 2 (.det 3 (.det 4 (.det 5 (.det 6 (.det 7 .done)))))))), by decide, by kernel_rfl, by kernel_rfl, ?_⟩
      simp only [↓wBA, tRb, convA, ZA, reduceIte, reduceCtorEq, ZB, ZC, ZD, ZE, ZF, ZG, ZH, ZI, ZJ, ZK, hi0, hi1, Nat.mul_one, hs, hA, binStr, unmaskS, hB, hB', hC, hkd, hbd]
      exact ret_rd (k' := k') (b' := b') (.inl rfl) rfl rfl rfl ⟨rfl, rfl, kd, bd, rfl, fun _ => ⟨(ht (by simp at hC; omega)).1, (ht (by simp at hC; omega)).2.1⟩⟩
  ·have hdec : decide ((i : Int) < 13) = false := by simp; omega
   simp only [↓wBA, tRb, convA, ZA, reduceIte, reduceCtorEq, ZB, ZC, ZD, ZE, ZF, ZG, ZH, ZI, ZJ, ZK, hdec]
   exact ret_rd (k' := k') (b' := b') (.inl rfl) rfl rfl rfl ⟨rfl, rfl, 0, 0, rfl, fun h => by omega⟩
end Go.Proofs.YtcnkmandddfdmaaGreat
namespace Go.Proofs.YtcnkmandddfdmaaGreat
open Go.RowKit
open Nat renaming reduceBEq → ZA, reducePow → ZB, reduceAdd → ZC, reduceSub → ZD, reduceMul → ZE, reduceEqDiff → ZF, reduceLeDiff → ZG, reduceLT → ZH
open Int renaming reduceLT → ZI, reduceLE → ZJ, reduceToNat → ZK
def tRf := aa wX <| aa T2 <| aa T3 <| aa T4 <| aa T9 <| aa T33 <| aa T56 <| aa T70 <| aa T88 <| aa T90 <| aa T119 T179
theorem ret_rdW {C : Ctx} {fr : List AV} {ts : List Tok} {k' : Nat} {b' : Bool} {rest : St} {rs : List ResultVar} {R : AV → Nat → Bool → Prop} {r0 : AV} {e : Exit} (r1 : AV) (he : e = .ret ∨ e = .normal) (h1 : resA C rs fr (some (rdO ts k' b') :: rest) = some r0) (h2 : leT (some (rdO ts k' b') :: rest) 1 [some (rdO ts k' b')] r0 r1) (h3 : tokLt 0 r1 = true) (h4 : frzA r1 = r1) (h5 : R r1 k' b') :
 retA C rs 1 (fun r σ' => RdPost ts R (frzA r) σ') e fr (some (rdO ts k' b') :: rest) := by
 refine ⟨he, r0, r1, [some (rdO ts k' b')], h1, .inr ⟨?_, ?_⟩, by simp, k', b', by rw [h4]; exact h3, by rw [h4]; exact h5, rfl⟩
 ·have : min (some (rdO ts k' b') :: rest).length [some (rdO ts k' b')].length = 1 := by simp
  rw [this]; exact ⟨h2, trivial⟩
 ·simp [leS, rdO, leO, tokLtL, tokLt, intV, boolV]
def ExR (ts : List Tok) (k : Nat) (b : Bool) (r : AV) (k' : Nat) (b' : Bool) : Prop := (∃ x : Ex, r = exA x ∧ okE x) ∧ Adv ts k b k' b'
theorem exA_frz (x : Ex) : frzA (exA x) = exA x := by cases x; rfl
theorem exA_tok (x : Ex) : tokLt 0 (exA x) = true := by cases x; rfl
theorem ag_get : ∀ k < 4, ∃ s : ByteArray, ([.p (.v (.string ⟨#[67, 79, 85, 78, 84]⟩)), .p (.v (.string ⟨#[83, 85, 77]⟩)), .p (.v (.string ⟨#[77, 73, 78]⟩)), .p (.v (.string ⟨#[77, 65, 88]⟩))] : List AV)[k]? = some (.p (.v (.string s))) := by
 intro k hk
 match k, hk with
 | 0, _ => exact ⟨_, rfl⟩
 | 1, _ => exact ⟨_, rfl⟩
 | 2, _ => exact ⟨_, rfl⟩
 | 3, _ => exact ⟨_, rfl⟩
theorem factor_of (ts : List Tok) (hts : ts.length ≤ 2048) (k : Nat) (hk : k ≤ ts.length) (b : Bool)
 (hF : ∀ k' b', k < k' → k' ≤ ts.length → RCalls 99 [] ts k' b' (ExR ts k' b'))
 (hE : ∀ k' b' (n : Int), k < k' → k' ≤ ts.length → RCalls 75 [intV .i64 n] ts k' b' (ExR ts k' b')) :
 RCalls 99 [] ts k b (ExR ts k b) := by
 refine RCalls.of rfl ?_
 refine acalls_of cx_ok dr_ok Tryz.func99 (by kernel_rfl) rfl (nt := 124) (rs := [.cell 2 70]) rfl rfl ?_
 simp only [↓wBA, tRf, convA, ZA, reduceIte, reduceCtorEq, ZB, ZC, ZD, ZE, ZF, ZG, ZH, ZI, ZJ, ZK]
 refine (aRsign _ ts hts k b _ 0 rfl).mono ?_
 rintro _ _ ⟨k', b', ⟨rfl, v, rfl, h1, h2⟩, rfl⟩
 simp only [rdO, intV, boolV]
 cases v
 ·obtain rfl := h2 rfl
  clear h1 h2
  simp only [↓wBA, tRf, convA, ZA, reduceIte, reduceCtorEq, ZB, ZC, ZD, ZE, ZF, ZG, ZH, ZI, ZJ, ZK]
  refine (apeek ts k' b' _ 0 rfl).mono ?_
  rintro _ _ ⟨k', b', ⟨rfl, rfl, t, rfl, ht⟩, rfl⟩
  obtain ⟨tk, tt, tn⟩ := t
  simp only at ht
  simp only [tokA, rdO, intV, boolV]
  simp only [↓wBA, tRf, convA, ZA, reduceIte, reduceCtorEq, ZB, ZC, ZD, ZE, ZF, ZG, ZH, ZI, ZJ, ZK]
  cases hA : (tk == 0)
  ·obtain ⟨hb, hlt, htn⟩ := ht (by simp at hA; omega)
   subst hb
   have hw : IntKind.i64.wrap ((k' : Int) + 1) = ((k' + 1 : Nat) : Int) := by rw [wrap_i64 (by omega) (by omega)]; simp
   simp only [↓wBA, tRf, convA, ZA, reduceIte, reduceCtorEq, ZB, ZC, ZD, ZE, ZF, ZG, ZH, ZI, ZJ, ZK, hA, hw]
   cases hB : (tk == 3)
   ·skip
    simp only [↓wBA, tRf, convA, ZA, reduceIte, reduceCtorEq, ZB, ZC, ZD, ZE, ZF, ZG, ZH, ZI, ZJ, ZK, hB]
    cases hC : (tk == 4)
    ·skip
     simp only [↓wBA, tRf, convA, ZA, reduceIte, reduceCtorEq, ZB, ZC, ZD, ZE, ZF, ZG, ZH, ZI, ZJ, ZK, hC]
     cases hD : (tk == 2)
     ·skip
      simp only [↓wBA, tRf, convA, ZA, reduceIte, reduceCtorEq, ZB, ZC, ZD, ZE, ZF, ZG, ZH, ZI, ZJ, ZK, hD]
      refine cond_split (fun hT => ?_) (fun hT => ?_)
      ·skip
       simp only [↓wBA, tRf, convA, ZA, reduceIte, reduceCtorEq, ZB, ZC, ZD, ZE, ZF, ZG, ZH, ZI, ZJ, ZK]
       exact ret_rdW (k' := k' + 1) (b' := false) (exA (.mk 1 2 1 emp emp emp 0 [])) (.inl rfl) rfl (by simp [leT, leG, leC, leA, exA, exC, exL, ex0, emp, leaf, tokLt, nilA]) (exA_tok _) (exA_frz _) ⟨⟨_, rfl, okE_mk0⟩, by omega, by omega, fun h => ⟨rfl, by omega⟩⟩
      ·skip
       simp only [↓wBA, tRf, convA, ZA, reduceIte, reduceCtorEq, ZB, ZC, ZD, ZE, ZF, ZG, ZH, ZI, ZJ, ZK, binStr]
       refine cond_split (fun hT => ?_) (fun hT => ?_)
       ·skip
        simp only [↓wBA, tRf, convA, ZA, reduceIte, reduceCtorEq, ZB, ZC, ZD, ZE, ZF, ZG, ZH, ZI, ZJ, ZK]
        exact ret_rdW (k' := k' + 1) (b' := false) (exA (.mk 1 2 0 emp emp emp 0 [])) (.inl rfl) rfl (by simp [leT, leG, leC, leA, exA, exC, exL, ex0, emp, leaf, tokLt, nilA]) (exA_tok _) (exA_frz _) ⟨⟨_, rfl, okE_mk0⟩, by omega, by omega, fun h => ⟨rfl, by omega⟩⟩
       ·skip
        simp only [↓wBA, tRf, convA, ZA, reduceIte, reduceCtorEq, ZB, ZC, ZD, ZE, ZF, ZG, ZH, ZI, ZJ, ZK, binStr]
        refine cond_split (fun hT => ?_) (fun hT => ?_)
        ·skip
         simp only [↓wBA, tRf, convA, ZA, reduceIte, reduceCtorEq, ZB, ZC, ZD, ZE, ZF, ZG, ZH, ZI, ZJ, ZK]
         exact ret_rdW (k' := k' + 1) (b' := false) (exA (.mk 1 0 0 emp emp emp 0 [])) (.inl rfl) rfl (by simp [leT, leG, leC, leA, exA, exC, exL, ex0, emp, leaf, tokLt, nilA]) (exA_tok _) (exA_frz _) ⟨⟨_, rfl, okE_mk0⟩, by omega, by omega, fun h => ⟨rfl, by omega⟩⟩
        ·skip
         cases hP : (tk == 5)
         ·skip
          simp only [↓wBA, tRf, convA, ZA, reduceIte, reduceCtorEq, ZB, ZC, ZD, ZE, ZF, ZG, ZH, ZI, ZJ, ZK, hP, binStr]
          refine awp_loopS (X := { i : Nat // i ≤ 4 }) (fun i => [.mp 0 3 0 0, .any, .mp 1 8 0 0, .mp 2 3 0 0, .any, .mp 3 4 0 0, intV .i64 (i.1 : Nat), .any, .any, .any, .any, .any, .any, .any, .any, .any, .any, .any, .any, .any, .any, .any, .any, .any, .any, .any, .any, .any, .any, .any, .any, .any, .any, .any, .any, .any, .any, .any, .any, .any, .any, .any, .any, .any, .any, .any, .any, .any, .any, .any, .any, .any, .any, .any, .any, .any, .any, .any, .any, .any, .any, .any, .any, .any, .any, .any, .any, .any, .any, .any, .any, .any, .any, .any, .any, .any, .any, .any, .any, .any, .any, .any, .any, .any, .any, .any, .any, .any, .any, .any, .any, .any, .any, .any, .any, .any, .any, .any, .any, .any, .any, .any, .any, .any, .any, .any, .any, .any, .any, .any, .any, .any, .any, .any, .any, .any, .any, .any, .any, .any, .any, .any, .any, .any, .any]) (fun i => 4 - i.1) ⟨0, by omega⟩ ?_ ?_
          ·simp [WeakE, Weak, leL, leT, leM, leG, leA, leC, leS, leO, tokLt, tokLtL, intV, boolV]
          ·rintro ⟨i, hi⟩
           by_cases hlt : i < 4
           ·have hdec : decide ((i : Int) < 4) = true := by simp; omega
            obtain ⟨s, hs⟩ := ag_get i hlt
            have hi0 := nnI i
            have hi1 : ((i : Int) < ((4 : Nat) : Int)) = True := eq_true (by omega)
            have hw1 := wI i (by omega)
            simp only [↓wBA, tRf, convA, ZA, reduceIte, reduceCtorEq, ZB, ZC, ZD, ZE, ZF, ZG, ZH, ZI, ZJ, ZK, hdec]
            refine ⟨(.det 0 (.det 1 (.det 2 (.det 3 (.det 4 (.det 5 .done)))))), by decide, by kernel_rfl, by kernel_rfl, ?_⟩
            simp only [↓wBA, tRf, convA, ZA, reduceIte, reduceCtorEq, ZB, ZC, ZD, ZE, ZF, ZG, ZH, ZI, ZJ, ZK, hi0, hi1, Nat.mul_one, hs, binStr, unmaskS]
            refine cond_split (fun hS => ?_) (fun hS => ?_)
            ·skip
             simp only [↓wBA, tRf, convA, ZA, reduceIte, reduceCtorEq, ZB, ZC, ZD, ZE, ZF, ZG, ZH, ZI, ZJ, ZK]
             refine (awant 5 (by decide) _ ts hts _ (by omega) _ _ 0 rfl).mono ?_
             rintro _ _ ⟨k2, b2, ⟨rfl, e1, e2, e3⟩, rfl⟩
             simp only [rdO, intV, boolV]
             cases hZ : decide ((i : Int) > 0)
             ·skip
              simp only [↓wBA, tRf, convA, ZA, reduceIte, reduceCtorEq, ZB, ZC, ZD, ZE, ZF, ZG, ZH, ZI, ZJ, ZK, hZ]
              refine (aRsign _ ts hts _ _ _ 0 rfl).mono ?_
              rintro _ _ ⟨k3, b3, ⟨rfl, v, rfl, h1, h2⟩, rfl⟩
              simp only [rdO, intV, boolV]
              cases v
              ·obtain rfl := h2 rfl
               simp only [↓wBA, tRf, convA, ZA, reduceIte, reduceCtorEq, ZB, ZC, ZD, ZE, ZF, ZG, ZH, ZI, ZJ, ZK]
               refine (hE _ _ _ (by omega) (by omega) _ 0 rfl).mono ?_
               rintro _ _ ⟨k4, b4, ⟨⟨x, rfl, hx⟩, g1, g2, g3⟩, rfl⟩
               rcases x with ⟨kd, vk, vn, vs, tb, nm, sl, kids⟩
               simp only [exA, exC, rdO, intV, boolV, List.map_cons, List.map_nil]
               simp only [↓wBA, tRf, convA, ZA, reduceIte, reduceCtorEq, ZB, ZC, ZD, ZE, ZF, ZG, ZH, ZI, ZJ, ZK]
               refine (awant 5 (by decide) _ ts hts _ g2 _ _ 0 rfl).mono ?_
               rintro _ _ ⟨k5, b5, ⟨rfl, m1, m2, m3⟩, rfl⟩
               simp only [rdO, intV, boolV]
               simp only [↓wBA, tRf, convA, ZA, reduceIte, reduceCtorEq, ZB, ZC, ZD, ZE, ZF, ZG, ZH, ZI, ZJ, ZK]
               exact ret_rdW (k' := k5) (b' := b5) (exA (.mk (IntKind.i64.wrap (20 + (i : Int))) 0 0 emp emp emp 0 [.mk kd vk vn vs tb nm sl kids])) (.inl rfl) rfl (by simp [leT, leG, leC, leA, exA, exC, exL, ex0, emp, leaf, tokLt, nilA]) (exA_tok _) (exA_frz _) ⟨⟨_, rfl, okE_mk1 hx⟩, by omega, by omega, fun h => ⟨rfl, by omega⟩⟩
              ·obtain ⟨hb2, rfl, h3⟩ := h1 rfl
               simp only [↓wBA, tRf, convA, ZA, reduceIte, reduceCtorEq, ZB, ZC, ZD, ZE, ZF, ZG, ZH, ZI, ZJ, ZK]
               refine (awant 5 (by decide) _ ts hts _ h3 _ _ 0 rfl).mono ?_
               rintro _ _ ⟨k5, b5, ⟨rfl, m1, m2, m3⟩, rfl⟩
               simp only [rdO, intV, boolV]
               simp only [↓wBA, tRf, convA, ZA, reduceIte, reduceCtorEq, ZB, ZC, ZD, ZE, ZF, ZG, ZH, ZI, ZJ, ZK]
               exact ret_rdW (k' := k5) (b' := b5) (exA (.mk (IntKind.i64.wrap (20 + (i : Int))) 0 0 emp emp emp 0 [])) (.inl rfl) rfl (by simp [leT, leG, leC, leA, exA, exC, exL, ex0, emp, leaf, tokLt, nilA]) (exA_tok _) (exA_frz _) ⟨⟨_, rfl, okE_mk0⟩, by omega, by omega, fun h => ⟨rfl, by omega⟩⟩
             ·skip
              simp only [↓wBA, tRf, convA, ZA, reduceIte, reduceCtorEq, ZB, ZC, ZD, ZE, ZF, ZG, ZH, ZI, ZJ, ZK, hZ]
              refine (hE _ _ _ (by omega) (by omega) _ 0 rfl).mono ?_
              rintro _ _ ⟨k4, b4, ⟨⟨x, rfl, hx⟩, g1, g2, g3⟩, rfl⟩
              rcases x with ⟨kd, vk, vn, vs, tb, nm, sl, kids⟩
              simp only [exA, exC, rdO, intV, boolV, List.map_cons, List.map_nil]
              simp only [↓wBA, tRf, convA, ZA, reduceIte, reduceCtorEq, ZB, ZC, ZD, ZE, ZF, ZG, ZH, ZI, ZJ, ZK]
              refine (awant 5 (by decide) _ ts hts _ g2 _ _ 0 rfl).mono ?_
              rintro _ _ ⟨k5, b5, ⟨rfl, m1, m2, m3⟩, rfl⟩
              simp only [rdO, intV, boolV]
              simp only [↓wBA, tRf, convA, ZA, reduceIte, reduceCtorEq, ZB, ZC, ZD, ZE, ZF, ZG, ZH, ZI, ZJ, ZK]
              exact ret_rdW (k' := k5) (b' := b5) (exA (.mk (IntKind.i64.wrap (20 + (i : Int))) 0 0 emp emp emp 0 [.mk kd vk vn vs tb nm sl kids])) (.inl rfl) rfl (by simp [leT, leG, leC, leA, exA, exC, exL, ex0, emp, leaf, tokLt, nilA]) (exA_tok _) (exA_frz _) ⟨⟨_, rfl, okE_mk1 hx⟩, by omega, by omega, fun h => ⟨rfl, by omega⟩⟩
            ·skip
             simp only [↓wBA, tRf, convA, ZA, reduceIte, reduceCtorEq, ZB, ZC, ZD, ZE, ZF, ZG, ZH, ZI, ZJ, ZK, hw1]
             refine ⟨⟨i + 1, by omega⟩, by show 4 - (i + 1) < 4 - i; omega, ?_⟩
             simp [WeakE, Weak, leL, leT, leM, leG, leA, leC, leS, leO, tokLt, tokLtL, intV, boolV]
           ·have hdec : decide ((i : Int) < 4) = false := by simp; omega
            simp only [↓wBA, tRf, convA, ZA, reduceIte, reduceCtorEq, ZB, ZC, ZD, ZE, ZF, ZG, ZH, ZI, ZJ, ZK, hdec]
            exact ret_rdW (k' := k' + 1) (b' := true) (exA (ex0)) (.inl rfl) rfl (by simp [leT, leG, leC, leA, exA, exC, exL, ex0, emp, leaf, tokLt, nilA]) (exA_tok _) (exA_frz _) ⟨⟨_, rfl, okE_ex0⟩, by omega, by omega, fun h => by simp at h⟩
         ·skip
          simp only [↓wBA, tRf, convA, ZA, reduceIte, reduceCtorEq, ZB, ZC, ZD, ZE, ZF, ZG, ZH, ZI, ZJ, ZK, hP, binStr]
          refine cond_split (fun hT => ?_) (fun hT => ?_)
          ·skip
           simp only [↓wBA, tRf, convA, ZA, reduceIte, reduceCtorEq, ZB, ZC, ZD, ZE, ZF, ZG, ZH, ZI, ZJ, ZK]
           refine (hE _ _ _ (by omega) (by omega) _ 0 rfl).mono ?_
           rintro _ _ ⟨k2, b2, ⟨⟨x, rfl, hx⟩, g1, g2, g3⟩, rfl⟩
           rcases x with ⟨kd, vk, vn, vs, tb, nm, sl, kids⟩
           simp only [exA, exC, rdO, intV, boolV, List.map_cons, List.map_nil]
           simp only [↓wBA, tRf, convA, ZA, reduceIte, reduceCtorEq, ZB, ZC, ZD, ZE, ZF, ZG, ZH, ZI, ZJ, ZK]
           refine (awant 5 (by decide) _ ts hts k2 g2 b2 _ 0 rfl).mono ?_
           rintro _ _ ⟨k3, b3, ⟨rfl, e1, e2, e3⟩, rfl⟩
           simp only [rdO, intV, boolV]
           simp only [↓wBA, tRf, convA, ZA, reduceIte, reduceCtorEq, ZB, ZC, ZD, ZE, ZF, ZG, ZH, ZI, ZJ, ZK]
           exact ret_rdW (k' := k3) (b' := b3) (exA (.mk kd vk vn vs tb nm sl kids)) (.inl rfl) rfl (by simp [leT, leG, leC, leA, exA, exC, exL, ex0, emp, leaf, tokLt, nilA]) (exA_tok _) (exA_frz _) ⟨⟨_, rfl, hx⟩, by omega, by omega, fun h => ⟨rfl, by have := e3 h; have := g3 this.1; omega⟩⟩
          ·skip
           simp only [↓wBA, tRf, convA, ZA, reduceIte, reduceCtorEq, ZB, ZC, ZD, ZE, ZF, ZG, ZH, ZI, ZJ, ZK]
           refine awp_loopS (X := { i : Nat // i ≤ 4 }) (fun i => [.mp 0 3 0 0, .any, .mp 1 8 0 0, .mp 2 3 0 0, .any, .mp 3 4 0 0, intV .i64 (i.1 : Nat), .any, .any, .any, .any, .any, .any, .any, .any, .any, .any, .any, .any, .any, .any, .any, .any, .any, .any, .any, .any, .any, .any, .any, .any, .any, .any, .any, .any, .any, .any, .any, .any, .any, .any, .any, .any, .any, .any, .any, .any, .any, .any, .any, .any, .any, .any, .any, .any, .any, .any, .any, .any, .any, .any, .any, .any, .any, .any, .any, .any, .any, .any, .any, .any, .any, .any, .any, .any, .any, .any, .any, .any, .any, .any, .any, .any, .any, .any, .any, .any, .any, .any, .any, .any, .any, .any, .any, .any, .any, .any, .any, .any, .any, .any, .any, .any, .any, .any, .any, .any, .any, .any, .any, .any, .any, .any, .any, .any, .any, .any, .any, .any, .any, .any, .any, .any, .any, .any]) (fun i => 4 - i.1) ⟨0, by omega⟩ ?_ ?_
           ·simp [WeakE, Weak, leL, leT, leM, leG, leA, leC, leS, leO, tokLt, tokLtL, intV, boolV]
           ·rintro ⟨i, hi⟩
            by_cases hlt : i < 4
            ·have hdec : decide ((i : Int) < 4) = true := by simp; omega
             obtain ⟨s, hs⟩ := ag_get i hlt
             have hi0 := nnI i
             have hi1 : ((i : Int) < ((4 : Nat) : Int)) = True := eq_true (by omega)
             have hw1 := wI i (by omega)
             simp only [↓wBA, tRf, convA, ZA, reduceIte, reduceCtorEq, ZB, ZC, ZD, ZE, ZF, ZG, ZH, ZI, ZJ, ZK, hdec]
             refine ⟨(.det 0 (.det 1 (.det 2 (.det 3 (.det 4 (.det 5 .done)))))), by decide, by kernel_rfl, by kernel_rfl, ?_⟩
             simp only [↓wBA, tRf, convA, ZA, reduceIte, reduceCtorEq, ZB, ZC, ZD, ZE, ZF, ZG, ZH, ZI, ZJ, ZK, hi0, hi1, Nat.mul_one, hs, binStr, unmaskS]
             refine cond_split (fun hS => ?_) (fun hS => ?_)
             ·skip
              simp only [↓wBA, tRf, convA, ZA, reduceIte, reduceCtorEq, ZB, ZC, ZD, ZE, ZF, ZG, ZH, ZI, ZJ, ZK]
              refine (awant 5 (by decide) _ ts hts _ (by omega) _ _ 0 rfl).mono ?_
              rintro _ _ ⟨k2, b2, ⟨rfl, e1, e2, e3⟩, rfl⟩
              simp only [rdO, intV, boolV]
              cases hZ : decide ((i : Int) > 0)
              ·skip
               simp only [↓wBA, tRf, convA, ZA, reduceIte, reduceCtorEq, ZB, ZC, ZD, ZE, ZF, ZG, ZH, ZI, ZJ, ZK, hZ]
               refine (aRsign _ ts hts _ _ _ 0 rfl).mono ?_
               rintro _ _ ⟨k3, b3, ⟨rfl, v, rfl, h1, h2⟩, rfl⟩
               simp only [rdO, intV, boolV]
               cases v
               ·obtain rfl := h2 rfl
                simp only [↓wBA, tRf, convA, ZA, reduceIte, reduceCtorEq, ZB, ZC, ZD, ZE, ZF, ZG, ZH, ZI, ZJ, ZK]
                refine (hE _ _ _ (by omega) (by omega) _ 0 rfl).mono ?_
                rintro _ _ ⟨k4, b4, ⟨⟨x, rfl, hx⟩, g1, g2, g3⟩, rfl⟩
                rcases x with ⟨kd, vk, vn, vs, tb, nm, sl, kids⟩
                simp only [exA, exC, rdO, intV, boolV, List.map_cons, List.map_nil]
                simp only [↓wBA, tRf, convA, ZA, reduceIte, reduceCtorEq, ZB, ZC, ZD, ZE, ZF, ZG, ZH, ZI, ZJ, ZK]
                refine (awant 5 (by decide) _ ts hts _ g2 _ _ 0 rfl).mono ?_
                rintro _ _ ⟨k5, b5, ⟨rfl, m1, m2, m3⟩, rfl⟩
                simp only [rdO, intV, boolV]
                simp only [↓wBA, tRf, convA, ZA, reduceIte, reduceCtorEq, ZB, ZC, ZD, ZE, ZF, ZG, ZH, ZI, ZJ, ZK]
                exact ret_rdW (k' := k5) (b' := b5) (exA (.mk (IntKind.i64.wrap (20 + (i : Int))) 0 0 emp emp emp 0 [.mk kd vk vn vs tb nm sl kids])) (.inl rfl) rfl (by simp [leT, leG, leC, leA, exA, exC, exL, ex0, emp, leaf, tokLt, nilA]) (exA_tok _) (exA_frz _) ⟨⟨_, rfl, okE_mk1 hx⟩, by omega, by omega, fun h => ⟨rfl, by omega⟩⟩
               ·obtain ⟨hb2, rfl, h3⟩ := h1 rfl
                simp only [↓wBA, tRf, convA, ZA, reduceIte, reduceCtorEq, ZB, ZC, ZD, ZE, ZF, ZG, ZH, ZI, ZJ, ZK]
                refine (awant 5 (by decide) _ ts hts _ h3 _ _ 0 rfl).mono ?_
                rintro _ _ ⟨k5, b5, ⟨rfl, m1, m2, m3⟩, rfl⟩
                simp only [rdO, intV, boolV]
                simp only [↓wBA, tRf, convA, ZA, reduceIte, reduceCtorEq, ZB, ZC, ZD, ZE, ZF, ZG, ZH, ZI, ZJ, ZK]
                exact ret_rdW (k' := k5) (b' := b5) (exA (.mk (IntKind.i64.wrap (20 + (i : Int))) 0 0 emp emp emp 0 [])) (.inl rfl) rfl (by simp [leT, leG, leC, leA, exA, exC, exL, ex0, emp, leaf, tokLt, nilA]) (exA_tok _) (exA_frz _) ⟨⟨_, rfl, okE_mk0⟩, by omega, by omega, fun h => ⟨rfl, by omega⟩⟩
              ·skip
               simp only [↓wBA, tRf, convA, ZA, reduceIte, reduceCtorEq, ZB, ZC, ZD, ZE, ZF, ZG, ZH, ZI, ZJ, ZK, hZ]
               refine (hE _ _ _ (by omega) (by omega) _ 0 rfl).mono ?_
               rintro _ _ ⟨k4, b4, ⟨⟨x, rfl, hx⟩, g1, g2, g3⟩, rfl⟩
               rcases x with ⟨kd, vk, vn, vs, tb, nm, sl, kids⟩
               simp only [exA, exC, rdO, intV, boolV, List.map_cons, List.map_nil]
               simp only [↓wBA, tRf, convA, ZA, reduceIte, reduceCtorEq, ZB, ZC, ZD, ZE, ZF, ZG, ZH, ZI, ZJ, ZK]
               refine (awant 5 (by decide) _ ts hts _ g2 _ _ 0 rfl).mono ?_
               rintro _ _ ⟨k5, b5, ⟨rfl, m1, m2, m3⟩, rfl⟩
               simp only [rdO, intV, boolV]
               simp only [↓wBA, tRf, convA, ZA, reduceIte, reduceCtorEq, ZB, ZC, ZD, ZE, ZF, ZG, ZH, ZI, ZJ, ZK]
               exact ret_rdW (k' := k5) (b' := b5) (exA (.mk (IntKind.i64.wrap (20 + (i : Int))) 0 0 emp emp emp 0 [.mk kd vk vn vs tb nm sl kids])) (.inl rfl) rfl (by simp [leT, leG, leC, leA, exA, exC, exL, ex0, emp, leaf, tokLt, nilA]) (exA_tok _) (exA_frz _) ⟨⟨_, rfl, okE_mk1 hx⟩, by omega, by omega, fun h => ⟨rfl, by omega⟩⟩
             ·skip
              simp only [↓wBA, tRf, convA, ZA, reduceIte, reduceCtorEq, ZB, ZC, ZD, ZE, ZF, ZG, ZH, ZI, ZJ, ZK, hw1]
              refine ⟨⟨i + 1, by omega⟩, by show 4 - (i + 1) < 4 - i; omega, ?_⟩
              simp [WeakE, Weak, leL, leT, leM, leG, leA, leC, leS, leO, tokLt, tokLtL, intV, boolV]
            ·have hdec : decide ((i : Int) < 4) = false := by simp; omega
             simp only [↓wBA, tRf, convA, ZA, reduceIte, reduceCtorEq, ZB, ZC, ZD, ZE, ZF, ZG, ZH, ZI, ZJ, ZK, hdec]
             exact ret_rdW (k' := k' + 1) (b' := true) (exA (ex0)) (.inl rfl) rfl (by simp [leT, leG, leC, leA, exA, exC, exL, ex0, emp, leaf, tokLt, nilA]) (exA_tok _) (exA_frz _) ⟨⟨_, rfl, okE_ex0⟩, by omega, by omega, fun h => by simp at h⟩
     ·skip
      simp only [↓wBA, tRf, convA, ZA, reduceIte, reduceCtorEq, ZB, ZC, ZD, ZE, ZF, ZG, ZH, ZI, ZJ, ZK, hD]
      refine (aRsign _ ts hts _ _ _ 0 rfl).mono ?_
      rintro _ _ ⟨k2, b2, ⟨rfl, v, rfl, h1, h2⟩, rfl⟩
      simp only [rdO, intV, boolV]
      cases v
      ·obtain rfl := h2 rfl
       simp only [↓wBA, tRf, convA, ZA, reduceIte, reduceCtorEq, ZB, ZC, ZD, ZE, ZF, ZG, ZH, ZI, ZJ, ZK]
       exact ret_rdW (k' := k' + 1) (b' := false) (exA (.mk 2 0 0 emp emp tt 0 [])) (.inl rfl) rfl (by simp [leT, leG, leC, leA, exA, exC, exL, ex0, emp, leaf, tokLt, nilA]) (exA_tok _) (exA_frz _) ⟨⟨_, rfl, okE_mk0⟩, by omega, by omega, fun h => ⟨rfl, by omega⟩⟩
      ·obtain ⟨_, rfl, h3⟩ := h1 rfl
       simp only [↓wBA, tRf, convA, ZA, reduceIte, reduceCtorEq, ZB, ZC, ZD, ZE, ZF, ZG, ZH, ZI, ZJ, ZK]
       refine ⟨(.det 0 (.det 1 (.det 2 (.act 3 (.det 4 (.fin 5 .done)))))), by decide, by kernel_rfl, by kernel_rfl, ?_⟩
       simp only [↓wBA, tRf, convA, ZA, reduceIte, reduceCtorEq, ZB, ZC, ZD, ZE, ZF, ZG, ZH, ZI, ZJ, ZK]
       refine (aname ts hts _ h3 _ _ 0 rfl).mono ?_
       rintro _ _ ⟨k3, b3, ⟨⟨s, rfl⟩, g1, g2, g3⟩, rfl⟩
       simp only [rdO, intV, boolV]
       simp only [↓wBA, tRf, convA, ZA, reduceIte, reduceCtorEq, ZB, ZC, ZD, ZE, ZF, ZG, ZH, ZI, ZJ, ZK, unmaskS]
       exact ret_rdW (k' := k3) (b' := b3) (exA (.mk 2 0 0 emp tt s 0 [])) (.inl rfl) rfl (by simp [leT, leG, leC, leA, exA, exC, exL, ex0, emp, leaf, tokLt, nilA]) (exA_tok _) (exA_frz _) ⟨⟨_, rfl, okE_mk0⟩, by omega, by omega, fun h => ⟨rfl, by omega⟩⟩
    ·skip
     simp only [↓wBA, tRf, convA, ZA, reduceIte, reduceCtorEq, ZB, ZC, ZD, ZE, ZF, ZG, ZH, ZI, ZJ, ZK, hC]
     exact ret_rdW (k' := k' + 1) (b' := false) (exA (.mk 1 3 0 tt emp emp 0 [])) (.inl rfl) rfl (by simp [leT, leG, leC, leA, exA, exC, exL, ex0, emp, leaf, tokLt, nilA]) (exA_tok _) (exA_frz _) ⟨⟨_, rfl, okE_mk0⟩, by omega, by omega, fun h => ⟨rfl, by omega⟩⟩
   ·skip
    simp only [↓wBA, tRf, convA, ZA, reduceIte, reduceCtorEq, ZB, ZC, ZD, ZE, ZF, ZG, ZH, ZI, ZJ, ZK, hB]
    exact ret_rdW (k' := k' + 1) (b' := false) (exA (.mk 1 1 tn emp emp emp 0 [])) (.inl rfl) rfl (by simp [leT, leG, leC, leA, exA, exC, exL, ex0, emp, leaf, tokLt, nilA]) (exA_tok _) (exA_frz _) ⟨⟨_, rfl, okE_mk0 htn⟩, by omega, by omega, fun h => ⟨rfl, by omega⟩⟩
  ·skip
   simp only [↓wBA, tRf, convA, ZA, reduceIte, reduceCtorEq, ZB, ZC, ZD, ZE, ZF, ZG, ZH, ZI, ZJ, ZK, hA]
   exact ret_rdW (k' := k') (b' := true) (exA (ex0)) (.inl rfl) rfl (by simp [leT, leG, leC, leA, exA, exC, exL, ex0, emp, leaf, tokLt, nilA]) (exA_tok _) (exA_frz _) ⟨⟨_, rfl, okE_ex0⟩, by omega, by omega, fun h => by simp at h⟩
 ·obtain ⟨rfl, rfl, h3⟩ := h1 rfl
  simp only [↓wBA, tRf, convA, ZA, reduceIte, reduceCtorEq, ZB, ZC, ZD, ZE, ZF, ZG, ZH, ZI, ZJ, ZK]
  refine (hF _ _ (by omega) h3 _ 0 rfl).mono ?_
  rintro _ _ ⟨k', b', ⟨⟨x, rfl, hx⟩, g1, g2, g3⟩, rfl⟩
  rcases x with ⟨kd, vk, vn, vs, tb, nm, sl, kids⟩
  simp only [exA, exC, rdO, intV, boolV, List.map_cons, List.map_nil]
  simp only [↓wBA, tRf, convA, ZA, reduceIte, reduceCtorEq, ZB, ZC, ZD, ZE, ZF, ZG, ZH, ZI, ZJ, ZK]
  exact ret_rdW (k' := k') (b' := b') (exA (.mk 3 0 0 emp emp emp 0 [.mk kd vk vn vs tb nm sl kids])) (.inl rfl) rfl (by simp [leT, leG, leC, leA, exA, exC, exL, ex0, emp, leaf, tokLt, nilA]) (exA_tok _) (exA_frz _) ⟨⟨_, rfl, okE_mk1 hx⟩, by omega, by omega, fun h => ⟨rfl, by omega⟩⟩
end Go.Proofs.YtcnkmandddfdmaaGreat
