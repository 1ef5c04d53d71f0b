/- A value's literal. Values' literals: what the lexer tells of them. The reader's small methods. The reader's operators. The reader's factors and expressions: whatever tokens come, an expression is read, or the reader is bad. The reader's expressions. The reader's lists and small parts. The reader's statements. Lists with commas between, as plain functions. -/
import Derived.Test.YtcnkmandddfdmaaGreatDoorM20
import Derived.Test.YtcnkmandddfdmaaGreatDoorM29
import Derived.Test.YtcnkmandddfdmaaGreatDoorM26
import Derived.Test.YtcnkmandddfdmaaGreatDoorM25
import Derived.Test.YtcnkmandddfdmaaGreatDoorM16
import Derived.Test.YtcnkmandddfdmaaGreatDoorM28
set_option linter.unusedSimpArgs false
set_option linter.unusedVariables false
set_option linter.defProp false
set_option maxRecDepth 100000
set_option maxHeartbeats 32000000
namespace Go.Proofs.YtcnkmandddfdmaaGreatDoor
open Go.RowKit
def tVw := aa wX <| aa wbu <| aa T2 <| aa T3 <| aa T4 <| aa T9 T41
def bT : ByteArray := ⟨#[116, 114, 117, 101]⟩
def bF : ByteArray := ⟨#[102, 97, 108, 115, 101]⟩
def bQ : ByteArray := ⟨#[39]⟩
def bQQ : ByteArray := ⟨#[39, 39]⟩
def bN : ByteArray := ⟨#[78, 85, 76, 76]⟩
theorem afbI (b : Bool) (σ : St) : ACalls Tryz.prog 44 [boolV b] σ fun r s => s = σ ∧ r = .p (.v (.string (if b then bT else bF))) := by
 refine ACalls.pureF (R := fun r => r = .p (.v (.string (if b then bT else bF)))) ?_ rfl σ
 refine acalls_of cx_ok dr_ok Tryz.func44 (by kernel_rfl) rfl (nt := 3) (rs := [.tmp 2]) rfl rfl ?_
 cases b
 ·skip
  repeat' first | ((with_reducible first | refine cs ?_ ?_ | refine ws ?_ ?_) <;> intro h <;> try simp only [h]) | simp only [↓wBA, tVw, convA, seval]
  all_goals refine ret_is (a := _) ?_ rfl rfl
  all_goals simp only [↓wBA, tVw, convA, seval]
  all_goals simp_all [wS, bT, bF]
 ·skip
  repeat' first | ((with_reducible first | refine cs ?_ ?_ | refine ws ?_ ?_) <;> intro h <;> try simp only [h]) | simp only [↓wBA, tVw, convA, seval]
  all_goals refine ret_is (a := _) ?_ rfl rfl
  all_goals simp only [↓wBA, tVw, convA, seval]
  all_goals simp_all [wS, bT, bF]
theorem afb (b : Bool) (σ : St) : ACalls Tryz.prog 17 [boolV b] σ fun r s => s = σ ∧ r = .p (.v (.string (if b then bT else bF))) := by
 refine ACalls.pureF (R := fun r => r = .p (.v (.string (if b then bT else bF)))) ?_ rfl σ
 refine acalls_of cx_ok dr_ok Tryz.func17 (by kernel_rfl) rfl (nt := 4) (rs := [.tmp 2]) rfl rfl ?_
 repeat' first | ((with_reducible first | refine cs ?_ ?_ | refine ws ?_ ?_) <;> intro h <;> try simp only [h]) | simp only [↓wBA, tVw, convA, seval] | ((with_reducible show ACalls _ _ _ _ _); refine (afbI _ _).eq ?_)
 all_goals refine ret_is (a := _) ?_ rfl rfl
 all_goals simp only [↓wBA, tVw, convA, seval]
 all_goals simp_all [wS]
theorem aupB (b : Bool) (σ : St) : ACalls Tryz.prog 16 [.p (.v (.string (if b then bT else bF)))] σ fun r s => s = σ ∧ r = .p (.v (.string (upperV (if b then bT else bF)))) := by
 refine alupper _ (by cases b <;> decide) (fun j x h => ?_) σ
 have hm := List.mem_of_getElem? h
 cases b
 ·simp [bF] at hm
  rcases hm with rfl | rfl | rfl | rfl | rfl <;> decide
 ·simp [bT] at hm
  rcases hm with rfl | rfl | rfl | rfl <;> decide
def showV (v : Va) : ByteArray :=
 if okV v = true then (if v.1 = 1 then itoaV v.2.1 else if v.1 = 2 then upperV (if v.2.1 = 1 then bT else bF) else if v.1 = 3 then bQ ++ replV v.2.2 bQ bQQ ++ bQ else bN) else emp
theorem okV_text {k n : Int} {t : ByteArray} (h : okV (k, n, t) = true) (hk : k = 3) : t.size ≤ 64 := by
 subst hk
 simp [okV] at h
 omega
theorem ashow (v : Va) (hv : i64R v.2.1) (σ : St) : ACalls Tryz.prog 6 [vaA v] σ fun r s => s = σ ∧ r = .p (.v (.string (showV v))) := by
 refine ACalls.pureF (R := fun r => r = .p (.v (.string (showV v)))) ?_ rfl σ
 have hok := aokV v
 obtain ⟨k, n, t⟩ := v
 have hI := aitoa n hv.1 hv.2
 have hT : k = 3 → okV (k, n, t) = true → t.size ≤ 64 := fun h1 h2 => okV_text h2 h1
 simp only [vaA, vaC, List.map_cons, List.map_nil] at hok ⊢
 generalize hoks : okV (k, n, t) = o at *
 refine acalls_of cx_ok dr_ok Tryz.func6 (by kernel_rfl) rfl (nt := 31) (rs := [.tmp 2]) rfl rfl ?_
 have h3 : k = 3 ∨ ¬ k = 3 := by omega
 have hne : k = 3 → (k == 1) = false ∧ (k == 2) = false ∧ (k == 3) = true := fun h => by subst h; decide
 cases o
 ·skip
  repeat' first | ((with_reducible first | refine cs ?_ ?_ | refine ws ?_ ?_) <;> intro h <;> try simp only [h]) | simp only [↓wBA, tVw, convA, seval] | ((with_reducible show ACalls _ _ _ _ _); refine (hok _).eq ?_)
  all_goals refine ret_is (a := _) ?_ rfl rfl
  all_goals simp only [↓wBA, tVw, convA, seval]
  all_goals simp_all [wS, showV, hoks, emp]
 ·rcases h3 with h3 | h3
  ·obtain ⟨t1, t2, t3⟩ := hne h3
   have hs := hT h3 rfl
   have hr := arepl t bQ bQQ (by omega) (by decide) (by
    have := Lib.countB_le bQ (by decide) t.size t (Nat.le_refl _)
    have h2 : bQQ.size = 2 := by decide
    rw [h2]; omega)
   have hl := repl_len t bQ bQQ
   have h2 : bQQ.size = 2 := by decide
   have h1 : bQ.size = 1 := by decide
   rw [h2] at hl
   have k1 : (((bQ.size + (replV t bQ bQQ).size : Nat) : Int) > IntKind.i64.max) = False := eq_false (by simp [IntKind.max, IntKind.signed, IntKind.bits]; omega)
   have k2 : ((((bQ ++ replV t bQ bQQ).size + bQ.size : Nat) : Int) > IntKind.i64.max) = False := eq_false (by rw [ByteArray.size_append]; simp [IntKind.max, IntKind.signed, IntKind.bits]; omega)
   generalize hrv : replV t bQ bQQ = rv at *
   simp only [bQ, bQQ] at hr k1 k2
   repeat' first | ((with_reducible first | refine cs ?_ ?_ | refine ws ?_ ?_) <;> intro h <;> try simp only [h]) | simp only [↓wBA, tVw, convA, seval, t1, t2, t3, binStr, k1, k2] | ((with_reducible show ACalls _ _ _ _ _); first | refine (hok _).eq ?_ | refine (hr _).eq ?_)
   all_goals refine ret_is (a := _) ?_ rfl rfl
   all_goals simp only [↓wBA, tVw, convA, seval]
   all_goals simp_all [wS, showV, hoks, bQ, bQQ]
  ·have t3 : (k == 3) = false := by simpa using h3
   repeat' first | ((with_reducible first | refine cs ?_ ?_ | refine ws ?_ ?_) <;> intro h <;> try simp only [h]) | simp only [↓wBA, tVw, convA, seval, t3] | ((with_reducible show ACalls _ _ _ _ _); first | refine (hok _).eq ?_ | refine (hI _).eq ?_ | refine (afb _ _).eq ?_ | refine (aupB _ _).eq ?_)
   all_goals refine ret_is (a := _) ?_ rfl rfl
   all_goals simp only [↓wBA, tVw, convA, seval]
   all_goals simp_all [wS, showV, hoks, bN]
end Go.Proofs.YtcnkmandddfdmaaGreatDoor
namespace Go.Proofs.YtcnkmandddfdmaaGreatDoor
open Go.RowKit
def wordG (l : List UInt8) : Option Tok := if (wordsL.any fun w => w.data.toList == l.map (capF 97 122 (-32))) = true then some (1, mkB (l.map (capF 97 122 (-32))), 0) else if 32 < l.length then none else some (2, mkB (l.map (capF 65 90 32)), 0)
theorem wordF_eq (l : List UInt8) : wordF (mkB l) = wordG l := by
 unfold wordF wordG upB loB
 rw [bl_mk, mkB_size]
 have : (fun w : ByteArray => isWd (mkB (l.map (capF 97 122 (-32)))) w) = fun w => w.data.toList == l.map (capF 97 122 (-32)) := by
  funext w
  unfold isWd
  rw [mkB_toList, ByteArray.toList_eq]
 rw [show wordsL.any (isWd (mkB (l.map (capF 97 122 (-32))))) = wordsL.any fun w => w.data.toList == l.map (capF 97 122 (-32)) from congrArg wordsL.any this]
def lexBC (rec : List UInt8 → LexO) (c : UInt8) (l : List UInt8) : LexO :=
 if clsB c = 3 then rec l
 else if clsB c = 1 then (match wordG (c :: l.takeWhile isWb) with
  | some t => (rec (l.dropWhile isWb)).pre [t]
  | none => .err 30)
 else if clsB c = 2 then (if hdW (l.dropWhile isDb) = true then .err 30 else match numS (c :: l.takeWhile isDb) with
  | some n => (rec (l.dropWhile isDb)).pre [(3, emp, (n : Int))]
  | none => .err 35)
 else if c = 39 then (match quoS l with
  | some q => if 64 < q.1.length then .err 30 else (rec q.2).pre [(4, mkB q.1, 0)]
  | none => .opn)
 else if sgnL (c :: l) = 0 then .err 30
 else (rec (l.drop (sgnL (c :: l) - 1))).pre [(5, mkB ((c :: l).take (sgnL (c :: l))), 0)]
def lexC : Nat → List UInt8 → LexO
 | _, [] => .ok []
 | 0, _ :: _ => .opn
 | n + 1, c :: l => lexBC (lexC n) c l
theorem lexB_C (rec : List UInt8 → LexO) (c : UInt8) (l : List UInt8) : lexB rec c l = lexBC rec c l := by
 unfold lexB lexBC
 rw [wordF_eq, sgnF_eq]
 rfl
theorem lexN_C : ∀ (n : Nat) (l : List UInt8), lexN n l = lexC n l
 | n, [] => by cases n <;> rfl
 | 0, c :: l => rfl
 | n + 1, c :: l => by
   show lexB (lexN n) c l = lexBC (lexC n) c l
   rw [lexB_C, show lexN n = lexC n from funext fun l => lexN_C n l]
theorem lexS_C (l : List UInt8) : lexS l = lexC l.length l := lexN_C _ _
def wINS : ByteArray := ⟨#[73, 78, 83, 69, 82, 84]⟩
def nT : ByteArray := ⟨#[116]⟩
def tOpen : Tok := (5, sOpen, 0)
def tShut : Tok := (5, sShut, 0)
def tComma : Tok := (5, sComma, 0)
def tVal : Tok := (1, ⟨#[86, 65, 76, 85, 69, 83]⟩, 0)
theorem dlm_shut : Dlm 41 := ⟨by decide, by decide, by decide, by decide⟩
theorem dlm_comma : Dlm 44 := ⟨by decide, by decide, by decide, by decide⟩
theorem dlm_open : Dlm 40 := ⟨by decide, by decide, by decide, by decide⟩
def flat : List UInt8 → List UInt8
 | [] => []
 | c :: l => if c = 39 then 39 :: 39 :: flat l else c :: flat l
theorem repK_flat : ∀ (s : List UInt8) (k : Nat), Lib.count s [39] ≤ k → Lib.replaceK [39] [39, 39] k s = flat s
 | [], k, h => by
   cases k with
   | zero => rfl
   | succ k => rfl
 | b :: s, k, h => by
   by_cases hb : b = 39
   ·subst hb
    have hi : Lib.index (39 :: s) [39] = ((0 : Nat) : Int) := by simp [Lib.index, List.isPrefixOf]
    rw [Lib.count_hit (by simp) hi] at h
    obtain ⟨k, rfl⟩ : ∃ k0, k = k0 + 1 := ⟨k - 1, by omega⟩
    rw [Lib.replaceK_hit _ _ _ _ _ hi]
    simp only [List.length_cons, List.length_nil, Nat.zero_add, List.drop_succ_cons, List.drop_zero, List.take_zero, List.nil_append] at h ⊢
    rw [repK_flat s k (by omega)]
    simp [flat]
   ·have hp : List.isPrefixOf [39] (b :: s) = false := by simp [List.isPrefixOf]; exact fun e => hb e.symm
    have hix : Lib.index (b :: s) [39] = if Lib.index s [39] == -1 then -1 else Lib.index s [39] + 1 := by rw [Lib.index, hp]; rfl
    by_cases hm : Lib.index s [39] = -1
    ·rw [hm] at hix
     have h0 := repK_flat s 0 (by rw [Lib.count_miss hm]; exact Nat.le_refl _)
     have : flat s = s := by rw [← h0]; rfl
     have hm2 : Lib.index (b :: s) [39] = -1 := by rw [hix]; rfl
     have : flat (b :: s) = b :: s := by simp only [flat]; rw [if_neg hb, this]
     rw [this]
     cases k with
     | zero => rfl
     | succ k => rw [Lib.replaceK, hm2]; rfl
    ·have hg := Lib.index_ge s [39]
     obtain ⟨i, hi⟩ : ∃ i : Nat, Lib.index s [39] = i := ⟨(Lib.index s [39]).toNat, by omega⟩
     have hi2 : Lib.index (b :: s) [39] = ((i + 1 : Nat) : Int) := by
      rw [hix, hi]
      have : (((i : Nat) : Int) == -1) = false := by simp
      rw [this]; simp
     rw [Lib.count_hit (by simp) hi2] at h
     simp only [List.length_cons, List.length_nil, Nat.zero_add, List.drop_succ_cons] at h
     obtain ⟨k, rfl⟩ : ∃ k0, k = k0 + 1 := ⟨k - 1, by omega⟩
     have ih := repK_flat s (k + 1) (by rw [Lib.count_hit (by simp) hi]; simp only [List.length_cons, List.length_nil, Nat.zero_add]; omega)
     rw [Lib.replaceK_hit _ _ _ _ _ hi] at ih
     rw [Lib.replaceK_hit _ _ _ _ _ hi2]
     simp only [List.length_cons, List.length_nil, Nat.zero_add, List.drop_succ_cons, List.take_succ_cons, List.cons_append] at ih ⊢
     rw [ih]
     simp [flat, hb]
theorem repA_flat (s : List UInt8) : Lib.replaceAll s [39] [39, 39] = flat s := by
 have h1 : Lib.replaceNum s [39] (-1) = Lib.count s [39] := by unfold Lib.replaceNum; rw [if_pos (.inl (by decide))]
 unfold Lib.replaceAll Lib.replace
 rw [if_neg (by decide), h1]
 exact repK_flat s _ (Nat.le_refl _)
theorem quoS_flat (r : List UInt8) (hr : r.head? ≠ some 39) : ∀ t : List UInt8, quoS (flat t ++ 39 :: r) = some (t, r)
 | [] => quoS_end hr
 | c :: t => by
   by_cases hc : c = 39
   ·subst hc
    simp only [flat, if_true, List.cons_append]
    rw [quoS_two, quoS_flat r hr t]; rfl
   ·simp only [flat, if_neg hc, List.cons_append]
    rw [quoS_ne hc, quoS_flat r hr t]; rfl
theorem dig10 : ∀ k < 10, isDb (UInt8.ofNat (48 + k)) = true ∧ (UInt8.ofNat (48 + k)).toNat - 48 = k := by decide
theorem dec_all : ∀ u : Nat, ∀ b ∈ Lib.decDigits u, isDb b = true := by
 intro u
 induction u using Nat.strongRecOn with
 | ind u ih =>
   intro b hb
   rw [Lib.decDigits] at hb
   split at hb
   ·rename_i h
    simp only [List.mem_singleton] at hb
    subst hb
    exact (dig10 u h).1
   ·rename_i h
    rcases List.mem_append.1 hb with hb | hb
    ·exact ih (u / 10) (by omega) b hb
    ·simp only [List.mem_singleton] at hb
     subst hb
     exact (dig10 (u % 10) (by omega)).1
theorem numS_dec : ∀ u : Nat, u ≤ 9223372036854775807 → numS (Lib.decDigits u) = some u := by
 intro u
 induction u using Nat.strongRecOn with
 | ind u ih =>
   intro hu
   rw [Lib.decDigits]
   split
   ·rename_i h
    have := (dig10 u h).2
    simp only [numS, List.foldl_cons, List.foldl_nil, numStep, this]
    rw [if_pos (by omega)]
    simp
   ·rename_i h
    rw [numS_snoc, ih (u / 10) (by omega) (by omega)]
    have := (dig10 (u % 10) (by omega)).2
    simp only [numStep, this]
    rw [if_pos (by omega)]
    exact congrArg some (by omega)
theorem dec_ne (u : Nat) : Lib.decDigits u ≠ [] := by
 rw [Lib.decDigits]
 split <;> simp
theorem tw_all {p : UInt8 → Bool} : ∀ {l : List UInt8}, (∀ b ∈ l, p b = true) → l.takeWhile p = l ∧ l.dropWhile p = []
 | [], _ => ⟨rfl, rfl⟩
 | c :: l, h => by
   obtain ⟨h1, h2⟩ := tw_all (p := p) (l := l) fun b hb => h b (by simp [hb])
   have hc := h c (by simp)
   constructor <;> simp [List.takeWhile_cons, List.dropWhile_cons, hc, h1, h2]
theorem lex_dec (u : Nat) (hu : u ≤ 9223372036854775807) : lexS (Lib.decDigits u) = .ok [(3, emp, (u : Int))] := by
 have hall := dec_all u
 have hn := numS_dec u hu
 cases hd : Lib.decDigits u with
 | nil => exact absurd hd (dec_ne u)
 | cons c l =>
   rw [hd] at hall hn
   have hc : clsB c = 2 := by simpa [isDb] using hall c (by simp)
   obtain ⟨h1, h2⟩ := tw_all (p := isDb) (l := l) fun b hb => hall b (by simp [hb])
   rw [lexS_cons, lexB_dg hc, h1, h2, hn]
   rfl
def tokV (v : Va) : List Tok :=
 if v.1 = 1 then (if v.2.1 < 0 then [(5, sMinus, 0), (3, emp, -v.2.1)] else [(3, emp, v.2.1)])
 else if v.1 = 2 then (if v.2.1 = 1 then [(1, wTRUE, 0)] else [(1, wFALSE, 0)])
 else if v.1 = 3 then [(4, v.2.2, 0)] else [(1, wNULL, 0)]
theorem lex_word {l : List UInt8} {t : Tok} (h : lexC l.length l = .ok [t]) : lexS l = .ok [t] := by rw [lexS_C]; exact h
theorem lex_show {v : Va} (hok : okV v = true) (hn : v.1 = 1 → -9223372036854775807 ≤ v.2.1 ∧ v.2.1 ≤ 9223372036854775807) : lexS (bl (showV v)) = .ok (tokV v) := by
 obtain ⟨k, n, t⟩ := v
 simp only at hn
 unfold showV tokV
 simp only [hok, if_true]
 by_cases h1 : k = 1
 ·obtain ⟨a, b⟩ := hn h1
  rw [if_pos h1, if_pos h1]
  have hb : bl (itoaV n) = Lib.itoa n := by simp [bl, itoaV]
  rw [hb]
  unfold Lib.itoa
  by_cases hn0 : n < 0
  ·rw [if_pos hn0, if_pos hn0, lexS_cons, lexB_sg (by decide) (by decide), sgnF_eq]
   have hs : sgnL (45 :: Lib.decDigits n.natAbs) = 1 := by
    unfold sgnL
    have : twoL ((45 :: Lib.decDigits n.natAbs).take 2) = false := by simp [twoL]
    rw [this]
    rfl
   rw [hs]
   simp only [Nat.sub_self, List.drop_zero, List.take_succ_cons, List.take_zero, Nat.one_ne_zero, if_false]
   rw [lex_dec _ (by omega)]
   simp only [LexO.pre, List.cons_append, List.nil_append]
   rw [show ((n.natAbs : Nat) : Int) = -n by omega]
   rfl
  ·rw [if_neg hn0, if_neg hn0, lex_dec _ (by omega), show ((n.toNat : Nat) : Int) = n by omega]
 ·rw [if_neg h1, if_neg h1]
  by_cases h2 : k = 2
  ·rw [if_pos h2, if_pos h2]
   by_cases hb : n = 1
   ·rw [if_pos hb, if_pos hb]
    refine lex_word ?_
    kernel_rfl
   ·rw [if_neg hb, if_neg hb]
    refine lex_word ?_
    kernel_rfl
  ·rw [if_neg h2, if_neg h2]
   by_cases h3 : k = 3
   ·rw [if_pos h3, if_pos h3]
    have ht := okV_text hok h3
    have hb : bl (bQ ++ replV t bQ bQQ ++ bQ) = 39 :: (flat (bl t) ++ 39 :: []) := by
     have h5 : bl (replV t bQ bQQ) = flat (bl t) := by
      rw [← repA_flat]
      simp only [bl, replV, bQ, bQQ]
     rw [← h5]
     simp only [bl, ByteArray.data_append, Array.toList_append, bQ]
     rfl
    rw [hb, lexS_cons, lexB_39, quoS_flat [] (by simp)]
    simp only
    rw [if_neg (by rw [bl_len]; omega), lexS_nil, mk_bl]
    rfl
   ·rw [if_neg h3, if_neg h3]
    refine lex_word ?_
    kernel_rfl
end Go.Proofs.YtcnkmandddfdmaaGreatDoor
namespace Go.Proofs.YtcnkmandddfdmaaGreatDoor
open Go.RowKit
open Nat renaming reduceBEq → ZA, reducePow → ZB, reduceAdd → ZC, reduceSub → ZD, reduceMul → ZE, reduceEqDiff → ZF, reduceLeDiff → ZG, reduceLT → ZH
open Int renaming reduceLT → ZI, reduceLE → ZJ, reduceToNat → ZK
end Go.Proofs.YtcnkmandddfdmaaGreatDoor
namespace Go.Proofs.YtcnkmandddfdmaaGreatDoor
open Go.RowKit
open Nat renaming reduceBEq → ZA, reducePow → ZB, reduceAdd → ZC, reduceSub → ZD, reduceMul → ZE, reduceEqDiff → ZF, reduceLeDiff → ZG, reduceLT → ZH
open Int renaming reduceLT → ZI, reduceLE → ZJ, reduceToNat → ZK
end Go.Proofs.YtcnkmandddfdmaaGreatDoor
namespace Go.Proofs.YtcnkmandddfdmaaGreatDoor
open Go.RowKit
open Nat renaming reduceBEq → ZA, reducePow → ZB, reduceAdd → ZC, reduceSub → ZD, reduceMul → ZE, reduceEqDiff → ZF, reduceLeDiff → ZG, reduceLT → ZH
open Int renaming reduceLT → ZI, reduceLE → ZJ, reduceToNat → ZK
end Go.Proofs.YtcnkmandddfdmaaGreatDoor
namespace Go.Proofs.YtcnkmandddfdmaaGreatDoor
open Go.RowKit
open Nat renaming reduceBEq → ZA, reducePow → ZB, reduceAdd → ZC, reduceSub → ZD, reduceMul → ZE, reduceEqDiff → ZF, reduceLeDiff → ZG, reduceLT → ZH
open Int renaming reduceLT → ZI, reduceLE → ZJ, reduceToNat → ZK
end Go.Proofs.YtcnkmandddfdmaaGreatDoor
namespace Go.Proofs.YtcnkmandddfdmaaGreatDoor
open Go.RowKit
open Nat renaming reduceBEq → ZA, reducePow → ZB, reduceAdd → ZC, reduceSub → ZD, reduceMul → ZE, reduceEqDiff → ZF, reduceLeDiff → ZG, reduceLT → ZH
open Int renaming reduceLT → ZI, reduceLE → ZJ, reduceToNat → ZK
abbrev Co := ByteArray × Int × Bool × Bool
def coC (c : Co) : List PV := [.v (.string c.1), .v (.int .i64 c.2.1), .v (.bool c.2.2.1), .v (.bool c.2.2.2)]
abbrev So := ByteArray × ByteArray × List Ex
def soC (s : So) : List PV := [.v (.string s.1), .v (.string s.2.1), .sl 8 (exL s.2.2)]
def itC (s : Bool × Ex) : List PV := .v (.bool s.1) :: exC s.2
def keC (s : Ex × Bool) : List PV := exC s.1 ++ [.v (.bool s.2)]
end Go.Proofs.YtcnkmandddfdmaaGreatDoor
namespace Go.Proofs.YtcnkmandddfdmaaGreatDoor
open Go.RowKit
open Nat renaming reduceBEq → ZA, reducePow → ZB, reduceAdd → ZC, reduceSub → ZD, reduceMul → ZE, reduceEqDiff → ZF, reduceLeDiff → ZG, reduceLT → ZH
open Int renaming reduceLT → ZI, reduceLE → ZJ, reduceToNat → ZK
structure Sm where
 kind : Int
 tb : ByteArray
 nm : ByteArray
 cols : List Co
 names : List ByteArray
 rows : List (List Ex)
 items : List (Bool × Ex)
 src : List So
 wh : List Ex
 group : List Ex
 order : List (Ex × Bool)
 limit : Int
 sets : List Ex
 hash : Bool
def enS (l : List ByteArray) : List (List PV) := l.map fun s => [.v (.string s)]
def enR (l : List (List Ex)) : List (List PV) := l.map fun r => [.sl 8 (exL r)]
def smC (s : Sm) : List PV := [.v (.int .i64 s.kind), .v (.string s.tb), .v (.string s.nm), .sl 4 (s.cols.map coC), nilSl 1 (enS s.names), .sl 1 (enR s.rows), .sl 9 (s.items.map itC), .sl 3 (s.src.map soC), .sl 8 (exL s.wh), .sl 8 (exL s.group), .sl 9 (s.order.map keC), .v (.int .i64 s.limit), .sl 8 (exL s.sets), .v (.bool s.hash)]
structure Bd (s : Sm) : Prop where
 names : s.names.length ≤ 2050
 rows : s.rows.length ≤ 2050
 row : ∀ r ∈ s.rows, r.length ≤ 2050 ∧ okEL r
 items : s.items.length ≤ 2050
 item : ∀ i ∈ s.items, okE i.2
 src : s.src.length ≤ 2060
 so : ∀ i ∈ s.src, i.2.2.length ≤ 2050 ∧ okEL i.2.2
 wh : s.wh.length ≤ 1 ∧ okEL s.wh
 group : s.group.length ≤ 2050 ∧ okEL s.group
 order : s.order.length ≤ 2050
 key : ∀ i ∈ s.order, okE i.1
 sets : s.sets.length ≤ 2050 ∧ okEL s.sets
theorem enS_len (l : List ByteArray) : (enS l).length = l.length := by simp [enS]
theorem ex_nil (a b : Nat) (L : List (List PV)) : (∃ t e ls, (a = t ∧ b = e ∧ L = ls) ∧ nilSl b L = nilSl e ls) = True := eq_true ⟨_, _, _, ⟨rfl, rfl, rfl⟩, rfl⟩
theorem nilS_len (l : List ByteArray) : lenA cx 29 (.p (nilSl 1 (enS l))) = some l.length := by
 cases l with
 | nil => rfl
 | cons t ts => simp [nilSl, enS, lenA, ck_29, elemsA]
theorem enR_len (l : List (List Ex)) : (enR l).length = l.length := by simp [enR]
end Go.Proofs.YtcnkmandddfdmaaGreatDoor
namespace Go.Proofs.YtcnkmandddfdmaaGreatDoor
open Go.RowKit
def liG {α : Type} (step : Rs → α × Rs) (ts : List Tok) : Nat → List α → Bool → Rs → List α × Rs
 | 0, l, _, q => (l, q)
 | g + 1, l, more, q => if more = false ∨ q.2 = true then (l, q) else liG step ts g (l ++ [(step q).1]) (isF ts 5 sComma (step q).2) (psF ts 5 sComma (step q).2)
def liNeed (ts : List Tok) (more : Bool) (q : Rs) : Nat := if more = false ∨ q.2 = true then 1 else ts.length + 2 - q.1
structure LiOk {α : Type} (ts : List Tok) (k0 : Nat) (g : Nat) (l : List α) (more : Bool) (q : Rs) : Prop where
 ge : k0 ≤ q.1
 le : q.1 ≤ ts.length
 ln : l.length ≤ q.1 + 1
 lm : more = true → l.length ≤ q.1
 nd : liNeed ts more q ≤ g
theorem LiOk.zero {α : Type} {ts : List Tok} (hts : ts.length ≤ 2048) {q : Rs} (hk : q.1 ≤ ts.length) : LiOk (α := α) ts q.1 3000 [] true q :=
 ⟨Nat.le_refl _, hk, Nat.zero_le _, fun _ => Nat.zero_le _, by unfold liNeed; split <;> omega⟩
theorem LiOk.pos {α : Type} {ts : List Tok} {k0 g : Nat} {l : List α} {more : Bool} {q : Rs} (h : LiOk ts k0 g l more q) : ∃ g0, g = g0 + 1 := ⟨g - 1, by
 have := h.nd
 have h2 := h.le
 unfold liNeed at this
 split at this <;> omega⟩
theorem LiOk.step {α : Type} {ts : List Tok} {k0 g k : Nat} {l : List α} {x : α} {q2 : Rs} (h : LiOk ts k0 (g + 1) l true (k, false)) (hf : Fwd ts (k, false) q2) : LiOk ts k0 g (l ++ [x]) (isF ts 5 sComma q2) (psF ts 5 sComma q2) ∧ liNeed ts (isF ts 5 sComma q2) (psF ts 5 sComma q2) < liNeed ts true (k, false) := by
 obtain ⟨h1, h2, h3, h4, h5⟩ := h
 obtain ⟨f1, f2, f3⟩ := hf
 have h4 := h4 rfl
 simp only at h1 h2 h3 h4 f1
 have e5 : liNeed ts true (k, false) = ts.length + 2 - k := by simp [liNeed]
 rw [e5] at h5 ⊢
 cases hv : isF ts 5 sComma q2
 ·rw [psF_neg hv]
  have e6 : liNeed ts false q2 = 1 := by simp [liNeed]
  rw [e6]
  exact ⟨⟨by omega, f2, by simp only [List.length_append, List.length_cons, List.length_nil]; omega, fun h => by simp at h, by rw [e6]; omega⟩, by omega⟩
 ·have hlt := (isF_in (by decide) hv).2
  rw [psF_pos hv]
  have e6 : liNeed ts true q2.next ≤ ts.length + 2 - (q2.1 + 1) := by
   unfold liNeed
   split
   ·omega
   ·exact Nat.le_refl _
  exact ⟨⟨by show k0 ≤ q2.1 + 1; omega, hlt, by simp only [List.length_append, List.length_cons, List.length_nil, Rs.next]; omega, fun _ => by simp only [List.length_append, List.length_cons, List.length_nil, Rs.next]; omega, by omega⟩, by omega⟩
theorem liG_stop {α : Type} (step : Rs → α × Rs) (ts : List Tok) (g : Nat) (l : List α) (more : Bool) (q : Rs) (h : more = false ∨ q.2 = true) : liG step ts g l more q = (l, q) := by
 cases g with
 | zero => rfl
 | succ g => simp only [liG]; rw [if_pos h]
theorem liG_go {α : Type} (step : Rs → α × Rs) (ts : List Tok) (g : Nat) (l : List α) (k : Nat) : liG step ts (g + 1) l true (k, false) = liG step ts g (l ++ [(step (k, false)).1]) (isF ts 5 sComma (step (k, false)).2) (psF ts 5 sComma (step (k, false)).2) := by
 simp only [liG]; rw [if_neg (by simp)]
theorem liG_fwd {α : Type} {step : Rs → α × Rs} {ts : List Tok} {k0 : Nat} (hs : ∀ q, k0 ≤ q.1 → q.1 ≤ ts.length → Fwd ts q (step q).2) : ∀ (g : Nat) (l : List α) (more : Bool) (q : Rs), LiOk ts k0 g l more q → Fwd ts q (liG step ts g l more q).2 ∧ (liG step ts g l more q).1.length ≤ ts.length + 1
 | 0, l, more, q, h => by obtain ⟨g0, h0⟩ := h.pos; omega
 | g + 1, l, more, q, h => by
   by_cases hm : more = false ∨ q.2 = true
   ·rw [liG_stop _ _ _ _ _ _ hm]
    exact ⟨.refl h.le, by have := h.ln; have := h.le; show l.length ≤ _; omega⟩
   ·obtain ⟨k, b⟩ := q
    simp only [not_or, Bool.not_eq_false, Bool.not_eq_true] at hm
    obtain ⟨rfl, rfl⟩ := hm
    rw [liG_go]
    have hf := hs (k, false) h.ge h.le
    have hst := (h.step (x := (step (k, false)).1) hf).1
    obtain ⟨i1, i2⟩ := liG_fwd hs g _ _ _ hst
    exact ⟨hf.trans ((Fwd.ps (by decide) _ hf.2.1).trans i1), i2⟩
def xsF (ts : List Tok) (q : Rs) : List Ex × Rs := ((liG (exF ts) ts 3000 [] true q).1, ((liG (exF ts) ts 3000 [] true q).2.1, (liG (exF ts) ts 3000 [] true q).2.2 || decide (16 < (liG (exF ts) ts 3000 [] true q).1.length)))
theorem xsF_fwd (ts : List Tok) (hts : ts.length ≤ 2048) (q : Rs) (hk : q.1 ≤ ts.length) : Fwd ts q (xsF ts q).2 ∧ (xsF ts q).1.length ≤ ts.length + 1 := by
 obtain ⟨h1, h2⟩ := liG_fwd (step := exF ts) (ts := ts) (k0 := q.1) (fun q' _ h => exF_fwd ts hts q' h) 3000 [] true q (LiOk.zero hts hk)
 exact ⟨⟨h1.1, h1.2.1, fun e => h1.2.2 (by simp only [xsF, Bool.or_eq_false_iff] at e; exact e.1)⟩, h2⟩
def nmF (ts : List Tok) (q : Rs) : ByteArray × Rs := ((anF ts 2 q).1.2.1, (anF ts 2 q).2)
theorem nmF_fwd (ts : List Tok) (q : Rs) (hk : q.1 ≤ ts.length) : Fwd ts q (nmF ts q).2 := .an (by decide) hk
def wINTO : ByteArray := ⟨#[73, 78, 84, 79]⟩
def wVALUES : ByteArray := ⟨#[86, 65, 76, 85, 69, 83]⟩
def rwF (ts : List Tok) (q : Rs) : List Ex × Rs := ((xsF ts (wnF ts 5 sOpen q)).1, wnF ts 5 sShut (xsF ts (wnF ts 5 sOpen q)).2)
theorem rwF_fwd (ts : List Tok) (hts : ts.length ≤ 2048) (q : Rs) (hk : q.1 ≤ ts.length) : Fwd ts q (rwF ts q).2 := by
 have h1 : Fwd ts q (wnF ts 5 sOpen q) := .wn (by decide) _ hk
 have h2 := (xsF_fwd ts hts _ h1.2.1).1
 exact h1.trans (h2.trans (.wn (by decide) _ h2.2.1))
def stmtI (tb : ByteArray) (names : List ByteArray) (rows : List (List Ex)) : Sm := { kind := 3, tb := tb, nm := emp, cols := [], names := names, rows := rows, items := [], src := [], wh := [], group := [], order := [], limit := -1, sets := [], hash := false }
def colsF (ts : List Tok) (q : Rs) : List ByteArray × Rs := if isF ts 5 sOpen q = true then ((liG (nmF ts) ts 3000 [] true q.next).1, wnF ts 5 sShut (liG (nmF ts) ts 3000 [] true q.next).2) else ([], q)
def insF (ts : List Tok) (q : Rs) : Sm × Rs :=
 let nm := nmF ts (wnF ts 1 wINTO q)
 let cs := colsF ts nm.2
 let rs := liG (rwF ts) ts 3000 [] true (wnF ts 1 wVALUES cs.2)
 (stmtI nm.1 cs.1 rs.1, (rs.2.1, rs.2.2 || decide (16 < cs.1.length) || decide (32 < rs.1.length)))
end Go.Proofs.YtcnkmandddfdmaaGreatDoor
