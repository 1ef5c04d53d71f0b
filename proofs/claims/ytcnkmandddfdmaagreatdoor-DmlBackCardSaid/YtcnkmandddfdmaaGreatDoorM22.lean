/- The lexer's numbers, told. The lexer's words, told. The lexer's signs and quoted texts, told. -/
import Derived.Test.YtcnkmandddfdmaaGreatDoorM20
import Derived.Test.YtcnkmandddfdmaaGreatDoorM21
set_option linter.unusedSimpArgs false
set_option linter.unusedVariables false
set_option linter.defProp false
set_option maxRecDepth 100000
set_option maxHeartbeats 32000000
namespace Go.Proofs.YtcnkmandddfdmaaGreatDoor
open Go.RowKit
def tGy := aa wX <| aa wbu <| aa T2 <| aa T3 <| aa T5 <| aa T9 T142
def numStep (o : Option Nat) (b : UInt8) : Option Nat := match o with
 | some u => if 10 * u + (b.toNat - 48) ≤ 9223372036854775807 then some (10 * u + (b.toNat - 48)) else none
 | none => none
def numS (l : List UInt8) : Option Nat := l.foldl numStep (some 0)
theorem numS_snoc (l : List UInt8) (b : UInt8) : numS (l ++ [b]) = numStep (numS l) b := by simp [numS]
theorem numS_none : ∀ l : List UInt8, l.foldl numStep none = none
 | [] => rfl
 | b :: l => numS_none l
theorem numS_pre {l : List UInt8} {k : Nat} (h : numS (l.take k) = none) : numS l = none := by
 unfold numS at *
 rw [← List.take_append_drop k l, List.foldl_append, h]
 exact numS_none _
theorem numS_le : ∀ (l : List UInt8) (u n : Nat), u ≤ 9223372036854775807 → l.foldl numStep (some u) = some n → n ≤ 9223372036854775807
 | [], u, n, h, e => by simp at e; omega
 | b :: l, u, n, h, e => by
   rw [List.foldl_cons] at e
   simp only [numStep] at e
   split at e
   ·exact numS_le l _ n (by assumption) e
   ·rw [numS_none] at e; simp at e
def numR (o : Option Nat) : AV := match o with
 | some n => .tup [intV .i64 (n : Nat), boolV true]
 | none => .tup [intV .i64 0, boolV false]
theorem anumF (s : ByteArray) (hs : s.size ≤ 140737488351232) (hd : ∀ b ∈ bl s, 48 ≤ b.toNat ∧ b.toNat ≤ 57) (σ : St) : ACalls Tryz.prog 48 [.p (.v (.string s))] σ fun r σ' => σ' = σ ∧ r = numR (numS (bl s)) := by
 refine ACalls.pureF (R := fun r => r = numR (numS (bl s))) ?_ rfl σ
 have h00 : numS ((bl s).take 0) = some 0 := by simp [numS]
 refine acalls_of cx_ok dr_ok Tryz.func48 (by kernel_rfl) rfl (nt := 33) (rs := [.tmp 2, .tmp 3]) rfl rfl ?_
 repeat' first | ((with_reducible first | refine cs ?_ ?_ | refine ws ?_ ?_) <;> intro h <;> try simp only [h]) | simp only [↓wBA, tGy, convA, seval]
 refine awp_loopG (X := { q : Nat × Nat // q.1 ≤ s.size ∧ numS ((bl s).take q.1) = some q.2 }) (fun x => s.size - x.1.1) (fun x => [(4, intV .u64 (x.1.2 : Nat)), (5, intV .i64 (x.1.1 : Nat)), (2, .any), (3, .any), (6, .any), (7, .any), (8, .any), (9, .any), (10, .any), (11, .any), (12, .any), (13, .any), (14, .any), (15, .any), (16, .any), (17, .any), (18, .any), (19, .any), (20, .any), (21, .any), (22, .any), (23, .any), (24, .any), (25, .any), (26, .any), (27, .any), (28, .any), (29, .any), (30, .any), (31, .any)]) (fun x => []) (⟨(0, 0), Nat.zero_le _, h00⟩) ?_ ?_ ?_
 ·intro x; simp
 ·skip
  simp only [wR, Nat.reduceAdd, Nat.reduceLT, reduceIte]
  simp [wW]
 ·intro x
  simp only [wR, Nat.reduceAdd, Nat.reduceLT, reduceIte]
  obtain ⟨⟨k, u⟩, hk, hu⟩ := x
  simp only at hk hu
  have hul : u ≤ 9223372036854775807 := numS_le _ 0 u (by omega) hu
  by_cases hlt : k < s.size
  ·have hdec := dT (i := k) (n := s.size) hlt
   have hi0 := nnI k
   have hic : ((k : Int) < (s.size : Int)) = True := eq_true (by omega)
   have hw := wI k (by omega)
   have hb1 : k < (bl s).length := by rw [bl_len]; exact hlt
   have hbm := hd (bl s)[k] (List.getElem_mem hb1)
   obtain ⟨b, hb⟩ : ∃ b, (bl s)[k] = b := ⟨_, rfl⟩
   rw [hb] at hbm
   have hb2 : s[k]? = some b := by rw [← bl_get, List.getElem?_eq_getElem hb1, hb]
   have hst : numS ((bl s).take (k + 1)) = numStep (some u) b := by rw [List.take_succ_eq_append_getElem hb1, hb, numS_snoc, hu]
   have hw1 : IntKind.u8.wrap ((b.toNat : Int) - 48) = ((b.toNat - 48 : Nat) : Int) := by
    simp [IntKind.wrap, IntKind.signed, IntKind.bits]; omega
   have hw2 : IntKind.u64.wrap ((b.toNat - 48 : Nat) : Int) = ((b.toNat - 48 : Nat) : Int) := by
    simp [IntKind.wrap, IntKind.signed, IntKind.bits]; omega
   obtain ⟨d, hd0⟩ : ∃ d, b.toNat - 48 = d := ⟨_, rfl⟩
   have hd9 : d ≤ 9 := by omega
   rw [hd0] at hw1 hw2
   simp only [numStep, hd0] at hst
   rcases Nat.lt_trichotomy u 922337203685477580 with hlu | rfl | hgu
   ·have c1 : decide ((u : Int) > 922337203685477580) = false := by simp; omega
    have c2 : ((u : Int) == 922337203685477580) = false := by simp; omega
    rw [if_pos (by omega)] at hst
    have hw3 : IntKind.u64.wrap (10 * (u : Int)) = ((10 * u : Nat) : Int) := by
     simp [IntKind.wrap, IntKind.signed, IntKind.bits]; omega
    have hw4 : IntKind.u64.wrap (((10 * u : Nat) : Int) + (d : Int)) = ((10 * u + d : Nat) : Int) := by
     simp [IntKind.wrap, IntKind.signed, IntKind.bits]; omega
    simp only [↓wBA, tGy, convA, seval, hdec, hi0, hic, hw, hb2, hw1, hw2, hw3, hw4, c1, c2]
    refine ⟨⟨(k + 1, 10 * u + d), by show k + 1 ≤ s.size; omega, hst⟩, by show s.size - (k + 1) < s.size - k; omega, ?_⟩
    simp only [wR, Nat.reduceAdd, Nat.reduceLT, reduceIte]
    simp [wW]
   ·by_cases h7 : d ≤ 7
    ·have c3 : decide ((d : Int) > 7) = false := by simp; omega
     rw [if_pos (by omega)] at hst
     have hw4 : IntKind.u64.wrap (9223372036854775800 + (d : Int)) = ((9223372036854775800 + d : Nat) : Int) := by
      simp [IntKind.wrap, IntKind.signed, IntKind.bits]; omega
     have hw3 : IntKind.u64.wrap 9223372036854775800 = 9223372036854775800 := by decide
     simp only [↓wBA, tGy, convA, seval, hdec, hi0, hic, hw, hb2, hw1, hw2, hw3, hw4, c3]
     refine ⟨⟨(k + 1, 9223372036854775800 + d), by show k + 1 ≤ s.size; omega, hst⟩, by show s.size - (k + 1) < s.size - k; omega, ?_⟩
     simp only [wR, Nat.reduceAdd, Nat.reduceLT, reduceIte]
     simp [wW]
    ·have c3 : decide ((d : Int) > 7) = true := by simp; omega
     rw [if_neg (by omega)] at hst
     have hnn := numS_pre hst
     rw [hnn]
     simp only [↓wBA, tGy, convA, seval, hdec, hi0, hic, hw, hb2, hw1, hw2, c3]
     all_goals refine ret_is (a := _) ?_ rfl rfl
     all_goals simp only [↓wBA, tGy, convA, seval]
     all_goals simp_all [wS, numR]
   ·have c1 : decide ((u : Int) > 922337203685477580) = true := by simp; omega
    rw [if_neg (by omega)] at hst
    have hnn := numS_pre hst
    rw [hnn]
    simp only [↓wBA, tGy, convA, seval, hdec, hi0, hic, hw, hb2, hw1, hw2, c1]
    all_goals refine ret_is (a := _) ?_ rfl rfl
    all_goals simp only [↓wBA, tGy, convA, seval]
    all_goals simp_all [wS, numR]
  ·have hdec := dF (i := k) (n := s.size) (by omega)
   have ht : (bl s).take k = bl s := List.take_of_length_le (by rw [bl_len]; omega)
   rw [ht] at hu
   have hw5 : IntKind.i64.wrap (u : Int) = (u : Int) := wrap_i64 (by omega) (by omega)
   simp only [hu, numR]
   repeat' first | ((with_reducible first | refine cs ?_ ?_ | refine ws ?_ ?_) <;> intro h <;> try simp only [h]) | simp only [↓wBA, tGy, convA, seval, hdec, hw5]
   all_goals refine ret_is (a := _) ?_ rfl rfl
   all_goals simp only [↓wBA, tGy, convA, seval]
   all_goals simp_all [wS]
end Go.Proofs.YtcnkmandddfdmaaGreatDoor
namespace Go.Proofs.YtcnkmandddfdmaaGreatDoor
open Go.RowKit
def tGw := aa wX <| aa wbu <| aa T3 <| aa T5 <| aa T9 <| aa T29 T106
def wordsL : List ByteArray := [⟨#[65, 78, 68]⟩, ⟨#[65, 83]⟩, ⟨#[65, 83, 67]⟩, ⟨#[66, 69, 71, 73, 78]⟩, ⟨#[66, 79, 79, 76]⟩, ⟨#[66, 89]⟩, ⟨#[67, 79, 77, 77, 73, 84]⟩, ⟨#[67, 79, 85, 78, 84]⟩, ⟨#[67, 82, 69, 65, 84, 69]⟩, ⟨#[68, 69, 76, 69, 84, 69]⟩, ⟨#[68, 69, 83, 67]⟩, ⟨#[70, 65, 76, 83, 69]⟩, ⟨#[70, 82, 79, 77]⟩, ⟨#[71, 82, 79, 85, 80]⟩, ⟨#[72, 65, 83, 72]⟩, ⟨#[73, 78, 68, 69, 88]⟩, ⟨#[73, 78, 78, 69, 82]⟩, ⟨#[73, 78, 83, 69, 82, 84]⟩, ⟨#[73, 78, 84]⟩, ⟨#[73, 78, 84, 79]⟩, ⟨#[73, 83]⟩, ⟨#[74, 79, 73, 78]⟩, ⟨#[75, 69, 89]⟩, ⟨#[76, 73, 77, 73, 84]⟩, ⟨#[77, 65, 88]⟩, ⟨#[77, 73, 78]⟩, ⟨#[78, 79, 84]⟩, ⟨#[78, 85, 76, 76]⟩, ⟨#[79, 78]⟩, ⟨#[79, 82]⟩, ⟨#[79, 82, 68, 69, 82]⟩, ⟨#[80, 82, 73, 77, 65, 82, 89]⟩, ⟨#[82, 79, 76, 76, 66, 65, 67, 75]⟩, ⟨#[83, 69, 76, 69, 67, 84]⟩, ⟨#[83, 69, 84]⟩, ⟨#[83, 85, 77]⟩, ⟨#[84, 65, 66, 76, 69]⟩, ⟨#[84, 69, 88, 84]⟩, ⟨#[84, 82, 85, 69]⟩, ⟨#[85, 78, 73, 81, 85, 69]⟩, ⟨#[85, 80, 68, 65, 84, 69]⟩, ⟨#[85, 83, 73, 78, 71]⟩, ⟨#[86, 65, 76, 85, 69, 83]⟩, ⟨#[87, 72, 69, 82, 69]⟩]
theorem awordsF (σ : St) : ACalls Tryz.prog 82 [] σ fun r σ' => σ' = σ ∧ r = .p (.sl 1 (encS wordsL)) := by
 refine ACalls.pureF (R := fun r => r = .p (.sl 1 (encS wordsL))) ?_ rfl σ
 refine acalls_of cx_ok dr_ok Tryz.func82 (by kernel_rfl) rfl (nt := 2) (rs := [.tmp 0]) rfl rfl ?_
 simp only [↓wBA, tGw, convA, seval, toPss, toPs, toP, fillS, Nat.reducePow]
 exact ret_own (R := fun r => r = .p (.sl 1 (encS wordsL))) rfl rfl rfl rfl
def upB (s : ByteArray) : ByteArray := mkB ((bl s).map (capF 97 122 (-32)))
def loB (s : ByteArray) : ByteArray := mkB ((bl s).map (capF 65 90 32))
def isWd (up : ByteArray) (w : ByteArray) : Bool := w.toList == up.toList
def wordF (s : ByteArray) : Option Tok := if wordsL.any (isWd (upB s)) = true then some (1, upB s, 0) else if 32 < s.size then none else some (2, loB s, 0)
def wordR (o : Option Tok) : AV := match o with
 | some t => .tup [tokA t.1 t.2.1 t.2.2, intV .i64 0]
 | none => .tup [tokA 0 emp 0, intV .i64 30]
theorem any_take (p : ByteArray → Bool) (l : List ByteArray) (i : Nat) (h : i < l.length) : (l.take (i + 1)).any p = ((l.take i).any p || p l[i]) := by
 rw [List.take_succ_eq_append_getElem h, List.any_append]; simp
theorem any_at (p : ByteArray → Bool) (l : List ByteArray) (i : Nat) (h : i < l.length) (hp : p l[i] = true) : l.any p = true := List.any_eq_true.2 ⟨_, List.getElem_mem h, hp⟩
theorem awordF (s : ByteArray) (hs : s.size ≤ 140737488351232) (σ : St) : ACalls Tryz.prog 47 [.p (.v (.string s))] σ fun r σ' => σ' = σ ∧ r = wordR (wordF s) := by
 refine ACalls.pureF (R := fun r => r = wordR (wordF s)) ?_ rfl σ
 have hU : ∀ σ, ACalls Tryz.prog 81 [.p (.v (.string s)), intV .u8 97, intV .u8 122, intV .i64 (-32)] σ fun r σ' => σ' = σ ∧ r = .p (.v (.string (upB s))) := aupperF s 97 122 (-32) hs
 have hL : ∀ σ, ACalls Tryz.prog 81 [.p (.v (.string s)), intV .u8 65, intV .u8 90, intV .i64 32] σ fun r σ' => σ' = σ ∧ r = .p (.v (.string (loB s))) := aupperF s 65 90 32 hs
 have hwl : wordsL.length = 44 := rfl
 have hen : (encS wordsL).length = 44 := rfl
 have hget : ∀ i, (h : i < 44) → (encS wordsL)[i]? = some [.v (.string (wordsL[i]'h))] := fun i h => by simp [encS, hwl, h]; rfl
 have hwf := rfl (a := wordF s)
 conv at hwf => rhs; unfold wordF
 generalize wordF s = wf at *
 generalize upB s = up at *
 generalize loB s = lo at *
 simp only [intV] at hU hL
 refine acalls_of cx_ok dr_ok Tryz.func47 (by kernel_rfl) rfl (nt := 30) (rs := [.cell 2 106, .tmp 3]) rfl rfl ?_
 repeat' first | ((with_reducible first | refine cs ?_ ?_ | refine ws ?_ ?_) <;> intro h <;> try simp only [h]) | simp only [↓wBA, tGw, convA, seval] | ((with_reducible show ACalls _ _ _ _ _); first | refine (hU _).eq ?_ | refine (awordsF _).eq ?_)
 refine awp_loopN (44) (fun i => [(6, intV .i64 (i : Nat)), (3, .any), (10, .any), (11, .any), (12, .any), (13, .any), (14, .any), (15, .any), (16, .any), (17, .any), (18, .any), (19, .any), (20, .any), (21, .any), (22, .any), (23, .any)]) (fun i => []) (fun i => (wordsL.take i).any (isWd up) = false) ?_ ?_ ?_
 ·rfl
 ·skip
  simp only [wR, Nat.reduceAdd, Nat.reduceLT, reduceIte]
  simp [wW]
 ·intro i hi hI
  simp only [wR, Nat.reduceAdd, Nat.reduceLT, reduceIte]
  by_cases hlt : i < 44
  ·have hdec : decide ((i : Int) < 44) = true := by simp; omega
   have hi0 := nnI i
   have hic : ((i : Int) < ((44 : Nat) : Int)) = True := eq_true (by omega)
   have hw := wI i (by omega)
   have hg := hget i hlt
   have hn := any_take (isWd up) wordsL i hlt
   have ha := any_at (isWd up) wordsL i hlt
   generalize wordsL[i] = w at *
   have hww : isWd up w = (w.toList == up.toList) := rfl
   rw [hww] at hn ha
   cases hE : (w.toList == up.toList)
   ·rw [hI, hE] at hn
    repeat' first | ((with_reducible first | refine cs ?_ ?_ | refine ws ?_ ?_) <;> intro h <;> try simp only [h]) | simp only [↓wBA, tGw, convA, seval, hen, hdec, hi0, hic, hg, hw, binStr, hE]
    refine ⟨⟨i + 1, by omega, ?_⟩, by show 44 - (i + 1) < 44 - i; omega, ?_⟩
    ·exact hn
    ·skip
     simp only [wR, Nat.reduceAdd, Nat.reduceLT, reduceIte]
     simp [wW]
   ·rw [if_pos (ha hE)] at hwf
    rw [hwf]
    repeat' first | ((with_reducible first | refine cs ?_ ?_ | refine ws ?_ ?_) <;> intro h <;> try simp only [h]) | simp only [↓wBA, tGw, convA, seval, hen, hdec, hi0, hic, hg, hw, binStr, hE]
    all_goals refine ret_is (a := _) ?_ rfl rfl
    all_goals simp only [↓wBA, tGw, convA, seval]
    all_goals simp_all [wS, wordR, tokA]
  ·have hdec : decide ((i : Int) < 44) = false := by simp; omega
   have ht : wordsL.take i = wordsL := List.take_of_length_le (by omega)
   rw [ht] at hI
   simp only [hI, Bool.false_eq_true, if_false] at hwf
   by_cases hbig : 32 < s.size
   ·have hb : decide ((s.size : Int) > 32) = true := by simp; omega
    rw [if_pos hbig] at hwf
    rw [hwf]
    repeat' first | ((with_reducible first | refine cs ?_ ?_ | refine ws ?_ ?_) <;> intro h <;> try simp only [h]) | simp only [↓wBA, tGw, convA, seval, hen, hdec, hb]
    all_goals refine ret_is (a := _) ?_ rfl rfl
    all_goals simp only [↓wBA, tGw, convA, seval]
    all_goals simp_all [wS, wordR, tokA, emp]
   ·have hb : decide ((s.size : Int) > 32) = false := by simp; omega
    rw [if_neg hbig] at hwf
    rw [hwf]
    repeat' first | ((with_reducible first | refine cs ?_ ?_ | refine ws ?_ ?_) <;> intro h <;> try simp only [h]) | simp only [↓wBA, tGw, convA, seval, hen, hdec, hb] | ((with_reducible show ACalls _ _ _ _ _); refine (hL _).eq ?_)
    all_goals refine ret_is (a := _) ?_ rfl rfl
    all_goals simp only [↓wBA, tGw, convA, seval]
    all_goals simp_all [wS, wordR, tokA]
end Go.Proofs.YtcnkmandddfdmaaGreatDoor
namespace Go.Proofs.YtcnkmandddfdmaaGreatDoor
open Go.RowKit
def pl50_7Gz : Plan := (.det 0 (.det 1 (.det 2 (.det 3 (.det 4 (.det 5 .done))))))
def tGz := aa wX <| aa wbu <| aa T3 <| aa T5 <| aa T9 T92
def quoS : List UInt8 → Option (List UInt8 × List UInt8)
 | [] => none
 | [c] => if c = 39 then some ([], []) else none
 | c :: d :: l => if c = 39 then (if d = 39 then (quoS l).map fun q => (39 :: q.1, q.2) else some ([], d :: l)) else (quoS (d :: l)).map fun q => (c :: q.1, q.2)
def preQ (bs : List UInt8) (q : List UInt8 × List UInt8) : List UInt8 × List UInt8 := (bs ++ q.1, q.2)
theorem quoS_ne {c : UInt8} (h : c ≠ 39) (l : List UInt8) : quoS (c :: l) = (quoS l).map fun q => (c :: q.1, q.2) := by
 cases l with
 | nil => simp [quoS, h]
 | cons d l => simp [quoS, h]
theorem quoS_two (l : List UInt8) : quoS (39 :: 39 :: l) = (quoS l).map fun q => (39 :: q.1, q.2) := by simp [quoS]
theorem quoS_end {l : List UInt8} (h : l.head? ≠ some 39) : quoS (39 :: l) = some ([], l) := by
 cases l with
 | nil => rfl
 | cons d l =>
   have : d ≠ 39 := fun e => h (by simp [e])
   simp [quoS, this]
theorem quoS_len : ∀ (n : Nat) (l t r : List UInt8), l.length ≤ n → quoS l = some (t, r) → r.length < l.length ∧ t.length < l.length
 | _, [], t, r, hn, h => by simp [quoS] at h
 | 0, c :: l, t, r, hn, h => by simp at hn
 | n + 1, c :: l, t, r, hn, h => by
   simp only [List.length_cons] at hn ⊢
   by_cases hc : c = 39
   ·subst hc
    cases l with
    | nil => simp [quoS] at h; obtain ⟨rfl, rfl⟩ := h; simp
    | cons d l =>
      by_cases hd : d = 39
      ·subst hd
       rw [quoS_two] at h
       cases hq : quoS l with
       | none => simp [hq] at h
       | some q =>
         obtain ⟨t', r'⟩ := q
         simp [hq] at h
         obtain ⟨rfl, rfl⟩ := h
         have := quoS_len n l t' r' (by simp at hn; omega) hq
         simp only [List.length_cons]; omega
      ·rw [quoS_end (by simp [hd])] at h
       simp at h
       obtain ⟨rfl, rfl⟩ := h
       simp
   ·rw [quoS_ne hc] at h
    cases hq : quoS l with
    | none => simp [hq] at h
    | some q =>
      obtain ⟨t', r'⟩ := q
      simp [hq] at h
      obtain ⟨rfl, rfl⟩ := h
      have := quoS_len n l t' r' (by omega) hq
      simp only [List.length_cons]; omega
def quoR (n : Nat) (o : Option (List UInt8 × List UInt8)) : AV := match o with
 | some q => .tup [.p (.v (.string (mkB q.1))), intV .i64 ((n - q.2.length : Nat) : Int)]
 | none => .tup [.p (.v (.string emp)), intV .i64 (-1)]
theorem drop_bl {s : ByteArray} {k : Nat} {b : UInt8} (hb : s[k]? = some b) : (bl s).drop k = b :: (bl s).drop (k + 1) := by
 rw [← bl_get] at hb
 obtain ⟨h, e⟩ := List.getElem?_eq_some_iff.1 hb
 rw [List.drop_eq_getElem_cons h, e]
theorem map_preQ (bs : List UInt8) (c : UInt8) (o : Option (List UInt8 × List UInt8)) : (o.map fun q => (c :: q.1, q.2)).map (preQ bs) = o.map (preQ (bs ++ [c])) := by
 cases o <;> simp [preQ]
theorem aquotedF (s : ByteArray) (at_ : Nat) (hs : s.size ≤ 140737488351232) (h0 : at_ < s.size) (σ : St) : ACalls Tryz.prog 49 [.p (.v (.string s)), intV .i64 (at_ : Nat)] σ fun r σ' => σ' = σ ∧ r = quoR s.size (quoS ((bl s).drop (at_ + 1))) := by
 refine ACalls.pureF (R := fun r => r = quoR s.size (quoS ((bl s).drop (at_ + 1)))) ?_ rfl σ
 have hw0 := wI at_ (by omega)
 generalize hqq : quoS ((bl s).drop (at_ + 1)) = qq
 refine acalls_of cx_ok dr_ok Tryz.func49 (by kernel_rfl) rfl (nt := 45) (rs := [.tmp 4, .tmp 5]) rfl rfl ?_
 repeat' first | ((with_reducible first | refine cs ?_ ?_ | refine ws ?_ ?_) <;> intro h <;> try simp only [h]) | simp only [↓wBA, tGz, convA, seval, hw0]
 refine awp_loopG (X := { q : List UInt8 × Nat // q.1.length ≤ q.2 ∧ q.2 ≤ s.size + 1 ∧ (quoS ((bl s).drop q.2)).map (preQ q.1) = qq }) (fun x => s.size + 1 - x.1.2) (fun x => [(6, .nown 0 1 (encB x.1.1)), (7, intV .i64 (x.1.2 : Nat)), (4, .any), (5, .any), (10, .any), (11, .any), (12, .any), (13, .any), (14, .any), (15, .any), (16, .any), (17, .any), (18, .any), (19, .any), (20, .any), (21, .any), (22, .any), (23, .any), (24, .any), (25, .any), (26, .any), (27, .any), (28, .any), (29, .any), (30, .any), (31, .any), (32, .any), (33, .any), (34, .any), (35, .any), (36, .any), (37, .any), (38, .any), (39, .any), (40, .any), (41, .any), (42, .any), (43, .any), (44, .any), (45, .any), (46, .any)]) (fun x => [some (.nright 5 (x.1.1.length * 1))]) (⟨([], at_ + 1), by simp, by omega, by rw [hqq]; cases qq <;> simp [preQ]⟩) ?_ ?_ ?_
 ·intro x; simp
 ·skip
  simp only [wR, Nat.reduceAdd, Nat.reduceLT, reduceIte]
  simp [wW, encB]
 ·intro x
  simp only [wR, Nat.reduceAdd, Nat.reduceLT, reduceIte]
  obtain ⟨⟨bs, k⟩, hbs, hk, hI⟩ := x
  simp only at hbs hk hI
  have hen : (encB bs).length = bs.length := encB_len bs
  have hbo := bytesOf_enc bs
  by_cases hlt : k < s.size
  ·have hdec := dT (i := k) (n := s.size) hlt
   have hi0 := nnI k
   have hic : ((k : Int) < (s.size : Int)) = True := eq_true (by omega)
   obtain ⟨b, hb⟩ := ba_get s k hlt
   have hd := drop_bl hb
   have hw1 := wI k (by omega)
   have hw2 := wI (k + 1) (by omega)
   have hlim1 := tL (n := (bs.length + 1) * 1) (by omega)
   have hlim2 := lM (n := bs.length + 1) (by omega)
   rw [hd] at hI
   by_cases hq : b = 39
   ·subst hq
    by_cases hlt2 : k + 1 < s.size
    ·have hdec2 := dT (i := k + 1) (n := s.size) hlt2
     have hi1 := nnI (k + 1)
     have hic2 : (((k + 1 : Nat) : Int) < (s.size : Int)) = True := eq_true (by omega)
     obtain ⟨b2, hb2⟩ := ba_get s (k + 1) hlt2
     have hd2 := drop_bl hb2
     rw [hd2] at hI
     by_cases hq2 : b2 = 39
     ·subst hq2
      rw [quoS_two, map_preQ] at hI
      repeat' first | ((with_reducible first | refine cs ?_ ?_ | refine ws ?_ ?_) <;> intro h <;> try simp only [h]) | simp only [↓wBA, tGz, convA, seval, hdec, hi0, hic, hb, hdec2, hi1, hic2, hb2, hw1, hw2, hen, hlim1, hlim2, appendA, srcA]
      refine ⟨⟨(bs ++ [39], k + 1 + 1), by show (bs ++ [39]).length ≤ k + 1 + 1; simp; omega, by show k + 1 + 1 ≤ s.size + 1; omega, hI⟩, by show s.size + 1 - (k + 1 + 1) < s.size + 1 - k; omega, ?_⟩
      simp only [wR, Nat.reduceAdd, Nat.reduceLT, reduceIte]
      simp [wW, encB, byteP]
     ·rw [quoS_end (by simp [hq2])] at hI
      have hne2 : ((b2.toNat : Int) == 39) = false := by
       simp only [beq_eq_false_iff_ne, ne_eq]
       intro h
       exact hq2 (UInt8.toNat_inj.1 (by rw [show b2.toNat = 39 by omega]; rfl))
      have hqv : qq = some (bs ++ [], b2 :: (bl s).drop (k + 1 + 1)) := hI.symm
      have hn : s.size - (s.size - (k + 1)) = k + 1 := by omega
      have hl8 := bl_len s
      have hl9 : (b2 :: (bl s).drop (k + 1 + 1)).length = s.size - (k + 1) := by simp only [List.length_cons, List.length_drop]; omega
      repeat' first | ((with_reducible first | refine cs ?_ ?_ | refine ws ?_ ?_) <;> intro h <;> try simp only [h]) | simp only [↓wBA, tGz, convA, seval, hdec, hi0, hic, hb, hdec2, hi1, hic2, hb2, hne2, hw1, hw2, hen, convB, hbo]
      all_goals rw [hqv]
      all_goals refine ret_is (a := _) ?_ rfl rfl
      all_goals simp only [↓wBA, tGz, convA, seval]
      all_goals simp_all [wS, quoR, preQ, mkB, hl9, hn]
    ·have hdec2 := dF (i := k + 1) (n := s.size) (by omega)
     have hd3 : (bl s).drop (k + 1) = [] := List.drop_of_length_le (by rw [bl_len]; omega)
     rw [hd3, quoS_end (by simp)] at hI
     have hqv : qq = some (bs ++ [], []) := hI.symm
     have hn : s.size = k + 1 := by omega
     repeat' first | ((with_reducible first | refine cs ?_ ?_ | refine ws ?_ ?_) <;> intro h <;> try simp only [h]) | simp only [↓wBA, tGz, convA, seval, hdec, hi0, hic, hb, hdec2, hw1, hw2, hen, convB, hbo]
     all_goals rw [hqv]
     all_goals refine ret_is (a := _) ?_ rfl rfl
     all_goals simp only [↓wBA, tGz, convA, seval]
     all_goals simp_all [wS, quoR, preQ, mkB, hn]
   ·rw [quoS_ne hq, map_preQ] at hI
    have hne : ((b.toNat : Int) != 39) = true := by
     simp only [bne_iff_ne, ne_eq]
     intro h
     exact hq (UInt8.toNat_inj.1 (by rw [show b.toNat = 39 by omega]; rfl))
    repeat' first | ((with_reducible first | refine cs ?_ ?_ | refine ws ?_ ?_) <;> intro h <;> try simp only [h]) | simp only [↓wBA, tGz, convA, seval, hdec, hi0, hic, hb, hne, hw1, hw2, hen, hlim1, hlim2, appendA, srcA]
    refine ⟨⟨(bs ++ [b], k + 1), by show (bs ++ [b]).length ≤ k + 1; simp; omega, by show k + 1 ≤ s.size + 1; omega, hI⟩, by show s.size + 1 - (k + 1) < s.size + 1 - k; omega, ?_⟩
    simp only [wR, Nat.reduceAdd, Nat.reduceLT, reduceIte]
    simp [wW, encB, byteP]
  ·have hdec := dF (i := k) (n := s.size) (by omega)
   have hd3 : (bl s).drop k = [] := List.drop_of_length_le (by rw [bl_len]; omega)
   rw [hd3] at hI
   have hqv : qq = none := hI.symm
   repeat' first | ((with_reducible first | refine cs ?_ ?_ | refine ws ?_ ?_) <;> intro h <;> try simp only [h]) | simp only [↓wBA, tGz, convA, seval, hdec]
   all_goals rw [hqv]
   all_goals refine ret_is (a := _) ?_ rfl rfl
   all_goals simp only [↓wBA, tGz, convA, seval]
   all_goals simp_all [wS, quoR, quoS, emp]
def two2 (e : ByteArray) : Bool := e.toList == [60, 62] || e.toList == [60, 61] || e.toList == [62, 61]
def sgnF (s : ByteArray) : Nat := if 2 ≤ s.size ∧ two2 (s.extract 0 2) = true then 2 else if (oneS.data.toList.any fun c => s[0]? == some c) = true then 1 else 0
theorem sgnF_le (s : ByteArray) : sgnF s ≤ 2 ∧ (0 < s.size → sgnF s ≤ s.size) := by
 unfold sgnF
 repeat' split
 all_goals omega
theorem oneS_get : ∀ k < 13, oneS[k]? = oneS.data.toList[k]? := by decide
theorem any_takeU (p : UInt8 → Bool) (l : List UInt8) (i : Nat) (h : i < l.length) : (l.take (i + 1)).any p = ((l.take i).any p || p l[i]) := by
 rw [List.take_succ_eq_append_getElem h, List.any_append]; simp
theorem asignF (s : ByteArray) (h0 : 0 < s.size) (σ : St) : ACalls Tryz.prog 50 [.p (.v (.string s))] σ fun r σ' => σ' = σ ∧ r = intV .i64 (sgnF s : Nat) := by
 refine ACalls.pureF (R := fun r => r = intV .i64 (sgnF s : Nat)) ?_ rfl σ
 obtain ⟨b0, hb0⟩ : ∃ b, s[0]? = some b := ⟨s[0], by simp [h0]⟩
 obtain ⟨sg, hsg⟩ : ∃ n, sgnF s = n := ⟨_, rfl⟩
 have hsg' := hsg
 unfold sgnF at hsg'
 rw [hsg]
 rw [hb0] at hsg'
 obtain ⟨e2, he2⟩ : ∃ e, s.extract 0 2 = e := ⟨_, rfl⟩
 rw [he2] at hsg'
 have hsl' : 2 ≤ s.size → sliceA cx 9 (.p (.v (.string s))) none (some (.p (.v (.int .i64 (2 : Int))))) = some (.p (.v (.string e2))) := fun h => by
  have := slice_ij (C := cx) (T := 9) ck_9 s 0 2 (by omega) h
  rw [he2] at this
  simpa [sliceA, boundA, intA] using this
 have l1 : ({ data := #[60, 62] } : ByteArray).toList = [60, 62] := by rw [ByteArray.toList_eq]
 have l2 : ({ data := #[60, 61] } : ByteArray).toList = [60, 61] := by rw [ByteArray.toList_eq]
 have l3 : ({ data := #[62, 61] } : ByteArray).toList = [62, 61] := by rw [ByteArray.toList_eq]
 have hsm : two2 e2 = (e2.toList == [60, 62] || e2.toList == [60, 61] || e2.toList == [62, 61]) := rfl
 have hall : (2 ≤ s.size ∧ two2 e2 = true) ∨ ¬ (2 ≤ s.size ∧ two2 e2 = true) := Classical.em _
 have hii : ((0 : Int) < (s.size : Int)) = True := eq_true (by omega)
 refine acalls_of cx_ok dr_ok Tryz.func50 (by kernel_rfl) rfl (nt := 34) (rs := [.tmp 2]) rfl rfl ?_
 rcases hall with ⟨h2, h3⟩ | h23
 ·have hd : decide ((s.size : Int) ≥ 2) = true := by simp; omega
  have hsl2 := hsl' h2
  rw [if_pos ⟨h2, h3⟩] at hsg'
  subst hsg'
  rw [hsm] at h3
  have hn : ¬ ((e2.toList == ({ data := #[60, 62] } : ByteArray).toList) = false ∧ (e2.toList == ({ data := #[60, 61] } : ByteArray).toList) = false ∧ (e2.toList == ({ data := #[62, 61] } : ByteArray).toList) = false) := by
   rw [l1, l2, l3]
   rintro ⟨a1, a2, a3⟩
   rw [a1, a2, a3] at h3
   simp at h3
  cases a1 : (e2.toList == ({ data := #[60, 62] } : ByteArray).toList)
  ·cases a2 : (e2.toList == ({ data := #[60, 61] } : ByteArray).toList)
   ·cases a3 : (e2.toList == ({ data := #[62, 61] } : ByteArray).toList)
    ·exact absurd ⟨a1, a2, a3⟩ hn
    ·skip
     repeat' first | ((with_reducible first | refine cs ?_ ?_ | refine ws ?_ ?_ | refine wd ?_ ?_ | refine wu ?_ ?_) <;> intro h <;> try simp only [h]) | simp only [↓wBA, tGz, convA, seval, pl50_7Gz, hd, hsl2, binStr, a1, a2, a3] | (with_reducible refine dP pl50_7Gz 6 (some 29) (by decide) (by kernel_rfl) ?_)
     all_goals refine ret_is (a := _) ?_ rfl rfl
     all_goals simp only [↓wBA, tGz, convA, seval]
     all_goals simp_all [wS]
   ·skip
    repeat' first | ((with_reducible first | refine cs ?_ ?_ | refine ws ?_ ?_ | refine wd ?_ ?_ | refine wu ?_ ?_) <;> intro h <;> try simp only [h]) | simp only [↓wBA, tGz, convA, seval, pl50_7Gz, hd, hsl2, binStr, a1, a2] | (with_reducible refine dP pl50_7Gz 6 (some 29) (by decide) (by kernel_rfl) ?_)
    all_goals refine ret_is (a := _) ?_ rfl rfl
    all_goals simp only [↓wBA, tGz, convA, seval]
    all_goals simp_all [wS]
  ·skip
   repeat' first | ((with_reducible first | refine cs ?_ ?_ | refine ws ?_ ?_ | refine wd ?_ ?_ | refine wu ?_ ?_) <;> intro h <;> try simp only [h]) | simp only [↓wBA, tGz, convA, seval, pl50_7Gz, hd, hsl2, binStr, a1] | (with_reducible refine dP pl50_7Gz 6 (some 29) (by decide) (by kernel_rfl) ?_)
   all_goals refine ret_is (a := _) ?_ rfl rfl
   all_goals simp only [↓wBA, tGz, convA, seval]
   all_goals simp_all [wS]
 ·rw [if_neg h23] at hsg'
  have hpre : (∃ d, decide ((s.size : Int) ≥ 2) = d ∧ (d = true → sliceA cx 9 (.p (.v (.string s))) none (some (.p (.v (.int .i64 (2 : Int))))) = some (.p (.v (.string e2))) ∧ (e2.toList == ({ data := #[60, 62] } : ByteArray).toList) = false ∧ (e2.toList == ({ data := #[60, 61] } : ByteArray).toList) = false ∧ (e2.toList == ({ data := #[62, 61] } : ByteArray).toList) = false)) := by
   refine ⟨_, rfl, fun h => ?_⟩
   have h2 : 2 ≤ s.size := by simp at h; omega
   refine ⟨hsl' h2, ?_⟩
   rw [l1, l2, l3]
   have h4 : two2 e2 = false := by
    cases h : two2 e2
    ·rfl
    ·exact absurd ⟨h2, h⟩ h23
   rw [hsm] at h4
   simpa [and_assoc] using h4
  obtain ⟨d, hd, hd2⟩ := hpre
  cases d
  case' false =>
   repeat' first | ((with_reducible first | refine cs ?_ ?_ | refine ws ?_ ?_ | refine wd ?_ ?_ | refine wu ?_ ?_) <;> intro h <;> try simp only [h]) | simp only [↓wBA, tGz, convA, seval, pl50_7Gz, hd] | (with_reducible refine dP pl50_7Gz 6 (some 29) (by decide) (by kernel_rfl) ?_)
  case' true =>
   obtain ⟨hsl2, a1, a2, a3⟩ := hd2 rfl
   repeat' first | ((with_reducible first | refine cs ?_ ?_ | refine ws ?_ ?_ | refine wd ?_ ?_ | refine wu ?_ ?_) <;> intro h <;> try simp only [h]) | simp only [↓wBA, tGz, convA, seval, pl50_7Gz, hd, hsl2, binStr, a1, a2, a3] | (with_reducible refine dP pl50_7Gz 6 (some 29) (by decide) (by kernel_rfl) ?_)
  all_goals
   have hol : oneS.data.toList.length = 13 := by decide
   have hos : ({ data := #[40, 41, 44, 59, 42, 43, 45, 47, 37, 61, 60, 62, 46] } : ByteArray).size = 13 := by decide
   refine awp_loopN (13) (fun i => [(4, intV .i64 (i : Nat)), (2, .any), (23, .any), (24, .any), (25, .any), (26, .any), (27, .any), (28, .any), (29, .any), (30, .any), (31, .any), (32, .any), (33, .any), (34, .any)]) (fun i => []) (fun i => (oneS.data.toList.take i).any (fun c => some b0 == some c) = false) ?_ ?_ ?_
   ·rfl
   ·skip
    simp only [wR, Nat.reduceAdd, Nat.reduceLT, reduceIte]
    simp [wW]
   ·intro i hi hI
    simp only [wR, Nat.reduceAdd, Nat.reduceLT, reduceIte]
    by_cases hlt : i < 13
    ·have hdec : decide ((i : Int) < 13) = true := by simp; omega
     have hi0 := nnI i
     have hic : ((i : Int) < 13) = True := eq_true (by omega)
     have hw := wI i (by omega)
     have hg := oneS_get i hlt
     rw [List.getElem?_eq_getElem (by omega)] at hg
     have hst := any_takeU (fun c => some b0 == some c) oneS.data.toList i (by omega)
     have hmem := List.getElem_mem (l := oneS.data.toList) (n := i) (by omega)
     generalize oneS.data.toList[i] = c at *
     rw [hI] at hst
     simp only [oneS] at hg
     by_cases hbc : b0 = c
     ·subst hbc
      have hany : (oneS.data.toList.any fun c => some b0 == some c) = true := List.any_eq_true.2 ⟨_, hmem, by simp⟩
      rw [if_pos hany] at hsg'
      subst hsg'
      repeat' first | ((with_reducible first | refine cs ?_ ?_ | refine ws ?_ ?_ | refine wd ?_ ?_ | refine wu ?_ ?_) <;> intro h <;> try simp only [h]) | simp only [↓wBA, tGz, convA, seval, pl50_7Gz, hos, hdec, hi0, hic, hw, hg, hb0, hii] | (with_reducible refine dP pl50_7Gz 6 (some 29) (by decide) (by kernel_rfl) ?_)
      all_goals refine ret_is (a := _) ?_ rfl rfl
      all_goals simp only [↓wBA, tGz, convA, seval]
      all_goals simp_all [wS]
     ·have hne : ((b0.toNat : Int) == (c.toNat : Int)) = false := by
       simp only [beq_eq_false_iff_ne, ne_eq]
       intro h
       exact hbc (UInt8.toNat_inj.1 (by omega))
      repeat' first | ((with_reducible first | refine cs ?_ ?_ | refine ws ?_ ?_ | refine wd ?_ ?_ | refine wu ?_ ?_) <;> intro h <;> try simp only [h]) | simp only [↓wBA, tGz, convA, seval, pl50_7Gz, hos, hdec, hi0, hic, hw, hg, hb0, hii, hne] | (with_reducible refine dP pl50_7Gz 6 (some 29) (by decide) (by kernel_rfl) ?_)
      refine ⟨⟨i + 1, by omega, ?_⟩, by show 13 - (i + 1) < 13 - i; omega, ?_⟩
      ·rw [hst]; simp [hbc]
      ·skip
       simp only [wR, Nat.reduceAdd, Nat.reduceLT, reduceIte]
       simp [wW]
    ·have hdec : decide ((i : Int) < 13) = false := by simp; omega
     have ht : oneS.data.toList.take i = oneS.data.toList := List.take_of_length_le (by omega)
     rw [ht] at hI
     rw [hI] at hsg'
     simp only [Bool.false_eq_true, if_false] at hsg'
     subst hsg'
     repeat' first | ((with_reducible first | refine cs ?_ ?_ | refine ws ?_ ?_ | refine wd ?_ ?_ | refine wu ?_ ?_) <;> intro h <;> try simp only [h]) | simp only [↓wBA, tGz, convA, seval, pl50_7Gz, hos, hdec] | (with_reducible refine dP pl50_7Gz 6 (some 29) (by decide) (by kernel_rfl) ?_)
     all_goals refine ret_is (a := _) ?_ rfl rfl
     all_goals simp only [↓wBA, tGz, convA, seval]
     all_goals simp_all [wS]
end Go.Proofs.YtcnkmandddfdmaaGreatDoor
