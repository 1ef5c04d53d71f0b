/- A reader of tokens, as an object of the abstract machine: contracts of its methods at any state. The reader's small methods, told. The reader's operators, told; what expressions are, as a plain function. -/
import Derived.Test.YtcnkmandddfdmaaGreatDoorM20
import Derived.Test.YtcnkmandddfdmaaGreatDoorM19
import Derived.Test.YtcnkmandddfdmaaGreatDoorM21
set_option linter.unusedSimpArgs false
set_option linter.unusedVariables false
set_option linter.defProp false
set_option maxRecDepth 100000
set_option maxHeartbeats 32000000
namespace Go.Proofs.YtcnkmandddfdmaaGreatDoor
open Go.RowKit
def rdO (ts : List Tok) (k : Nat) (b : Bool) : Ob := .row 3 [[.p (nilSl 3 (encT ts)), intV .i64 (k : Nat), boolV b]]
def RCalls (f : FuncId) (args : List AV) (ts : List Tok) (k : Nat) (b : Bool) (R : AV → Nat → Bool → Prop) : Prop :=
 ∀ (σ : St) (t : Nat), σ[t]? = some (some (rdO ts k b)) → ACalls Tryz.prog f (.mp t 3 0 0 :: args) σ fun r σ' => ∃ k' b', R r k' b' ∧ σ' = σ.set t (some (rdO ts k' b'))
def RdPost (ts : List Tok) (R : AV → Nat → Bool → Prop) (r : AV) (σ' : St) : Prop := ∃ k' b', tokLt 0 r = true ∧ R r k' b' ∧ σ'[0]? = some (some (rdO ts k' b'))
theorem rdO_ren (g : Nat → Nat) (ts : List Tok) (k : Nat) (b : Bool) : renOb g (rdO ts k b) = rdO ts k b := by simp [renOb, rdO, renL, renA, intV, boolV]
theorem rdO_tok (n : Nat) (ts : List Tok) (k : Nat) (b : Bool) : tokOb n (rdO ts k b) = true := by simp [tokOb, rdO, tokLtL, tokLt, intV, boolV]
theorem RCalls.of {f : FuncId} {args : List AV} {ts : List Tok} {k : Nat} {b : Bool} {R : AV → Nat → Bool → Prop} (ha : tokLtL 0 args = true)
    (h : ACalls Tryz.prog f (.mp 0 3 0 0 :: args) [some (rdO ts k b)] fun r σ' => RdPost ts R (frzA r) σ') : RCalls f args ts k b R := by
  intro σ t ht
  have h1 := ACalls.frz (R := RdPost ts R) h
  have h2 := ACalls.at h1 [t] σ (by simp) rfl (fun t' s hs => by
    cases t' with
    | zero =>
      simp at hs; subst hs
      exact ⟨rdO ts k b, rfl, rdO_tok _ _ _ _, by rw [rdO_ren]; exact ht⟩
    | succ t' => simp at hs) (by
      simp only [tokLtL, Bool.and_eq_true]
      exact ⟨by simp [tokLt], tokLtL_mono _ _ ha⟩) (fun r s ⟨k', b', h1, h2, h3⟩ => ⟨tokLt_mono _ _ h1, fun t' ob ht' ho => by
        have : t' = 0 := by simp at ht'; omega
        subst this
        unfold St.at at ho
        rw [h3] at ho
        simp at ho; subst ho
        exact rdO_tok _ _ _ _⟩)
  have e1 : renL (fun t' => [t].getD t' 0) (.mp 0 3 0 0 :: args) = .mp t 3 0 0 :: args := by
    simp only [renL, renL_free _ args ha]
    rfl
  rw [e1] at h2
  refine h2.mono ?_
  rintro r σ' ⟨r0, σ0, ⟨k', b', h3, h4, h5⟩, rfl, rfl⟩
  refine ⟨k', b', by rw [renA_free _ _ h3]; exact h4, ?_⟩
  cases σ0 with
  | nil => simp at h5
  | cons o σ0 =>
    simp at h5; subst h5
    simp [setsS, rdO_ren]
theorem nilT (ts : List Tok) (h : ts ≠ []) : nilSl 3 (encT ts) = .sl 3 (encT ts) := by
 cases ts with
 | nil => exact (h rfl).elim
 | cons t ts => rfl
end Go.Proofs.YtcnkmandddfdmaaGreatDoor
namespace Go.Proofs.YtcnkmandddfdmaaGreatDoor
open Go.RowKit
def pl83_1Gr : Plan := (.det 0 (.det 1 (.det 2 (.det 3 (.det 4 (.det 5 (.det 6 (.det 7 (.det 8 (.det 9 (.det 10 (.det 11 (.det 12 (.det 13 (.det 14 (.det 15 .done))))))))))))))))
def pl83_3Gr : Plan := (.det 0 (.det 1 (.det 2 (.det 3 (.det 4 (.det 5 (.det 6 (.det 7 (.det 8 (.det 9 (.fin 10 .done)))))))))))
def tGr := aa wX <| aa wbu <| aa T3 <| aa T4 <| aa T9 <| aa T64 <| aa T67 <| aa T69 T106
abbrev Rs := Nat × Bool
def rdS (ts : List Tok) (q : Rs) : Ob := rdO ts q.1 q.2
theorem rdP (ts : List Tok) (q : Rs) : PlainOb (rdS ts q) := ⟨fun g => rdO_ren g ts q.1 q.2, fun n => rdO_tok n ts q.1 q.2, 3, _, rfl⟩
def zT : Tok := (0, emp, 0)
def tokT (t : Tok) : AV := tokA t.1 t.2.1 t.2.2
def pkF (ts : List Tok) (q : Rs) : Tok := if q.2 = true then zT else match ts[q.1]? with
 | some t => (t.1, t.2.1, IntKind.i64.wrap t.2.2)
 | none => zT
theorem pkF_bad (ts : List Tok) (k : Nat) : pkF ts (k, true) = zT := rfl
theorem pkF_end (ts : List Tok) (k : Nat) (h : ¬ k < ts.length) : pkF ts (k, false) = zT := by simp [pkF, List.getElem?_eq_none (Nat.le_of_not_lt h)]
theorem pkF_at (ts : List Tok) (k : Nat) (h : k < ts.length) : pkF ts (k, false) = (ts[k].1, ts[k].2.1, IntKind.i64.wrap ts[k].2.2) := by simp [pkF, h]
theorem pkF_in {ts : List Tok} {q : Rs} (h : (pkF ts q).1 ≠ 0) : q.2 = false ∧ q.1 < ts.length := by
 obtain ⟨k, b⟩ := q
 cases b
 ·refine ⟨rfl, ?_⟩
  rcases Nat.lt_or_ge k ts.length with h1 | h1
  ·exact h1
  ·exact absurd (by rw [pkF_end ts k (by omega)]; rfl) h
 ·exact absurd rfl h
theorem apkF (ts : List Tok) (q : Rs) : OCalls (rdS ts) 83 (fun t => [.mp t 3 0 0]) q fun r q' => r = tokT (pkF ts q) ∧ q' = q := by
 refine OCalls.of (rdP ts) (fun t => rfl) rfl ?_
 obtain ⟨k, b⟩ := q
 refine acalls_of cx_ok dr_ok Tryz.func83 (by kernel_rfl) rfl (nt := 29) (rs := [.cell 2 106]) rfl rfl ?_
 simp only [rdS, rdO]
 cases b
 ·by_cases hk : k < ts.length
  ·have hne : ts ≠ [] := fun h => by subst h; simp at hk
   have hnt := nilT ts hne
   have hen := encT_len ts
   have ht : (encT ts)[k]? = some (tokC ts[k].1 ts[k].2.1 (IntKind.i64.wrap ts[k].2.2)) := by simp [encT, hk]
   have hi0 := nnI k
   have hd : decide ((k : Int) ≥ (ts.length : Int)) = false := by simp; omega
   rw [pkF_at ts k hk]
   simp only [tokC] at ht
   repeat' first | ((with_reducible first | refine cs ?_ ?_ | refine ws ?_ ?_ | refine wd ?_ ?_ | refine wu ?_ ?_) <;> intro h <;> try simp only [h]) | simp only [↓wBA, tGr, convA, seval, pl83_1Gr, pl83_3Gr, hnt, hen, hd, ht, hi0, unmaskS] | (with_reducible refine dP pl83_1Gr 16 (some 3) (by decide) (by kernel_rfl) ?_) | (with_reducible refine dP pl83_3Gr 11 (some 20) (by decide) (by kernel_rfl) ?_)
   all_goals refine ret_obI (a := _) (b := _) (rdP ts _) ?_ rfl rfl
   all_goals simp only [↓wBA, tGr, convA, seval]
   all_goals simp_all [wS, rdS, rdO, tokT, tokA]
  ·rw [pkF_end ts k hk]
   by_cases hne : ts = []
   ·subst hne
    have hd : decide ((k : Int) ≥ ((0 : Nat) : Int)) = true := by simp
    have hnt : nilSl 3 (encT []) = .v (.slice none 0 0) := rfl
    repeat' first | ((with_reducible first | refine cs ?_ ?_ | refine ws ?_ ?_ | refine wd ?_ ?_ | refine wu ?_ ?_) <;> intro h <;> try simp only [h]) | simp only [↓wBA, tGr, convA, seval, pl83_1Gr, pl83_3Gr, hnt, hd, unmaskS] | (with_reducible refine dP pl83_1Gr 16 (some 3) (by decide) (by kernel_rfl) ?_) | (with_reducible refine dP pl83_3Gr 11 (some 20) (by decide) (by kernel_rfl) ?_)
    all_goals refine ret_obI (a := _) (b := _) (rdP [] _) ?_ rfl rfl
    all_goals simp only [↓wBA, tGr, convA, seval]
    all_goals simp_all [wS, rdS, rdO, tokT, tokA, zT, emp, hnt]
   ·have hnt := nilT ts hne
    have hen := encT_len ts
    have hd : decide ((k : Int) ≥ (ts.length : Int)) = true := by simp; omega
    repeat' first | ((with_reducible first | refine cs ?_ ?_ | refine ws ?_ ?_ | refine wd ?_ ?_ | refine wu ?_ ?_) <;> intro h <;> try simp only [h]) | simp only [↓wBA, tGr, convA, seval, pl83_1Gr, pl83_3Gr, hnt, hen, hd, unmaskS] | (with_reducible refine dP pl83_1Gr 16 (some 3) (by decide) (by kernel_rfl) ?_) | (with_reducible refine dP pl83_3Gr 11 (some 20) (by decide) (by kernel_rfl) ?_)
    all_goals refine ret_obI (a := _) (b := _) (rdP ts _) ?_ rfl rfl
    all_goals simp only [↓wBA, tGr, convA, seval]
    all_goals simp_all [wS, rdS, rdO, tokT, tokA, zT, emp]
 ·rw [pkF_bad]
  repeat' first | ((with_reducible first | refine cs ?_ ?_ | refine ws ?_ ?_ | refine wd ?_ ?_ | refine wu ?_ ?_) <;> intro h <;> try simp only [h]) | simp only [↓wBA, tGr, convA, seval, pl83_1Gr, pl83_3Gr, unmaskS] | (with_reducible refine dP pl83_1Gr 16 (some 3) (by decide) (by kernel_rfl) ?_) | (with_reducible refine dP pl83_3Gr 11 (some 20) (by decide) (by kernel_rfl) ?_)
  all_goals refine ret_obI (a := _) (b := _) (rdP ts _) ?_ rfl rfl
  all_goals simp only [↓wBA, tGr, convA, seval]
  all_goals simp_all [wS, rdS, rdO, tokT, tokA, zT, emp]
def isF (ts : List Tok) (kd : Int) (s : ByteArray) (q : Rs) : Bool := (pkF ts q).1 == kd && ((pkF ts q).2.1.toList == s.toList)
def psF (ts : List Tok) (kd : Int) (s : ByteArray) (q : Rs) : Rs := if isF ts kd s q = true then (q.1 + 1, q.2) else q
def wnF (ts : List Tok) (kd : Int) (s : ByteArray) (q : Rs) : Rs := if isF ts kd s q = true then (q.1 + 1, q.2) else (q.1, true)
def anF (ts : List Tok) (kd : Int) (q : Rs) : Tok × Rs := if (pkF ts q).1 = kd then (pkF ts q, (q.1 + 1, q.2)) else (zT, (q.1, true))
theorem aisF (kd : Int) (hkd : kd ≠ 0) (s : ByteArray) (ts : List Tok) (hts : ts.length ≤ 2048) (q : Rs) : OCalls (rdS ts) 51 (fun t => [.mp t 3 0 0, intV .i64 kd, .p (.v (.string s))]) q fun r q' => r = boolV (isF ts kd s q) ∧ q' = psF ts kd s q := by
 refine OCalls.of (rdP ts) (fun t => rfl) rfl ?_
 have hp := apkF ts q
 have hin := @pkF_in ts q
 have hI : isF ts kd s q = ((pkF ts q).1 == kd && ((pkF ts q).2.1.toList == s.toList)) := rfl
 have hps : psF ts kd s q = if isF ts kd s q = true then (q.1 + 1, q.2) else q := rfl
 obtain ⟨⟨tk, tt, tn⟩, hpk⟩ : ∃ t, pkF ts q = t := ⟨_, rfl⟩
 rw [hpk] at hp hI hin
 simp only at hI hin
 generalize isF ts kd s q = v at *
 generalize psF ts kd s q = q1 at *
 obtain ⟨k, b⟩ := q
 simp only at hin hps
 have hX : True = True := rfl
 refine acalls_of cx_ok dr_ok Tryz.func51 (by kernel_rfl) rfl (nt := 24) (rs := [.tmp 6]) rfl rfl ?_
 simp only [rdS, rdO]
 cases h1 : (tk == kd)
 ·rw [h1] at hI
  repeat' first | ((with_reducible first | refine cs ?_ ?_ | refine ws ?_ ?_) <;> intro h <;> try simp only [h]) | simp only [↓wBA, tGr, convA, seval, h1] | ((with_reducible show ACalls _ _ _ _ _); refine (hp _ 0 rfl).mono ?_; rintro _ _ ⟨_, ⟨rfl, rfl⟩, rfl⟩; simp only [rdS, rdO, tokT, tokA])
  all_goals refine ret_obI (a := _) (b := _) (rdP ts _) ?_ rfl rfl
  all_goals simp only [↓wBA, tGr, convA, seval]
  all_goals simp_all [wS, rdS, rdO]
 ·obtain ⟨hb, hk⟩ := hin (by simp at h1; omega)
  have hw := wI k (by omega)
  rw [h1] at hI
  cases h2 : (tt.toList == s.toList)
  ·rw [h2] at hI
   repeat' first | ((with_reducible first | refine cs ?_ ?_ | refine ws ?_ ?_) <;> intro h <;> try simp only [h]) | simp only [↓wBA, tGr, convA, seval, h1, h2, binStr] | ((with_reducible show ACalls _ _ _ _ _); refine (hp _ 0 rfl).mono ?_; rintro _ _ ⟨_, ⟨rfl, rfl⟩, rfl⟩; simp only [rdS, rdO, tokT, tokA])
   all_goals refine ret_obI (a := _) (b := _) (rdP ts _) ?_ rfl rfl
   all_goals simp only [↓wBA, tGr, convA, seval]
   all_goals simp_all [wS, rdS, rdO]
  ·rw [h2] at hI
   repeat' first | ((with_reducible first | refine cs ?_ ?_ | refine ws ?_ ?_) <;> intro h <;> try simp only [h]) | simp only [↓wBA, tGr, convA, seval, h1, h2, hw, binStr] | ((with_reducible show ACalls _ _ _ _ _); refine (hp _ 0 rfl).mono ?_; rintro _ _ ⟨_, ⟨rfl, rfl⟩, rfl⟩; simp only [rdS, rdO, tokT, tokA])
   all_goals refine ret_obI (a := _) (b := _) (rdP ts _) ?_ rfl rfl
   all_goals simp only [↓wBA, tGr, convA, seval]
   all_goals simp_all [wS, rdS, rdO]
theorem arsF (s : ByteArray) (ts : List Tok) (hts : ts.length ≤ 2048) (q : Rs) : OCalls (rdS ts) 28 (fun t => [.mp t 3 0 0, .p (.v (.string s))]) q fun r q' => r = boolV (isF ts 5 s q) ∧ q' = psF ts 5 s q := by
 refine OCalls.of (rdP ts) (fun t => rfl) rfl ?_
 have hp := aisF 5 (by decide) s ts hts q
 generalize isF ts 5 s q = v at *
 generalize psF ts 5 s q = q1 at *
 obtain ⟨k, b⟩ := q
 obtain ⟨k1, b1⟩ := q1
 refine acalls_of cx_ok dr_ok Tryz.func28 (by kernel_rfl) rfl (nt := 6) (rs := [.tmp 4]) rfl rfl ?_
 simp only [rdS, rdO]
 repeat' first | ((with_reducible first | refine cs ?_ ?_ | refine ws ?_ ?_) <;> intro h <;> try simp only [h]) | simp only [↓wBA, tGr, convA, seval] | ((with_reducible show ACalls _ _ _ _ _); refine (hp _ 0 rfl).mono ?_; rintro _ _ ⟨_, ⟨rfl, rfl⟩, rfl⟩; simp only [rdS, rdO, tokT, tokA])
 all_goals refine ret_obI (a := _) (b := _) (rdP ts _) ?_ rfl rfl
 all_goals simp only [↓wBA, tGr, convA, seval]
 all_goals simp_all [wS, rdS, rdO]
theorem arwF (s : ByteArray) (ts : List Tok) (hts : ts.length ≤ 2048) (q : Rs) : OCalls (rdS ts) 20 (fun t => [.mp t 3 0 0, .p (.v (.string s))]) q fun r q' => r = boolV (isF ts 1 s q) ∧ q' = psF ts 1 s q := by
 refine OCalls.of (rdP ts) (fun t => rfl) rfl ?_
 have hp := aisF 1 (by decide) s ts hts q
 generalize isF ts 1 s q = v at *
 generalize psF ts 1 s q = q1 at *
 obtain ⟨k, b⟩ := q
 obtain ⟨k1, b1⟩ := q1
 refine acalls_of cx_ok dr_ok Tryz.func20 (by kernel_rfl) rfl (nt := 6) (rs := [.tmp 4]) rfl rfl ?_
 simp only [rdS, rdO]
 repeat' first | ((with_reducible first | refine cs ?_ ?_ | refine ws ?_ ?_) <;> intro h <;> try simp only [h]) | simp only [↓wBA, tGr, convA, seval] | ((with_reducible show ACalls _ _ _ _ _); refine (hp _ 0 rfl).mono ?_; rintro _ _ ⟨_, ⟨rfl, rfl⟩, rfl⟩; simp only [rdS, rdO, tokT, tokA])
 all_goals refine ret_obI (a := _) (b := _) (rdP ts _) ?_ rfl rfl
 all_goals simp only [↓wBA, tGr, convA, seval]
 all_goals simp_all [wS, rdS, rdO]
theorem awnF (kd : Int) (hkd : kd ≠ 0) (s : ByteArray) (ts : List Tok) (hts : ts.length ≤ 2048) (q : Rs) : OCalls (rdS ts) 25 (fun t => [.mp t 3 0 0, intV .i64 kd, .p (.v (.string s))]) q fun r q' => r = .tup [] ∧ q' = wnF ts kd s q := by
 refine OCalls.of (rdP ts) (fun t => rfl) rfl ?_
 have hp := aisF kd hkd s ts hts q
 cases hv : isF ts kd s q
 ·have h1 : psF ts kd s q = q := by simp [psF, hv]
  have h2 : wnF ts kd s q = (q.1, true) := by simp [wnF, hv]
  rw [hv, h1] at hp
  rw [h2]
  obtain ⟨k, b⟩ := q
  refine acalls_of cx_ok dr_ok Tryz.func25 (by kernel_rfl) rfl (nt := 11) (rs := []) rfl rfl ?_
  simp only [rdS, rdO]
  repeat' first | ((with_reducible first | refine cs ?_ ?_ | refine ws ?_ ?_) <;> intro h <;> try simp only [h]) | simp only [↓wBA, tGr, convA, seval] | ((with_reducible show ACalls _ _ _ _ _); refine (hp _ 0 rfl).mono ?_; rintro _ _ ⟨_, ⟨rfl, rfl⟩, rfl⟩; simp only [rdS, rdO, tokT, tokA])
  all_goals refine ret_obI (a := _) (b := _) (rdP ts _) ?_ rfl rfl
  all_goals simp only [↓wBA, tGr, convA, seval]
  all_goals simp_all [wS, rdS, rdO]
 ·have h1 : psF ts kd s q = (q.1 + 1, q.2) := by simp [psF, hv]
  have h2 : wnF ts kd s q = (q.1 + 1, q.2) := by simp [wnF, hv]
  rw [hv, h1] at hp
  rw [h2]
  obtain ⟨k, b⟩ := q
  refine acalls_of cx_ok dr_ok Tryz.func25 (by kernel_rfl) rfl (nt := 11) (rs := []) rfl rfl ?_
  simp only [rdS, rdO]
  repeat' first | ((with_reducible first | refine cs ?_ ?_ | refine ws ?_ ?_) <;> intro h <;> try simp only [h]) | simp only [↓wBA, tGr, convA, seval] | ((with_reducible show ACalls _ _ _ _ _); refine (hp _ 0 rfl).mono ?_; rintro _ _ ⟨_, ⟨rfl, rfl⟩, rfl⟩; simp only [rdS, rdO, tokT, tokA])
  all_goals refine ret_obI (a := _) (b := _) (rdP ts _) ?_ rfl rfl
  all_goals simp only [↓wBA, tGr, convA, seval]
  all_goals simp_all [wS, rdS, rdO]
theorem aanF (kd : Int) (hkd : kd ≠ 0) (ts : List Tok) (hts : ts.length ≤ 2048) (q : Rs) : OCalls (rdS ts) 58 (fun t => [.mp t 3 0 0, intV .i64 kd]) q fun r q' => r = tokT (anF ts kd q).1 ∧ q' = (anF ts kd q).2 := by
 refine OCalls.of (rdP ts) (fun t => rfl) rfl ?_
 have hp := apkF ts q
 have hin := @pkF_in ts q
 have hI : anF ts kd q = if (pkF ts q).1 = kd then (pkF ts q, (q.1 + 1, q.2)) else (zT, (q.1, true)) := rfl
 obtain ⟨⟨tk, tt, tn⟩, hpk⟩ : ∃ t, pkF ts q = t := ⟨_, rfl⟩
 rw [hpk] at hp hI hin
 simp only at hI hin
 obtain ⟨k, b⟩ := q
 simp only at hin hI
 refine acalls_of cx_ok dr_ok Tryz.func58 (by kernel_rfl) rfl (nt := 22) (rs := [.cell 4 106]) rfl rfl ?_
 simp only [rdS, rdO]
 by_cases h : tk = kd
 ·obtain ⟨hb, hk⟩ := hin (by omega)
  have h1 : (tk == kd) = true := by simp [h]
  have h2 : (tk != kd) = false := by simp [h]
  have hw := wI k (by omega)
  rw [if_pos h] at hI
  rw [hI]
  repeat' first | ((with_reducible first | refine cs ?_ ?_ | refine ws ?_ ?_) <;> intro h <;> try simp only [h]) | simp only [↓wBA, tGr, convA, seval, h1, h2, hw] | ((with_reducible show ACalls _ _ _ _ _); refine (hp _ 0 rfl).mono ?_; rintro _ _ ⟨_, ⟨rfl, rfl⟩, rfl⟩; simp only [rdS, rdO, tokT, tokA])
  all_goals refine ret_obI (a := _) (b := _) (rdP ts _) ?_ rfl rfl
  all_goals simp only [↓wBA, tGr, convA, seval]
  all_goals simp_all [wS, rdS, rdO, tokT, tokA]
 ·have h1 : (tk == kd) = false := by simp [h]
  have h2 : (tk != kd) = true := by simp [h]
  rw [if_neg h] at hI
  rw [hI]
  repeat' first | ((with_reducible first | refine cs ?_ ?_ | refine ws ?_ ?_) <;> intro h <;> try simp only [h]) | simp only [↓wBA, tGr, convA, seval, h1, h2] | ((with_reducible show ACalls _ _ _ _ _); refine (hp _ 0 rfl).mono ?_; rintro _ _ ⟨_, ⟨rfl, rfl⟩, rfl⟩; simp only [rdS, rdO, tokT, tokA])
  all_goals refine ret_obI (a := _) (b := _) (rdP ts _) ?_ rfl rfl
  all_goals simp only [↓wBA, tGr, convA, seval]
  all_goals simp_all [wS, rdS, rdO, tokT, tokA, zT, emp]
theorem anmF (ts : List Tok) (hts : ts.length ≤ 2048) (q : Rs) : OCalls (rdS ts) 26 (fun t => [.mp t 3 0 0]) q fun r q' => r = .p (.v (.string (anF ts 2 q).1.2.1)) ∧ q' = (anF ts 2 q).2 := by
 refine OCalls.of (rdP ts) (fun t => rfl) rfl ?_
 have hp := aanF 2 (by decide) ts hts q
 obtain ⟨⟨⟨tk, tt, tn⟩, ⟨k1, b1⟩⟩, hpk⟩ : ∃ t, anF ts 2 q = t := ⟨_, rfl⟩
 rw [hpk] at hp ⊢
 obtain ⟨k, b⟩ := q
 refine acalls_of cx_ok dr_ok Tryz.func26 (by kernel_rfl) rfl (nt := 5) (rs := [.tmp 2]) rfl rfl ?_
 simp only [rdS, rdO]
 repeat' first | ((with_reducible first | refine cs ?_ ?_ | refine ws ?_ ?_) <;> intro h <;> try simp only [h]) | simp only [↓wBA, tGr, convA, seval] | ((with_reducible show ACalls _ _ _ _ _); refine (hp _ 0 rfl).mono ?_; rintro _ _ ⟨_, ⟨rfl, rfl⟩, rfl⟩; simp only [rdS, rdO, tokT, tokA])
 all_goals refine ret_obI (a := _) (b := _) (rdP ts _) ?_ rfl rfl
 all_goals simp only [↓wBA, tGr, convA, seval]
 all_goals simp_all [wS, rdS, rdO]
end Go.Proofs.YtcnkmandddfdmaaGreatDoor
namespace Go.Proofs.YtcnkmandddfdmaaGreatDoor
open Go.RowKit
def pl85_8Gb : Plan := (.det 0 (.det 1 (.det 2 (.det 3 (.det 4 (.det 5 (.det 6 (.det 7 (.det 8 (.det 9 (.det 10 (.det 11 (.det 12 (.det 13 (.det 14 (.det 15 (.det 16 (.det 17 (.det 18 (.det 19 (.det 20 (.det 21 (.det 22 (.det 23 .done))))))))))))))))))))))))
def pl85_9Gb : Plan := (.det 0 (.det 1 (.det 2 (.det 3 (.det 4 (.det 5 (.det 6 (.det 7 .done))))))))
def tGb := aa wX <| aa wbu <| aa T3 <| aa T9 <| aa T67 <| aa T106 <| aa T193 T194
def opsL : List (ByteArray × Int × Int) := [(⟨#[79, 82]⟩, 17, 1), (⟨#[65, 78, 68]⟩, 16, 2), (⟨#[61]⟩, 10, 4), (⟨#[60, 62]⟩, 11, 4), (⟨#[60]⟩, 12, 4), (⟨#[60, 61]⟩, 13, 4), (⟨#[62]⟩, 14, 4), (⟨#[62, 61]⟩, 15, 4), (⟨#[43]⟩, 5, 5), (⟨#[45]⟩, 6, 5), (⟨#[42]⟩, 7, 6), (⟨#[47]⟩, 8, 6), (⟨#[37]⟩, 9, 6)]
theorem opsL_len : opsL.length = 13 := rfl
def opM (t : Tok) (i : Nat) (s : ByteArray) : Bool := t.2.1.toList == s.toList && (if i < 2 then t.1 == 1 else t.1 == 5)
def opsGo (t : Tok) : Nat → List (ByteArray × Int × Int) → Int × Int
 | _, [] => (0, 0)
 | i, o :: l => if opM t i o.1 = true then o.2 else opsGo t (i + 1) l
def bnF (ts : List Tok) (q : Rs) : Int × Int := opsGo (pkF ts q) 0 opsL
theorem opsGo_mem (t : Tok) : ∀ (l : List (ByteArray × Int × Int)) (i : Nat), opsGo t i l = (0, 0) ∨ ∃ o ∈ l, opsGo t i l = o.2 ∧ t.1 ≠ 0
 | [], i => .inl rfl
 | o :: l, i => by
   simp only [opsGo]
   split
   ·rename_i h
    refine .inr ⟨o, by simp, rfl, ?_⟩
    simp only [opM, Bool.and_eq_true] at h
    have h2 := h.2
    intro e
    rw [e] at h2
    split at h2 <;> simp at h2
   ·rcases opsGo_mem t l (i + 1) with h | ⟨o', h1, h2⟩
    ·exact .inl h
    ·exact .inr ⟨o', by simp [h1], h2⟩
theorem bnF_in {ts : List Tok} {q : Rs} (h : (bnF ts q).1 ≠ 0) : q.2 = false ∧ q.1 < ts.length := by
 rcases opsGo_mem (pkF ts q) opsL 0 with h1 | ⟨o, h1, h2, h3⟩
 ·exact absurd (by unfold bnF; rw [h1]) h
 ·exact pkF_in h3
theorem bnF_ge (ts : List Tok) (q : Rs) : 0 ≤ (bnF ts q).1 := by
 rcases opsGo_mem (pkF ts q) opsL 0 with h1 | ⟨o, h1, h2, h3⟩
 ·unfold bnF; rw [h1]; exact Int.le_refl _
 ·unfold bnF; rw [h2]
  simp only [opsL, List.mem_cons, List.not_mem_nil, or_false] at h1
  rcases h1 with rfl | rfl | rfl | rfl | rfl | rfl | rfl | rfl | rfl | rfl | rfl | rfl | rfl <;> decide
theorem tx_getF : ∀ (k : Nat) (h : k < 13), ([.p (.v (.string ⟨#[79, 82]⟩)), .p (.v (.string ⟨#[65, 78, 68]⟩)), .p (.v (.string ⟨#[61]⟩)), .p (.v (.string ⟨#[60, 62]⟩)), .p (.v (.string ⟨#[60]⟩)), .p (.v (.string ⟨#[60, 61]⟩)), .p (.v (.string ⟨#[62]⟩)), .p (.v (.string ⟨#[62, 61]⟩)), .p (.v (.string ⟨#[43]⟩)), .p (.v (.string ⟨#[45]⟩)), .p (.v (.string ⟨#[42]⟩)), .p (.v (.string ⟨#[47]⟩)), .p (.v (.string ⟨#[37]⟩))] : List AV)[k]? = some (.p (.v (.string (opsL[k]'h).1))) := by
 intro k hk
 match k, hk with
 | 0, _ => rfl
 | 1, _ => rfl
 | 2, _ => rfl
 | 3, _ => rfl
 | 4, _ => rfl
 | 5, _ => rfl
 | 6, _ => rfl
 | 7, _ => rfl
 | 8, _ => rfl
 | 9, _ => rfl
 | 10, _ => rfl
 | 11, _ => rfl
 | 12, _ => rfl
theorem kd_getF : ∀ (k : Nat) (h : k < 13), ([.p (.v (.int .i64 17)), .p (.v (.int .i64 16)), .p (.v (.int .i64 10)), .p (.v (.int .i64 11)), .p (.v (.int .i64 12)), .p (.v (.int .i64 13)), .p (.v (.int .i64 14)), .p (.v (.int .i64 15)), .p (.v (.int .i64 5)), .p (.v (.int .i64 6)), .p (.v (.int .i64 7)), .p (.v (.int .i64 8)), .p (.v (.int .i64 9))] : List AV)[k]? = some (.p (.v (.int .i64 (opsL[k]'h).2.1))) := by
 intro k hk
 match k, hk with
 | 0, _ => rfl
 | 1, _ => rfl
 | 2, _ => rfl
 | 3, _ => rfl
 | 4, _ => rfl
 | 5, _ => rfl
 | 6, _ => rfl
 | 7, _ => rfl
 | 8, _ => rfl
 | 9, _ => rfl
 | 10, _ => rfl
 | 11, _ => rfl
 | 12, _ => rfl
theorem bd_getF : ∀ (k : Nat) (h : k < 13), ([.p (.v (.int .i64 1)), .p (.v (.int .i64 2)), .p (.v (.int .i64 4)), .p (.v (.int .i64 4)), .p (.v (.int .i64 4)), .p (.v (.int .i64 4)), .p (.v (.int .i64 4)), .p (.v (.int .i64 4)), .p (.v (.int .i64 5)), .p (.v (.int .i64 5)), .p (.v (.int .i64 6)), .p (.v (.int .i64 6)), .p (.v (.int .i64 6))] : List AV)[k]? = some (.p (.v (.int .i64 (opsL[k]'h).2.2))) := by
 intro k hk
 match k, hk with
 | 0, _ => rfl
 | 1, _ => rfl
 | 2, _ => rfl
 | 3, _ => rfl
 | 4, _ => rfl
 | 5, _ => rfl
 | 6, _ => rfl
 | 7, _ => rfl
 | 8, _ => rfl
 | 9, _ => rfl
 | 10, _ => rfl
 | 11, _ => rfl
 | 12, _ => rfl
theorem abnF (ts : List Tok) (q : Rs) : OCalls (rdS ts) 85 (fun t => [.mp t 3 0 0]) q fun r q' => r = .tup [intV .i64 (bnF ts q).1, intV .i64 (bnF ts q).2] ∧ q' = q := by
 refine OCalls.of (rdP ts) (fun t => rfl) rfl ?_
 have hp := apkF ts q
 have hB : opsGo (pkF ts q) 0 (opsL.drop 0) = bnF ts q := rfl
 obtain ⟨⟨r1, r2⟩, hr⟩ : ∃ r, bnF ts q = r := ⟨_, rfl⟩
 rw [hr] at hB ⊢
 obtain ⟨⟨tk, tt, tn⟩, ht⟩ : ∃ r, pkF ts q = r := ⟨_, rfl⟩
 rw [ht] at hB hp
 clear hr ht
 obtain ⟨k, b⟩ := q
 refine acalls_of cx_ok dr_ok Tryz.func85 (by kernel_rfl) rfl (nt := 47) (rs := [.tmp 2, .tmp 3]) rfl rfl ?_
 simp only [rdS, rdO]
 repeat' first | ((with_reducible first | refine cs ?_ ?_ | refine ws ?_ ?_ | refine wd ?_ ?_ | refine wu ?_ ?_) <;> intro h <;> try simp only [h]) | simp only [↓wBA, tGb, convA, seval, pl85_8Gb, pl85_9Gb] | ((with_reducible show ACalls _ _ _ _ _); refine (hp _ 0 rfl).mono ?_; rintro _ _ ⟨_, ⟨rfl, rfl⟩, rfl⟩; simp only [rdS, rdO, tokT, tokA]) | (with_reducible refine dP pl85_8Gb 24 (some 18) (by decide) (by kernel_rfl) ?_) | (with_reducible refine dP pl85_9Gb 8 (some 42) (by decide) (by kernel_rfl) ?_)
 refine awp_loopN (13) (fun i => [(8, intV .i64 (i : Nat)), (2, .any), (3, .any), (14, .any), (15, .any), (16, .any), (17, .any), (18, .any), (19, .any), (20, .any), (21, .any), (22, .any), (23, .any), (24, .any), (25, .any), (26, .any), (27, .any), (28, .any), (29, .any), (30, .any), (31, .any), (32, .any), (33, .any), (34, .any), (35, .any), (36, .any), (37, .any), (38, .any), (39, .any), (40, .any), (41, .any), (42, .any), (43, .any), (44, .any), (45, .any), (46, .any), (47, .any)]) (fun i => []) (fun i => opsGo (tk, tt, tn) i (opsL.drop i) = (r1, r2)) ?_ ?_ ?_
 ·exact hB
 ·skip
  simp only [wR, Nat.reduceAdd, Nat.reduceLT, reduceIte]
  simp [wW]
 ·intro i hi hI
  simp only [wR, Nat.reduceAdd, Nat.reduceLT, reduceIte]
  by_cases hlt : i < 13
  ·have hdec : decide ((i : Int) < 13) = true := by simp; omega
   have hi0 := nnI i
   have hi1 : ((i : Int) < ((13 : Nat) : Int)) = True := eq_true (by omega)
   have hi2 : ((i : Int) < 13) = True := eq_true (by omega)
   have hw := wI i (by omega)
   have hs := tx_getF i hlt
   have hkd := kd_getF i hlt
   have hbd := bd_getF i hlt
   rw [List.drop_eq_getElem_cons (by rw [opsL_len]; exact hlt)] at hI
   simp only [opsGo, opM] at hI
   generalize opsL[i] = o at *
   obtain ⟨o1, o2, o3⟩ := o
   simp only at hI hs hkd hbd
   cases hA : (tt.toList == o1.toList)
   ·rw [hA] at hI
    simp only [Bool.false_and, Bool.false_eq_true, if_false] at hI
    repeat' first | ((with_reducible first | refine cs ?_ ?_ | refine ws ?_ ?_ | refine wd ?_ ?_ | refine wu ?_ ?_) <;> intro h <;> try simp only [h]) | simp only [↓wBA, tGb, convA, seval, pl85_8Gb, pl85_9Gb, hdec, hi0, hi1, hi2, Nat.mul_one, hs, hA, binStr, unmaskS, hw] | (with_reducible refine dP pl85_8Gb 24 (some 18) (by decide) (by kernel_rfl) ?_) | (with_reducible refine dP pl85_9Gb 8 (some 42) (by decide) (by kernel_rfl) ?_)
    all_goals
     refine ⟨⟨i + 1, by omega, ?_⟩, by show 13 - (i + 1) < 13 - i; omega, ?_⟩
     ·exact hI
     ·skip
      simp only [wR, Nat.reduceAdd, Nat.reduceLT, reduceIte]
      simp [wW]
   ·rw [hA] at hI
    simp only [Bool.true_and] at hI
    by_cases h2 : i < 2
    ·have hB1 : decide ((i : Int) < 2) = true := by simp; omega
     have hB2 : decide ((i : Int) ≥ 2) = false := by simp; omega
     simp only [h2, if_true] at hI
     cases hC : (tk == 1)
     ·rw [hC] at hI
      simp only [Bool.false_eq_true, if_false] at hI
      repeat' first | ((with_reducible first | refine cs ?_ ?_ | refine ws ?_ ?_ | refine wd ?_ ?_ | refine wu ?_ ?_) <;> intro h <;> try simp only [h]) | simp only [↓wBA, tGb, convA, seval, pl85_8Gb, pl85_9Gb, hdec, hi0, hi1, hi2, Nat.mul_one, hs, hA, binStr, unmaskS, hB1, hB2, hC, hw] | (with_reducible refine dP pl85_8Gb 24 (some 18) (by decide) (by kernel_rfl) ?_) | (with_reducible refine dP pl85_9Gb 8 (some 42) (by decide) (by kernel_rfl) ?_)
      all_goals
       refine ⟨⟨i + 1, by omega, ?_⟩, by show 13 - (i + 1) < 13 - i; omega, ?_⟩
       ·exact hI
       ·skip
        simp only [wR, Nat.reduceAdd, Nat.reduceLT, reduceIte]
        simp [wW]
     ·rw [hC] at hI
      simp only [if_true, Prod.mk.injEq] at hI
      obtain ⟨rfl, rfl⟩ := hI
      repeat' first | ((with_reducible first | refine cs ?_ ?_ | refine ws ?_ ?_ | refine wd ?_ ?_ | refine wu ?_ ?_) <;> intro h <;> try simp only [h]) | simp only [↓wBA, tGb, convA, seval, pl85_8Gb, pl85_9Gb, hdec, hi0, hi1, hi2, Nat.mul_one, hs, hA, binStr, unmaskS, hB1, hB2, hC, hkd, hbd] | (with_reducible refine dP pl85_8Gb 24 (some 18) (by decide) (by kernel_rfl) ?_) | (with_reducible refine dP pl85_9Gb 8 (some 42) (by decide) (by kernel_rfl) ?_)
      all_goals refine ret_obI (a := _) (b := _) (rdP ts _) ?_ rfl rfl
      all_goals simp only [↓wBA, tGb, convA, seval]
      all_goals simp_all [wS, rdS, rdO]
    ·have hB1 : decide ((i : Int) < 2) = false := by simp; omega
     have hB2 : decide ((i : Int) ≥ 2) = true := by simp; omega
     simp only [h2, if_false] at hI
     cases hC : (tk == 5)
     ·rw [hC] at hI
      simp only [Bool.false_eq_true, if_false] at hI
      repeat' first | ((with_reducible first | refine cs ?_ ?_ | refine ws ?_ ?_ | refine wd ?_ ?_ | refine wu ?_ ?_) <;> intro h <;> try simp only [h]) | simp only [↓wBA, tGb, convA, seval, pl85_8Gb, pl85_9Gb, hdec, hi0, hi1, hi2, Nat.mul_one, hs, hA, binStr, unmaskS, hB1, hB2, hC, hw] | (with_reducible refine dP pl85_8Gb 24 (some 18) (by decide) (by kernel_rfl) ?_) | (with_reducible refine dP pl85_9Gb 8 (some 42) (by decide) (by kernel_rfl) ?_)
      all_goals
       refine ⟨⟨i + 1, by omega, ?_⟩, by show 13 - (i + 1) < 13 - i; omega, ?_⟩
       ·exact hI
       ·skip
        simp only [wR, Nat.reduceAdd, Nat.reduceLT, reduceIte]
        simp [wW]
     ·rw [hC] at hI
      simp only [if_true, Prod.mk.injEq] at hI
      obtain ⟨rfl, rfl⟩ := hI
      repeat' first | ((with_reducible first | refine cs ?_ ?_ | refine ws ?_ ?_ | refine wd ?_ ?_ | refine wu ?_ ?_) <;> intro h <;> try simp only [h]) | simp only [↓wBA, tGb, convA, seval, pl85_8Gb, pl85_9Gb, hdec, hi0, hi1, hi2, Nat.mul_one, hs, hA, binStr, unmaskS, hB1, hB2, hC, hkd, hbd] | (with_reducible refine dP pl85_8Gb 24 (some 18) (by decide) (by kernel_rfl) ?_) | (with_reducible refine dP pl85_9Gb 8 (some 42) (by decide) (by kernel_rfl) ?_)
      all_goals refine ret_obI (a := _) (b := _) (rdP ts _) ?_ rfl rfl
      all_goals simp only [↓wBA, tGb, convA, seval]
      all_goals simp_all [wS, rdS, rdO]
  ·have hdec : decide ((i : Int) < 13) = false := by simp; omega
   rw [List.drop_of_length_le (by rw [opsL_len]; omega)] at hI
   simp only [opsGo, Prod.mk.injEq] at hI
   obtain ⟨rfl, rfl⟩ := hI
   repeat' first | ((with_reducible first | refine cs ?_ ?_ | refine ws ?_ ?_ | refine wd ?_ ?_ | refine wu ?_ ?_) <;> intro h <;> try simp only [h]) | simp only [↓wBA, tGb, convA, seval, pl85_8Gb, pl85_9Gb, hdec] | (with_reducible refine dP pl85_8Gb 24 (some 18) (by decide) (by kernel_rfl) ?_) | (with_reducible refine dP pl85_9Gb 8 (some 42) (by decide) (by kernel_rfl) ?_)
   all_goals refine ret_obI (a := _) (b := _) (rdP ts _) ?_ rfl rfl
   all_goals simp only [↓wBA, tGb, convA, seval]
   all_goals simp_all [wS, rdS, rdO]
end Go.Proofs.YtcnkmandddfdmaaGreatDoor
