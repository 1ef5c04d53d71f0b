/- A value's literal. Loops and states: of general use. -/
import Derived.Test.YtpcblbbddccgpaaDoorM21
import Derived.Test.YtpcblbbddccgpaaDoorM26
import Derived.Test.YtpcblbbddccgpaaDoorM24
import Derived.Test.YtpcblbbddccgpaaDoorM18
set_option linter.unusedSimpArgs false
set_option linter.unusedVariables false
set_option linter.defProp false
set_option maxRecDepth 100000
set_option maxHeartbeats 32000000
namespace Go.Proofs.YtpcblbbddccgpaaDoor
open Go.RowKit
def tVw := aa wX <| aa wbu <| aa T2 <| aa T3 <| aa T4 <| aa T9 T24
def bT : ByteArray := ⟨#[116, 114, 117, 101]⟩
def bF : ByteArray := ⟨#[102, 97, 108, 115, 101]⟩
def bQ : ByteArray := ⟨#[39]⟩
def bQQ : ByteArray := ⟨#[39, 39]⟩
def bN : ByteArray := ⟨#[78, 85, 76, 76]⟩
theorem afbI (b : Bool) (σ : St) : ACalls Tryd.prog 53 [boolV b] σ fun r s => s = σ ∧ r = .p (.v (.string (if b then bT else bF))) := by
 refine ACalls.pureF (R := fun r => r = .p (.v (.string (if b then bT else bF)))) ?_ rfl σ
 refine acalls_of cx_ok dr_ok Tryd.func53 (by kernel_rfl) rfl (nt := 3) (rs := [.tmp 2]) rfl rfl ?_
 cases b
 ·skip
  repeat' first | ((with_reducible first | refine cs ?_ ?_ | refine ws ?_ ?_) <;> intro h <;> try simp only [h]) | simp only [↓wBA, tVw, convA, seval]
  all_goals refine ret_is (a := _) ?_ rfl rfl
  all_goals simp only [↓wBA, tVw, convA, seval]
  all_goals simp_all [wS, bT, bF]
 ·skip
  repeat' first | ((with_reducible first | refine cs ?_ ?_ | refine ws ?_ ?_) <;> intro h <;> try simp only [h]) | simp only [↓wBA, tVw, convA, seval]
  all_goals refine ret_is (a := _) ?_ rfl rfl
  all_goals simp only [↓wBA, tVw, convA, seval]
  all_goals simp_all [wS, bT, bF]
theorem afb (b : Bool) (σ : St) : ACalls Tryd.prog 39 [boolV b] σ fun r s => s = σ ∧ r = .p (.v (.string (if b then bT else bF))) := by
 refine ACalls.pureF (R := fun r => r = .p (.v (.string (if b then bT else bF)))) ?_ rfl σ
 refine acalls_of cx_ok dr_ok Tryd.func39 (by kernel_rfl) rfl (nt := 4) (rs := [.tmp 2]) rfl rfl ?_
 repeat' first | ((with_reducible first | refine cs ?_ ?_ | refine ws ?_ ?_) <;> intro h <;> try simp only [h]) | simp only [↓wBA, tVw, convA, seval] | ((with_reducible show ACalls _ _ _ _ _); refine (afbI _ _).eq ?_)
 all_goals refine ret_is (a := _) ?_ rfl rfl
 all_goals simp only [↓wBA, tVw, convA, seval]
 all_goals simp_all [wS]
theorem aupB (b : Bool) (σ : St) : ACalls Tryd.prog 38 [.p (.v (.string (if b then bT else bF)))] σ fun r s => s = σ ∧ r = .p (.v (.string (upperV (if b then bT else bF)))) := by
 refine aupper _ (by cases b <;> decide) (fun j x h => ?_) σ
 have hm := List.mem_of_getElem? h
 cases b
 ·simp [bF] at hm
  rcases hm with rfl | rfl | rfl | rfl | rfl <;> decide
 ·simp [bT] at hm
  rcases hm with rfl | rfl | rfl | rfl <;> decide
def showV (v : Va) : ByteArray :=
 if okV v = true then (if v.1 = 1 then itoaV v.2.1 else if v.1 = 2 then upperV (if v.2.1 = 1 then bT else bF) else if v.1 = 3 then bQ ++ replV v.2.2 bQ bQQ ++ bQ else bN) else emp
theorem okV_text {k n : Int} {t : ByteArray} (h : okV (k, n, t) = true) (hk : k = 3) : t.size ≤ 64 := by
 subst hk
 simp [okV] at h
 omega
theorem ashow (v : Va) (hv : i64R v.2.1) (σ : St) : ACalls Tryd.prog 32 [vaA v] σ fun r s => s = σ ∧ r = .p (.v (.string (showV v))) := by
 refine ACalls.pureF (R := fun r => r = .p (.v (.string (showV v)))) ?_ rfl σ
 have hok := aokV v
 obtain ⟨k, n, t⟩ := v
 have hI := aitoa n hv.1 hv.2
 have hT : k = 3 → okV (k, n, t) = true → t.size ≤ 64 := fun h1 h2 => okV_text h2 h1
 simp only [vaA, vaC, List.map_cons, List.map_nil] at hok ⊢
 generalize hoks : okV (k, n, t) = o at *
 refine acalls_of cx_ok dr_ok Tryd.func32 (by kernel_rfl) rfl (nt := 31) (rs := [.tmp 2]) rfl rfl ?_
 have h3 : k = 3 ∨ ¬ k = 3 := by omega
 have hne : k = 3 → (k == 1) = false ∧ (k == 2) = false ∧ (k == 3) = true := fun h => by subst h; decide
 cases o
 ·skip
  repeat' first | ((with_reducible first | refine cs ?_ ?_ | refine ws ?_ ?_) <;> intro h <;> try simp only [h]) | simp only [↓wBA, tVw, convA, seval] | ((with_reducible show ACalls _ _ _ _ _); refine (hok _).eq ?_)
  all_goals refine ret_is (a := _) ?_ rfl rfl
  all_goals simp only [↓wBA, tVw, convA, seval]
  all_goals simp_all [wS, showV, hoks, emp]
 ·rcases h3 with h3 | h3
  ·obtain ⟨t1, t2, t3⟩ := hne h3
   have hs := hT h3 rfl
   have hr := arepl t bQ bQQ (by omega) (by decide) (by
    have := Lib.countB_le bQ (by decide) t.size t (Nat.le_refl _)
    have h2 : bQQ.size = 2 := by decide
    rw [h2]; omega)
   have hl := repl_len t bQ bQQ
   have h2 : bQQ.size = 2 := by decide
   have h1 : bQ.size = 1 := by decide
   rw [h2] at hl
   have k1 : (((bQ.size + (replV t bQ bQQ).size : Nat) : Int) > IntKind.i64.max) = False := eq_false (by simp [IntKind.max, IntKind.signed, IntKind.bits]; omega)
   have k2 : ((((bQ ++ replV t bQ bQQ).size + bQ.size : Nat) : Int) > IntKind.i64.max) = False := eq_false (by rw [ByteArray.size_append]; simp [IntKind.max, IntKind.signed, IntKind.bits]; omega)
   generalize hrv : replV t bQ bQQ = rv at *
   simp only [bQ, bQQ] at hr k1 k2
   repeat' first | ((with_reducible first | refine cs ?_ ?_ | refine ws ?_ ?_) <;> intro h <;> try simp only [h]) | simp only [↓wBA, tVw, convA, seval, t1, t2, t3, binStr, k1, k2] | ((with_reducible show ACalls _ _ _ _ _); first | refine (hok _).eq ?_ | refine (hr _).eq ?_)
   all_goals refine ret_is (a := _) ?_ rfl rfl
   all_goals simp only [↓wBA, tVw, convA, seval]
   all_goals simp_all [wS, showV, hoks, bQ, bQQ]
  ·have t3 : (k == 3) = false := by simpa using h3
   repeat' first | ((with_reducible first | refine cs ?_ ?_ | refine ws ?_ ?_) <;> intro h <;> try simp only [h]) | simp only [↓wBA, tVw, convA, seval, t3] | ((with_reducible show ACalls _ _ _ _ _); first | refine (hok _).eq ?_ | refine (hI _).eq ?_ | refine (afb _ _).eq ?_ | refine (aupB _ _).eq ?_)
   all_goals refine ret_is (a := _) ?_ rfl rfl
   all_goals simp only [↓wBA, tVw, convA, seval]
   all_goals simp_all [wS, showV, hoks, bN]
theorem akey (v : Va) (hv : i64R v.2.1) (σ : St) : ACalls Tryd.prog 25 [vaA v] σ fun r s => s = σ ∧ r = .p (.v (.string (showV v))) := by
 refine ACalls.pureF (R := fun r => r = .p (.v (.string (showV v)))) ?_ rfl σ
 have hs := ashow v hv
 obtain ⟨k, n, t⟩ := v
 simp only [vaA, vaC, List.map_cons, List.map_nil] at hs ⊢
 refine acalls_of cx_ok dr_ok Tryd.func25 (by kernel_rfl) rfl (nt := 4) (rs := [.tmp 2]) rfl rfl ?_
 repeat' first | ((with_reducible first | refine cs ?_ ?_ | refine ws ?_ ?_) <;> intro h <;> try simp only [h]) | simp only [↓wBA, tVw, convA, seval] | ((with_reducible show ACalls _ _ _ _ _); refine (hs _).eq ?_)
 all_goals refine ret_is (a := _) ?_ rfl rfl
 all_goals simp only [↓wBA, tVw, convA, seval]
 all_goals simp_all [wS]
end Go.Proofs.YtpcblbbddccgpaaDoor
namespace Go.Proofs.YtpcblbbddccgpaaDoor
open Go.RowKit
theorem joinS_len (x : Ex) : ∀ (l : List (List Va)) (s : List (List Va) × Int), (l.foldl (filStep x) s).1.length ≤ s.1.length + l.length
 | [], s => by simp
 | q :: l, s => by
   have h1 := joinS_len x l (filStep x s q)
   simp only [List.foldl_cons, List.length_cons]
   have : (filStep x s q).1.length ≤ s.1.length + 1 := by simp only [filStep]; split <;> simp
   omega
theorem leS_self {σ0 τ : St} {n : Nat} (σ : St) (h : σ.all (okO n) = true) : leS σ0 n τ σ σ := by
 have := leS_take (σ0 := σ0) (τ := τ) (k := n) σ σ.length (by rw [List.take_length]; exact h)
 rwa [List.take_length] at this
theorem awp_loopT {P : Program} {C : Ctx} {fr : List AV} {σ : St} {Q : Exit → List AV → St → Prop} {c : Code} (n : Nat) (D : Nat → List (Nat × AV)) (T : Nat → St) (hl : ∀ i, σ.length ≤ (T i).length) (h2 : WeakE fr σ (setsF fr (D 0)) (T 0))
 (h3 : ∀ i, (hi : i ≤ n) → AWp P C (aDraw P C) c (setsF fr (D i)) (T i) (roundA (fun x : { i : Nat // i ≤ n } => (setsF fr (D x.1), T x.1)) (fun x => n - x.1) ⟨i, hi⟩ Q)) : AWp P C (aDraw P C) (.loop c) fr σ Q :=
 awp_loop' (X := { i : Nat // i ≤ n }) (fun x => (setsF fr (D x.1), T x.1)) (fun x => n - x.1) ⟨0, by omega⟩ (fun x => hl x.1) h2 fun ⟨i, hi⟩ => h3 i hi
end Go.Proofs.YtpcblbbddccgpaaDoor
