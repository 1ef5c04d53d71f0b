/- Pools: Open. -/
import Derived.Test.YtpfdbjmojbhnmaaM37
set_option linter.unusedSimpArgs false
set_option linter.unusedVariables false
set_option linter.defProp false
set_option maxRecDepth 100000
set_option maxHeartbeats 32000000
namespace Go.Proofs.Ytpfdbjmojbhnmaa
open Go.RowKit
def pl26_12Pli : Plan := (.det 0 (.det 2 (.two 1 (.two 3 (.det 4 (.fin 5 (.fin 6 .done))) 5 (.fin 3 (.det 4 (.fin 6 .done)))) 5 (.fin 1 (.fin 3 (.det 4 (.fin 6 .done)))))))
def pl26_13Pli : Plan := (.det 0 (.det 1 (.det 2 (.det 3 (.det 4 (.det 5 (.det 6 (.det 7 .done))))))))
def pl26_16Pli : Plan := (.det 0 (.det 1 (.det 2 (.det 3 (.det 4 (.det 5 (.act 6 (.det 7 (.det 8 .done)))))))))
def pl26_19Pli : Plan := (.det 0 (.det 1 (.det 2 (.det 3 (.det 4 (.det 5 (.det 6 (.det 7 (.det 8 (.det 9 (.det 10 (.det 11 .done))))))))))))
def pl26_24Pli : Plan := (.det 0 (.det 1 (.det 2 (.det 3 (.det 4 (.det 5 (.fin 6 (.det 7 (.det 8 (.fin 9 .done))))))))))
def pl26_25Pli : Plan := (.det 0 (.det 1 (.det 2 (.det 3 (.det 4 (.det 5 (.det 6 (.det 7 (.det 8 (.det 9 (.det 10 (.det 11 (.det 12 (.fin 13 .done))))))))))))))
def tPli := aa wX <| aa wbu <| aa T3 <| aa T4 <| aa T22 <| aa T24 <| aa T25 <| aa T28 <| aa T39 <| aa T54 <| aa T57 <| aa T61 <| aa T62 <| aa T94 <| aa T97 <| aa T99 T101
theorem aopenP {σ : St} {dd dl : Nat} {Fd Fl : Nat → Prop} {D DL : DiskV} (hd : DiskAt σ dd Fd D) (hl : DiskAt σ dl Fl DL) (hdj : ∀ t, Fd t → Fl t → False) (hz : 16 ≤ D.size) (hs : ∀ k, (secAt D.now k).length = 64) (hlz : 3 ≤ DL.size) (c : Nat) (hh : Heads DL.now c 0) (hls : ∀ k, (secAt DL.now k).length = 64) (hw : DL.wait = []) (most : Nat) (hm : 1 ≤ most) (hmb : most ≤ 100000) :
 ACalls Try.prog 8 [.mp dd 6 0 0, .mp dl 6 0 0, intV .i64 (most : Nat)] σ fun r σ' => ∃ p l kh G P, r = .tup [.mp p 6 0 0, intV .i64 0] ∧ Ap σ σ' ∧ PoolAt σ' p dd l kh G P ∧ P.fs = [] ∧ P.hm = [] ∧ P.most = most ∧ P.data = D ∧ P.log = { d := dl, disk := DL, ctr := c, len := 0, str := [], wait := 0 } ∧ ∀ t, G t → Fd t ∨ Fl t ∨ σ.length ≤ t := by
 have e1 : decide ((most : Int) < 1) = false := by simp; omega
 have e2 : decide ((D.size : Int) < 16) = false := by simp; omega
 refine acalls_of cx_ok dr_ok Try.func8 (by kernel_rfl) rfl (nt := 72) (rs := [.tmp 6, .tmp 7]) rfl rfl ?_
 repeat' first | ((with_reducible first | refine cs ?_ ?_ | refine ws ?_ ?_) <;> intro h <;> try simp only [h]) | simp only [↓wBA, tPli, convA, seval, wH, e1, e2] | ((with_reducible show ACalls _ _ _ _ _); first | refine (adsize hd).eq ?_ | (refine (awopen hl hlz c hh hls hw).mono ?_; rintro _ s ⟨rfl, ha, hL⟩))
 have hsl := hL.lt _ (.inl rfl)
 obtain ⟨S, hS⟩ : ∃ S, S = s ++ [some (.map [])] ++ [some (.row 6 [[.mp dd 6 0 0, .mp σ.length 5 0 0, .p (.v (.int .i64 (most : Nat))), .p (.v (.slice none 0 0)), .mmap s.length, .p (.v (.int .i64 0))]])] := ⟨_, rfl⟩
 rw [← hS]
 have hApS : Ap s S := by rw [hS]; exact (Ap.app _ _).more _
 have hPool : PoolAt S (s.length + 1) dd σ.length s.length (fun t => t = s.length + 1 ∨ t = s.length ∨ Fd t ∨ (t = σ.length ∨ Fl t) ∨ oG none [] t) ⟨D, { d := dl, disk := DL, ctr := c, len := 0, str := [], wait := 0 }, most, 0, [], fun _ => ⟨0, [], false, 0⟩, []⟩ := by
  refine ⟨⟨fun n f => by simp [lkM], by simp, hm, hmb, by simp, by simp, by simp, by simp, hs, hz⟩, Fd, (fun t => t = σ.length ∨ Fl t), none, _, ⟨by rw [hS]; simp [intV], (hd.ap ha).ap hApS, hL.same (fun t ht => by have := hL.lt t ht; rw [hS, List.append_assoc, List.getElem?_append_left this]), .nil, by rw [hS]; simp [encM], fun t h1 h2 => ?_, fun t h1 => ?_, fun t h1 => ?_, fun e => ?_, fun e => ?_, fun e => ?_, fun e => ?_⟩, fun t => Iff.rfl⟩
  ·rcases h2 with rfl | h2
   ·exact Nat.lt_irrefl _ (hd.lt _ h1)
   ·exact hdj t h1 h2
  ·rcases h1 with h1 | h1 <;> simp at h1
  ·rcases h1 with h1 | h1 <;> simp at h1
  ·have := hd.lt _ e; omega
  ·have := hL.lt _ e; omega
  ·have := hd.lt _ e; omega
  ·have := hL.lt _ e; omega
 have hfin := ha.trans hApS
 have hlen := hfin.len
 refine awp_loopS (X := Nat) (fun i => 0) (fun i => [(46, intV .i64 0)]) [6, 7, 13, 14, 15, 16, 47, 48, 49, 50, 51, 52, 53, 54, 55, 56, 57, 58, 59, 60, 61, 62, 63, 64, 65] (fun i q => q = S) (0) ?_ ?_ ?_ ?_
 ·simp only [wHl, wHf]
 ·rfl
 ·rintro _ _ rfl; first | exact hlen | exact Nat.le_refl _
 ·intro x J q hI
  simp only [wHl]
  subst hI
  repeat' first | ((with_reducible first | refine cs ?_ ?_ | refine ws ?_ ?_) <;> intro h <;> try simp only [h]) | simp only [↓wBA, tPli, convA, seval, wH, wHl]
  all_goals refine ret_st ?_ (by first | exact Nat.le_refl _ | (simp only [List.length_set, List.length_append]; omega) | omega)
  all_goals simp only [resA.eq_1, resL.eq_1, resL.eq_2, resV.eq_1, resV.eq_2, ↓wBA, tPli, convA, seval, wH]
  all_goals refine ⟨_, _, _, _, _, rfl, hfin, hPool, rfl, rfl, rfl, rfl, rfl, fun t ht => ?_⟩
  all_goals rcases ht with rfl | rfl | ht | (rfl | ht) | ht
  all_goals first | exact .inl ht | exact .inr (.inl ht) | (right; right; omega) | (rcases ht with ht | ht <;> simp at ht)
theorem aopenN {σ : St} {dl : Nat} (most : Int) : ACalls Try.prog 8 [.p (.v (.pointer none)), .mp dl 6 0 0, intV .i64 most] σ fun r σ' => σ' = σ ∧ r = .tup [.p (.v (.pointer none)), intV .i64 2] := by
 refine acalls_of cx_ok dr_ok Try.func8 (by kernel_rfl) rfl (nt := 72) (rs := [.tmp 6, .tmp 7]) rfl rfl ?_
 repeat' first | ((with_reducible first | refine cs ?_ ?_ | refine ws ?_ ?_) <;> intro h <;> try simp only [h]) | simp only [↓wBA, tPli, convA, seval, wH]
 all_goals refine ret_st ?_ (by first | exact Nat.le_refl _ | (simp only [List.length_set, List.length_append]; omega) | omega)
 all_goals simp only [resA.eq_1, resL.eq_1, resL.eq_2, resV.eq_1, resV.eq_2, ↓wBA, tPli, convA, seval, wH]
theorem aopenA {σ : St} {dd dl : Nat} {Fd : Nat → Prop} {D : DiskV} (hd : DiskAt σ dd Fd D) (most : Int) (hm : most < 1 ∨ D.size < 16) : ACalls Try.prog 8 [.mp dd 6 0 0, .mp dl 6 0 0, intV .i64 most] σ fun r σ' => σ' = σ ∧ r = .tup [.p (.v (.pointer none)), intV .i64 1] := by
 by_cases h1 : most < 1
 ·have e1 : decide (most < 1) = true := by simp [h1]
  refine acalls_of cx_ok dr_ok Try.func8 (by kernel_rfl) rfl (nt := 72) (rs := [.tmp 6, .tmp 7]) rfl rfl ?_
  repeat' first | ((with_reducible first | refine cs ?_ ?_ | refine ws ?_ ?_) <;> intro h <;> try simp only [h]) | simp only [↓wBA, tPli, convA, seval, wH, e1]
  all_goals refine ret_st ?_ (by first | exact Nat.le_refl _ | (simp only [List.length_set, List.length_append]; omega) | omega)
  all_goals simp only [resA.eq_1, resL.eq_1, resL.eq_2, resV.eq_1, resV.eq_2, ↓wBA, tPli, convA, seval, wH]
 ·have e1 : decide (most < 1) = false := by simp [h1]
  have e2 : decide ((D.size : Int) < 16) = true := by simp; omega
  refine acalls_of cx_ok dr_ok Try.func8 (by kernel_rfl) rfl (nt := 72) (rs := [.tmp 6, .tmp 7]) rfl rfl ?_
  repeat' first | ((with_reducible first | refine cs ?_ ?_ | refine ws ?_ ?_) <;> intro h <;> try simp only [h]) | simp only [↓wBA, tPli, convA, seval, wH, e1, e2] | ((with_reducible show ACalls _ _ _ _ _); refine (adsize hd).eq ?_)
  all_goals refine ret_st ?_ (by first | exact Nat.le_refl _ | (simp only [List.length_set, List.length_append]; omega) | omega)
  all_goals simp only [resA.eq_1, resL.eq_1, resL.eq_2, resV.eq_1, resV.eq_2, ↓wBA, tPli, convA, seval, wH]
theorem awopenA {σ : St} {d : Nat} {F : Nat → Prop} {D : DiskV} (h : DiskAt σ d F D) (hz : D.size < 3) : ACalls Try.prog 26 [.mp d 6 0 0] σ fun r σ' => σ' = σ ∧ r = .tup [.p (.v (.pointer none)), .p (.v (.slice none 0 0)), intV .i64 1] := by
 have e0 : decide ((D.size : Int) < 3) = true := by simp; omega
 refine acalls_of cx_ok dr_ok Try.func26 (by kernel_rfl) rfl (nt := 120) (rs := [.tmp 2, .tmp 3, .tmp 4]) rfl rfl ?_
 repeat' first | ((with_reducible first | refine cs ?_ ?_ | refine ws ?_ ?_ | refine wd ?_ ?_ | refine wu ?_ ?_) <;> intro h <;> try simp only [h]) | simp only [↓wBA, tPli, convA, seval, pl26_12Pli, pl26_13Pli, pl26_16Pli, pl26_19Pli, pl26_24Pli, pl26_25Pli, wH, e0] | ((with_reducible show ACalls _ _ _ _ _); refine (adsize h).eq ?_) | (with_reducible refine dP pl26_12Pli 7 (some 37) (by decide) (by kernel_rfl) ?_) | (with_reducible refine dP pl26_13Pli 8 (some 42) (by decide) (by kernel_rfl) ?_) | (with_reducible refine dP pl26_16Pli 9 (some 55) (by decide) (by kernel_rfl) ?_) | (with_reducible refine dP pl26_19Pli 12 (some 64) (by decide) (by kernel_rfl) ?_) | (with_reducible refine dP pl26_24Pli 10 (some 87) (by decide) (by kernel_rfl) ?_) | (with_reducible refine dP pl26_25Pli 14 (some 96) (by decide) (by kernel_rfl) ?_) | with_reducible refine And.intro ?_ ?_
 all_goals refine ret_st ?_ (by first | exact Nat.le_refl _ | (simp only [List.length_set, List.length_append]; omega) | omega)
 all_goals simp only [resA.eq_1, resL.eq_1, resL.eq_2, resV.eq_1, resV.eq_2, ↓wBA, tPli, convA, seval, wH]
theorem aopenL {σ : St} {dd dl : Nat} {Fd Fl : Nat → Prop} {D DL : DiskV} (hd : DiskAt σ dd Fd D) (hl : DiskAt σ dl Fl DL) (hz : 16 ≤ D.size) (hlz : DL.size < 3) (most : Int) (hm : 1 ≤ most) : ACalls Try.prog 8 [.mp dd 6 0 0, .mp dl 6 0 0, intV .i64 most] σ fun r σ' => σ' = σ ∧ r = .tup [.p (.v (.pointer none)), intV .i64 1] := by
 have e1 : decide (most < 1) = false := by simp; omega
 have e2 : decide ((D.size : Int) < 16) = false := by simp; omega
 refine acalls_of cx_ok dr_ok Try.func8 (by kernel_rfl) rfl (nt := 72) (rs := [.tmp 6, .tmp 7]) rfl rfl ?_
 repeat' first | ((with_reducible first | refine cs ?_ ?_ | refine ws ?_ ?_) <;> intro h <;> try simp only [h]) | simp only [↓wBA, tPli, convA, seval, wH, e1, e2] | ((with_reducible show ACalls _ _ _ _ _); first | refine (adsize hd).eq ?_ | refine (awopenA hl hlz).eq ?_)
 all_goals refine ret_st ?_ (by first | exact Nat.le_refl _ | (simp only [List.length_set, List.length_append]; omega) | omega)
 all_goals simp only [resA.eq_1, resL.eq_1, resL.eq_2, resV.eq_1, resV.eq_2, ↓wBA, tPli, convA, seval, wH]
end Go.Proofs.Ytpfdbjmojbhnmaa
