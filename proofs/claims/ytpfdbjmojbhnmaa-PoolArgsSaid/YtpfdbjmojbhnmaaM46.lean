/- PoolArgs. -/
import Derived.Test.YtpfdbjmojbhnmaaM45
set_option linter.unusedSimpArgs false
set_option linter.unusedVariables false
set_option linter.defProp false
set_option maxRecDepth 100000
set_option maxHeartbeats 32000000
namespace Go.Proofs.Ytpfdbjmojbhnmaa
open Go.RowKit
def tLaa := aa wX <| aa wbu <| aa T3 <| aa T4 <| aa T24 <| aa T25 <| aa T28 <| aa T30 <| aa T35 <| aa T39 <| aa T54 <| aa T61 <| aa T62 T71
theorem aflushN (σ : St) : ACalls Try.prog 24 [.p (.v (.pointer none))] σ fun r σ' => σ' = σ ∧ r = intV .i64 2 := by
 refine acalls_of cx_ok dr_ok Try.func24 (by kernel_rfl) rfl (nt := 9) (rs := [.tmp 2]) rfl rfl ?_
 repeat' first | ((with_reducible first | refine cs ?_ ?_ | refine ws ?_ ?_) <;> intro h <;> try simp only [h]) | simp only [↓wBA, tLaa, convA, seval, wH]
 all_goals refine ret_st ?_ (by first | exact Nat.le_refl _ | (simp only [List.length_set, List.length_append]; omega) | omega)
 all_goals simp only [resA.eq_1, resL.eq_1, resL.eq_2, resV.eq_1, resV.eq_2, ↓wBA, tLaa, convA, seval, wH]
theorem apagesN (σ : St) : ACalls Try.prog 18 [.p (.v (.pointer none))] σ fun r σ' => σ' = σ ∧ r = intV .i64 0 := by
 refine acalls_of cx_ok dr_ok Try.func18 (by kernel_rfl) rfl (nt := 11) (rs := [.tmp 2]) rfl rfl ?_
 repeat' first | ((with_reducible first | refine cs ?_ ?_ | refine ws ?_ ?_) <;> intro h <;> try simp only [h]) | simp only [↓wBA, tLaa, convA, seval, wH]
 all_goals refine ret_st ?_ (by first | exact Nat.le_refl _ | (simp only [List.length_set, List.length_append]; omega) | omega)
 all_goals simp only [resA.eq_1, resL.eq_1, resL.eq_2, resV.eq_1, resV.eq_2, ↓wBA, tLaa, convA, seval, wH]
theorem abatchN (σ : St) : ACalls Try.prog 10 [.p (.v (.pointer none))] σ fun r σ' => σ' = σ ∧ r = .p (.v (.pointer none)) := by
 refine acalls_of cx_ok dr_ok Try.func10 (by kernel_rfl) rfl (nt := 7) (rs := [.tmp 2]) rfl rfl ?_
 repeat' first | ((with_reducible first | refine cs ?_ ?_ | refine ws ?_ ?_) <;> intro h <;> try simp only [h]) | simp only [↓wBA, tLaa, convA, seval, wH]
 all_goals refine ret_st ?_ (by first | exact Nat.le_refl _ | (simp only [List.length_set, List.length_append]; omega) | omega)
 all_goals simp only [resA.eq_1, resL.eq_1, resL.eq_2, resV.eq_1, resV.eq_2, ↓wBA, tLaa, convA, seval, wH]
theorem adoneN (σ : St) : ACalls Try.prog 19 [.p (.v (.pointer none))] σ fun r σ' => σ' = σ ∧ r = intV .i64 2 := by
 refine acalls_of cx_ok dr_ok Try.func19 (by kernel_rfl) rfl (nt := 57) (rs := [.tmp 2]) rfl rfl ?_
 repeat' first | ((with_reducible first | refine cs ?_ ?_ | refine ws ?_ ?_) <;> intro h <;> try simp only [h]) | simp only [↓wBA, tLaa, convA, seval, wH]
 all_goals refine ret_st ?_ (by first | exact Nat.le_refl _ | (simp only [List.length_set, List.length_append]; omega) | omega)
 all_goals simp only [resA.eq_1, resL.eq_1, resL.eq_2, resV.eq_1, resV.eq_2, ↓wBA, tLaa, convA, seval, wH]
theorem apoolArgs (n frames : Int) (σ : St) : ACalls Try.prog 6 [intV .i64 n, intV .i64 frames] σ fun r σ' => r = boolV true := by
 refine acalls_of cx_ok dr_ok Try.func6 (by kernel_rfl) rfl (nt := 133) (rs := [.tmp 4]) rfl rfl ?_
 repeat' first | ((with_reducible first | refine cs ?_ ?_ | refine ws ?_ ?_) <;> intro h <;> try simp only [h]) | simp only [↓wBA, tLaa, convA, seval, wH] | ((with_reducible show ACalls _ _ _ _ _); refine (aawake _).mono ?_; rintro _ s0 ⟨a0, rfl⟩)
 refine (adnew 9 (by omega) _).mono ?_
 rintro _ s1 ⟨d1, F1, rfl, a1, hd1, hF1⟩
 repeat' first | ((with_reducible first | refine cs ?_ ?_ | refine ws ?_ ?_) <;> intro h <;> try simp only [h]) | simp only [↓wBA, tLaa, convA, seval, wH] | ((with_reducible show ACalls _ _ _ _ _); refine (aopenN 1).eq ?_)
 refine (adnew 15 (by omega) _).mono ?_
 rintro _ s2 ⟨d2, F2, rfl, a2, hd2, hF2⟩
 repeat' first | ((with_reducible first | refine cs ?_ ?_ | refine ws ?_ ?_) <;> intro h <;> try simp only [h]) | simp only [↓wBA, tLaa, convA, seval, wH]
 refine (adnew 9 (by omega) _).mono ?_
 rintro _ s3 ⟨d3, F3, rfl, a3, hd3, hF3⟩
 have hd2' := hd2.ap a3
 repeat' first | ((with_reducible first | refine cs ?_ ?_ | refine ws ?_ ?_) <;> intro h <;> try simp only [h]) | simp only [↓wBA, tLaa, convA, seval, wH] | ((with_reducible show ACalls _ _ _ _ _); refine (aopenA hd2' 1 (by simp)).eq ?_)
 refine (adnew 16 (by omega) _).mono ?_
 rintro _ s4 ⟨d4, F4, rfl, a4, hd4, hF4⟩
 repeat' first | ((with_reducible first | refine cs ?_ ?_ | refine ws ?_ ?_) <;> intro h <;> try simp only [h]) | simp only [↓wBA, tLaa, convA, seval, wH]
 refine (adnew 2 (by omega) _).mono ?_
 rintro _ s5 ⟨d5, F5, rfl, a5, hd5, hF5⟩
 have hd4' := hd4.ap a5
 repeat' first | ((with_reducible first | refine cs ?_ ?_ | refine ws ?_ ?_) <;> intro h <;> try simp only [h]) | simp only [↓wBA, tLaa, convA, seval, wH] | ((with_reducible show ACalls _ _ _ _ _); refine (aopenL hd4' hd5 (by simp) (by simp) 1 (by omega)).eq ?_)
 refine (adnew 16 (by omega) _).mono ?_
 rintro _ s6 ⟨d6, F6, rfl, a6, hd6, hF6⟩
 repeat' first | ((with_reducible first | refine cs ?_ ?_ | refine ws ?_ ?_) <;> intro h <;> try simp only [h]) | simp only [↓wBA, tLaa, convA, seval, wH]
 refine (adnew 9 (by omega) _).mono ?_
 rintro _ s7 ⟨d7, F7, rfl, a7, hd7, hF7⟩
 have hd6' := hd6.ap a7
 have b0 := a0.len; have b1 := a1.len; have b2 := a2.len; have b3 := a3.len; have b4 := a4.len; have b5 := a5.len; have b6 := a6.len; have b7 := a7.len
 have hdj : ∀ t, F6 t → F7 t → False := fun t h1 h2 => by have := hd6.lt t h1; have := hF7 t h2; omega
 by_cases hf : 0 < frames
 ·obtain ⟨m, hm, hm1, hm2⟩ : ∃ m : Nat, (if 50 < frames then 50 else frames) = (m : Int) ∧ 1 ≤ m ∧ m ≤ 50 := ⟨(if 50 < frames then 50 else frames).toNat, by split <;> omega, by split <;> omega, by split <;> omega⟩
  have hgt : decide (frames > 0) = true := by simp [hf]
  repeat' first | ((with_reducible first | refine cs ?_ ?_ | refine ws ?_ ?_) <;> intro h <;> try simp only [h]) | simp only [↓wBA, tLaa, convA, seval, wH, hm]
  refine (aopenN2 hd6' hd7 hdj (by omega) (by omega) m hm1 (by omega)).mono ?_
  rintro _ s8 ⟨p, l, kh, G, P, rfl, a8, hP, p1, p2, p3, p4, p5, p6, p7, p8, p9⟩
  have hpg : P.pages = 2 := by rw [p1]; rfl
  have b8 := a8.len
  by_cases hn : n = 0 ∨ n = 1
  ·obtain ⟨k, rfl, hk⟩ : ∃ k : Nat, n = (k : Int) ∧ k < 2 := ⟨n.toNat, by omega, by omega⟩
   repeat' first | ((with_reducible first | refine cs ?_ ?_ | refine ws ?_ ?_) <;> intro h <;> try simp only [h]) | simp only [↓wBA, tLaa, convA, seval, wH, hgt]
   refine (aread hP (n := k) (by omega) (by omega) (by rw [p7]; simp)).mono ?_
   rintro _ s9 ⟨rfl, G9, P9, f9, hP9, k9⟩
   have c9 := k9.ctr
   have w9 := k9.dw
   rw [p7] at w9
   simp only [List.length_nil] at w9
   have z1 := (hP.vlen k).1
   have z2 := pageC_512 z1
   repeat' first | ((with_reducible first | refine cs ?_ ?_ | refine ws ?_ ?_) <;> intro h <;> try simp only [h]) | simp only [↓wBA, tLaa, convA, seval, wH, pageA, z1, z2, zl512, zB_512, len_zero512] | ((with_reducible show ACalls _ _ _ _ _); refine abatch.mono ?_; rintro _ s10 ⟨rfl, a10, hB⟩)
   have hP10 := hP9.ap a10
   have hd10 : ∀ t, t = s9.length → G9 t → False := fun t h1 h2 => by have := hP9.lt t h2; omega
   repeat' first | ((with_reducible first | refine cs ?_ ?_ | refine ws ?_ ?_) <;> intro h <;> try simp only [h]) | simp only [↓wBA, tLaa, convA, seval, wH]
   refine (abreadU hB hP10 hd10 (n := k) (by rw [k9.pages]; omega) (by omega) (by omega)).mono ?_
   rintro _ s11 ⟨rfl, G11, P11, f11, hP11, k11, _⟩
   have hB11 := hB.frame f11 fun t h1 h2 => hd10 t h1 h2
   have c11 := k11.ctr
   have w11 := k11.dw
   have z3 : (bview P9.view [] k).length = 512 := (hP9.vlen k).1
   have z4 := pageC_512 z3
   have z5 := pageC_512 len_zero512
   have ln := f9.len; have ln2 := a10.len; have ln3 := f11.len
   have hB11' := hB11
   have hd11 : ∀ t, t = s9.length → G11 t → False := fun t h1 h2 => (f11.own t h2).elim (fun e => hd10 t h1 e) fun e => by have := hB.lt t h1; omega
   have hk11 := k11.trans (Kp.refl P11 0)
   have hkb := kbt_le [] k
   rcases Nat.lt_or_ge k 1 with h0 | h0
   ·obtain rfl : k = 0 := by omega
    have q0 : (((0 : Nat) : Int) == 0) = true := rfl
    have q1 : (((0 : Nat) : Int) == 1) = false := rfl
    repeat' first | ((with_reducible first | refine cs ?_ ?_ | refine ws ?_ ?_) <;> intro h <;> try simp only [h]) | simp only [↓wBA, tLaa, convA, seval, wH, pageA, z3, z4, z5, zl512, zB_512, len_zero512, q0, q1]
    refine (abWriteX hB11 hP11 (n := ((0 : Nat) : Int)) (by omega) zero512 len_zero512).mono ?_
    rintro _ s12 ⟨rfl, a12⟩
    have ln4 := a12.len
    repeat' first | ((with_reducible first | refine cs ?_ ?_ | refine ws ?_ ?_) <;> intro h <;> try simp only [h]) | simp only [↓wBA, tLaa, convA, seval, wH, q0, q1]
    refine (afreeX (hB11.ap a12) (hP11.ap a12) (n := ((0 : Nat) : Int)) (by omega)).mono ?_
    rintro _ s13 ⟨rfl, rfl⟩
    repeat' first | ((with_reducible first | refine cs ?_ ?_ | refine ws ?_ ?_) <;> intro h <;> try simp only [h]) | simp only [↓wBA, tLaa, convA, seval, wH, q0, q1]
    all_goals refine ret_st ?_ (by first | exact Nat.le_refl _ | (simp only [List.length_set, List.length_append]; omega) | omega)
    all_goals simp only [resA.eq_1, resL.eq_1, resL.eq_2, resV.eq_1, resV.eq_2, ↓wBA, tLaa, convA, seval, wH]
   ·obtain rfl : k = 1 := by omega
    have q0 : (((1 : Nat) : Int) == 0) = false := rfl
    have q1 : (((1 : Nat) : Int) == 1) = true := rfl
    repeat' first | ((with_reducible first | refine cs ?_ ?_ | refine ws ?_ ?_) <;> intro h <;> try simp only [h]) | simp only [↓wBA, tLaa, convA, seval, wH, pageA, z3, z4, z5, zl512, zB_512, len_zero512, q0, q1]
    refine (abWrite hB11 hP11 (n := 1) (by omega) (by rw [k11.pages, k9.pages]; omega) zero512 len_zero512 (by simp)).mono ?_
    rintro _ s12 ⟨rfl, B12, f12, hB12⟩
    have ln4 := f12.len
    have hP12 := hP11.frame f12 fun t h1 h2 => hd11 t h2 h1
    have hd12 : ∀ t, B12 t → G11 t → False := fun t h1 h2 => (f12.own t h1).elim (fun e => hd11 t e h2) fun e => by have := hP11.lt t h2; omega
    have hT : Tk (bview P11.view (setM [] 1 zero512) 0) P11.pages fun n => n == 0 := by
     show Tk (P11.view 0) _ _
     rw [k11.view, k9.view, p8]; exact tk_new (by rw [k11.pages, k9.pages]; omega)
    repeat' first | ((with_reducible first | refine cs ?_ ?_ | refine ws ?_ ?_) <;> intro h <;> try simp only [h]) | simp only [↓wBA, tLaa, convA, seval, wH, q0, q1]
    refine (afree (n := 1) hB12 hP12 hd12 hT (by rw [k11.pages, k9.pages]; omega) (by omega) (by rw [k11.pages, k9.pages]; omega) (by simp [setM]) (by omega) (by omega)).mono ?_
    rintro _ s13 ⟨B13, G13, P13, ch13, f13, _, _, _, _, _, hc⟩
    have ln5 := f13.len
    rcases hc with ⟨_, hc, _⟩ | ⟨_, rfl, _⟩
    ·cases hc
    repeat' first | ((with_reducible first | refine cs ?_ ?_ | refine ws ?_ ?_) <;> intro h <;> try simp only [h]) | simp only [↓wBA, tLaa, convA, seval, wH, q0, q1]
    all_goals refine ret_st ?_ (by first | exact Nat.le_refl _ | (simp only [List.length_set, List.length_append]; omega) | omega)
    all_goals simp only [resA.eq_1, resL.eq_1, resL.eq_2, resV.eq_1, resV.eq_2, ↓wBA, tLaa, convA, seval, wH]
  ·have h0 : (n == 0) = false := by simp; omega
   have h1 : (n == 1) = false := by simp; omega
   have hx : n < 0 ∨ (P.pages : Int) ≤ n := by omega
   have z5 := pageC_512 len_zero512
   repeat' first | ((with_reducible first | refine cs ?_ ?_ | refine ws ?_ ?_) <;> intro h <;> try simp only [h]) | simp only [↓wBA, tLaa, convA, seval, wH, hgt]
   refine (areadX hP hx).mono ?_
   rintro _ s9 ⟨rfl, a9⟩
   have hP9 := hP.ap a9
   repeat' first | ((with_reducible first | refine cs ?_ ?_ | refine ws ?_ ?_) <;> intro h <;> try simp only [h]) | simp only [↓wBA, tLaa, convA, seval, wH, pageA, z5, zl512, zB_512, len_zero512] | ((with_reducible show ACalls _ _ _ _ _); refine abatch.mono ?_; rintro _ s10 ⟨rfl, a10, hB⟩)
   have hP10 := hP9.ap a10
   repeat' first | ((with_reducible first | refine cs ?_ ?_ | refine ws ?_ ?_) <;> intro h <;> try simp only [h]) | simp only [↓wBA, tLaa, convA, seval, wH]
   refine (abreadX hB hP10 (by simp) hx).mono ?_
   rintro _ s11 ⟨rfl, a11⟩
   have hP11 := hP10.ap a11
   have hB11 := hB.ap a11
   repeat' first | ((with_reducible first | refine cs ?_ ?_ | refine ws ?_ ?_) <;> intro h <;> try simp only [h]) | simp only [↓wBA, tLaa, convA, seval, wH, pageA, z5, zl512, zB_512, len_zero512, h0, h1]
   refine (abWriteX hB11 hP11 (n := n) (by omega) zero512 len_zero512).mono ?_
   rintro _ s12 ⟨rfl, a12⟩
   have ln := a9.len; have ln2 := a10.len; have ln3 := a11.len; have ln4 := a12.len
   repeat' first | ((with_reducible first | refine cs ?_ ?_ | refine ws ?_ ?_) <;> intro h <;> try simp only [h]) | simp only [↓wBA, tLaa, convA, seval, wH, h0, h1]
   refine (afreeX (hB11.ap a12) (hP11.ap a12) (n := n) (by omega)).mono ?_
   rintro _ s13 ⟨rfl, rfl⟩
   repeat' first | ((with_reducible first | refine cs ?_ ?_ | refine ws ?_ ?_) <;> intro h <;> try simp only [h]) | simp only [↓wBA, tLaa, convA, seval, wH, h0, h1]
   all_goals refine ret_st ?_ (by first | exact Nat.le_refl _ | (simp only [List.length_set, List.length_append]; omega) | omega)
   all_goals simp only [resA.eq_1, resL.eq_1, resL.eq_2, resV.eq_1, resV.eq_2, ↓wBA, tLaa, convA, seval, wH]
 ·have hgt : decide (frames > 0) = false := by simp; omega
  have hm : (if 50 < frames then 50 else frames) = frames := by split <;> omega
  repeat' first | ((with_reducible first | refine cs ?_ ?_ | refine ws ?_ ?_) <;> intro h <;> try simp only [h]) | simp only [↓wBA, tLaa, convA, seval, wH, hm, hgt] | ((with_reducible show ACalls _ _ _ _ _); first | refine (aopenA hd6' frames (by omega)).eq ?_ | refine (aflushN _).eq ?_ | refine (apagesN _).eq ?_ | refine (abatchN _).eq ?_ | refine (adoneN _).eq ?_)
  all_goals refine ret_st ?_ (by first | exact Nat.le_refl _ | (simp only [List.length_set, List.length_append]; omega) | omega)
  all_goals simp only [resA.eq_1, resL.eq_1, resL.eq_2, resV.eq_1, resV.eq_2, ↓wBA, tLaa, convA, seval, wH]
theorem args_law (n frames : Int) (W : World) : Calls Try.prog 6 #[.int .i64 n, .int .i64 frames] W fun e W' => e = .returned (.bool true) ∧ Below W.heap.size W W' :=
 law_calls2 (W := W) (vs := [.int .i64 n, .int .i64 frames]) (apoolArgs n frames []) (by
  simp only [ARepL]
  exact ⟨_, _, rfl, rep_mk rfl, _, _, rfl, rep_mk rfl, rfl⟩)
end Go.Proofs.Ytpfdbjmojbhnmaa
