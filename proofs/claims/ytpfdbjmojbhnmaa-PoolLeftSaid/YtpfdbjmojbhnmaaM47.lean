/- PoolLeft. -/
import Derived.Test.YtpfdbjmojbhnmaaM45
set_option linter.unusedSimpArgs false
set_option linter.unusedVariables false
set_option linter.defProp false
set_option maxRecDepth 100000
set_option maxHeartbeats 32000000
namespace Go.Proofs.Ytpfdbjmojbhnmaa
open Go.RowKit
def pl3_11Lab : Plan := (.det 0 (.det 2 (.det 3 (.det 4 (.det 5 (.two 1 (.two 6 (.det 7 (.det 8 (.det 9 (.det 10 (.act 11 (.fin 12 (.det 13 (.det 14 .done)))))))) 11 (.fin 6 (.det 7 (.det 8 (.det 9 (.det 10 (.fin 12 (.det 13 (.det 14 .done))))))))) 11 (.act 1 (.fin 6 (.det 7 (.det 8 (.det 9 (.det 10 (.fin 12 (.det 13 (.det 14 .done)))))))))))))))
def tLab := aa wX <| aa wbu <| aa T3 <| aa T4 <| aa T5 <| aa T22 <| aa T24 <| aa T25 <| aa T28 <| aa T30 <| aa T35 T39
theorem w60 : IntKind.i64.wrap 60 = ((60 : Nat) : Int) := by decide
def eV : Bool → Int
 | true => 20
 | false => 0
theorem apoolLeft (x : PV) (ys : List PV) (hx : RecsX x ys) (fr : Nat) (hfr : fr < 256) (σ : St) : ACalls Try.prog 3 [.p x, intV .u8 (fr : Nat)] σ fun r σ' => r = boolV true := by
 obtain ⟨rfl, hyl, hys⟩ := hx
 refine acalls_of cx_ok dr_ok Try.func3 (by kernel_rfl) rfl (nt := 121) (rs := [.tmp 4]) rfl rfl ?_
 repeat' first | ((with_reducible first | refine cs ?_ ?_ | refine ws ?_ ?_ | refine wd ?_ ?_ | refine wu ?_ ?_) <;> intro h <;> try simp only [h]) | simp only [↓wBA, tLab, convA, seval, pl3_11Lab, wH] | ((with_reducible show ACalls _ _ _ _ _); refine (aawake _).mono ?_; rintro _ s0 ⟨a0, rfl⟩) | (with_reducible refine dP pl3_11Lab 15 (some 53) (by decide) (by kernel_rfl) ?_) | with_reducible refine And.intro ?_ ?_
 refine (adnew 480 (by omega) _).mono ?_
 rintro _ s1 ⟨dd, Fd, rfl, a1, hd, hFd⟩
 repeat' first | ((with_reducible first | refine cs ?_ ?_ | refine ws ?_ ?_ | refine wd ?_ ?_ | refine wu ?_ ?_) <;> intro h <;> try simp only [h]) | simp only [↓wBA, tLab, convA, seval, pl3_11Lab, wH] | (with_reducible refine dP pl3_11Lab 15 (some 53) (by decide) (by kernel_rfl) ?_) | with_reducible refine And.intro ?_ ?_
 refine (adnew 9000 (by omega) _).mono ?_
 rintro _ s2 ⟨dl, Fl, rfl, a2, hl, hFl⟩
 have hd2 := hd.ap a2
 have b0 := a0.len; have b1 := a1.len; have b2 := a2.len
 have w0 : IntKind.i64.wrap (IntKind.i64.wrap ((fr : Int).tmod 6) + 1) = ((fr % 6 + 1 : Nat) : Int) := by
  have : (fr : Int).tmod 6 = ((fr % 6 : Nat) : Int) := by rw [Int.tmod_eq_emod_of_nonneg (by omega)]; omega
  rw [this, wrap_i64 (n := ((fr % 6 : Nat) : Int)) (by omega) (by omega), wrap_i64 (by omega) (by omega)]; omega
 repeat' first | ((with_reducible first | refine cs ?_ ?_ | refine ws ?_ ?_ | refine wd ?_ ?_ | refine wu ?_ ?_) <;> intro h <;> try simp only [h]) | simp only [↓wBA, tLab, convA, seval, pl3_11Lab, wH, w0] | (with_reducible refine dP pl3_11Lab 15 (some 53) (by decide) (by kernel_rfl) ?_) | with_reducible refine And.intro ?_ ?_
 refine (aopenN2 hd2 hl (fun t h1 h2 => by have := hd.lt t h1; have := hFl t h2; omega) (by omega) (by omega) (fr % 6 + 1) (by omega) (by omega)).mono ?_
 rintro _ s3 ⟨p, l, kh, G, P, rfl, a3, hP, p1, p2, p3, p4, p5, p6, p7, p8, p9⟩
 have hpg : P.pages = 60 := by rw [p1]; rfl
 have b3 := a3.len
 repeat' first | ((with_reducible first | refine cs ?_ ?_ | refine ws ?_ ?_ | refine wd ?_ ?_ | refine wu ?_ ?_) <;> intro h <;> try simp only [h]) | simp only [↓wBA, tLab, convA, seval, pl3_11Lab, wH] | ((with_reducible show ACalls _ _ _ _ _); refine abatch.mono ?_; rintro _ s4 ⟨rfl, a4, hB⟩) | (with_reducible refine dP pl3_11Lab 15 (some 53) (by decide) (by kernel_rfl) ?_) | with_reducible refine And.intro ?_ ?_
 have hP4 := hP.ap a4
 have hd4 : ∀ t, t = s3.length → G t → False := fun t h1 h2 => by have := hP.lt t h2; omega
 have b4 := a4.len
 repeat' first | ((with_reducible first | refine cs ?_ ?_ | refine ws ?_ ?_ | refine wd ?_ ?_ | refine wu ?_ ?_) <;> intro h <;> try simp only [h]) | simp only [↓wBA, tLab, convA, seval, pl3_11Lab, wH] | (with_reducible refine dP pl3_11Lab 15 (some 53) (by decide) (by kernel_rfl) ?_) | with_reducible refine And.intro ?_ ?_
 refine awp_loopS (X := { i : Nat // i ≤ 40 ∧ i ≤ ys.length }) (fun i => 40 - i.1) (fun i => [(8, intV .i64 (i.1 : Nat))]) [4, 9, 10, 11, 12, 13, 14, 15, 16, 17, 36, 37, 38, 39, 40, 41, 42, 43, 44, 45, 46, 47, 48, 49, 50, 51, 52, 53, 54, 55, 56, 57, 58, 59, 60, 61, 62, 63, 64, 65, 66, 67, 68, 69, 70, 71, 72, 73, 74, 75, 76, 77, 78, 79, 80, 81, 82, 83, 84, 85, 86, 87, 88, 89, 90, 91, 92, 93, 94, 95, 96, 97, 98, 99, 100, 101, 102, 103, 104, 105] (fun i s => s4.length ≤ s.length ∧ ∃ B G' P' ch T, BatchAt s s3.length p B ch ∧ PoolAt s p dd l kh G' P' ∧ (∀ t, B t → G' t → False) ∧ Kp P P' (2 * i.1) ∧ ch.length ≤ 3 * i.1 ∧ Tk (bview P.view ch 0) 60 T ∧ T 0 = true ∧ cnt T 60 ≤ i.1 + 1) (⟨0, by omega, by omega⟩) ?_ ?_ ?_ ?_
 ·simp only [wHl, wHf]
 ·exact ⟨Nat.le_refl _, _, _, _, _, _, hB, hP4, hd4, Kp.refl P 0, by simp, by show Tk (P.view 0) _ _; rw [p8]; exact tk_new (by omega), rfl, by rw [cnt_one _ (by omega)]; exact Nat.le_refl _⟩
 ·rintro _ _ ⟨h, _⟩; omega
 ·intro y J q hI
  simp only [wHl]
  obtain ⟨i, hi, hi2⟩ := y
  obtain ⟨hq, B, G', P', ch, T, hB, hP, hd, k1, hch, hT, hT0, hcn⟩ := hI
  dsimp only at *
  have hpg' : P'.pages = 60 := by rw [k1.pages]; exact hpg
  have c1 := k1.ctr
  have w1 := k1.dw
  rw [p7] at w1
  simp only [List.length_nil] at w1
  have hln : ((ys.map fun y => [y]).length : Int) = (ys.length : Int) := by simp
  by_cases hlt : i < 40 ∧ i < ys.length
  ·have e1 := dT (i := i) (n := ys.length) hlt.2
   have e2 : decide ((i : Int) < 40) = true := by simp; omega
   have hTv : Tk (bview P'.view ch 0) P'.pages T := by rw [hpg', bview_congr k1.view]; exact hT
   repeat' first | ((with_reducible first | refine cs ?_ ?_ | refine ws ?_ ?_ | refine wd ?_ ?_ | refine wu ?_ ?_) <;> intro h <;> try simp only [h]) | simp only [↓wBA, tLab, convA, seval, pl3_11Lab, wH, wHl, hln, e1, e2, List.length_map] | (with_reducible refine dP pl3_11Lab 15 (some 53) (by decide) (by kernel_rfl) ?_) | with_reducible refine And.intro ?_ ?_
   refine (aalloc (kind := (i : Nat)) hB hP hd hTv (by omega) (by omega) hT0 (by omega) (by omega) (by omega)).mono ?_
   rintro r s5 ⟨B5, G5, P5, ch5, f5, hB5, hP5, hd5, k5, _, hcase⟩
   rcases hcase with ⟨n, pg, n1, n2, hTn, rfl, rfl, hz, hT5⟩ | ⟨hall, _, _⟩
   rotate_left
   ·have := cnt_all (T := T) 60 fun m hm => hall m (by omega)
    omega
   have l5 := f5.len
   obtain ⟨y, hy⟩ : ∃ y, ys[i]? = some y := ⟨ys[i]'hlt.2, by simp⟩
   have hget : (ys.map fun y => [y])[i]? = some [y] := by simp [hy]
   obtain ⟨r, hr, hrl⟩ := hys y (List.mem_of_getElem? hy)
   have b1' : ((i : Int) < (ys.length : Int)) = True := eq_true (by omega)
   have b2' := nnI i
   have hQl : (addL (newL (i : Nat)) r).1.length = 512 := length_addL _ _
   have hQp := pageC_512 hQl
   have z5 := pageC_512 len_zero512
   have hnz : (addL (newL (i : Nat)) r).2.2 = true → pgz (addL (newL (i : Nat)) r).1 = (addL (newL (i : Nat)) r).1 := fun h => by
    by_cases hc : 400 < r.length ∨ 496 < costL (putL [] (freeL []) r)
    ·rw [(Pg.new (i : Nat)).add_not r hc] at h; cases h
    ·obtain ⟨_, _, h3⟩ := (Pg.new (i : Nat)).add r (by omega) (by omega)
     exact slots_nz (by rw [h3.slots]; simp [putL, freeL])
   have hv5 : ∀ m, P5.view m = P.view m := fun m => (k5.view m).trans (k1.view m)
   have hpg5 : P5.pages = 60 := by rw [k5.pages]; exact hpg'
   have c5 := k5.ctr
   have w5 := k5.dw
   have hkb := kbt_le ch 0
   have hl1 := len_setM (setM ch 0 pg) n (newL (i : Nat))
   have hl2 := len_setM ch 0 pg
   cases hok : (addL (newL (i : Nat)) r).2.2 with
   | true =>
     repeat' first | ((with_reducible first | refine cs ?_ ?_ | refine ws ?_ ?_ | refine wd ?_ ?_ | refine wu ?_ ?_) <;> intro h <;> try simp only [h]) | simp only [↓wBA, tLab, convA, seval, pl3_11Lab, wH, wHl, hget, hln, b1', b2', List.length_map, Int.toNat_natCast, hok, pageA, hQl, hQp, zl512, zB_512, len_zero512, z5] | ((with_reducible show ACalls _ _ _ _ _); first | refine (anew _ _).eq ?_ | refine (aaddP (newL (i : Nat)) r y (length_newL _) hr (by omega) _).eq ?_) | (with_reducible refine dP pl3_11Lab 15 (some 53) (by decide) (by kernel_rfl) ?_) | with_reducible refine And.intro ?_ ?_
     all_goals
      refine (abWrite (hB5.ap (Ap.app _ _)) (hP5.ap (Ap.app _ _)) n1 (by omega) _ hQl (by omega)).mono ?_
      rintro _ s6 ⟨rfl, B6, f6, hB6⟩
      have l6 := f6.len
      simp only [List.length_append, List.length_cons, List.length_nil] at l6
      have x6 := f6.get (t := s5.length) (x := some (.row 512 [pageC (addL (newL (i : Nat)) r).1])) (by simp) (fun e => by have := hB5.lt _ e; omega)
      have y6 := at_lt x6
      have hP6 := (hP5.ap (Ap.app s5 [some (.row 512 [pageC (addL (newL (i : Nat)) r).1])])).frame f6 (fun t h1 h2 => hd5 t h2 h1)
      have hd6 : ∀ t, B6 t → G5 t → False := fun t h1 h2 => (f6.own t h1).elim (fun e => hd5 t e h2) fun e => by have := hP5.lt t h2; simp at e; omega
      repeat' first | ((with_reducible first | refine cs ?_ ?_ | refine ws ?_ ?_ | refine wd ?_ ?_ | refine wu ?_ ?_) <;> intro h <;> try simp only [h]) | simp only [↓wBA, tLab, convA, seval, pl3_11Lab, wH, wHl, x6, y6] | (with_reducible refine dP pl3_11Lab 15 (some 53) (by decide) (by kernel_rfl) ?_) | with_reducible refine And.intro ?_ ?_
      have hk6 : kbt (setM (setM (setM ch 0 pg) n (newL (i : Nat))) n (addL (newL (i : Nat)) r).1) n = 0 := by rw [kbt_set, if_pos rfl]
      have hbz : bview P.view (setM (setM (setM ch 0 pg) n (newL (i : Nat))) n (addL (newL (i : Nat)) r).1) 0 = pg := by rw [bview_set, if_neg (by omega), bview_set, if_neg (by omega), bview_set, if_pos rfl]
      have hl6 := len_setM (setM (setM ch 0 pg) n (newL (i : Nat))) n (addL (newL (i : Nat)) r).1
      have hbv : bview P5.view (setM (setM (setM ch 0 pg) n (newL (i : Nat))) n (addL (newL (i : Nat)) r).1) n = (addL (newL (i : Nat)) r).1 := by rw [bview_set, if_pos rfl]
      refine (abreadU hB6 hP6 hd6 (n := n) (by omega) (by omega) (by omega)).mono ?_
      rintro _ s7 ⟨rfl, G7, P7, f7, hP7, k7, hk7⟩
      rw [hbv]
      have e7 := hk7 hk6
      subst e7
      have l7 := f7.len
      have x7 := f7.get x6 (fun e => by have := hP5.lt _ e; omega)
      have y7 := at_lt x7
      have hB7 := hB6.frame f7 hd6
      repeat' first | ((with_reducible first | refine cs ?_ ?_ | refine ws ?_ ?_ | refine wd ?_ ?_ | refine wu ?_ ?_) <;> intro h <;> try simp only [h]) | simp only [↓wBA, tLab, convA, seval, pl3_11Lab, wH, wHl, x7, y7, pageA, hQl, hQp, zl512, zB_512, len_zero512, z5] | (with_reducible refine dP pl3_11Lab 15 (some 53) (by decide) (by kernel_rfl) ?_) | with_reducible refine And.intro ?_ ?_
      have hd7 : ∀ t, B6 t → G7 t → False := fun t h1 h2 => (f7.own t h2).elim (fun e => hd6 t h1 e) fun e => by have := hB6.lt t h1; omega
      have hP8 := hP7.ap (Ap.app s7 [some (.row 512 [pageC (addL (newL (i : Nat)) r).1])])
      refine (aread hP8 (n := n) (by omega) (by omega) (by omega)).mono ?_
      rintro _ s8 ⟨rfl, G8, P8, f8, hP8', k8⟩
      rw [hv5, p8]
      have l8 := f8.len
      simp only [List.length_append, List.length_cons, List.length_nil] at l8
      have w8 := f8.get (t := s7.length) (x := some (.row 512 [pageC (addL (newL (i : Nat)) r).1])) (by simp) (fun e => by have := hP7.lt _ e; omega)
      have v8 := at_lt w8
      have x8 := f8.get (t := s5.length) (by rw [List.getElem?_append_left y7]; exact x7) (fun e => (f7.own _ e).elim (fun h => by have := hP5.lt _ h; omega) (fun h => by first | omega | (simp at h; omega)))
      have y8 := at_lt x8
      have hB8 := (hB7.ap (Ap.app s7 [some (.row 512 [pageC (addL (newL (i : Nat)) r).1])])).frame f8 hd7
      have hd8 : ∀ t, B6 t → G8 t → False := fun t h1 h2 => (f8.own t h2).elim (fun e => hd7 t h1 e) fun e => by have := hB7.lt t h1; simp at e; omega
      have zn := length_newL 0
      have zp := pageC_512 zn
      have hsl : (slotsL (newL 0)).length = 0 := by rw [(Pg.new 0).slots]; rfl
      have eB : eqBytes .neq 512 (pageC (addL (newL (i : Nat)) r).1) (pageC (addL (newL (i : Nat)) r).1) = some (boolV false) := by simp [eqBytes, bytesOf_page, hQl]
      have hwi := wI i (by omega)
      repeat' first | ((with_reducible first | refine cs ?_ ?_ | refine ws ?_ ?_ | refine wd ?_ ?_ | refine wu ?_ ?_) <;> intro h <;> try simp only [h]) | simp only [↓wBA, tLab, convA, seval, pl3_11Lab, wH, wHl, x8, y8, w8, v8, pageA, hQl, hQp, zl512, zB_512, len_zero512, z5, zn, zp, eB, hsl, hwi] | ((with_reducible show ACalls _ _ _ _ _); refine (anslots (newL 0) zn _).eq ?_) | (with_reducible refine dP pl3_11Lab 15 (some 53) (by decide) (by kernel_rfl) ?_) | with_reducible refine And.intro ?_ ?_
      refine ⟨⟨i + 1, by omega, by omega⟩, by show 40 - (i + 1) < 40 - i; omega, ?_, by simp only [wHl, wHf]⟩
      dsimp only
      refine ⟨by omega, B6, G8, P8, _, updT T n true, hB8.ap (Ap.app _ _), hP8'.ap (Ap.app _ _), hd8, ((k1.trans k5).trans k8).mono (by omega), by omega, ?_, ?_, ?_⟩
      ·rw [hbz]
       rw [hpg'] at hT5
       exact hT5
      ·unfold updT; rw [if_neg (by omega)]; exact hT0
      ·rw [cnt_true hTn 60 (by omega)]; omega
   | false =>
     repeat' first | ((with_reducible first | refine cs ?_ ?_ | refine ws ?_ ?_ | refine wd ?_ ?_ | refine wu ?_ ?_) <;> intro h <;> try simp only [h]) | simp only [↓wBA, tLab, convA, seval, pl3_11Lab, wH, wHl, hget, hln, b1', b2', List.length_map, Int.toNat_natCast, hok, pageA, hQl, hQp, zl512, zB_512, len_zero512, z5] | ((with_reducible show ACalls _ _ _ _ _); first | refine (anew _ _).eq ?_ | refine (aaddP (newL (i : Nat)) r y (length_newL _) hr (by omega) _).eq ?_) | (with_reducible refine dP pl3_11Lab 15 (some 53) (by decide) (by kernel_rfl) ?_) | with_reducible refine And.intro ?_ ?_
     all_goals
      have hB6 := hB5.ap (Ap.app s5 [some (.row 512 [pageC (addL (newL (i : Nat)) r).1])])
      have hP6 := hP5.ap (Ap.app s5 [some (.row 512 [pageC (addL (newL (i : Nat)) r).1])])
      have hbz : bview P.view (setM (setM ch 0 pg) n (newL (i : Nat))) 0 = pg := by rw [bview_set, if_neg (by omega), bview_set, if_pos rfl]
      have hk6 : kbt (setM (setM ch 0 pg) n (newL (i : Nat))) n = 0 := by rw [kbt_set, if_pos rfl]
      have hbv : bview P5.view (setM (setM ch 0 pg) n (newL (i : Nat))) n = newL (i : Nat) := by rw [bview_set, if_pos rfl]
      refine (abreadU hB6 hP6 hd5 (n := n) (by omega) (by omega) (by omega)).mono ?_
      rintro _ s7 ⟨rfl, G7, P7, f7, hP7, k7, hk7⟩
      rw [hbv]
      have e7 := hk7 hk6
      subst e7
      have l7 := f7.len
      simp only [List.length_append, List.length_cons, List.length_nil] at l7
      have x7 := f7.get (t := s5.length) (x := some (.row 512 [pageC (addL (newL (i : Nat)) r).1])) (by simp) (fun e => by have := hP5.lt _ e; omega)
      have y7 := at_lt x7
      have hB7 := hB6.frame f7 hd5
      have zi := length_newL (i : Nat)
      have zj := pageC_512 zi
      repeat' first | ((with_reducible first | refine cs ?_ ?_ | refine ws ?_ ?_ | refine wd ?_ ?_ | refine wu ?_ ?_) <;> intro h <;> try simp only [h]) | simp only [↓wBA, tLab, convA, seval, pl3_11Lab, wH, wHl, x7, y7, pageA, hQl, hQp, zl512, zB_512, len_zero512, z5, zi, zj] | (with_reducible refine dP pl3_11Lab 15 (some 53) (by decide) (by kernel_rfl) ?_) | with_reducible refine And.intro ?_ ?_
      have hd7 : ∀ t, B5 t → G7 t → False := fun t h1 h2 => (f7.own t h2).elim (fun e => hd5 t h1 e) fun e => by have := hB5.lt t h1; simp at e; omega
      have hP8 := hP7.ap (Ap.app s7 [some (.row 512 [pageC (newL (i : Nat))])])
      refine (aread hP8 (n := n) (by omega) (by omega) (by omega)).mono ?_
      rintro _ s8 ⟨rfl, G8, P8, f8, hP8', k8⟩
      rw [hv5, p8]
      have l8 := f8.len
      simp only [List.length_append, List.length_cons, List.length_nil] at l8
      have w8 := f8.get (t := s7.length) (x := some (.row 512 [pageC (newL (i : Nat))])) (by simp) (fun e => by have := hP7.lt _ e; omega)
      have v8 := at_lt w8
      have x8 := f8.get (t := s5.length) (by rw [List.getElem?_append_left y7]; exact x7) (fun e => (f7.own _ e).elim (fun h => by have := hP5.lt _ h; omega) (fun h => by first | omega | (simp at h; omega)))
      have y8 := at_lt x8
      have hB8 := (hB7.ap (Ap.app s7 [some (.row 512 [pageC (newL (i : Nat))])])).frame f8 hd7
      have hd8 : ∀ t, B5 t → G8 t → False := fun t h1 h2 => (f8.own t h2).elim (fun e => hd7 t h1 e) fun e => by have := hB7.lt t h1; simp at e; omega
      have zn := length_newL 0
      have zp := pageC_512 zn
      have hsl : (slotsL (newL 0)).length = 0 := by rw [(Pg.new 0).slots]; rfl
      have eB : eqBytes .neq 512 (pageC (addL (newL (i : Nat)) r).1) (pageC (addL (newL (i : Nat)) r).1) = some (boolV false) := by simp [eqBytes, bytesOf_page, hQl]
      have hwi := wI i (by omega)
      repeat' first | ((with_reducible first | refine cs ?_ ?_ | refine ws ?_ ?_ | refine wd ?_ ?_ | refine wu ?_ ?_) <;> intro h <;> try simp only [h]) | simp only [↓wBA, tLab, convA, seval, pl3_11Lab, wH, wHl, x8, y8, w8, v8, pageA, hQl, hQp, zl512, zB_512, len_zero512, z5, zn, zp, eB, hsl, hwi] | ((with_reducible show ACalls _ _ _ _ _); refine (anslots (newL 0) zn _).eq ?_) | (with_reducible refine dP pl3_11Lab 15 (some 53) (by decide) (by kernel_rfl) ?_) | with_reducible refine And.intro ?_ ?_
      refine ⟨⟨i + 1, by omega, by omega⟩, by show 40 - (i + 1) < 40 - i; omega, ?_, by simp only [wHl, wHf]⟩
      dsimp only
      refine ⟨by omega, B5, G8, P8, _, updT T n true, hB8.ap (Ap.app _ _), hP8'.ap (Ap.app _ _), hd8, ((k1.trans k5).trans k8).mono (by omega), by omega, ?_, ?_, ?_⟩
      ·rw [hbz]
       rw [hpg'] at hT5
       exact hT5
      ·unfold updT; rw [if_neg (by omega)]; exact hT0
      ·rw [cnt_true hTn 60 (by omega)]; omega
  ·have hout : (decide ((i : Int) < (ys.length : Int)) = false ∧ decide ((i : Int) < 40) = decide ((i : Int) < 40)) ∨ (decide ((i : Int) < (ys.length : Int)) = true ∧ decide ((i : Int) < 40) = false) := by
    by_cases h : i < ys.length
    ·right; exact ⟨dT h, by simp; omega⟩
    ·left; exact ⟨dF (by omega), rfl⟩
   rcases hout with ⟨e1, -⟩ | ⟨e1, e2⟩
   ·skip
    repeat' first | ((with_reducible first | refine cs ?_ ?_ | refine ws ?_ ?_ | refine wd ?_ ?_ | refine wu ?_ ?_) <;> intro h <;> try simp only [h]) | simp only [↓wBA, tLab, convA, seval, pl3_11Lab, wH, wHl, hln, e1, List.length_map] | (with_reducible refine dP pl3_11Lab 15 (some 53) (by decide) (by kernel_rfl) ?_) | with_reducible refine And.intro ?_ ?_
    refine abatch.mono ?_
    rintro _ s5 ⟨rfl, a5, hB5⟩
    have l5 := a5.len
    have hP5 := hP.ap a5
    have hd5 : ∀ t, t = q.length → G' t → False := fun t h1 h2 => by have := hP.lt t h2; omega
    repeat' first | ((with_reducible first | refine cs ?_ ?_ | refine ws ?_ ?_ | refine wd ?_ ?_ | refine wu ?_ ?_) <;> intro h <;> try simp only [h]) | simp only [↓wBA, tLab, convA, seval, pl3_11Lab, wH, wHl] | (with_reducible refine dP pl3_11Lab 15 (some 53) (by decide) (by kernel_rfl) ?_) | with_reducible refine And.intro ?_ ?_
    refine awp_loopS (X := { x : Nat × Bool // x.1 ≤ 60 }) (fun x => 61 - x.1.1) (fun x => [(6, intV .i64 (eV x.1.2)), (19, intV .i64 (x.1.1 : Nat))]) [108, 109, 110, 111, 112, 113, 114, 115, 116] (fun x s => s5.length ≤ s.length ∧ (x.1.2 = true → x.1.1 = 60) ∧ (x.1.2 = false → ∃ B G' P' ch T, BatchAt s q.length p B ch ∧ PoolAt s p dd l kh G' P' ∧ (∀ t, B t → G' t → False) ∧ Kp P P' (80 + x.1.1) ∧ ch.length ≤ 2 * x.1.1 ∧ Tk (bview P.view ch 0) 60 T ∧ T 0 = true ∧ cnt T 60 = x.1.1 + 1)) (⟨(0, false), by omega⟩) ?_ ?_ ?_ ?_
    ·simp only [wHl, wHf, eV]
    ·exact ⟨Nat.le_refl _, (by simp), fun _ => ⟨_, _, _, _, _, hB5, hP5, hd5, k1.mono (by simp; omega), by simp, by show Tk (P.view 0) _ _; rw [p8]; exact tk_new (by omega), rfl, by rw [cnt_one _ (by omega)]⟩⟩
    ·rintro _ _ ⟨h, _⟩; omega
    ·intro y J2 q2 hI
     simp only [wHl]
     obtain ⟨⟨j, b⟩, hj⟩ := y
     obtain ⟨hq2, hb1, hb2⟩ := hI
     dsimp only at *
     cases b with
     | true =>
       obtain rfl := hb1 rfl
       repeat' first | ((with_reducible first | refine cs ?_ ?_ | refine ws ?_ ?_ | refine wd ?_ ?_ | refine wu ?_ ?_) <;> intro h <;> try simp only [h]) | simp only [↓wBA, tLab, convA, seval, pl3_11Lab, wH, wHl, eV] | (with_reducible refine dP pl3_11Lab 15 (some 53) (by decide) (by kernel_rfl) ?_) | with_reducible refine And.intro ?_ ?_
       all_goals refine ret_st ?_ (by first | exact Nat.le_refl _ | (simp only [List.length_set, List.length_append]; omega) | omega)
       all_goals simp only [resA.eq_1, resL.eq_1, resL.eq_2, resV.eq_1, resV.eq_2, ↓wBA, tLab, convA, seval, wH]
     | false =>
       obtain ⟨B, G', P', ch, T, hB, hP, hd, k1, hch, hT, hT0, hcn⟩ := hb2 rfl
       have hpg' : P'.pages = 60 := by rw [k1.pages]; exact hpg
       have c1 := k1.ctr
       have w1 := k1.dw
       rw [p7] at w1
       simp only [List.length_nil] at w1
       have hTv : Tk (bview P'.view ch 0) P'.pages T := by rw [hpg', bview_congr k1.view]; exact hT
       have hwj := wI j (by omega)
       have hcl := cnt_le T 60
       repeat' first | ((with_reducible first | refine cs ?_ ?_ | refine ws ?_ ?_ | refine wd ?_ ?_ | refine wu ?_ ?_) <;> intro h <;> try simp only [h]) | simp only [↓wBA, tLab, convA, seval, pl3_11Lab, wH, wHl, eV] | (with_reducible refine dP pl3_11Lab 15 (some 53) (by decide) (by kernel_rfl) ?_) | with_reducible refine And.intro ?_ ?_
       refine (aalloc (kind := 1) hB hP hd hTv (by omega) (by omega) hT0 (by omega) (by omega) (by omega)).mono ?_
       rintro r s6 ⟨B6, G6, P6, ch6, f6, hB6, hP6, hd6, k6, _, hcase⟩
       have l6 := f6.len
       have hkb := kbt_le ch 0
       rcases hcase with ⟨n, pg, n1, n2, hTn, rfl, rfl, hz, hT6⟩ | ⟨hall, rfl, rfl⟩
       ·have hlt := cnt_lt hTn 60 (by omega)
        have hl1 := len_setM (setM ch 0 pg) n (newL 1)
        have hl2 := len_setM ch 0 pg
        have hbz : bview P.view (setM (setM ch 0 pg) n (newL 1)) 0 = pg := by rw [bview_set, if_neg (by omega), bview_set, if_pos rfl]
        repeat' first | ((with_reducible first | refine cs ?_ ?_ | refine ws ?_ ?_ | refine wd ?_ ?_ | refine wu ?_ ?_) <;> intro h <;> try simp only [h]) | simp only [↓wBA, tLab, convA, seval, pl3_11Lab, wH, wHl, hwj] | (with_reducible refine dP pl3_11Lab 15 (some 53) (by decide) (by kernel_rfl) ?_) | with_reducible refine And.intro ?_ ?_
        refine ⟨⟨(j + 1, false), by show j + 1 ≤ 60; omega⟩, by show 61 - (j + 1) < 61 - j; omega, ?_, by simp only [wHl, wHf, eV]⟩
        refine ⟨by omega, (by simp), fun _ => ⟨B6, G6, P6, _, updT T n true, hB6, hP6, hd6, (k1.trans k6).mono (by show _ ≤ 80 + (j + 1); omega), by show _ ≤ 2 * (j + 1); omega, ?_, ?_, ?_⟩⟩
        ·rw [hbz]
         rw [hpg'] at hT6
         exact hT6
        ·unfold updT; rw [if_neg (by omega)]; exact hT0
        ·rw [cnt_true hTn 60 (by omega), hcn]
       ·have := cnt_all (T := T) 60 fun m hm => hall m (by omega)
        obtain rfl : j = 59 := by omega
        repeat' first | ((with_reducible first | refine cs ?_ ?_ | refine ws ?_ ?_ | refine wd ?_ ?_ | refine wu ?_ ?_) <;> intro h <;> try simp only [h]) | simp only [↓wBA, tLab, convA, seval, pl3_11Lab, wH, wHl, hwj] | (with_reducible refine dP pl3_11Lab 15 (some 53) (by decide) (by kernel_rfl) ?_) | with_reducible refine And.intro ?_ ?_
        refine ⟨⟨(60, true), by show 60 ≤ 60; omega⟩, by show 61 - 60 < 61 - 59; omega, ⟨by omega, fun _ => rfl, (by simp)⟩, by simp only [wHl, wHf, eV, w60]⟩
   ·skip
    repeat' first | ((with_reducible first | refine cs ?_ ?_ | refine ws ?_ ?_ | refine wd ?_ ?_ | refine wu ?_ ?_) <;> intro h <;> try simp only [h]) | simp only [↓wBA, tLab, convA, seval, pl3_11Lab, wH, wHl, hln, e1, e2, List.length_map] | (with_reducible refine dP pl3_11Lab 15 (some 53) (by decide) (by kernel_rfl) ?_) | with_reducible refine And.intro ?_ ?_
    refine abatch.mono ?_
    rintro _ s5 ⟨rfl, a5, hB5⟩
    have l5 := a5.len
    have hP5 := hP.ap a5
    have hd5 : ∀ t, t = q.length → G' t → False := fun t h1 h2 => by have := hP.lt t h2; omega
    repeat' first | ((with_reducible first | refine cs ?_ ?_ | refine ws ?_ ?_ | refine wd ?_ ?_ | refine wu ?_ ?_) <;> intro h <;> try simp only [h]) | simp only [↓wBA, tLab, convA, seval, pl3_11Lab, wH, wHl] | (with_reducible refine dP pl3_11Lab 15 (some 53) (by decide) (by kernel_rfl) ?_) | with_reducible refine And.intro ?_ ?_
    refine awp_loopS (X := { x : Nat × Bool // x.1 ≤ 60 }) (fun x => 61 - x.1.1) (fun x => [(6, intV .i64 (eV x.1.2)), (19, intV .i64 (x.1.1 : Nat))]) [108, 109, 110, 111, 112, 113, 114, 115, 116] (fun x s => s5.length ≤ s.length ∧ (x.1.2 = true → x.1.1 = 60) ∧ (x.1.2 = false → ∃ B G' P' ch T, BatchAt s q.length p B ch ∧ PoolAt s p dd l kh G' P' ∧ (∀ t, B t → G' t → False) ∧ Kp P P' (80 + x.1.1) ∧ ch.length ≤ 2 * x.1.1 ∧ Tk (bview P.view ch 0) 60 T ∧ T 0 = true ∧ cnt T 60 = x.1.1 + 1)) (⟨(0, false), by omega⟩) ?_ ?_ ?_ ?_
    ·simp only [wHl, wHf, eV]
    ·exact ⟨Nat.le_refl _, (by simp), fun _ => ⟨_, _, _, _, _, hB5, hP5, hd5, k1.mono (by simp; omega), by simp, by show Tk (P.view 0) _ _; rw [p8]; exact tk_new (by omega), rfl, by rw [cnt_one _ (by omega)]⟩⟩
    ·rintro _ _ ⟨h, _⟩; omega
    ·intro y J2 q2 hI
     simp only [wHl]
     obtain ⟨⟨j, b⟩, hj⟩ := y
     obtain ⟨hq2, hb1, hb2⟩ := hI
     dsimp only at *
     cases b with
     | true =>
       obtain rfl := hb1 rfl
       repeat' first | ((with_reducible first | refine cs ?_ ?_ | refine ws ?_ ?_ | refine wd ?_ ?_ | refine wu ?_ ?_) <;> intro h <;> try simp only [h]) | simp only [↓wBA, tLab, convA, seval, pl3_11Lab, wH, wHl, eV] | (with_reducible refine dP pl3_11Lab 15 (some 53) (by decide) (by kernel_rfl) ?_) | with_reducible refine And.intro ?_ ?_
       all_goals refine ret_st ?_ (by first | exact Nat.le_refl _ | (simp only [List.length_set, List.length_append]; omega) | omega)
       all_goals simp only [resA.eq_1, resL.eq_1, resL.eq_2, resV.eq_1, resV.eq_2, ↓wBA, tLab, convA, seval, wH]
     | false =>
       obtain ⟨B, G', P', ch, T, hB, hP, hd, k1, hch, hT, hT0, hcn⟩ := hb2 rfl
       have hpg' : P'.pages = 60 := by rw [k1.pages]; exact hpg
       have c1 := k1.ctr
       have w1 := k1.dw
       rw [p7] at w1
       simp only [List.length_nil] at w1
       have hTv : Tk (bview P'.view ch 0) P'.pages T := by rw [hpg', bview_congr k1.view]; exact hT
       have hwj := wI j (by omega)
       have hcl := cnt_le T 60
       repeat' first | ((with_reducible first | refine cs ?_ ?_ | refine ws ?_ ?_ | refine wd ?_ ?_ | refine wu ?_ ?_) <;> intro h <;> try simp only [h]) | simp only [↓wBA, tLab, convA, seval, pl3_11Lab, wH, wHl, eV] | (with_reducible refine dP pl3_11Lab 15 (some 53) (by decide) (by kernel_rfl) ?_) | with_reducible refine And.intro ?_ ?_
       refine (aalloc (kind := 1) hB hP hd hTv (by omega) (by omega) hT0 (by omega) (by omega) (by omega)).mono ?_
       rintro r s6 ⟨B6, G6, P6, ch6, f6, hB6, hP6, hd6, k6, _, hcase⟩
       have l6 := f6.len
       have hkb := kbt_le ch 0
       rcases hcase with ⟨n, pg, n1, n2, hTn, rfl, rfl, hz, hT6⟩ | ⟨hall, rfl, rfl⟩
       ·have hlt := cnt_lt hTn 60 (by omega)
        have hl1 := len_setM (setM ch 0 pg) n (newL 1)
        have hl2 := len_setM ch 0 pg
        have hbz : bview P.view (setM (setM ch 0 pg) n (newL 1)) 0 = pg := by rw [bview_set, if_neg (by omega), bview_set, if_pos rfl]
        repeat' first | ((with_reducible first | refine cs ?_ ?_ | refine ws ?_ ?_ | refine wd ?_ ?_ | refine wu ?_ ?_) <;> intro h <;> try simp only [h]) | simp only [↓wBA, tLab, convA, seval, pl3_11Lab, wH, wHl, hwj] | (with_reducible refine dP pl3_11Lab 15 (some 53) (by decide) (by kernel_rfl) ?_) | with_reducible refine And.intro ?_ ?_
        refine ⟨⟨(j + 1, false), by show j + 1 ≤ 60; omega⟩, by show 61 - (j + 1) < 61 - j; omega, ?_, by simp only [wHl, wHf, eV]⟩
        refine ⟨by omega, (by simp), fun _ => ⟨B6, G6, P6, _, updT T n true, hB6, hP6, hd6, (k1.trans k6).mono (by show _ ≤ 80 + (j + 1); omega), by show _ ≤ 2 * (j + 1); omega, ?_, ?_, ?_⟩⟩
        ·rw [hbz]
         rw [hpg'] at hT6
         exact hT6
        ·unfold updT; rw [if_neg (by omega)]; exact hT0
        ·rw [cnt_true hTn 60 (by omega), hcn]
       ·have := cnt_all (T := T) 60 fun m hm => hall m (by omega)
        obtain rfl : j = 59 := by omega
        repeat' first | ((with_reducible first | refine cs ?_ ?_ | refine ws ?_ ?_ | refine wd ?_ ?_ | refine wu ?_ ?_) <;> intro h <;> try simp only [h]) | simp only [↓wBA, tLab, convA, seval, pl3_11Lab, wH, wHl, hwj] | (with_reducible refine dP pl3_11Lab 15 (some 53) (by decide) (by kernel_rfl) ?_) | with_reducible refine And.intro ?_ ?_
        refine ⟨⟨(60, true), by show 60 ≤ 60; omega⟩, by show 61 - 60 < 61 - 59; omega, ⟨by omega, fun _ => rfl, (by simp)⟩, by simp only [wHl, wHf, eV, w60]⟩
theorem left_law (x : PV) (c : Int) (v : Value) (W : World) (hx : HasSh (.sl 24 [.sl 1 [.int .u8]]) x) (hr : PRep W (inH W) x v) (hw : (Lit.int .u8 c).wf = true) :
 Calls Try.prog 3 #[v, .int .u8 c] W fun e W' => e = .returned (.bool true) ∧ Below W.heap.size W W' := by
 obtain ⟨ys, hy⟩ := recs_sh hx
 have hb : 0 ≤ c ∧ c ≤ 255 := by
  simp [Lit.wf, IntKind.min, IntKind.max, IntKind.signed, IntKind.bits] at hw
  omega
 obtain ⟨n, rfl⟩ : ∃ n : Nat, c = n := ⟨c.toNat, by omega⟩
 exact law_calls2 (W := W) (vs := [v, .int .u8 n]) (apoolLeft x ys hy n (by omega) []) (by
  simp only [ARepL]
  exact ⟨_, _, rfl, (by simp only [ARep]; exact hr), _, _, rfl, rep_mk rfl, rfl⟩)
end Go.Proofs.Ytpfdbjmojbhnmaa
