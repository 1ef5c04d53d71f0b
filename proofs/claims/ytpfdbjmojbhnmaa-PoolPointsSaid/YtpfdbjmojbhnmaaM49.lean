/- PoolPoints. -/
import Derived.Test.YtpfdbjmojbhnmaaM45
set_option linter.unusedSimpArgs false
set_option linter.unusedVariables false
set_option linter.defProp false
set_option maxRecDepth 100000
set_option maxHeartbeats 32000000
namespace Go.Proofs.Ytpfdbjmojbhnmaa
open Go.RowKit
def pl5_15Lad : Plan := (.det 0 (.det 2 (.det 3 (.det 4 (.det 5 (.two 1 (.two 6 (.det 7 (.det 8 (.det 9 (.det 10 (.act 11 (.fin 12 (.det 13 (.det 14 .done)))))))) 11 (.fin 6 (.det 7 (.det 8 (.det 9 (.det 10 (.fin 12 (.det 13 (.det 14 .done))))))))) 11 (.act 1 (.fin 6 (.det 7 (.det 8 (.det 9 (.det 10 (.fin 12 (.det 13 (.det 14 .done)))))))))))))))
def pl5_32Lad : Plan := (.det 0 (.det 1 (.det 2 (.det 3 (.det 4 (.det 5 (.det 6 (.det 7 (.det 8 (.det 9 .done))))))))))
def tLad := aa wX <| aa wbu <| aa T3 <| aa T4 <| aa T5 <| aa T22 <| aa T24 <| aa T25 <| aa T28 <| aa T30 <| aa T35 <| aa T39 <| aa T46 <| aa T50 T51
def atR (ps : List (Nat × List UInt8)) : List (List PV) := ps.map fun q => [.v (.int .i64 (q.1 : Nat))]
def wasR (ps : List (Nat × List UInt8)) : List (List PV) := ps.map fun q => q.2.map byteP
theorem atR_len (ps : List (Nat × List UInt8)) : (atR ps).length = ps.length := by simp [atR]
theorem wasR_len (ps : List (Nat × List UInt8)) : (wasR ps).length = ps.length := by simp [wasR]
structure PtI (T : Nat → Bool) (v : Nat → List UInt8) (ps : List (Nat × List UInt8)) : Prop where
 lt : ∀ q ∈ ps, q.1 < 60 ∧ 1 ≤ q.1 ∧ T q.1 = true ∧ v q.1 = q.2 ∧ q.2.length = 512
theorem Kb.self {P P' : PoolV} {k : Nat} {v : Nat → List UInt8} (h : Kb P P' k v) : Kb P P' k P'.view := ⟨h.size, h.most, h.ls, h.ld, h.wait, h.ctr, h.dw, fun _ => rfl⟩
theorem apoolPoints (x : PV) (ys : List PV) (hx : RecsX x ys) (fr : Nat) (hfr : fr < 256) (σ : St) : ACalls Try.prog 5 [.p x, intV .u8 (fr : Nat)] σ fun r σ' => r = boolV true := by
 obtain ⟨rfl, hyl, hys⟩ := hx
 have w0 : IntKind.i64.wrap (IntKind.i64.wrap ((fr : Int).tmod 6) + 1) = ((fr % 6 + 1 : Nat) : Int) := by
  have : (fr : Int).tmod 6 = ((fr % 6 : Nat) : Int) := by rw [Int.tmod_eq_emod_of_nonneg (by omega)]; omega
  rw [this, wrap_i64 (n := ((fr % 6 : Nat) : Int)) (by omega) (by omega), wrap_i64 (by omega) (by omega)]; omega
 refine acalls_of cx_ok dr_ok Try.func5 (by kernel_rfl) rfl (nt := 136) (rs := [.tmp 4]) rfl rfl ?_
 repeat' first | ((with_reducible first | refine cs ?_ ?_ | refine ws ?_ ?_ | refine wd ?_ ?_ | refine wu ?_ ?_) <;> intro h <;> try simp only [h]) | simp only [↓wBA, tLad, convA, seval, pl5_15Lad, pl5_32Lad, wH] | ((with_reducible show ACalls _ _ _ _ _); refine (aawake _).mono ?_; rintro _ s0 ⟨a0, rfl⟩) | (with_reducible refine dP pl5_15Lad 15 (some 56) (by decide) (by kernel_rfl) ?_) | (with_reducible refine dP pl5_32Lad 10 (some 128) (by decide) (by kernel_rfl) ?_) | with_reducible refine And.intro ?_ ?_
 refine (adnew 480 (by omega) _).mono ?_
 rintro _ s1 ⟨dd, Fd, rfl, a1, hd, hFd⟩
 repeat' first | ((with_reducible first | refine cs ?_ ?_ | refine ws ?_ ?_ | refine wd ?_ ?_ | refine wu ?_ ?_) <;> intro h <;> try simp only [h]) | simp only [↓wBA, tLad, convA, seval, pl5_15Lad, pl5_32Lad, wH] | (with_reducible refine dP pl5_15Lad 15 (some 56) (by decide) (by kernel_rfl) ?_) | (with_reducible refine dP pl5_32Lad 10 (some 128) (by decide) (by kernel_rfl) ?_) | with_reducible refine And.intro ?_ ?_
 refine (adnew 9000 (by omega) _).mono ?_
 rintro _ s2 ⟨dl, Fl, rfl, a2, hl, hFl⟩
 have hd2 := hd.ap a2
 have b0 := a0.len; have b1 := a1.len; have b2 := a2.len
 repeat' first | ((with_reducible first | refine cs ?_ ?_ | refine ws ?_ ?_ | refine wd ?_ ?_ | refine wu ?_ ?_) <;> intro h <;> try simp only [h]) | simp only [↓wBA, tLad, convA, seval, pl5_15Lad, pl5_32Lad, wH, w0] | (with_reducible refine dP pl5_15Lad 15 (some 56) (by decide) (by kernel_rfl) ?_) | (with_reducible refine dP pl5_32Lad 10 (some 128) (by decide) (by kernel_rfl) ?_) | with_reducible refine And.intro ?_ ?_
 refine (aopenN2 hd2 hl (fun t h1 h2 => by have := hd.lt t h1; have := hFl t h2; omega) (by omega) (by omega) (fr % 6 + 1) (by omega) (by omega)).mono ?_
 rintro _ s3 ⟨p, l, kh, G, P, rfl, a3, hP, p1, p2, p3, p4, p5, p6, p7, p8, p9⟩
 have hpg : P.pages = 60 := by rw [p1]; rfl
 have b3 := a3.len
 clear hd hd2 hl
 repeat' first | ((with_reducible first | refine cs ?_ ?_ | refine ws ?_ ?_ | refine wd ?_ ?_ | refine wu ?_ ?_) <;> intro h <;> try simp only [h]) | simp only [↓wBA, tLad, convA, seval, pl5_15Lad, pl5_32Lad, wH] | (with_reducible refine dP pl5_15Lad 15 (some 56) (by decide) (by kernel_rfl) ?_) | (with_reducible refine dP pl5_32Lad 10 (some 128) (by decide) (by kernel_rfl) ?_) | with_reducible refine And.intro ?_ ?_
 refine awp_loopS (X := { x : Nat × AV × AV // x.1 ≤ 40 ∧ x.1 ≤ ys.length }) (fun x => 40 - x.1.1) (fun x => [(9, x.1.2.1), (10, x.1.2.2), (11, intV .i64 (x.1.1 : Nat))]) [4, 12, 13, 14, 15, 16, 17, 37, 38, 39, 40, 41, 42, 43, 44, 45, 46, 47, 48, 49, 50, 51, 52, 53, 54, 55, 56, 57, 58, 59, 60, 61, 62, 63, 64, 65, 66, 67, 68, 69, 70, 71, 72, 73, 74, 75, 76, 77, 78, 79, 80, 81, 82, 83, 84, 85, 86, 87, 88] (fun x s => s3.length ≤ s.length ∧ ∃ G' P' T ps, PoolAt s p dd l kh G' P' ∧ OwnR s x.1.2.1 3 1 (atR ps) ∧ OwnR s x.1.2.2 35 512 (wasR ps) ∧ (∀ t, ownOf x.1.2.1 = some t → ¬ G' t) ∧ (∀ t, ownOf x.1.2.2 = some t → ¬ G' t) ∧ (∀ t, ownOf x.1.2.1 = some t → ownOf x.1.2.2 ≠ some t) ∧ PtI T P'.view ps ∧ ps.length ≤ x.1.1 ∧ Tk (P'.view 0) 60 T ∧ T 0 = true ∧ cnt T 60 ≤ x.1.1 + 1 ∧ Kb P P' (300002 * x.1.1) P'.view) (⟨(0, .p (.v (.slice none 0 0)), .p (.v (.slice none 0 0))), by omega, by omega⟩) ?_ ?_ ?_ ?_
 ·simp only [wHl, wHf]
 ·exact ⟨Nat.le_refl _, G, P, _, [], hP, .inl ⟨rfl, rfl⟩, .inl ⟨rfl, rfl⟩, (by simp [ownOf]), (by simp [ownOf]), (by simp [ownOf]), ⟨by simp⟩, by simp, by rw [p8]; exact tk_new (by omega), rfl, by rw [cnt_one _ (by omega)]; exact Nat.le_refl _, (Kp.refl P 0).b⟩
 ·rintro _ _ ⟨h, _⟩; omega
 ·intro y J q hI
  simp only [wHl]
  obtain ⟨⟨i, a9, a10⟩, hi, hi2⟩ := y
  obtain ⟨hq, G', P', T, ps, hP, ho9, ho10, hg9, hg10, hne, hpt, hpl, hT, hT0, hcn, k1⟩ := hI
  dsimp only at *
  have hpg' : P'.pages = 60 := by rw [k1.pages]; exact hpg
  have c1 := k1.ctr
  have w1 := k1.dw
  have v1 := k1.wait
  rw [p7] at w1
  simp only [List.length_nil] at w1
  have hln : ((ys.map fun y => [y]).length : Int) = (ys.length : Int) := by simp
  by_cases hlt : i < 40 ∧ i < ys.length
  ·have e1 := dT (i := i) (n := ys.length) hlt.2
   have e2 : decide ((i : Int) < 40) = true := by simp; omega
   repeat' first | ((with_reducible first | refine cs ?_ ?_ | refine ws ?_ ?_ | refine wd ?_ ?_ | refine wu ?_ ?_) <;> intro h <;> try simp only [h]) | simp only [↓wBA, tLad, convA, seval, pl5_15Lad, pl5_32Lad, wH, wHl, hln, e1, e2, List.length_map] | ((with_reducible show ACalls _ _ _ _ _); refine abatch.mono ?_; rintro _ s5 ⟨rfl, a5, hB5⟩) | (with_reducible refine dP pl5_15Lad 15 (some 56) (by decide) (by kernel_rfl) ?_) | (with_reducible refine dP pl5_32Lad 10 (some 128) (by decide) (by kernel_rfl) ?_) | with_reducible refine And.intro ?_ ?_
   have l5 := a5.len
   have hP5 := hP.ap a5
   have hd5 : ∀ t, t = q.length → G' t → False := fun t h1 h2 => by have := hP.lt t h2; omega
   refine (aalloc (kind := (i : Nat)) (T := T) hB5 hP5 hd5 (by rw [hpg']; exact hT) (by omega) (by omega) hT0 (by simp) (by omega) (by omega)).mono ?_
   rintro r s6 ⟨B6, G6, P6, ch6, f6, hB6, hP6, hd6, k6, _, hcase⟩
   rcases hcase with ⟨n, pg, n1, n2, hTn, rfl, rfl, hz, hT6⟩ | ⟨hall, _, _⟩
   rotate_left
   ·have := cnt_all (T := T) 60 fun m hm => hall m (by omega)
    omega
   have l6 := f6.len
   obtain ⟨y, hy⟩ : ∃ y, ys[i]? = some y := ⟨ys[i]'hlt.2, by simp⟩
   have hget : (ys.map fun y => [y])[i]? = some [y] := by simp [hy]
   obtain ⟨r, hr, hrl⟩ := hys y (List.mem_of_getElem? hy)
   have b1' : ((i : Int) < (ys.length : Int)) = True := eq_true (by omega)
   have b2' := nnI i
   have hQl : (addL (newL (i : Nat)) r).1.length = 512 := length_addL _ _
   have hQp := pageC_512 hQl
   have z5 := pageC_512 len_zero512
   have hnz : (addL (newL (i : Nat)) r).2.2 = true → pgz (addL (newL (i : Nat)) r).1 = (addL (newL (i : Nat)) r).1 := fun h => by
    by_cases hc : 400 < r.length ∨ 496 < costL (putL [] (freeL []) r)
    ·rw [(Pg.new (i : Nat)).add_not r hc] at h; cases h
    ·obtain ⟨_, _, h3⟩ := (Pg.new (i : Nat)).add r (by omega) (by omega)
     exact slots_nz (by rw [h3.slots]; simp [putL, freeL])
   have hpg6 : P6.pages = 60 := by rw [k6.pages]; exact hpg'
   have c6 := k6.ctr; have w6 := k6.dw; have v6 := k6.wait
   have hkb : kbt [] 0 = 1 := rfl
   have hl1 := len_setM (setM [] 0 pg) n (newL (i : Nat))
   have hl2 := len_setM [] 0 pg
   simp only [List.length_nil] at hl2
   have hno : ∀ t, t < q.length → ¬ G' t → ¬ (B6 t ∨ G6 t) := fun t h1 h2 e => (f6.own t e).elim (fun e => e.elim (fun e => by omega) h2) fun e => by omega
   have o9 := ho9.same (q' := s6) fun t ht => by
    have h1 := ho9.lt ht
    rw [f6.keep t (by omega) (fun e => e.elim (fun e => by omega) (hg9 t ht)), (a5.fr (F := fun _ => False)).keep t h1 id]
   have o10 := ho10.same (q' := s6) fun t ht => by
    have h1 := ho10.lt ht
    rw [f6.keep t (by omega) (fun e => e.elim (fun e => by omega) (hg10 t ht)), (a5.fr (F := fun _ => False)).keep t h1 id]
   have hwi := wI i (by omega)
   have hP7 := hP6.ap (Ap.app s6 [some (.row 512 [pageC (addL (newL (i : Nat)) r).1])])
   have hB7 := hB6.ap (Ap.app s6 [some (.row 512 [pageC (addL (newL (i : Nat)) r).1])])
   cases hok : (addL (newL (i : Nat)) r).2.2 with
   | true =>
     repeat' first | ((with_reducible first | refine cs ?_ ?_ | refine ws ?_ ?_ | refine wd ?_ ?_ | refine wu ?_ ?_) <;> intro h <;> try simp only [h]) | simp only [↓wBA, tLad, convA, seval, pl5_15Lad, pl5_32Lad, wH, wHl, hget, hln, b1', b2', List.length_map, Int.toNat_natCast, hok, pageA, hQl, hQp, zl512, zB_512, len_zero512, z5] | ((with_reducible show ACalls _ _ _ _ _); first | refine (anew _ _).eq ?_ | refine (aaddP (newL (i : Nat)) r y (length_newL _) hr (by omega) _).eq ?_) | (with_reducible refine dP pl5_15Lad 15 (some 56) (by decide) (by kernel_rfl) ?_) | (with_reducible refine dP pl5_32Lad 10 (some 128) (by decide) (by kernel_rfl) ?_) | with_reducible refine And.intro ?_ ?_
     all_goals
      refine (abWrite hB7 hP7 n1 (by omega) _ hQl (by omega)).mono ?_
      rintro _ s8 ⟨rfl, B8, f8, hB8⟩
      have l8 := f8.len
      simp only [List.length_append, List.length_cons, List.length_nil] at l8
      have hno7 : ∀ t, t < s6.length → ¬ (B6 t ∨ G6 t) → ¬ (B8 t ∨ G6 t) := fun t h1 h2 e => e.elim (fun e => (f8.own t e).elim (fun e => h2 (.inl e)) fun e => by simp at e; omega) fun e => h2 (.inr e)
      have x8 := f8.get (t := s6.length) (x := some (.row 512 [pageC (addL (newL (i : Nat)) r).1])) (by simp) (fun e => by have := hB6.lt _ e; omega)
      have y8 := at_lt x8
      have hP8 := hP7.frame f8 (fun t h1 h2 => hd6 t h2 h1)
      have hd8 : ∀ t, B8 t → G6 t → False := fun t h1 h2 => (f8.own t h1).elim (fun e => hd6 t e h2) fun e => by have := hP6.lt t h2; simp at e; omega
      have hl3 := len_setM (setM (setM [] 0 pg) n (newL (i : Nat))) n (addL (newL (i : Nat)) r).1
      have hdone := adone1 hB8 hP8 hd8 (setM_ne _ _ _) (fun a ha => by
       rw [hpg6]
       rcases mem_set a ha with rfl | ha
       ·exact ⟨by show n < 60; omega, hnz hok⟩
       ·rcases mem_set a ha with rfl | ha
        ·exact ⟨by show n < 60; omega, newL_nz _⟩
        ·rcases mem_set a ha with rfl | ha
         ·exact ⟨by show 0 < 60; omega, hz⟩
         ·simp at ha) (by rw [k6.ls, k1.ls, p3]; omega) (by omega) (by omega) (by omega)
      have hkn := hB8.kn
      repeat' first | ((with_reducible first | refine cs ?_ ?_ | refine ws ?_ ?_ | refine wd ?_ ?_ | refine wu ?_ ?_) <;> intro h <;> try simp only [h]) | simp only [↓wBA, tLad, convA, seval, pl5_15Lad, pl5_32Lad, wH, wHl, x8, y8] | (with_reducible refine dP pl5_15Lad 15 (some 56) (by decide) (by kernel_rfl) ?_) | (with_reducible refine dP pl5_32Lad 10 (some 128) (by decide) (by kernel_rfl) ?_) | with_reducible refine And.intro ?_ ?_
      refine hdone.mono ?_
      rintro _ s9 ⟨rfl, G9, P9, f9, hB9, hP9, f9', k9⟩
      have l9 := f9.len
      have hno9 : ∀ t, t < q.length → ¬ G' t → ¬ G9 t := fun t h1 h2 e => (f9' t e).elim (fun e => hno t h1 h2 (.inr e)) fun e => by omega
      have o9' := o9.same (q' := s9) fun t ht => by
       have h1 := ho9.lt ht
       have h2 := hno t h1 (hg9 t ht)
       rw [f9.keep t (by omega) (hno7 t (by omega) h2), f8.keep t (by simp; omega) (fun e => h2 (.inl e)), List.getElem?_append_left (by omega)]
      have o10' := o10.same (q' := s9) fun t ht => by
       have h1 := ho10.lt ht
       have h2 := hno t h1 (hg10 t ht)
       rw [f9.keep t (by omega) (hno7 t (by omega) h2), f8.keep t (by simp; omega) (fun e => h2 (.inl e)), List.getElem?_append_left (by omega)]
      have x9 := f9.get x8 (fun e => e.elim (fun e => (f8.own _ e).elim (fun e => by have := hB6.lt _ e; omega) fun e => by rw [List.length_append] at e; simp only [List.length_cons, List.length_nil] at e; omega) fun e => by have := hP6.lt _ e; omega)
      have ha9 := Ap.app s9 [some (.right 3 1)]
      have o9'' := o9'.same (q' := s9 ++ [some (.right 3 1)]) fun t ht => List.getElem?_append_left (o9'.lt ht)
      obtain ⟨a9', s10, h10, u9, l10, m9, v9⟩ := app_own (q := s9 ++ [some (.right 3 1)]) (y := .own s9.length 1 [[.v (.int .i64 (n : Nat))]]) (m := [[.v (.int .i64 (n : Nat))]]) ck_50 o9'' rfl (by simp) (by simp [atR_len]; omega) (by simp [atR_len]; omega)
      simp only [List.length_append, List.length_cons, List.length_nil, Nat.zero_add] at h10 l10 m9 v9
      have hy9 := at_lt x9
      have m9' : ∀ t, t < s9.length → ownOf a9 ≠ some t → s10[t]? = s9[t]? := fun t h1 h2 => by rw [m9 t (by omega) h2, List.getElem?_append_left h1]
      have x10 := (m9' _ hy9 fun e => by have := ho9.lt e; omega).trans x9
      have y10 := at_lt x10
      have hP10 := hP9.same (s := s10) fun t ht => m9' t (hP9.lt t ht) fun e => hno9 t (ho9.lt e) (hg9 t e) ht
      have o10'' := o10'.same (q' := s10 ++ [some (.right 35 512)]) fun t ht => by
       have h1 := o10'.lt ht
       rw [List.getElem?_append_left (by omega)]
       exact m9' t h1 fun e => hne t e ht
      obtain ⟨a10', s11, h11, u10, l11, m10, v10⟩ := app_own (q := s10 ++ [some (.right 35 512)]) (y := .own s10.length 512 [(addL (newL (i : Nat)) r).1.map byteP]) (m := [(addL (newL (i : Nat)) r).1.map byteP]) ck_51 o10'' rfl (by simp) (by simp [wasR_len]; omega) (by simp [wasR_len]; omega)
      simp only [List.length_append, List.length_cons, List.length_nil, Nat.zero_add] at h11 l11 m10 v10
      have m10' : ∀ t, t < s10.length → ownOf a10 ≠ some t → s11[t]? = s10[t]? := fun t h1 h2 => by rw [m10 t (by omega) h2, List.getElem?_append_left h1]
      have hP11 := hP10.same (s := s11) fun t ht => m10' t (hP10.lt t ht) fun e => hno9 t (ho10.lt e) (hg10 t e) ht
      have u9' := u9.same (q' := s11) fun t ht => m10' t (u9.lt ht) fun e => (v9 t ht).elim (fun e' => hne t e' e) fun e' => by have := o10'.lt e; omega
      repeat' first | ((with_reducible first | refine cs ?_ ?_ | refine ws ?_ ?_ | refine wd ?_ ?_ | refine wu ?_ ?_) <;> intro h <;> try simp only [h]) | simp only [↓wBA, tLad, convA, seval, pl5_15Lad, pl5_32Lad, wH, wHl, h10, x10, y10, h11, toPs_page, List.map_cons, List.map_nil, hwi, hQl, hQp] | (with_reducible refine dP pl5_15Lad 15 (some 56) (by decide) (by kernel_rfl) ?_) | (with_reducible refine dP pl5_32Lad 10 (some 128) (by decide) (by kernel_rfl) ?_) | with_reducible refine And.intro ?_ ?_
      refine ⟨⟨(i + 1, a9', a10'), by omega, by omega⟩, by show 40 - (i + 1) < 40 - i; omega, ?_, by simp only [wHl, wHf]⟩
      dsimp only
      have hvw : ∀ m, P9.view m = if m = n then (addL (newL (i : Nat)) r).1 else if m = 0 then pg else P'.view m := fun m => by
       rw [k9.view, ovr_lk _ _ _ hkn.1, bview_set]
       by_cases e : m = n
       ·rw [if_pos e, if_pos e]
       ·rw [if_neg e, if_neg e, bview_set, if_neg e, bview_set]
        by_cases e2 : m = 0
        ·rw [if_pos e2, if_pos e2]
        ·rw [if_neg e2, if_neg e2]; exact k6.view m
      refine ⟨by omega, G9, P9, updT T n true, ps ++ [(n, (addL (newL (i : Nat)) r).1)], hP11, ?_, ?_, fun t ht e => ?_, fun t ht e => ?_, fun t ht e => ?_, ⟨fun a ha => ?_⟩, by simp; omega, ?_, ?_, ?_, ((Kb.trans k1 k6.b.self).trans k9.self).mono (by omega)⟩
      ·have : atR (ps ++ [(n, (addL (newL (i : Nat)) r).1)]) = atR ps ++ [[.v (.int .i64 (n : Nat))]] := by simp [atR]
       rw [this]; exact u9'
      ·have : wasR (ps ++ [(n, (addL (newL (i : Nat)) r).1)]) = wasR ps ++ [(addL (newL (i : Nat)) r).1.map byteP] := by simp [wasR]
       rw [this]; exact u10
      ·exact (v9 t ht).elim (fun e' => hno9 t (ho9.lt e') (hg9 t e') e) fun e' => by have := hP9.lt t e; omega
      ·exact (v10 t ht).elim (fun e' => hno9 t (ho10.lt e') (hg10 t e') e) fun e' => by have := hP9.lt t e; omega
      ·have h1 := u9.lt ht
       exact (v10 t e).elim (fun e' => (v9 t ht).elim (fun e2 => hne t e2 e') fun e2 => by have := o10'.lt e'; omega) fun e' => by omega
      ·rcases List.mem_append.1 ha with ha | ha
       ·obtain ⟨g1, g2, g3, g4, g5⟩ := hpt.lt a ha
        have g6 : a.1 ≠ n := fun e => by rw [e, hTn] at g3; cases g3
        refine ⟨g1, g2, by unfold updT; rw [if_neg g6]; exact g3, ?_, g5⟩
        rw [hvw, if_neg g6, if_neg (by omega)]; exact g4
       ·simp only [List.mem_singleton] at ha; subst ha
        exact ⟨by show n < 60; omega, n1, by simp [updT], by rw [hvw]; simp, hQl⟩
      ·rw [hvw, if_neg (by omega), if_pos rfl]; rw [hpg'] at hT6; exact hT6
      ·unfold updT; rw [if_neg (by omega)]; exact hT0
      ·rw [cnt_true hTn 60 (by omega)]; omega
   | false =>
     repeat' first | ((with_reducible first | refine cs ?_ ?_ | refine ws ?_ ?_ | refine wd ?_ ?_ | refine wu ?_ ?_) <;> intro h <;> try simp only [h]) | simp only [↓wBA, tLad, convA, seval, pl5_15Lad, pl5_32Lad, wH, wHl, hget, hln, b1', b2', List.length_map, Int.toNat_natCast, hok, pageA, hQl, hQp, zl512, zB_512, len_zero512, z5, hwi] | ((with_reducible show ACalls _ _ _ _ _); first | refine (anew _ _).eq ?_ | refine (aaddP (newL (i : Nat)) r y (length_newL _) hr (by omega) _).eq ?_) | (with_reducible refine dP pl5_15Lad 15 (some 56) (by decide) (by kernel_rfl) ?_) | (with_reducible refine dP pl5_32Lad 10 (some 128) (by decide) (by kernel_rfl) ?_) | with_reducible refine And.intro ?_ ?_
     all_goals
      refine ⟨⟨(i + 1, a9, a10), by omega, by omega⟩, by show 40 - (i + 1) < 40 - i; omega, ?_, by simp only [wHl, wHf]⟩
      dsimp only
      have hve : P6.view = P'.view := funext k6.view
      refine ⟨by omega, G6, P6, T, ps, hP7, o9.same fun t ht => List.getElem?_append_left (o9.lt ht), o10.same fun t ht => List.getElem?_append_left (o10.lt ht), fun t ht e => hno t (ho9.lt ht) (hg9 t ht) (.inr e), fun t ht e => hno t (ho10.lt ht) (hg10 t ht) (.inr e), hne, by rw [hve]; exact hpt, by omega, by rw [hve]; exact hT, hT0, by omega, ?_⟩
      exact (Kb.trans k1 (k6.b.self)).mono (by omega)
  ·have hout : (decide ((i : Int) < (ys.length : Int)) = false ∧ decide ((i : Int) < 40) = decide ((i : Int) < 40)) ∨ (decide ((i : Int) < (ys.length : Int)) = true ∧ decide ((i : Int) < 40) = false) := by
    by_cases h : i < ys.length
    ·right; exact ⟨dT h, by simp; omega⟩
    ·left; exact ⟨dF (by omega), rfl⟩
   rcases hout with ⟨e1, -⟩ | ⟨e1, e2⟩
   ·skip
    repeat' first | ((with_reducible first | refine cs ?_ ?_ | refine ws ?_ ?_ | refine wd ?_ ?_ | refine wu ?_ ?_) <;> intro h <;> try simp only [h]) | simp only [↓wBA, tLad, convA, seval, pl5_15Lad, pl5_32Lad, wH, wHl, hln, e1, List.length_map] | (with_reducible refine dP pl5_15Lad 15 (some 56) (by decide) (by kernel_rfl) ?_) | (with_reducible refine dP pl5_32Lad 10 (some 128) (by decide) (by kernel_rfl) ?_) | with_reducible refine And.intro ?_ ?_
    refine (apoint hP (by omega) (by omega)).mono ?_
    rintro _ s5 ⟨rfl, G5, P5, f5, hP5, z1, z2, z3, z4, z5, z6, z7, z8, z9, z10, z11, z12⟩
    have l5 := f5.len
    have hgt : decide ((P5.fs.length : Int) > ((fr % 6 + 1 : Nat) : Int)) = false := by
     have := hP5.1.len
     rw [z2, k1.most, p2] at this
     simp only [gt_iff_lt, decide_eq_false_iff_not]; omega
    repeat' first | ((with_reducible first | refine cs ?_ ?_ | refine ws ?_ ?_ | refine wd ?_ ?_ | refine wu ?_ ?_) <;> intro h <;> try simp only [h]) | simp only [↓wBA, tLad, convA, seval, pl5_15Lad, pl5_32Lad, wH, wHl, w0, hgt] | ((with_reducible show ACalls _ _ _ _ _); refine (aframes hP5).eq ?_) | (with_reducible refine dP pl5_15Lad 15 (some 56) (by decide) (by kernel_rfl) ?_) | (with_reducible refine dP pl5_32Lad 10 (some 128) (by decide) (by kernel_rfl) ?_) | with_reducible refine And.intro ?_ ?_
    obtain ⟨hk5, Fd5, Gl5, ww5, aa5, H5, hG5⟩ := hP5
    have hdat := H5.data
    obtain ⟨d5, F5, w5, a5', hL5, hGl5⟩ := id H5.log
    have hdl : d5 = dl := by rw [← hL5.id, z4, k1.ld, p4]
    subst hdl
    have hld := hL5.disk
    have hdj : ∀ t, Fd5 t → F5 t → False := fun t h1 h2 => H5.dl t h1 ((hGl5 t).2 (.inr (.inl h2)))
    refine (adrestart hdat z9).mono ?_
    rintro _ s6 ⟨f6, hd6⟩
    have l6 := f6.len
    repeat' first | ((with_reducible first | refine cs ?_ ?_ | refine ws ?_ ?_ | refine wd ?_ ?_ | refine wu ?_ ?_) <;> intro h <;> try simp only [h]) | simp only [↓wBA, tLad, convA, seval, pl5_15Lad, pl5_32Lad, wH, wHl] | (with_reducible refine dP pl5_15Lad 15 (some 56) (by decide) (by kernel_rfl) ?_) | (with_reducible refine dP pl5_32Lad 10 (some 128) (by decide) (by kernel_rfl) ?_) | with_reducible refine And.intro ?_ ?_
    have hl6 := hld.frame f6 fun t h1 h2 => hdj t h2 h1
    refine (adrestart hl6 hL5.dry).mono ?_
    rintro _ s7 ⟨f7, hl7⟩
    have l7 := f7.len
    have hd7 := hd6.frame f7 hdj
    repeat' first | ((with_reducible first | refine cs ?_ ?_ | refine ws ?_ ?_ | refine wd ?_ ?_ | refine wu ?_ ?_) <;> intro h <;> try simp only [h]) | simp only [↓wBA, tLad, convA, seval, pl5_15Lad, pl5_32Lad, wH, wHl] | (with_reducible refine dP pl5_15Lad 15 (some 56) (by decide) (by kernel_rfl) ?_) | (with_reducible refine dP pl5_32Lad 10 (some 128) (by decide) (by kernel_rfl) ?_) | with_reducible refine And.intro ?_ ?_
    have hhd := hL5.heads
    rw [z6] at hhd
    refine (aopenP hd7 hl7 hdj hk5.size hk5.secs hL5.big P5.log.ctr hhd hL5.secs hL5.dry 2 (by omega) (by omega)).mono ?_
    rintro _ s8 ⟨p', l', kh', G8, P8, rfl, a8, hP8, y1, y2, y3, y4, y5, y6⟩
    have hv5 : ∀ m, P5.view m = P'.view m := z11
    have hv8 : ∀ m, P8.view m = P5.view m := fun m => by
     unfold PoolV.view
     rw [y2, y4]
     show pgz (diskPg P5.data.now m) = _
     cases hlk : lkM P5.hm m with
     | none => rfl
     | some f =>
       obtain ⟨g1, g2⟩ := (hk5.keys m f).1 hlk
       have := hk5.cl f g1 (z12 f g1)
       rw [g2] at this
       exact this
    have hpg8 : P8.pages = 60 := by
     have : P8.data.size = P.data.size := by rw [y4, z1, k1.size]
     unfold PoolV.pages at hpg ⊢
     rw [this]; exact hpg
    have l8 := a8.len
    repeat' first | ((with_reducible first | refine cs ?_ ?_ | refine ws ?_ ?_ | refine wd ?_ ?_ | refine wu ?_ ?_) <;> intro h <;> try simp only [h]) | simp only [↓wBA, tLad, convA, seval, pl5_15Lad, pl5_32Lad, wH, wHl] | (with_reducible refine dP pl5_15Lad 15 (some 56) (by decide) (by kernel_rfl) ?_) | (with_reducible refine dP pl5_32Lad 10 (some 128) (by decide) (by kernel_rfl) ?_) | with_reducible refine And.intro ?_ ?_
    have h9 : (a9 = .p (.v (.slice none 0 0)) ∧ a10 = .p (.v (.slice none 0 0)) ∧ ps = []) ∨ ∃ t9 t10, a9 = .own t9 1 (atR ps) ∧ a10 = .own t10 512 (wasR ps) ∧ ps ≠ [] := by
     rcases ho9 with ⟨g1, g2⟩ | ⟨t9, g1, g2, _⟩
     ·have : ps = [] := by simpa [atR] using g2
      subst this
      rcases ho10 with ⟨g3, _⟩ | ⟨t10, _, g3, _⟩
      ·exact .inl ⟨g1, g3, rfl⟩
      ·exact absurd rfl g3
     ·rcases ho10 with ⟨_, g3⟩ | ⟨t10, g3, g4, _⟩
      ·have : ps = [] := by simpa [wasR] using g3
       subst this; exact absurd rfl g2
      ·exact .inr ⟨t9, t10, g1, g3, fun e => by subst e; exact g2 rfl⟩
    refine awp_loopS (X := { j : Nat // j ≤ ps.length }) (fun j => ps.length - j.1) (fun j => [(18, intV .i64 (j.1 : Nat))]) [4, 19, 20, 113, 114, 115, 116, 117, 118, 119, 120, 121, 122, 123, 124, 125, 126, 127, 128, 129, 130, 131, 132, 133, 134, 135, 136, 137] (fun j s => s8.length ≤ s.length ∧ ∃ G P', PoolAt s p' dd l' kh' G P' ∧ Kp P8 P' j.1) (⟨0, by omega⟩) ?_ ?_ ?_ ?_
    ·simp only [wHl, wHf]
    ·exact ⟨Nat.le_refl _, G8, P8, hP8, Kp.refl _ _⟩
    ·rintro _ _ ⟨h, _⟩; omega
    ·intro y2_ J2 q2 hI2
     simp only [wHl]
     obtain ⟨j, hj⟩ := y2_
     obtain ⟨hq2, G9, P9, hP9, k9⟩ := hI2
     dsimp only at *
     have hal := atR_len ps
     have hwl := wasR_len ps
     rcases h9 with ⟨rfl, rfl, rfl⟩ | ⟨t9, t10, rfl, rfl, hps⟩
     ·have e3 : decide ((j : Int) < 0) = false := by simp
      repeat' first | ((with_reducible first | refine cs ?_ ?_ | refine ws ?_ ?_ | refine wd ?_ ?_ | refine wu ?_ ?_) <;> intro h <;> try simp only [h]) | simp only [↓wBA, tLad, convA, seval, pl5_15Lad, pl5_32Lad, wH, wHl, e3] | (with_reducible refine dP pl5_15Lad 15 (some 56) (by decide) (by kernel_rfl) ?_) | (with_reducible refine dP pl5_32Lad 10 (some 128) (by decide) (by kernel_rfl) ?_) | with_reducible refine And.intro ?_ ?_
      all_goals refine ret_st ?_ (by first | exact Nat.le_refl _ | (simp only [List.length_set, List.length_append]; omega) | omega)
      all_goals simp only [resA.eq_1, resL.eq_1, resL.eq_2, resV.eq_1, resV.eq_2, ↓wBA, tLad, convA, seval, wH]
     ·by_cases hjl : j < ps.length
      ·have e3 := dT hjl
       obtain ⟨a, ha⟩ : ∃ a, ps[j]? = some a := ⟨ps[j], by simp⟩
       obtain ⟨g1, g2, g3, g4, g5⟩ := hpt.lt a (List.mem_of_getElem? ha)
       have hg9' : (atR ps)[j]? = some [.v (.int .i64 (a.1 : Nat))] := by simp [atR, ha]
       have hg10' : (wasR ps)[j]? = some (a.2.map byteP) := by simp [wasR, ha]
       have u1 := nnI j
       have u2 : ((j : Int) < (ps.length : Int)) = True := eq_true (by omega)
       have hwj := wI j (by omega)
       have c9 := k9.ctr; have w9 := k9.dw
       rw [y4, z9] at w9
       simp only [List.length_nil] at w9
       have c8 : P8.log.ctr = P5.log.ctr := by rw [y5]
       have hgp := pageC_512 g5
       have hbl : (a.2.map byteP).length = 512 := by simp [g5]
       have eB : eqBytes .neq 512 (pageC a.2) (pageC a.2) = some (boolV false) := by simp [eqBytes, bytesOf_page, g5]
       have hvv : P9.view a.1 = a.2 := by rw [k9.view, hv8, hv5, g4]
       repeat' first | ((with_reducible first | refine cs ?_ ?_ | refine ws ?_ ?_ | refine wd ?_ ?_ | refine wu ?_ ?_) <;> intro h <;> try simp only [h]) | simp only [↓wBA, tLad, convA, seval, pl5_15Lad, pl5_32Lad, wH, wHl, e3, hal, hwl, hg9', u1, u2, Int.toNat_natCast] | (with_reducible refine dP pl5_15Lad 15 (some 56) (by decide) (by kernel_rfl) ?_) | (with_reducible refine dP pl5_32Lad 10 (some 128) (by decide) (by kernel_rfl) ?_) | with_reducible refine And.intro ?_ ?_
       refine (aread hP9 (n := a.1) (by rw [k9.pages]; omega) (by omega) (by omega)).mono ?_
       rintro _ s9 ⟨rfl, G10, P10, f9, hP10, k10⟩
       rw [hvv]
       have l9 := f9.len
       repeat' first | ((with_reducible first | refine cs ?_ ?_ | refine ws ?_ ?_ | refine wd ?_ ?_ | refine wu ?_ ?_) <;> intro h <;> try simp only [h]) | simp only [↓wBA, tLad, convA, seval, pl5_15Lad, pl5_32Lad, wH, wHl, pageA, g5, hgp, hbl, zl512, zB_512, len_zero512, pageC_512 len_zero512, hal, hwl, hg10', u1, u2, Int.toNat_natCast, map_byteP, eB, hwj] | (with_reducible refine dP pl5_15Lad 15 (some 56) (by decide) (by kernel_rfl) ?_) | (with_reducible refine dP pl5_32Lad 10 (some 128) (by decide) (by kernel_rfl) ?_) | with_reducible refine And.intro ?_ ?_
       all_goals
        refine ⟨⟨j + 1, by omega⟩, by show ps.length - (j + 1) < ps.length - j; omega, ?_, by simp only [wHl, wHf]⟩
        exact ⟨by omega, G10, P10, hP10.ap (Ap.app _ _), k9.trans k10⟩
      ·obtain rfl : j = ps.length := by omega
       have e3 := dF (i := ps.length) (n := ps.length) (by omega)
       repeat' first | ((with_reducible first | refine cs ?_ ?_ | refine ws ?_ ?_ | refine wd ?_ ?_ | refine wu ?_ ?_) <;> intro h <;> try simp only [h]) | simp only [↓wBA, tLad, convA, seval, pl5_15Lad, pl5_32Lad, wH, wHl, e3, hal, hwl] | (with_reducible refine dP pl5_15Lad 15 (some 56) (by decide) (by kernel_rfl) ?_) | (with_reducible refine dP pl5_32Lad 10 (some 128) (by decide) (by kernel_rfl) ?_) | with_reducible refine And.intro ?_ ?_
       all_goals refine ret_st ?_ (by first | exact Nat.le_refl _ | (simp only [List.length_set, List.length_append]; omega) | omega)
       all_goals simp only [resA.eq_1, resL.eq_1, resL.eq_2, resV.eq_1, resV.eq_2, ↓wBA, tLad, convA, seval, wH]
   ·skip
    repeat' first | ((with_reducible first | refine cs ?_ ?_ | refine ws ?_ ?_ | refine wd ?_ ?_ | refine wu ?_ ?_) <;> intro h <;> try simp only [h]) | simp only [↓wBA, tLad, convA, seval, pl5_15Lad, pl5_32Lad, wH, wHl, hln, e1, e2, List.length_map] | (with_reducible refine dP pl5_15Lad 15 (some 56) (by decide) (by kernel_rfl) ?_) | (with_reducible refine dP pl5_32Lad 10 (some 128) (by decide) (by kernel_rfl) ?_) | with_reducible refine And.intro ?_ ?_
    refine (apoint hP (by omega) (by omega)).mono ?_
    rintro _ s5 ⟨rfl, G5, P5, f5, hP5, z1, z2, z3, z4, z5, z6, z7, z8, z9, z10, z11, z12⟩
    have l5 := f5.len
    have hgt : decide ((P5.fs.length : Int) > ((fr % 6 + 1 : Nat) : Int)) = false := by
     have := hP5.1.len
     rw [z2, k1.most, p2] at this
     simp only [gt_iff_lt, decide_eq_false_iff_not]; omega
    repeat' first | ((with_reducible first | refine cs ?_ ?_ | refine ws ?_ ?_ | refine wd ?_ ?_ | refine wu ?_ ?_) <;> intro h <;> try simp only [h]) | simp only [↓wBA, tLad, convA, seval, pl5_15Lad, pl5_32Lad, wH, wHl, w0, hgt] | ((with_reducible show ACalls _ _ _ _ _); refine (aframes hP5).eq ?_) | (with_reducible refine dP pl5_15Lad 15 (some 56) (by decide) (by kernel_rfl) ?_) | (with_reducible refine dP pl5_32Lad 10 (some 128) (by decide) (by kernel_rfl) ?_) | with_reducible refine And.intro ?_ ?_
    obtain ⟨hk5, Fd5, Gl5, ww5, aa5, H5, hG5⟩ := hP5
    have hdat := H5.data
    obtain ⟨d5, F5, w5, a5', hL5, hGl5⟩ := id H5.log
    have hdl : d5 = dl := by rw [← hL5.id, z4, k1.ld, p4]
    subst hdl
    have hld := hL5.disk
    have hdj : ∀ t, Fd5 t → F5 t → False := fun t h1 h2 => H5.dl t h1 ((hGl5 t).2 (.inr (.inl h2)))
    refine (adrestart hdat z9).mono ?_
    rintro _ s6 ⟨f6, hd6⟩
    have l6 := f6.len
    repeat' first | ((with_reducible first | refine cs ?_ ?_ | refine ws ?_ ?_ | refine wd ?_ ?_ | refine wu ?_ ?_) <;> intro h <;> try simp only [h]) | simp only [↓wBA, tLad, convA, seval, pl5_15Lad, pl5_32Lad, wH, wHl] | (with_reducible refine dP pl5_15Lad 15 (some 56) (by decide) (by kernel_rfl) ?_) | (with_reducible refine dP pl5_32Lad 10 (some 128) (by decide) (by kernel_rfl) ?_) | with_reducible refine And.intro ?_ ?_
    have hl6 := hld.frame f6 fun t h1 h2 => hdj t h2 h1
    refine (adrestart hl6 hL5.dry).mono ?_
    rintro _ s7 ⟨f7, hl7⟩
    have l7 := f7.len
    have hd7 := hd6.frame f7 hdj
    repeat' first | ((with_reducible first | refine cs ?_ ?_ | refine ws ?_ ?_ | refine wd ?_ ?_ | refine wu ?_ ?_) <;> intro h <;> try simp only [h]) | simp only [↓wBA, tLad, convA, seval, pl5_15Lad, pl5_32Lad, wH, wHl] | (with_reducible refine dP pl5_15Lad 15 (some 56) (by decide) (by kernel_rfl) ?_) | (with_reducible refine dP pl5_32Lad 10 (some 128) (by decide) (by kernel_rfl) ?_) | with_reducible refine And.intro ?_ ?_
    have hhd := hL5.heads
    rw [z6] at hhd
    refine (aopenP hd7 hl7 hdj hk5.size hk5.secs hL5.big P5.log.ctr hhd hL5.secs hL5.dry 2 (by omega) (by omega)).mono ?_
    rintro _ s8 ⟨p', l', kh', G8, P8, rfl, a8, hP8, y1, y2, y3, y4, y5, y6⟩
    have hv5 : ∀ m, P5.view m = P'.view m := z11
    have hv8 : ∀ m, P8.view m = P5.view m := fun m => by
     unfold PoolV.view
     rw [y2, y4]
     show pgz (diskPg P5.data.now m) = _
     cases hlk : lkM P5.hm m with
     | none => rfl
     | some f =>
       obtain ⟨g1, g2⟩ := (hk5.keys m f).1 hlk
       have := hk5.cl f g1 (z12 f g1)
       rw [g2] at this
       exact this
    have hpg8 : P8.pages = 60 := by
     have : P8.data.size = P.data.size := by rw [y4, z1, k1.size]
     unfold PoolV.pages at hpg ⊢
     rw [this]; exact hpg
    have l8 := a8.len
    repeat' first | ((with_reducible first | refine cs ?_ ?_ | refine ws ?_ ?_ | refine wd ?_ ?_ | refine wu ?_ ?_) <;> intro h <;> try simp only [h]) | simp only [↓wBA, tLad, convA, seval, pl5_15Lad, pl5_32Lad, wH, wHl] | (with_reducible refine dP pl5_15Lad 15 (some 56) (by decide) (by kernel_rfl) ?_) | (with_reducible refine dP pl5_32Lad 10 (some 128) (by decide) (by kernel_rfl) ?_) | with_reducible refine And.intro ?_ ?_
    have h9 : (a9 = .p (.v (.slice none 0 0)) ∧ a10 = .p (.v (.slice none 0 0)) ∧ ps = []) ∨ ∃ t9 t10, a9 = .own t9 1 (atR ps) ∧ a10 = .own t10 512 (wasR ps) ∧ ps ≠ [] := by
     rcases ho9 with ⟨g1, g2⟩ | ⟨t9, g1, g2, _⟩
     ·have : ps = [] := by simpa [atR] using g2
      subst this
      rcases ho10 with ⟨g3, _⟩ | ⟨t10, _, g3, _⟩
      ·exact .inl ⟨g1, g3, rfl⟩
      ·exact absurd rfl g3
     ·rcases ho10 with ⟨_, g3⟩ | ⟨t10, g3, g4, _⟩
      ·have : ps = [] := by simpa [wasR] using g3
       subst this; exact absurd rfl g2
      ·exact .inr ⟨t9, t10, g1, g3, fun e => by subst e; exact g2 rfl⟩
    refine awp_loopS (X := { j : Nat // j ≤ ps.length }) (fun j => ps.length - j.1) (fun j => [(18, intV .i64 (j.1 : Nat))]) [4, 19, 20, 113, 114, 115, 116, 117, 118, 119, 120, 121, 122, 123, 124, 125, 126, 127, 128, 129, 130, 131, 132, 133, 134, 135, 136, 137] (fun j s => s8.length ≤ s.length ∧ ∃ G P', PoolAt s p' dd l' kh' G P' ∧ Kp P8 P' j.1) (⟨0, by omega⟩) ?_ ?_ ?_ ?_
    ·simp only [wHl, wHf]
    ·exact ⟨Nat.le_refl _, G8, P8, hP8, Kp.refl _ _⟩
    ·rintro _ _ ⟨h, _⟩; omega
    ·intro y2_ J2 q2 hI2
     simp only [wHl]
     obtain ⟨j, hj⟩ := y2_
     obtain ⟨hq2, G9, P9, hP9, k9⟩ := hI2
     dsimp only at *
     have hal := atR_len ps
     have hwl := wasR_len ps
     rcases h9 with ⟨rfl, rfl, rfl⟩ | ⟨t9, t10, rfl, rfl, hps⟩
     ·have e3 : decide ((j : Int) < 0) = false := by simp
      repeat' first | ((with_reducible first | refine cs ?_ ?_ | refine ws ?_ ?_ | refine wd ?_ ?_ | refine wu ?_ ?_) <;> intro h <;> try simp only [h]) | simp only [↓wBA, tLad, convA, seval, pl5_15Lad, pl5_32Lad, wH, wHl, e3] | (with_reducible refine dP pl5_15Lad 15 (some 56) (by decide) (by kernel_rfl) ?_) | (with_reducible refine dP pl5_32Lad 10 (some 128) (by decide) (by kernel_rfl) ?_) | with_reducible refine And.intro ?_ ?_
      all_goals refine ret_st ?_ (by first | exact Nat.le_refl _ | (simp only [List.length_set, List.length_append]; omega) | omega)
      all_goals simp only [resA.eq_1, resL.eq_1, resL.eq_2, resV.eq_1, resV.eq_2, ↓wBA, tLad, convA, seval, wH]
     ·by_cases hjl : j < ps.length
      ·have e3 := dT hjl
       obtain ⟨a, ha⟩ : ∃ a, ps[j]? = some a := ⟨ps[j], by simp⟩
       obtain ⟨g1, g2, g3, g4, g5⟩ := hpt.lt a (List.mem_of_getElem? ha)
       have hg9' : (atR ps)[j]? = some [.v (.int .i64 (a.1 : Nat))] := by simp [atR, ha]
       have hg10' : (wasR ps)[j]? = some (a.2.map byteP) := by simp [wasR, ha]
       have u1 := nnI j
       have u2 : ((j : Int) < (ps.length : Int)) = True := eq_true (by omega)
       have hwj := wI j (by omega)
       have c9 := k9.ctr; have w9 := k9.dw
       rw [y4, z9] at w9
       simp only [List.length_nil] at w9
       have c8 : P8.log.ctr = P5.log.ctr := by rw [y5]
       have hgp := pageC_512 g5
       have hbl : (a.2.map byteP).length = 512 := by simp [g5]
       have eB : eqBytes .neq 512 (pageC a.2) (pageC a.2) = some (boolV false) := by simp [eqBytes, bytesOf_page, g5]
       have hvv : P9.view a.1 = a.2 := by rw [k9.view, hv8, hv5, g4]
       repeat' first | ((with_reducible first | refine cs ?_ ?_ | refine ws ?_ ?_ | refine wd ?_ ?_ | refine wu ?_ ?_) <;> intro h <;> try simp only [h]) | simp only [↓wBA, tLad, convA, seval, pl5_15Lad, pl5_32Lad, wH, wHl, e3, hal, hwl, hg9', u1, u2, Int.toNat_natCast] | (with_reducible refine dP pl5_15Lad 15 (some 56) (by decide) (by kernel_rfl) ?_) | (with_reducible refine dP pl5_32Lad 10 (some 128) (by decide) (by kernel_rfl) ?_) | with_reducible refine And.intro ?_ ?_
       refine (aread hP9 (n := a.1) (by rw [k9.pages]; omega) (by omega) (by omega)).mono ?_
       rintro _ s9 ⟨rfl, G10, P10, f9, hP10, k10⟩
       rw [hvv]
       have l9 := f9.len
       repeat' first | ((with_reducible first | refine cs ?_ ?_ | refine ws ?_ ?_ | refine wd ?_ ?_ | refine wu ?_ ?_) <;> intro h <;> try simp only [h]) | simp only [↓wBA, tLad, convA, seval, pl5_15Lad, pl5_32Lad, wH, wHl, pageA, g5, hgp, hbl, zl512, zB_512, len_zero512, pageC_512 len_zero512, hal, hwl, hg10', u1, u2, Int.toNat_natCast, map_byteP, eB, hwj] | (with_reducible refine dP pl5_15Lad 15 (some 56) (by decide) (by kernel_rfl) ?_) | (with_reducible refine dP pl5_32Lad 10 (some 128) (by decide) (by kernel_rfl) ?_) | with_reducible refine And.intro ?_ ?_
       all_goals
        refine ⟨⟨j + 1, by omega⟩, by show ps.length - (j + 1) < ps.length - j; omega, ?_, by simp only [wHl, wHf]⟩
        exact ⟨by omega, G10, P10, hP10.ap (Ap.app _ _), k9.trans k10⟩
      ·obtain rfl : j = ps.length := by omega
       have e3 := dF (i := ps.length) (n := ps.length) (by omega)
       repeat' first | ((with_reducible first | refine cs ?_ ?_ | refine ws ?_ ?_ | refine wd ?_ ?_ | refine wu ?_ ?_) <;> intro h <;> try simp only [h]) | simp only [↓wBA, tLad, convA, seval, pl5_15Lad, pl5_32Lad, wH, wHl, e3, hal, hwl] | (with_reducible refine dP pl5_15Lad 15 (some 56) (by decide) (by kernel_rfl) ?_) | (with_reducible refine dP pl5_32Lad 10 (some 128) (by decide) (by kernel_rfl) ?_) | with_reducible refine And.intro ?_ ?_
       all_goals refine ret_st ?_ (by first | exact Nat.le_refl _ | (simp only [List.length_set, List.length_append]; omega) | omega)
       all_goals simp only [resA.eq_1, resL.eq_1, resL.eq_2, resV.eq_1, resV.eq_2, ↓wBA, tLad, convA, seval, wH]
theorem points_law (x : PV) (c : Int) (v : Value) (W : World) (hx : HasSh (.sl 24 [.sl 1 [.int .u8]]) x) (hr : PRep W (inH W) x v) (hw : (Lit.int .u8 c).wf = true) :
 Calls Try.prog 5 #[v, .int .u8 c] W fun e W' => e = .returned (.bool true) ∧ Below W.heap.size W W' := by
 obtain ⟨ys, hy⟩ := recs_sh hx
 have hb : 0 ≤ c ∧ c ≤ 255 := by
  simp [Lit.wf, IntKind.min, IntKind.max, IntKind.signed, IntKind.bits] at hw
  omega
 obtain ⟨n, rfl⟩ : ∃ n : Nat, c = n := ⟨c.toNat, by omega⟩
 exact law_calls2 (W := W) (vs := [v, .int .u8 n]) (apoolPoints x ys hy n (by omega) []) (by
  simp only [ARepL]
  exact ⟨_, _, rfl, (by simp only [ARep]; exact hr), _, _, rfl, rep_mk rfl, rfl⟩)
end Go.Proofs.Ytpfdbjmojbhnmaa
