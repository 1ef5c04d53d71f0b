/- HeapLasts. -/
import Derived.Test.YtlddiphjpmlhbaaM51
import Derived.Test.YtlddiphjpmlhbaaM52
set_option linter.unusedSimpArgs false
set_option linter.unusedVariables false
set_option linter.defProp false
set_option maxRecDepth 100000
set_option maxHeartbeats 32000000
namespace Go.Proofs.Ytlddiphjpmlhbaa
open Go.RowKit
def pl4_35Hv : Plan := (.det 0 (.det 1 (.det 2 (.det 3 (.det 4 (.det 5 (.det 6 (.det 7 (.det 8 (.det 9 (.det 10 (.det 11 (.det 12 (.det 13 (.det 14 (.det 15 (.det 16 (.det 18 (.det 19 (.det 20 (.det 21 (.det 22 (.two 17 (.act 23 (.det 24 (.det 25 (.det 26 (.det 27 (.det 28 (.det 29 (.det 30 (.det 31 (.det 32 (.det 33 (.det 34 (.det 35 (.det 36 (.det 37 (.det 38 (.det 39 (.det 40 (.det 41 (.det 42 (.det 43 (.det 44 (.det 45 (.det 46 (.det 47 (.det 48 (.det 49 (.det 50 (.det 51 (.det 52 (.det 53 (.det 54 (.det 55 (.det 56 (.det 57 (.det 58 (.det 59 (.det 60 (.det 61 .done))))))))))))))))))))))))))))))))))))))) 23 (.act 17 (.det 24 (.det 25 (.det 26 (.det 27 (.det 28 (.det 29 (.det 30 (.det 31 (.det 32 (.det 33 (.det 34 (.det 35 (.det 36 (.det 37 (.det 38 (.det 39 (.det 40 (.det 41 (.det 42 (.det 43 (.det 44 (.det 45 (.det 46 (.det 47 (.det 48 (.det 49 (.det 50 (.det 51 (.det 52 (.det 53 (.det 54 (.det 55 (.det 56 (.det 57 (.det 58 (.det 59 (.det 60 (.det 61 .done))))))))))))))))))))))))))))))))))))))))))))))))))))))))))))))
def tHv := aa wX <| aa wbu <| aa T3 <| aa T4 <| aa T5 <| aa T9 <| aa T22 <| aa T23 <| aa T25 <| aa T26 <| aa T29 <| aa T31 <| aa T35 <| aa T37 <| aa T46 <| aa T52 T105
def plR (es : List (Nat × Nat)) : List (List PV) := es.map fun e => [.v (.int .i64 (e.1 : Nat)), .v (.int .i64 (e.2 : Nat))]
theorem plR_len (es : List (Nat × Nat)) : (plR es).length = es.length := by simp [plR]
theorem aheapLasts (x : PV) (ys : List PV) (hx : RecsY x ys) (gs : List UInt8) (hgs : gs.length ≤ 140737488351232) (σ : St) : ACalls Try.prog 4 [.p x, .p (.sl 1 (encB gs))] σ fun r σ' => r = boolV true := by
 obtain ⟨rfl, hyl, hys⟩ := hx
 refine acalls_of cx_ok dr_ok Try.func4 (by kernel_rfl) rfl (nt := 201) (rs := [.tmp 4]) rfl rfl ?_
 repeat' first | ((with_reducible first | refine cs ?_ ?_ | refine ws ?_ ?_ | refine wd ?_ ?_ | refine wu ?_ ?_) <;> intro h <;> try simp only [h]) | simp only [↓wBA, tHv, convA, seval, pl4_35Hv, wH] | ((with_reducible show ACalls _ _ _ _ _); refine (aawake6 _).mono ?_; rintro _ s0 ⟨a0, rfl⟩) | (with_reducible refine dP pl4_35Hv 62 (some 141) (by decide) (by kernel_rfl) ?_) | with_reducible refine And.intro ?_ ?_
 refine (adnew 960 (by omega) _).mono ?_
 rintro _ s1 ⟨dd, Fd, rfl, a1, hd, hFd⟩
 repeat' first | ((with_reducible first | refine cs ?_ ?_ | refine ws ?_ ?_ | refine wd ?_ ?_ | refine wu ?_ ?_) <;> intro h <;> try simp only [h]) | simp only [↓wBA, tHv, convA, seval, pl4_35Hv, wH] | (with_reducible refine dP pl4_35Hv 62 (some 141) (by decide) (by kernel_rfl) ?_) | with_reducible refine And.intro ?_ ?_
 refine (adnew 9000 (by omega) _).mono ?_
 rintro _ s2 ⟨dl, Fl, rfl, a2, hl, hFl⟩
 have hd2 := hd.ap a2
 have b0 := a0.len; have b1 := a1.len; have b2 := a2.len
 repeat' first | ((with_reducible first | refine cs ?_ ?_ | refine ws ?_ ?_ | refine wd ?_ ?_ | refine wu ?_ ?_) <;> intro h <;> try simp only [h]) | simp only [↓wBA, tHv, convA, seval, pl4_35Hv, wH] | (with_reducible refine dP pl4_35Hv 62 (some 141) (by decide) (by kernel_rfl) ?_) | with_reducible refine And.intro ?_ ?_
 refine (aopenN2 hd2 hl (fun t h1 h2 => by have := hd.lt t h1; have := hFl t h2; omega) (by omega) (by omega) 3 (by omega) (by omega)).mono ?_
 rintro _ s3 ⟨p, l, kh, G, P, rfl, a3, hP, p1, p2, p3, p4, p5, p6, p7, p8, p9⟩
 have hpg : P.pages = 120 := by rw [p1]; rfl
 have b3 := a3.len
 clear hd hd2 hl
 have hbud : Bud P 1000000 := ⟨by omega, by omega, by omega⟩
 repeat' first | ((with_reducible first | refine cs ?_ ?_ | refine ws ?_ ?_ | refine wd ?_ ?_ | refine wu ?_ ?_) <;> intro h <;> try simp only [h]) | simp only [↓wBA, tHv, convA, seval, pl4_35Hv, wH] | ((with_reducible show ACalls _ _ _ _ _); refine (abBatch hP).mono ?_; rintro _ s4 ⟨rfl, a4, h4⟩) | (with_reducible refine dP pl4_35Hv 62 (some 141) (by decide) (by kernel_rfl) ?_) | with_reducible refine And.intro ?_ ?_
 have b4 := a4.len
 refine (amake (T := fun n => n == 0) h4 (by rw [p8]; exact tk_new (by omega)) (by omega) (by omega) rfl (hbud.mono (by omega))).mono ?_
 rintro r s5 ⟨U5, P5, v5, f5, h5, k5, hc⟩
 rcases hc with ⟨m, m1, m2, hTm, rfl, hpm, hvo, hTk⟩ | ⟨hall, _, _⟩
 rotate_left
 ·exact absurd (hall 1 (by omega)) (by decide)
 have b5 := f5.len
 have hpg5 := k5.pages
 obtain ⟨hh5, hr5⟩ := Heap.one (T := updT (fun n => n == 0) m true) m1 m2 (by simp [updT]) hpm
 repeat' first | ((with_reducible first | refine cs ?_ ?_ | refine ws ?_ ?_ | refine wd ?_ ?_ | refine wu ?_ ?_) <;> intro h <;> try simp only [h]) | simp only [↓wBA, tHv, convA, seval, pl4_35Hv, wH] | (with_reducible refine dP pl4_35Hv 62 (some 141) (by decide) (by kernel_rfl) ?_) | with_reducible refine And.intro ?_ ?_
 have cn0 : cnt (updT (fun n => n == 0) m true) 120 = 2 := by rw [cnt_true (T := fun n => n == 0) (k := m) hTm 120 (by omega), cnt_one _ (by omega)]
 have ht0 : updT (fun n => n == 0) m true 0 = true := by unfold updT; rw [if_neg (by omega)]; rfl
 have kd5 : P5.log.disk.size = 9000 ∧ P5.log.d = dl := by rw [k5.ls, k5.ld]; exact ⟨p3, p4⟩
 refine awp_outS (X := { x : Nat × AV // x.1 ≤ 40 ∧ x.1 ≤ ys.length }) (fun x => [(12, x.1.2), (13, intV .i64 (x.1.1 : Nat))]) [14, 15, 39, 40, 41, 42, 43, 44, 45, 46, 47, 48, 49, 50, 51, 52, 53, 54, 55, 56, 57, 58, 59, 60, 61, 62, 63, 64] (fun x s => s5.length ≤ s.length ∧ ∃ U' P' v' T' ns' es, Bt s s3.length p dd l kh U' P' v' ∧ Heap v' T' 120 ns' ∧ ns'[0]? = some m ∧ (∀ e ∈ es, e.1 ∈ ns' ∧ 1 ≤ e.2) ∧ Tk (v' 0) 120 T' ∧ T' 0 = true ∧ cnt T' 120 ≤ x.1.1 + 2 ∧ ns'.length ≤ x.1.1 + 1 ∧ P'.pages = 120 ∧ Bud P' 900000 ∧ OwnR s x.1.2 37 2 (plR es) ∧ (∀ t, ownOf x.1.2 = some t → ¬ U' t) ∧ es.length ≤ x.1.1 ∧ P'.log.disk.size = 9000 ∧ P'.log.d = dl) 0 rfl ?_ ?_
 ·skip
  refine awp_loopS (X := { x : Nat × AV // x.1 ≤ 40 ∧ x.1 ≤ ys.length }) (fun x => 40 - x.1.1) (fun x => [(12, x.1.2), (13, intV .i64 (x.1.1 : Nat))]) [14, 15, 39, 40, 41, 42, 43, 44, 45, 46, 47, 48, 49, 50, 51, 52, 53, 54, 55, 56, 57, 58, 59, 60, 61, 62, 63, 64] (fun x s => s5.length ≤ s.length ∧ ∃ U' P' v' T' ns' es, Bt s s3.length p dd l kh U' P' v' ∧ Heap v' T' 120 ns' ∧ ns'[0]? = some m ∧ (∀ e ∈ es, e.1 ∈ ns' ∧ 1 ≤ e.2) ∧ Tk (v' 0) 120 T' ∧ T' 0 = true ∧ cnt T' 120 ≤ x.1.1 + 2 ∧ ns'.length ≤ x.1.1 + 1 ∧ P'.pages = 120 ∧ Bud P' 900000 ∧ OwnR s x.1.2 37 2 (plR es) ∧ (∀ t, ownOf x.1.2 = some t → ¬ U' t) ∧ es.length ≤ x.1.1 ∧ P'.log.disk.size = 9000 ∧ P'.log.d = dl) (⟨(0, .p (.v (.slice none 0 0))), by omega, by omega⟩) ?_ ?_ ?_ ?_
  ·simp only [wHl, wHf]
  ·exact ⟨Nat.le_refl _, U5, P5, v5, _, [m], [], h5, by rw [← hpg]; exact hh5, rfl, by simp, by rw [← hpg]; exact hTk, ht0, by rw [cn0]; exact Nat.le_refl _, by simp, by rw [hpg5, hpg], (hbud.kp k5 (by omega)), .inl ⟨rfl, rfl⟩, by simp [ownOf], by simp, kd5.1, kd5.2⟩
  ·rintro _ _ ⟨h, _⟩; omega
  ·intro y J q hI
   clear h4 h5 f5 k5 hTk hvo hpm hh5 hr5 hTm cn0 ht0 hpg5 kd5
   simp only [wHl]
   obtain ⟨⟨i, a12⟩, hi, hi2⟩ := y
   obtain ⟨hq, U1, P1, v1, T1, ns1, es, h1, hh1, hm0, hput, hT1, hT10, hcn, hns, hpg1, hb1, ho, hoU, hel, kd1, kd2⟩ := hI
   dsimp only at *
   have hln : ((ys.map fun y => [y]).length : Int) = (ys.length : Int) := by simp
   by_cases hlt : i < 40 ∧ i < ys.length
   ·have e1 := dT (i := i) (n := ys.length) hlt.2
    have e2 : decide ((i : Int) < 40) = true := by simp; omega
    obtain ⟨y, hy⟩ : ∃ y, ys[i]? = some y := ⟨ys[i]'hlt.2, by simp⟩
    have hget : (ys.map fun y => [y])[i]? = some [y] := by simp [hy]
    obtain ⟨r, hr', hrl⟩ := hys y (List.mem_of_getElem? hy)
    have hr : BX y r := .inl hr'
    have b1' : ((i : Int) < (ys.length : Int)) = True := eq_true (by omega)
    have b2' := nnI i
    have hwi := wI i (by omega)
    repeat' first | ((with_reducible first | refine cs ?_ ?_ | refine ws ?_ ?_ | refine wd ?_ ?_ | refine wu ?_ ?_) <;> intro h <;> try simp only [h]) | simp only [↓wBA, tHv, convA, seval, pl4_35Hv, wH, wHl, wOu, hln, e1, e2, List.length_map, hget, b1', b2', Int.toNat_natCast] | (with_reducible refine dP pl4_35Hv 62 (some 141) (by decide) (by kernel_rfl) ?_) | with_reducible refine And.intro ?_ ?_
    by_cases hr4 : r.length ≤ 400
    ·refine (ahinsert (first := m) (r := r) (T := T1) h1 (by rw [hpg1]; exact hT1) (by omega) hT10 (by rw [hpg1]; exact hh1) hm0 (.inl ⟨y, rfl, hr⟩) hr4 (by simp [msOf]) (hb1.mono (by omega))).mono ?_
     rintro q6 s6 ⟨U6, P6, v6, f6, h6, k6, hc6⟩
     rcases hc6 with ⟨n, k', T6, ns6, rfl, hI6⟩ | ⟨hall, _, _⟩
     rotate_left
     ·have := cnt_all (T := T1) 120 fun a ha => hall a (by omega)
      omega
     have l6 := f6.len
     rw [hpg1] at hI6
     have ho6 := ho.same (q' := s6) fun t ht => f6.keep t (ho.lt ht) (hoU t ht)
     have hoU6 : ∀ t, ownOf a12 = some t → ¬ U6 t := fun t ht e => (f6.own t e).elim (hoU t ht) fun e => by have := ho.lt ht; omega
     obtain ⟨S7, hS7⟩ : ∃ S7, S7 = s6 ++ [some (Ob.row 2 [[AV.p (.v (.int .i64 (n : Nat))), AV.p (.v (.int .i64 (k' : Nat)))]])] ++ [some (.right 37 2)] := ⟨_, rfl⟩
     have a7 : Ap s6 S7 := by rw [hS7]; exact (Ap.app _ _).more _
     have l7 : S7.length = s6.length + 2 := by rw [hS7]; simp
     have ho7 := ho6.same (q' := S7) fun t ht => by have := ho6.lt ht; rw [hS7, List.append_assoc, List.getElem?_append_left this]
     obtain ⟨a12', s8, h8, ho8, l8, m8, v8⟩ := app_own (q := S7) (y := .own (s6.length + 1) 2 [[.v (.int .i64 (n : Nat)), .v (.int .i64 (k' : Nat))]]) (m := [[.v (.int .i64 (n : Nat)), .v (.int .i64 (k' : Nat))]]) ck_35 ho7 rfl (by simp) (by simp [plR]; omega) (by simp [plR]; omega)
     rw [l7, hS7] at h8
     repeat' first | ((with_reducible first | refine cs ?_ ?_ | refine ws ?_ ?_ | refine wd ?_ ?_ | refine wu ?_ ?_) <;> intro h <;> try simp only [h]) | simp only [↓wBA, tHv, convA, seval, pl4_35Hv, wH, wHl, wOu, h8, hwi] | (with_reducible refine dP pl4_35Hv 62 (some 141) (by decide) (by kernel_rfl) ?_) | with_reducible refine And.intro ?_ ?_
     refine ⟨⟨(i + 1, a12'), by omega, by omega⟩, by show 40 - (i + 1) < 40 - i; omega, ?_, by simp only [wHl, wHf]⟩
     dsimp only
     have hlt6 := h6.lt
     have hB8 := h6.same (s := s8) fun t ht => by
      have h1 := hlt6 t ht
      rw [m8 t (by omega) (fun e => hoU6 t e ht), hS7, List.append_assoc, List.getElem?_append_left h1]
     have hm6 : ns6[0]? = some m := by
      rcases hI6.pages with ⟨rfl, _⟩ | ⟨q, _, _, rfl, _⟩
      ·exact hm0
      ·have := (List.getElem?_eq_some_iff.1 hm0).1
       rw [List.getElem?_append_left this]; exact hm0
     have hc6 : cnt T6 120 ≤ i + 1 + 2 ∧ ns6.length ≤ i + 1 + 1 ∧ ∀ a ∈ ns1, a ∈ ns6 := by
      rcases hI6.pages with ⟨rfl, rfl, _⟩ | ⟨q, hq1, hq2, rfl, rfl⟩
      ·exact ⟨by omega, by omega, fun a ha => ha⟩
      ·rw [cnt_true hq1 120 hq2]
       exact ⟨by omega, by simp; omega, fun a ha => List.mem_append_left _ ha⟩
     refine ⟨by omega, U6, P6, v6, T6, ns6, es ++ [(n, k')], hB8, hI6.heap, hm6, fun e he => ?_, hI6.tk, hI6.t0, hc6.1, hc6.2.1, by rw [k6.pages]; exact hpg1, hb1.kp k6 (by omega), ?_, fun t ht e => ?_, by simp; omega, by rw [k6.ls]; exact kd1, by rw [k6.ld]; exact kd2⟩
     ·rcases List.mem_append.1 he with he | he
      ·exact ⟨hc6.2.2 _ (hput e he).1, (hput e he).2⟩
      ·simp only [List.mem_singleton] at he; subst he
       exact ⟨hI6.mem, hI6.k1⟩
     ·have : plR (es ++ [(n, k')]) = plR es ++ [[.v (.int .i64 (n : Nat)), .v (.int .i64 (k' : Nat))]] := by simp [plR]
      rw [this]; exact ho8
     ·exact (v8 t ht).elim (fun e' => hoU6 t e' e) fun e' => by have := hlt6 t e; omega
    ·skip
     repeat' first | ((with_reducible first | refine cs ?_ ?_ | refine ws ?_ ?_ | refine wd ?_ ?_ | refine wu ?_ ?_) <;> intro h <;> try simp only [h]) | simp only [↓wBA, tHv, convA, seval, pl4_35Hv, wH, wHl, wOu, hwi] | ((with_reducible show ACalls _ _ _ _ _); refine (ahinsertL (.inl ⟨y, rfl, hr⟩) (by omega)).mono ?_; rintro _ s6 ⟨rfl, a6⟩) | (with_reducible refine dP pl4_35Hv 62 (some 141) (by decide) (by kernel_rfl) ?_) | with_reducible refine And.intro ?_ ?_
     have a6' : Ap q (s6 ++ [some (.row 2 [[intV .i64 0, intV .i64 0]])]) := a6.more _
     have l6 := a6.len
     refine ⟨⟨(i + 1, a12), by omega, by omega⟩, by show 40 - (i + 1) < 40 - i; omega, ?_, by simp only [wHl, wHf]⟩
     dsimp only
     exact ⟨by omega, U1, P1, v1, T1, ns1, es, h1.ap a6', hh1, hm0, hput, hT1, hT10, by omega, by omega, hpg1, hb1, ho.same fun t ht => (Ap.fr (F := fun _ => False) a6').keep t (ho.lt ht) id, hoU, by omega, kd1, kd2⟩
   ·have hout : (decide ((i : Int) < (ys.length : Int)) = false ∧ decide ((i : Int) < 40) = decide ((i : Int) < 40)) ∨ (decide ((i : Int) < (ys.length : Int)) = true ∧ decide ((i : Int) < 40) = false) := by
     by_cases h : i < ys.length
     ·right; exact ⟨dT h, by simp; omega⟩
     ·left; exact ⟨dF (by omega), rfl⟩
    rcases hout with ⟨e1, -⟩ | ⟨e1, e2⟩
    ·skip
     repeat' first | ((with_reducible first | refine cs ?_ ?_ | refine ws ?_ ?_ | refine wd ?_ ?_ | refine wu ?_ ?_) <;> intro h <;> try simp only [h]) | simp only [↓wBA, tHv, convA, seval, pl4_35Hv, wH, wHl, wOu, hln, e1, List.length_map] | (with_reducible refine dP pl4_35Hv 62 (some 141) (by decide) (by kernel_rfl) ?_) | with_reducible refine And.intro ?_ ?_
     exact ⟨⟨(i, a12), hi, hi2⟩, ⟨hq, U1, P1, v1, T1, ns1, es, h1, hh1, hm0, hput, hT1, hT10, hcn, hns, hpg1, hb1, ho, hoU, hel, kd1, kd2⟩, by simp only [wHl, wHf]⟩
    ·skip
     repeat' first | ((with_reducible first | refine cs ?_ ?_ | refine ws ?_ ?_ | refine wd ?_ ?_ | refine wu ?_ ?_) <;> intro h <;> try simp only [h]) | simp only [↓wBA, tHv, convA, seval, pl4_35Hv, wH, wHl, wOu, hln, e1, e2, List.length_map] | (with_reducible refine dP pl4_35Hv 62 (some 141) (by decide) (by kernel_rfl) ?_) | with_reducible refine And.intro ?_ ?_
     exact ⟨⟨(i, a12), hi, hi2⟩, ⟨hq, U1, P1, v1, T1, ns1, es, h1, hh1, hm0, hput, hT1, hT10, hcn, hns, hpg1, hb1, ho, hoU, hel, kd1, kd2⟩, by simp only [wHl, wHf]⟩
 ·intro y J q hI
  clear h4 h5 f5 k5 hTk hvo hpm hh5 hr5 hTm cn0 ht0 hpg5 kd5
  obtain ⟨⟨i, a12⟩, hi, hi2⟩ := y
  obtain ⟨hq, U1, P1, v1, T1, ns1, es, h1, hh1, hm0, hput, hT1, hT10, hcn, hns, hpg1, hb1, ho, hoU, hel, kd1, kd2⟩ := hI
  dsimp only at *
  have hla : lenA cx 35 a12 = some es.length := by
   rcases ho with ⟨rfl, h⟩ | ⟨t, rfl, h, _⟩
   ·have : es = [] := by simpa [plR] using h
    subst this; rfl
   ·show (match cx.kind 35 with | some (.slice ..) => some (plR es).length | _ => none) = _
    rw [ck_35]; simp [plR]
  have hel2 := encB_len gs
  repeat' first | ((with_reducible first | refine cs ?_ ?_ | refine ws ?_ ?_ | refine wd ?_ ?_ | refine wu ?_ ?_) <;> intro h <;> try simp only [h]) | simp only [↓wBA, tHv, convA, seval, pl4_35Hv, wH, wHl, wOu] | (with_reducible refine dP pl4_35Hv 62 (some 141) (by decide) (by kernel_rfl) ?_) | with_reducible refine And.intro ?_ ?_
  refine awp_outS (X := { k : Nat // k ≤ gs.length }) (fun k => [(16, intV .i64 (k.1 : Nat))]) [65, 66, 67, 68, 69, 70, 71, 72, 73, 74, 75, 76, 77, 78, 79, 80, 81, 82, 83, 84, 85, 86, 87, 88] (fun k s => q.length ≤ s.length ∧ ∃ U' P' v', Bt s s3.length p dd l kh U' P' v' ∧ Heap v' T1 120 ns1 ∧ P'.pages = 120 ∧ Bud P' 900000 ∧ OwnR s a12 37 2 (plR es) ∧ (∀ t, ownOf a12 = some t → ¬ U' t) ∧ P'.log.disk.size = 9000 ∧ P'.log.d = dl) 2 rfl ?_ ?_
  ·skip
   refine awp_loopS (X := { k : Nat // k ≤ gs.length }) (fun k => gs.length - k.1) (fun k => [(16, intV .i64 (k.1 : Nat))]) [65, 66, 67, 68, 69, 70, 71, 72, 73, 74, 75, 76, 77, 78, 79, 80, 81, 82, 83, 84, 85, 86, 87, 88] (fun k s => q.length ≤ s.length ∧ ∃ U' P' v', Bt s s3.length p dd l kh U' P' v' ∧ Heap v' T1 120 ns1 ∧ P'.pages = 120 ∧ Bud P' 900000 ∧ OwnR s a12 37 2 (plR es) ∧ (∀ t, ownOf a12 = some t → ¬ U' t) ∧ P'.log.disk.size = 9000 ∧ P'.log.d = dl) (⟨0, by omega⟩) ?_ ?_ ?_ ?_
   ·simp only [wHl, wHf]
   ·exact ⟨Nat.le_refl _, U1, P1, v1, h1, hh1, hpg1, hb1, ho, hoU, kd1, kd2⟩
   ·rintro _ _ ⟨h, _⟩; exact h
   ·intro y J2 q2 hI2
    simp only [wHl]
    obtain ⟨k, hk⟩ := y
    obtain ⟨hq2, U2, P2, v2, h2, hh2, hpg2, hb2, ho2, hoU2, kd3, kd4⟩ := hI2
    dsimp only at *
    by_cases hgo : k < gs.length ∧ es ≠ []
    ·have hpos : 0 < es.length := List.length_pos_iff.2 hgo.2
     have e3 := dT hgo.1
     have e4 : decide ((es.length : Int) > 0) = true := by simp only [gt_iff_lt, decide_eq_true_eq]; omega
     have hz : ((es.length : Int) = 0) = False := eq_false (by omega)
     obtain ⟨t12, rfl, _, ho12⟩ : ∃ t, a12 = .own t 2 (plR es) ∧ plR es ≠ [] ∧ q2[t]? = some (some (.right 37 ((plR es).length * 2))) := by
      rcases ho2 with ⟨_, h⟩ | h
      ·exact absurd (by simpa [plR] using h) hgo.2
      ·exact h
     obtain ⟨g, hg⟩ : ∃ g, gs[k]? = some g := ⟨gs[k]'hgo.1, by simp [hgo.1]⟩
     have hgk : (encB gs)[k]? = some [.v (.int .u8 (g.toNat : Nat))] := by simp [encB, hg, byteP]
     have hgl := g.toNat_lt
     have w1 : IntKind.i64.wrap (g.toNat : Int) = (g.toNat : Int) := wrap_i64 (by omega) (by omega)
     obtain ⟨j, hj⟩ : ∃ j, j = g.toNat % es.length := ⟨_, rfl⟩
     have hjl : j < es.length := by rw [hj]; exact Nat.mod_lt _ hpos
     have htm : (g.toNat : Int).tmod (es.length : Int) = (j : Int) := by rw [Int.tmod_eq_emod_of_nonneg (by omega)]; omega
     have hwj : IntKind.i64.wrap (j : Int) = (j : Int) := wrap_i64 (by omega) (by omega)
     obtain ⟨⟨n, kp⟩, hej⟩ : ∃ e, es[j]? = some e := ⟨es[j], by simp⟩
     obtain ⟨hn1, hk1⟩ := hput _ (List.mem_of_getElem? hej)
     dsimp only at hn1 hk1
     have hgat : (plR es)[j]? = some [.v (.int .i64 (n : Nat)), .v (.int .i64 (kp : Nat))] := by simp [plR, hej]
     have hal := plR_len es
     have u1 := nnI j
     have u2 : ((j : Int) < (es.length : Int)) = True := eq_true (by omega)
     have u3 := nnI k
     have u4 : ((k : Int) < (gs.length : Int)) = True := eq_true (by omega)
     have hwk := wI k (by omega)
     repeat' first | ((with_reducible first | refine cs ?_ ?_ | refine ws ?_ ?_ | refine wd ?_ ?_ | refine wu ?_ ?_) <;> intro h <;> try simp only [h]) | simp only [↓wBA, tHv, convA, seval, pl4_35Hv, wH, wHl, wOu, hel2, e3, hal, e4, hz, hgk, w1, htm, hwj, hgat, u1, u2, u3, u4, Int.toNat_natCast] | (with_reducible refine dP pl4_35Hv 62 (some 141) (by decide) (by kernel_rfl) ?_) | with_reducible refine And.intro ?_ ?_
     refine (ahdropP h2 (by rw [hpg2]; exact hh2) hn1 hk1 (hb2.mono (by omega))).mono ?_
     rintro _ s6 ⟨U6, P6, v6, e, rfl, f6, h6, k6, hh6⟩
     have l6 := f6.len
     repeat' first | ((with_reducible first | refine cs ?_ ?_ | refine ws ?_ ?_ | refine wd ?_ ?_ | refine wu ?_ ?_) <;> intro h <;> try simp only [h]) | simp only [↓wBA, tHv, convA, seval, pl4_35Hv, wH, wHl, wOu, hwk] | (with_reducible refine dP pl4_35Hv 62 (some 141) (by decide) (by kernel_rfl) ?_) | with_reducible refine And.intro ?_ ?_
     refine ⟨⟨k + 1, by omega⟩, by show gs.length - (k + 1) < gs.length - k; omega, ⟨by omega, U6, P6, v6, h6, by rw [← hpg2]; exact hh6, by rw [k6.pages]; exact hpg2, hb2.kp k6 (by omega), ho2.same fun t ht => f6.keep t (ho2.lt ht) (hoU2 t ht), fun t ht e => (f6.own t e).elim (hoU2 t ht) fun e => by have := ho2.lt ht; omega, by rw [k6.ls]; exact kd3, by rw [k6.ld]; exact kd4⟩, by simp only [wHl, wHf]⟩
    ·have hout2 : decide ((k : Int) < (gs.length : Int)) = false ∨ (decide ((k : Int) < (gs.length : Int)) = true ∧ decide ((es.length : Int) > 0) = false) := by
      by_cases h : k < gs.length
      ·right; exact ⟨dT h, by
        have : es = [] := Classical.byContradiction fun e => hgo ⟨h, e⟩
        subst this; rfl⟩
      ·left; exact dF (by omega)
     rcases hout2 with e3 | ⟨e3, e4⟩
     ·skip
      repeat' first | ((with_reducible first | refine cs ?_ ?_ | refine ws ?_ ?_ | refine wd ?_ ?_ | refine wu ?_ ?_) <;> intro h <;> try simp only [h]) | simp only [↓wBA, tHv, convA, seval, pl4_35Hv, wH, wHl, wOu, hel2, e3] | (with_reducible refine dP pl4_35Hv 62 (some 141) (by decide) (by kernel_rfl) ?_) | with_reducible refine And.intro ?_ ?_
      exact ⟨⟨k, hk⟩, ⟨hq2, U2, P2, v2, h2, hh2, hpg2, hb2, ho2, hoU2, kd3, kd4⟩, by simp only [wHl, wHf]⟩
     ·skip
      repeat' first | ((with_reducible first | refine cs ?_ ?_ | refine ws ?_ ?_ | refine wd ?_ ?_ | refine wu ?_ ?_) <;> intro h <;> try simp only [h]) | simp only [↓wBA, tHv, convA, seval, pl4_35Hv, wH, wHl, wOu, hel2, e3, hla, e4] | (with_reducible refine dP pl4_35Hv 62 (some 141) (by decide) (by kernel_rfl) ?_) | with_reducible refine And.intro ?_ ?_
      exact ⟨⟨k, hk⟩, ⟨hq2, U2, P2, v2, h2, hh2, hpg2, hb2, ho2, hoU2, kd3, kd4⟩, by simp only [wHl, wHf]⟩
  ·intro y J2 q2 hI2
   obtain ⟨k, hk⟩ := y
   obtain ⟨hq2, U2, P2, v2, h2, hh2, hpg2, hb2, ho2, hoU2, kd3, kd4⟩ := hI2
   dsimp only at *
   repeat' first | ((with_reducible first | refine cs ?_ ?_ | refine ws ?_ ?_ | refine wd ?_ ?_ | refine wu ?_ ?_) <;> intro h <;> try simp only [h]) | simp only [↓wBA, tHv, convA, seval, pl4_35Hv, wH, wHl, wOu] | (with_reducible refine dP pl4_35Hv 62 (some 141) (by decide) (by kernel_rfl) ?_) | with_reducible refine And.intro ?_ ?_
   refine (ascan h2 (by rw [hpg2]; exact hh2) hm0 (hb2.mono (by omega)) (by omega)).mono ?_
   rintro _ s7 ⟨rfl, U7, P7, f7, h7, k7⟩
   obtain ⟨L, hL⟩ : ∃ L, entH v2 ns1 = L := ⟨_, rfl⟩
   have hrise := rise_entH v2 ns1 hh2.nd
   rw [hL] at hrise ⊢
   have l7 := f7.len
   have hb7 := hb2.kp k7 (k := 900000) (by omega)
   have hpg7 := k7.pages.trans hpg2
   repeat' first | ((with_reducible first | refine cs ?_ ?_ | refine ws ?_ ?_ | refine wd ?_ ?_ | refine wu ?_ ?_) <;> intro h <;> try simp only [h]) | simp only [↓wBA, tHv, convA, seval, pl4_35Hv, wH, wHl] | (with_reducible refine dP pl4_35Hv 62 (some 141) (by decide) (by kernel_rfl) ?_) | with_reducible refine And.intro ?_ ?_
   refine (abDone h7 (by rw [hpg7, k7.ls, kd3]; omega) (hb7.mono (by omega))).mono ?_
   rintro _ s8 ⟨rfl, U8, P8, f8, h8, k8⟩
   have l8 := f8.len
   have hb8 := hb7.kb k8 (k := 600000) (by omega)
   have hpg8 := k8.pages.trans hpg7
   obtain ⟨B8, G8, ch8, hin8, hU8⟩ := id h8
   repeat' first | ((with_reducible first | refine cs ?_ ?_ | refine ws ?_ ?_ | refine wd ?_ ?_ | refine wu ?_ ?_) <;> intro h <;> try simp only [h]) | simp only [↓wBA, tHv, convA, seval, pl4_35Hv, wH, wHl] | (with_reducible refine dP pl4_35Hv 62 (some 141) (by decide) (by kernel_rfl) ?_) | with_reducible refine And.intro ?_ ?_
   refine (aflushP hin8.pl (hb8.mono (by omega)).c).mono ?_
   rintro _ s9 ⟨rfl, G9, P9, f9, hP9, k9, _, _, _, _, hw9⟩
   have l9 := f9.len
   have hb9 := hb8.kp k9 (k := 600000) (by omega)
   have hpg9 := k9.pages.trans hpg8
   have hd9 : P9.log.d = dl := by rw [k9.ld, k8.ld, k7.ld]; exact kd4
   have hv9 : P9.view = v2 := funext fun n => by rw [k9.view, k8.view]
   repeat' first | ((with_reducible first | refine cs ?_ ?_ | refine ws ?_ ?_ | refine wd ?_ ?_ | refine wu ?_ ?_) <;> intro h <;> try simp only [h]) | simp only [↓wBA, tHv, convA, seval, pl4_35Hv, wH, wHl] | (with_reducible refine dP pl4_35Hv 62 (some 141) (by decide) (by kernel_rfl) ?_) | with_reducible refine And.intro ?_ ?_
   refine (arestD hP9 hw9 (by have := hb9.w; have := dq_ge P9; omega)).mono ?_
   rintro _ s10 ⟨Fd10, Fl10, D10, f10, hR10, _⟩
   rw [hd9, hv9, hpg9] at hR10
   have l10 := f10.len
   repeat' first | ((with_reducible first | refine cs ?_ ?_ | refine ws ?_ ?_ | refine wd ?_ ?_ | refine wu ?_ ?_) <;> intro h <;> try simp only [h]) | simp only [↓wBA, tHv, convA, seval, pl4_35Hv, wH, wHl] | (with_reducible refine dP pl4_35Hv 62 (some 141) (by decide) (by kernel_rfl) ?_) | with_reducible refine And.intro ?_ ?_
   refine (arestL hR10).mono ?_
   rintro _ s11 ⟨f11, hR11⟩
   have l11 := f11.len
   repeat' first | ((with_reducible first | refine cs ?_ ?_ | refine ws ?_ ?_ | refine wd ?_ ?_ | refine wu ?_ ?_) <;> intro h <;> try simp only [h]) | simp only [↓wBA, tHv, convA, seval, pl4_35Hv, wH, wHl] | (with_reducible refine dP pl4_35Hv 62 (some 141) (by decide) (by kernel_rfl) ?_) | with_reducible refine And.intro ?_ ?_
   refine (areopen hR11 3 (by omega) (by omega) (by have := hb9.c; have := ct_ge P9; omega)).mono ?_
   rintro _ s12 ⟨p12, l12', kh12, G12, P12, rfl, f12, hP12, g1, g2, g3, g4, g5, g6, g7, g8⟩
   have l12 := f12.len
   have hb12 : Bud P12 1000 := ⟨by have := hb9.c; have := ct_ge P9; omega, by omega, by omega⟩
   repeat' first | ((with_reducible first | refine cs ?_ ?_ | refine ws ?_ ?_ | refine wd ?_ ?_ | refine wu ?_ ?_) <;> intro h <;> try simp only [h]) | simp only [↓wBA, tHv, convA, seval, pl4_35Hv, wH, wHl] | ((with_reducible show ACalls _ _ _ _ _); refine (abBatch hP12).mono ?_; rintro _ s13 ⟨rfl, a13, h13⟩) | (with_reducible refine dP pl4_35Hv 62 (some 141) (by decide) (by kernel_rfl) ?_) | with_reducible refine And.intro ?_ ?_
   rw [g8] at h13
   have l13 := a13.len
   refine (ascan h13 (by rw [g1]; exact hh2) hm0 (hb12.mono (by omega)) (by omega)).mono ?_
   rintro _ s14 ⟨rfl, U14, P14, f14, h14, k14⟩
   rw [hL]
   have l14 := f14.len
   clear h14 h13 hP12 hR11 hR10 hP9 h8 h7 h2 h1 hin8
   have hlL : lenA cx 46 (lsV 3 (L.map entR)) = some L.length := by
    unfold lsV
    split
    ·rename_i e
     have : L = [] := by simpa using e
     subst this; rfl
    ·show (match cx.kind 46 with | some (.slice ..) => some (L.map entR).length | _ => none) = _
     rw [ck_46]; simp
   have bne : ((L.length : Int) != (L.length : Int)) = false := by simp
   repeat' first | ((with_reducible first | refine cs ?_ ?_ | refine ws ?_ ?_ | refine wd ?_ ?_ | refine wu ?_ ?_) <;> intro h <;> try simp only [h]) | simp only [↓wBA, tHv, convA, seval, pl4_35Hv, wH, wHl, hlL, bne] | (with_reducible refine dP pl4_35Hv 62 (some 141) (by decide) (by kernel_rfl) ?_) | with_reducible refine And.intro ?_ ?_
   refine awp_loopS (X := { i : Nat // i ≤ L.length }) (fun i => L.length - i.1) (fun i => [(19, intV .i64 (i.1 : Nat))]) [4, 135, 136, 137, 138, 139, 140, 141, 142, 143, 144, 145, 146, 147, 148, 149, 150, 151, 152, 153, 154, 155, 156, 157, 158, 159, 160, 161, 162, 163, 164, 165, 166, 167, 168, 169, 170, 171, 172, 173, 174, 175, 176, 177, 178, 179, 180, 181, 182, 183, 184, 185, 186, 187, 188, 189, 190, 191, 192, 193, 194, 195, 196, 197, 198, 199, 200, 201, 202] (fun i s => s14.length ≤ s.length) (⟨0, by omega⟩) ?_ ?_ ?_ ?_
   ·simp only [wHl, wHf]
   ·exact Nat.le_refl _
   ·rintro _ _ h; exact h
   ·intro y J4 q4 hI4
    simp only [wHl]
    obtain ⟨i4, hi4⟩ := y
    dsimp only at *
    by_cases hlt4 : i4 < L.length
    ·have e5 := dT hlt4
     obtain ⟨⟨n, k4, r4⟩, hb⟩ : ∃ b, L[i4]? = some b := ⟨L[i4], by simp⟩
     have hLne : L ≠ [] := fun e => by rw [e] at hlt4; simp at hlt4
     have hls : lsV 3 (L.map entR) = .p (.sl 3 (L.map entR)) := if_neg (by simpa using hLne)
     have hgb : (L.map entR)[i4]? = some [.v (.int .i64 (n : Nat)), .v (.int .i64 (k4 : Nat)), .sl 1 (encB r4)] := by simp [hb, entR]
     have hml : (L.map entR).length = L.length := by simp
     have u5 := nnI i4
     have u6 : ((i4 : Int) < (L.length : Int)) = True := eq_true (by omega)
     have hcy := convB_bx (.inl rfl : BX (.sl 1 (encB r4)) r4)
     have hbn := binStr_neq ⟨r4.toArray⟩
     have hLb := entH_len v2 ns1
     rw [hL] at hLb
     have hw4 := wI i4 (by omega)
     rcases Nat.eq_zero_or_pos i4 with h0 | h0
     ·have e6 : decide ((i4 : Int) > 0) = false := by simp only [gt_iff_lt, decide_eq_false_iff_not]; omega
      repeat' first | ((with_reducible first | refine cs ?_ ?_ | refine ws ?_ ?_ | refine wd ?_ ?_ | refine wu ?_ ?_) <;> intro h <;> try simp only [h]) | simp only [↓wBA, tHv, convA, seval, pl4_35Hv, wH, wHl, hlL, e5, hls, hml, hgb, u5, u6, hcy, hbn, e6, hw4, Int.toNat_natCast, bne_self_eq_false, beq_self_eq_true, Bool.and_self, Bool.not_true] | (with_reducible refine dP pl4_35Hv 62 (some 141) (by decide) (by kernel_rfl) ?_) | with_reducible refine And.intro ?_ ?_
      all_goals exact ⟨⟨i4 + 1, by omega⟩, by show L.length - (i4 + 1) < L.length - i4; omega, hI4, by simp only [wHl, wHf]⟩
     ·have e6 : decide ((i4 : Int) > 0) = true := by simp only [gt_iff_lt, decide_eq_true_eq]; omega
      obtain ⟨⟨n5, k5', r5⟩, hb5⟩ : ∃ b, L[i4 - 1]? = some b := ⟨L[i4 - 1], by simp⟩
      have hga : (L.map entR)[i4 - 1]? = some [.v (.int .i64 (n5 : Nat)), .v (.int .i64 (k5' : Nat)), .sl 1 (encB r5)] := by simp [hb5, entR]
      have w5 : IntKind.i64.wrap ((i4 : Int) - 1) = ((i4 - 1 : Nat) : Int) := by rw [wrap_i64 (by omega) (by omega)]; omega
      have u7 := nnI (i4 - 1)
      have u8 : (((i4 - 1 : Nat) : Int) < (L.length : Int)) = True := eq_true (by omega)
      by_cases hpe : n5 = n
      ·have hlt5 : k5' < k4 := hrise (i4 - 1) _ _ hb5 (by rw [Nat.sub_add_cancel h0]; exact hb) hpe
       have e7 : ((n : Int) == (n5 : Int)) = true := by rw [hpe]; simp
       have e8 : decide ((k4 : Int) ≤ (k5' : Int)) = false := by simp only [decide_eq_false_iff_not]; omega
       repeat' first | ((with_reducible first | refine cs ?_ ?_ | refine ws ?_ ?_ | refine wd ?_ ?_ | refine wu ?_ ?_) <;> intro h <;> try simp only [h]) | simp only [↓wBA, tHv, convA, seval, pl4_35Hv, wH, wHl, hlL, e5, hls, hml, hgb, u5, u6, hcy, hbn, e6, hw4, Int.toNat_natCast, bne_self_eq_false, beq_self_eq_true, Bool.and_self, Bool.not_true, hga, w5, u7, u8, e7, e8] | (with_reducible refine dP pl4_35Hv 62 (some 141) (by decide) (by kernel_rfl) ?_) | with_reducible refine And.intro ?_ ?_
       simp (maxSteps := 2000000) only [↓wBA, tHv, convA, seval, pl4_35Hv, wH, wHl, hlL, e5, hls, hml, hgb, u5, u6, hcy, hbn, e6, hw4, Int.toNat_natCast, bne_self_eq_false, beq_self_eq_true, Bool.and_self, Bool.not_true, hga, w5, u7, u8, e7, e8]
       all_goals exact ⟨⟨i4 + 1, by omega⟩, by show L.length - (i4 + 1) < L.length - i4; omega, hI4, by simp only [wHl, wHf]⟩
      ·have e7 : ((n : Int) == (n5 : Int)) = false := by simp; omega
       repeat' first | ((with_reducible first | refine cs ?_ ?_ | refine ws ?_ ?_ | refine wd ?_ ?_ | refine wu ?_ ?_) <;> intro h <;> try simp only [h]) | simp only [↓wBA, tHv, convA, seval, pl4_35Hv, wH, wHl, hlL, e5, hls, hml, hgb, u5, u6, hcy, hbn, e6, hw4, Int.toNat_natCast, bne_self_eq_false, beq_self_eq_true, Bool.and_self, Bool.not_true, hga, w5, u7, u8, e7] | (with_reducible refine dP pl4_35Hv 62 (some 141) (by decide) (by kernel_rfl) ?_) | with_reducible refine And.intro ?_ ?_
       all_goals exact ⟨⟨i4 + 1, by omega⟩, by show L.length - (i4 + 1) < L.length - i4; omega, hI4, by simp only [wHl, wHf]⟩
    ·have he4 : i4 = L.length := by omega
     subst he4
     have e5 := dF (i := L.length) (n := L.length) (by omega)
     repeat' first | ((with_reducible first | refine cs ?_ ?_ | refine ws ?_ ?_ | refine wd ?_ ?_ | refine wu ?_ ?_) <;> intro h <;> try simp only [h]) | simp only [↓wBA, tHv, convA, seval, pl4_35Hv, wH, wHl, hlL, e5] | (with_reducible refine dP pl4_35Hv 62 (some 141) (by decide) (by kernel_rfl) ?_) | with_reducible refine And.intro ?_ ?_
     all_goals refine ret_st ?_ (by first | exact Nat.le_refl _ | (simp only [List.length_set, List.length_append]; omega) | omega)
     all_goals simp only [resA.eq_1, resL.eq_1, resL.eq_2, resV.eq_1, resV.eq_2, ↓wBA, tHv, convA, seval, wH]
theorem lasts_law (x xg : PV) (v u : Value) (W : World) (hx : HasSh (.sl 24 [.sl 1 [.int .u8]]) x) (hr : PRep W (inH W) x v) (hxr : HasSh (.sl 1 [.int .u8]) xg) (hrr : PRep W (inH W) xg u) :
 Calls Try.prog 4 #[v, u] W fun e W' => e = .returned (.bool true) ∧ Below W.heap.size W W' := by
 obtain ⟨ys, hy⟩ := recs_shY hx
 obtain ⟨gs, rfl, h2⟩ := bytes_sh2 hxr
 exact law_calls2 (W := W) (vs := [v, u]) (aheapLasts x ys hy gs (by omega) []) (by
  simp only [ARepL]
  exact ⟨_, _, rfl, (by simp only [ARep]; exact hr), _, _, rfl, (by simp only [ARep]; exact hrr), rfl⟩)
end Go.Proofs.Ytlddiphjpmlhbaa
