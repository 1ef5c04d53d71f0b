/- cadastreref12: AND and OR. -/
import Derived.Test.YtpcblbbddccgpaaGreatDoorM28
import Derived.Test.YtpcblbbddccgpaaGreatDoorM30
set_option linter.unusedSimpArgs false
set_option linter.unusedVariables false
set_option linter.defProp false
set_option maxRecDepth 100000
set_option maxHeartbeats 32000000
namespace Go.Proofs.YtpcblbbddccgpaaGreatDoor
open Go.RowKit
open Nat renaming reduceBEq → ZA, reducePow → ZB, reduceAdd → ZC, reduceSub → ZD, reduceMul → ZE, reduceEqDiff → ZF, reduceLeDiff → ZG, reduceLT → ZH
open Int renaming reduceLT → ZI, reduceLE → ZJ, reduceToNat → ZK
def tEg := aa wX <| aa wbu <| aa T3 <| aa T4 <| aa T24 <| aa T25 <| aa T27 <| aa T30 T39
theorem eqV_eq {a b : Va} (h : eqV a b = true) : a = b := by
 obtain ⟨a1, a2, a3⟩ := a
 obtain ⟨b1, b2, b3⟩ := b
 simp only [eqV, decide_eq_true_eq] at h
 obtain ⟨h1, h2, h3⟩ := h
 rw [h1, h2, ba_ext h3]
theorem eqV_cells (a1 a2 b1 b2 : Int) (a3 b3 : ByteArray) : (a1 == b1 && ((a2 == b2) && ((a3.toList == b3.toList) && true))) = eqV (a1, a2, a3) (b1, b2, b3) := by
 rw [Bool.eq_iff_iff]; simp [eqV]
theorem ok_null {v : Va} (h : okV v = true) (h0 : v.1 = 0) : v = va0 := by
 obtain ⟨k, n, t⟩ := v
 simp only at h0; subst h0
 simp only [okV, if_true, Bool.and_eq_true, decide_eq_true_eq, beq_iff_eq] at h
 rw [h.1, ba_ext h.2]; rfl
theorem ok_bool {v : Va} (h : okV v = true) (h0 : v.1 = 2) : v = trV true ∨ v = trV false := by
 obtain ⟨k, n, t⟩ := v
 simp only at h0; subst h0
 simp only [okV, Int.reduceEq, if_true, if_false, Bool.and_eq_true, beq_iff_eq, fdiv2] at h
 obtain ⟨h1, h2⟩ := h
 rw [ba_ext h2]
 rcases h1 with rfl | rfl
 ·exact .inr rfl
 ·exact .inl rfl
theorem someV_no {v : Va} (h : someV v = false) : v.1 = 0 ∨ v.1 = 2 := by
 simp only [someV, decide_eq_false_iff_not] at h
 omega
def nulN (za zb : Bool) (i : Nat) : Bool := (decide (1 ≤ i) && za) || (decide (2 ≤ i) && zb)
theorem exL_two (x y : Ex) : exL [x, y] = [exC x, exC y] := rfl
theorem alogicR (row : List Va) (k vk vn : Int) (vs tb nm : ByteArray) (s : Int) (x y : Ex) (hk : k = 16 ∨ k = 17) (ihx : EvOK row x) (ihy : EvOK row y) (fx : fine (evalV row x)) (fy : fine (evalV row y)) (σ : St) : ACalls Tryz.prog 39 [exA (.mk k vk vn vs tb nm s [x, y]), .p (.sl 3 (enV row))] σ fun r st => st = σ ∧ r = .tup [vaA (evalV row (.mk k vk vn vs tb nm s [x, y])).1, intV .i64 (evalV row (.mk k vk vn vs tb nm s [x, y])).2] := by
 refine ACalls.pureF (R := fun r => r = .tup [vaA (evalV row (.mk k vk vn vs tb nm s [x, y])).1, intV .i64 (evalV row (.mk k vk vn vs tb nm s [x, y])).2]) ?_ rfl σ
 have hk1 : kidsV k = 2 := by rcases hk with rfl | rfl <;> rfl
 have hk2 : 16 ≤ k := by omega
 rw [evalV_log _ _ _ _ _ _ _ _ _ _ hk2, if_neg (by simp [hk1])]
 unfold EvOK at ihx ihy
 generalize evalV row x = q at *
 generalize evalV row y = p at *
 obtain ⟨⟨a1, a2, a3⟩, ea⟩ := q
 obtain ⟨⟨b1, b2, b3⟩, eb⟩ := p
 obtain ⟨x1, x2, x3, x4, x5, x6, x7, x8⟩ := x
 obtain ⟨y1, y2, y3, y4, y5, y6, y7, y8⟩ := y
 simp only [exA, exC, vaA, vaC, List.map_cons, List.map_nil] at ihx ihy
 have hT := atruthR (k == 17)
 have hT2 := atruthR (k == 16)
 have hk17 : decide (k = 17) = (k == 17) := rfl
 have hk1617 : (k == 16) = !(k == 17) := by rcases hk with rfl | rfl <;> rfl
 generalize hfin : (if ea ≠ 0 then ((va0, ea) : Va × Int) else match logA k (a1, a2, a3) 0 with
  | some r => clV r
  | none => if eb ≠ 0 then (va0, eb) else clV (logB k (a1, a2, a3) (b1, b2, b3) 0)) = fin at *
 have f1 : ea ≠ 0 → fin = (va0, ea) := fun h => by rw [← hfin, if_pos h]
 have f2 : ea = 0 → someV (a1, a2, a3) = true → fin = (va0, 33) := fun h h2 => by
  rw [← hfin, if_neg (by simp [h])]; simp [logA, h2, failV, clV]
 have f3 : ea = 0 → someV (a1, a2, a3) = false → eqV (a1, a2, a3) (trV (k == 17)) = true → fin = (trV (k == 17), 0) := fun h h2 h3 => by
  rw [← hfin, if_neg (by simp [h])]; simp [logA, h2, h3, hk17, clV]; exact eqV_eq h3
 have f4 : ea = 0 → someV (a1, a2, a3) = false → eqV (a1, a2, a3) (trV (k == 17)) = false → fin = if eb ≠ 0 then (va0, eb) else clV (logB k (a1, a2, a3) (b1, b2, b3) 0) := fun h h2 h3 => by
  rw [← hfin, if_neg (by simp [h])]; simp [logA, h2, h3, hk17]
 have f5 : ea = 0 → someV (a1, a2, a3) = false → eqV (a1, a2, a3) (trV (k == 17)) = false → eb = 0 → someV (b1, b2, b3) = true → fin = (va0, 33) := fun h h2 h3 h4 h5 => by
  rw [f4 h h2 h3, if_neg (by simp [h4])]; simp [logB, h5, failV, clV]
 have f6 : ea = 0 → someV (a1, a2, a3) = false → eqV (a1, a2, a3) (trV (k == 17)) = false → eb = 0 → someV (b1, b2, b3) = false → eqV (b1, b2, b3) (trV (k == 17)) = true → fin = (trV (k == 17), 0) := fun h h2 h3 h4 h5 h6 => by
  rw [f4 h h2 h3, if_neg (by simp [h4])]; simp [logB, h5, h6, hk17, clV]; exact eqV_eq h6
 have f7 : ea = 0 → someV (a1, a2, a3) = false → eqV (a1, a2, a3) (trV (k == 17)) = false → eb = 0 → someV (b1, b2, b3) = false → eqV (b1, b2, b3) (trV (k == 17)) = false → fin = if ((a1 == 0) || (b1 == 0)) = true then (va0, 0) else (trV (k == 16), 0) := fun h h2 h3 h4 h5 h6 => by
  have g1 := (fx h).1
  have g2 := (fy h4).1
  rw [f4 h h2 h3, if_neg (by simp [h4])]
  simp only [logB, h5, hk17, h6, Bool.false_eq_true, and_false, if_false, clV]
  by_cases z1 : a1 = 0
  ·have := ok_null g1 z1
   simp only at this
   rw [if_pos z1, this]; simp [z1]
  ·rw [if_neg z1]
   by_cases z2 : b1 = 0
   ·have := ok_null g2 z2
    simp only at this
    rw [this]; simp [z2]
   ·have hb := someV_no h5
    simp only [z2, false_or] at hb
    have z3 : (b1 == 0) = false := by simpa using z2
    have z4 : (a1 == 0) = false := by simpa using z1
    rw [z3, z4, hk1617]
    rcases ok_bool g2 hb with e | e
    ·simp only at e
     rw [e] at h6 ⊢
     cases hq : (k == 17) with
     | true => rw [hq] at h6; simp [eqV, trV] at h6
     | false => rfl
    ·simp only at e
     rw [e] at h6 ⊢
     cases hq : (k == 17) with
     | false => rw [hq] at h6; simp [eqV, trV] at h6
     | true => rfl
 clear hfin fx fy
 obtain ⟨za, hza⟩ : ∃ z, (a1 == 0) = z := ⟨_, rfl⟩
 obtain ⟨zb, hzb⟩ : ∃ z, (b1 == 0) = z := ⟨_, rfl⟩
 rw [hza, hzb] at f7
 generalize trV (k == 17) = st at *
 generalize trV (k == 16) = st2 at *
 obtain ⟨t1, t2, t3⟩ := st
 obtain ⟨r1, r2, r3⟩ := st2
 simp only [vaA, vaC, List.map_cons, List.map_nil] at hT hT2
 have ca := eqV_cells a1 a2 t1 t2 a3 t3
 have cb := eqV_cells b1 b2 t1 t2 b3 t3
 have c0 : ((0 : Nat) : Int) = 0 := rfl
 have c1 : ((1 : Nat) : Int) = 1 := rfl
 have c2 : ((2 : Nat) : Int) = 2 := rfl
 have w0 : IntKind.i64.wrap (0 + 1) = 1 := by decide
 have w1 : IntKind.i64.wrap (1 + 1) = 2 := by decide
 have d0 : decide ((0 : Int) < 2) = true := by decide
 have d1 : decide ((1 : Int) < 2) = true := by decide
 have d2 : decide ((2 : Int) < 2) = false := by decide
 have b0 : nulN za zb 0 = false := by simp [nulN]
 have b1' : nulN za zb 1 = za := by simp [nulN]
 have b2' : nulN za zb 2 = (za || zb) := by simp [nulN]
 refine acalls_of cx_ok dr_ok Tryz.func39 (by kernel_rfl) rfl (nt := 56) (rs := [.cell 4 24, .tmp 5]) rfl rfl ?_
 simp only [exA, exC, exL_two, List.map_cons, List.map_nil]
 repeat' first | ((with_reducible first | refine cs ?_ ?_ | refine ws ?_ ?_) <;> intro h <;> try simp only [h]) | simp only [↓wBA, tEg, convA, ZA, reduceIte, reduceCtorEq, ZB, ZC, ZD, ZE, ZF, ZG, ZH, ZI, ZJ, ZK] | ((with_reducible show ACalls _ _ _ _ _); refine (hT _).eq ?_)
 refine awp_loopN (2) (fun i => [(7, boolV (nulN za zb i)), (8, intV .i64 (i : Nat)), (5, .any), (9, .any), (10, .any), (15, .any), (16, .any), (17, .any), (18, .any), (19, .any), (20, .any), (21, .any), (22, .any), (23, .any), (24, .any), (25, .any), (26, .any), (27, .any), (28, .any), (29, .any), (30, .any), (31, .any), (32, .any), (33, .any), (34, .any), (35, .any), (36, .any), (37, .any), (38, .any), (39, .any), (40, .any), (41, .any), (42, .any), (43, .any), (44, .any), (45, .any), (46, .any), (47, .any), (48, .any), (49, .any), (50, .any), (51, .any)]) (fun i => []) (fun i => (1 ≤ i → ea = 0 ∧ someV (a1, a2, a3) = false ∧ eqV (a1, a2, a3) (t1, t2, t3) = false) ∧ (2 ≤ i → eb = 0 ∧ someV (b1, b2, b3) = false ∧ eqV (b1, b2, b3) (t1, t2, t3) = false)) ?_ ?_ ?_
 ·exact ⟨fun h => by omega, fun h => by omega⟩
 ·skip
  simp only [wR, Nat.reduceAdd, Nat.reduceLT, reduceIte]
  simp [wW, b0, nulN]
 ·intro i hi hI
  simp only [wR, Nat.reduceAdd, Nat.reduceLT, reduceIte]
  have h3 : i = 0 ∨ i = 1 ∨ i = 2 := by omega
  rcases h3 with rfl | rfl | rfl
  ·skip
   by_cases e0 : ea = 0
   ·subst e0
    rcases (show someV (a1, a2, a3) = false ∨ someV (a1, a2, a3) = true by cases someV (a1, a2, a3) <;> simp) with hs | hs
    ·rcases someV_no hs with q0 | q2
     ·have t0 : (a1 != 0) = false := by simp at q0; simp [q0]
      rcases (show eqV (a1, a2, a3) (t1, t2, t3) = false ∨ eqV (a1, a2, a3) (t1, t2, t3) = true by cases eqV (a1, a2, a3) (t1, t2, t3) <;> simp) with hq | hq
      ·skip
       repeat' first | ((with_reducible first | refine cs ?_ ?_ | refine ws ?_ ?_) <;> intro h <;> try simp only [h]) | simp only [↓wBA, tEg, convA, ZA, reduceIte, reduceCtorEq, ZB, ZC, ZD, ZE, ZF, ZG, ZH, ZI, ZJ, ZK, c0, c1, c2, d0, w0, bne_self_eq_false, t0, ca, hq, b0, hza] | ((with_reducible show ACalls _ _ _ _ _); refine (ihx _).eq ?_)
       refine ⟨⟨0 + 1, by omega, ?_⟩, by show 2 - (0 + 1) < 2 - 0; omega, ?_⟩
       ·exact ⟨fun _ => ⟨rfl, hs, hq⟩, fun h => by omega⟩
       ·skip
        simp [wW, hza, b1', c1]
      ·rw [f3 rfl hs hq]
       repeat' first | ((with_reducible first | refine cs ?_ ?_ | refine ws ?_ ?_) <;> intro h <;> try simp only [h]) | simp only [↓wBA, tEg, convA, ZA, reduceIte, reduceCtorEq, ZB, ZC, ZD, ZE, ZF, ZG, ZH, ZI, ZJ, ZK, c0, c1, c2, d0, w0, bne_self_eq_false, t0, ca, hq, b0, hza] | ((with_reducible show ACalls _ _ _ _ _); refine (ihx _).eq ?_)
       all_goals refine ret_is (a := _) ?_ rfl rfl
       all_goals simp only [↓wBA, tEg, convA, ZA, reduceIte, reduceCtorEq, ZB, ZC, ZD, ZE, ZF, ZG, ZH, ZI, ZJ, ZK]
       all_goals simp_all [wS, vaA, vaC, va0, emp]
     ·have t0 : (a1 != 0) = true := by simp at q2; simp [q2]
      have t2' : (a1 != 2) = false := by simp at q2; simp [q2]
      rcases (show eqV (a1, a2, a3) (t1, t2, t3) = false ∨ eqV (a1, a2, a3) (t1, t2, t3) = true by cases eqV (a1, a2, a3) (t1, t2, t3) <;> simp) with hq | hq
      ·skip
       repeat' first | ((with_reducible first | refine cs ?_ ?_ | refine ws ?_ ?_) <;> intro h <;> try simp only [h]) | simp only [↓wBA, tEg, convA, ZA, reduceIte, reduceCtorEq, ZB, ZC, ZD, ZE, ZF, ZG, ZH, ZI, ZJ, ZK, c0, c1, c2, d0, w0, bne_self_eq_false, t0, t2', ca, hq, b0, hza] | ((with_reducible show ACalls _ _ _ _ _); refine (ihx _).eq ?_)
       refine ⟨⟨0 + 1, by omega, ?_⟩, by show 2 - (0 + 1) < 2 - 0; omega, ?_⟩
       ·exact ⟨fun _ => ⟨rfl, hs, hq⟩, fun h => by omega⟩
       ·skip
        simp [wW, hza, b1', c1]
      ·rw [f3 rfl hs hq]
       repeat' first | ((with_reducible first | refine cs ?_ ?_ | refine ws ?_ ?_) <;> intro h <;> try simp only [h]) | simp only [↓wBA, tEg, convA, ZA, reduceIte, reduceCtorEq, ZB, ZC, ZD, ZE, ZF, ZG, ZH, ZI, ZJ, ZK, c0, c1, c2, d0, w0, bne_self_eq_false, t0, t2', ca, hq, b0, hza] | ((with_reducible show ACalls _ _ _ _ _); refine (ihx _).eq ?_)
       all_goals refine ret_is (a := _) ?_ rfl rfl
       all_goals simp only [↓wBA, tEg, convA, ZA, reduceIte, reduceCtorEq, ZB, ZC, ZD, ZE, ZF, ZG, ZH, ZI, ZJ, ZK]
       all_goals simp_all [wS, vaA, vaC, va0, emp]
    ·have t0 : (a1 != 0) = true := by simp [someV] at hs; simp [hs]
     have t2' : (a1 != 2) = true := by simp [someV] at hs; simp [hs]
     rw [f2 rfl hs]
     repeat' first | ((with_reducible first | refine cs ?_ ?_ | refine ws ?_ ?_) <;> intro h <;> try simp only [h]) | simp only [↓wBA, tEg, convA, ZA, reduceIte, reduceCtorEq, ZB, ZC, ZD, ZE, ZF, ZG, ZH, ZI, ZJ, ZK, c0, c1, c2, d0, w0, bne_self_eq_false, t0, t2', b0] | ((with_reducible show ACalls _ _ _ _ _); refine (ihx _).eq ?_)
     all_goals refine ret_is (a := _) ?_ rfl rfl
     all_goals simp only [↓wBA, tEg, convA, ZA, reduceIte, reduceCtorEq, ZB, ZC, ZD, ZE, ZF, ZG, ZH, ZI, ZJ, ZK]
     all_goals simp_all [wS, vaA, vaC, va0, emp]
   ·have e0' : (ea != 0) = true := by simpa using e0
    rw [f1 e0]
    repeat' first | ((with_reducible first | refine cs ?_ ?_ | refine ws ?_ ?_) <;> intro h <;> try simp only [h]) | simp only [↓wBA, tEg, convA, ZA, reduceIte, reduceCtorEq, ZB, ZC, ZD, ZE, ZF, ZG, ZH, ZI, ZJ, ZK, c0, c1, c2, d0, w0, e0', b0] | ((with_reducible show ACalls _ _ _ _ _); refine (ihx _).eq ?_)
    all_goals refine ret_is (a := _) ?_ rfl rfl
    all_goals simp only [↓wBA, tEg, convA, ZA, reduceIte, reduceCtorEq, ZB, ZC, ZD, ZE, ZF, ZG, ZH, ZI, ZJ, ZK]
    all_goals simp_all [wS, vaA, vaC, va0, emp]
  ·skip
   obtain ⟨rfl, ha1, ha2⟩ := hI.1 (by omega)
   by_cases e0 : eb = 0
   ·subst e0
    rcases (show someV (b1, b2, b3) = false ∨ someV (b1, b2, b3) = true by cases someV (b1, b2, b3) <;> simp) with hs | hs
    ·rcases someV_no hs with q0 | q2
     ·have t0 : (b1 != 0) = false := by simp at q0; simp [q0]
      rcases (show eqV (b1, b2, b3) (t1, t2, t3) = false ∨ eqV (b1, b2, b3) (t1, t2, t3) = true by cases eqV (b1, b2, b3) (t1, t2, t3) <;> simp) with hq | hq
      ·skip
       cases za
       ·skip
        repeat' first | ((with_reducible first | refine cs ?_ ?_ | refine ws ?_ ?_) <;> intro h <;> try simp only [h]) | simp only [↓wBA, tEg, convA, ZA, reduceIte, reduceCtorEq, ZB, ZC, ZD, ZE, ZF, ZG, ZH, ZI, ZJ, ZK, c0, c1, c2, d1, w1, bne_self_eq_false, t0, cb, hq, b1', hzb] | ((with_reducible show ACalls _ _ _ _ _); refine (ihy _).eq ?_)
        refine ⟨⟨1 + 1, by omega, ?_⟩, by show 2 - (1 + 1) < 2 - 1; omega, ?_⟩
        ·exact ⟨fun _ => hI.1 (by omega), fun _ => ⟨rfl, hs, hq⟩⟩
        ·skip
         simp [wW, hzb, b2', c2]
       ·skip
        repeat' first | ((with_reducible first | refine cs ?_ ?_ | refine ws ?_ ?_) <;> intro h <;> try simp only [h]) | simp only [↓wBA, tEg, convA, ZA, reduceIte, reduceCtorEq, ZB, ZC, ZD, ZE, ZF, ZG, ZH, ZI, ZJ, ZK, c0, c1, c2, d1, w1, bne_self_eq_false, t0, cb, hq, b1', hzb] | ((with_reducible show ACalls _ _ _ _ _); refine (ihy _).eq ?_)
        refine ⟨⟨1 + 1, by omega, ?_⟩, by show 2 - (1 + 1) < 2 - 1; omega, ?_⟩
        ·exact ⟨fun _ => hI.1 (by omega), fun _ => ⟨rfl, hs, hq⟩⟩
        ·skip
         simp [wW, hzb, b2', c2]
      ·rw [f6 rfl ha1 ha2 rfl hs hq]
       repeat' first | ((with_reducible first | refine cs ?_ ?_ | refine ws ?_ ?_) <;> intro h <;> try simp only [h]) | simp only [↓wBA, tEg, convA, ZA, reduceIte, reduceCtorEq, ZB, ZC, ZD, ZE, ZF, ZG, ZH, ZI, ZJ, ZK, c0, c1, c2, d1, w1, bne_self_eq_false, t0, cb, hq, b1', hzb] | ((with_reducible show ACalls _ _ _ _ _); refine (ihy _).eq ?_)
       all_goals refine ret_is (a := _) ?_ rfl rfl
       all_goals simp only [↓wBA, tEg, convA, ZA, reduceIte, reduceCtorEq, ZB, ZC, ZD, ZE, ZF, ZG, ZH, ZI, ZJ, ZK]
       all_goals simp_all [wS, vaA, vaC, va0, emp]
     ·have t0 : (b1 != 0) = true := by simp at q2; simp [q2]
      have t2' : (b1 != 2) = false := by simp at q2; simp [q2]
      rcases (show eqV (b1, b2, b3) (t1, t2, t3) = false ∨ eqV (b1, b2, b3) (t1, t2, t3) = true by cases eqV (b1, b2, b3) (t1, t2, t3) <;> simp) with hq | hq
      ·skip
       cases za
       ·skip
        repeat' first | ((with_reducible first | refine cs ?_ ?_ | refine ws ?_ ?_) <;> intro h <;> try simp only [h]) | simp only [↓wBA, tEg, convA, ZA, reduceIte, reduceCtorEq, ZB, ZC, ZD, ZE, ZF, ZG, ZH, ZI, ZJ, ZK, c0, c1, c2, d1, w1, bne_self_eq_false, t0, t2', cb, hq, b1', hzb] | ((with_reducible show ACalls _ _ _ _ _); refine (ihy _).eq ?_)
        refine ⟨⟨1 + 1, by omega, ?_⟩, by show 2 - (1 + 1) < 2 - 1; omega, ?_⟩
        ·exact ⟨fun _ => hI.1 (by omega), fun _ => ⟨rfl, hs, hq⟩⟩
        ·skip
         simp [wW, hzb, b2', c2]
       ·skip
        repeat' first | ((with_reducible first | refine cs ?_ ?_ | refine ws ?_ ?_) <;> intro h <;> try simp only [h]) | simp only [↓wBA, tEg, convA, ZA, reduceIte, reduceCtorEq, ZB, ZC, ZD, ZE, ZF, ZG, ZH, ZI, ZJ, ZK, c0, c1, c2, d1, w1, bne_self_eq_false, t0, t2', cb, hq, b1', hzb] | ((with_reducible show ACalls _ _ _ _ _); refine (ihy _).eq ?_)
        refine ⟨⟨1 + 1, by omega, ?_⟩, by show 2 - (1 + 1) < 2 - 1; omega, ?_⟩
        ·exact ⟨fun _ => hI.1 (by omega), fun _ => ⟨rfl, hs, hq⟩⟩
        ·skip
         simp [wW, hzb, b2', c2]
      ·rw [f6 rfl ha1 ha2 rfl hs hq]
       repeat' first | ((with_reducible first | refine cs ?_ ?_ | refine ws ?_ ?_) <;> intro h <;> try simp only [h]) | simp only [↓wBA, tEg, convA, ZA, reduceIte, reduceCtorEq, ZB, ZC, ZD, ZE, ZF, ZG, ZH, ZI, ZJ, ZK, c0, c1, c2, d1, w1, bne_self_eq_false, t0, t2', cb, hq, b1', hzb] | ((with_reducible show ACalls _ _ _ _ _); refine (ihy _).eq ?_)
       all_goals refine ret_is (a := _) ?_ rfl rfl
       all_goals simp only [↓wBA, tEg, convA, ZA, reduceIte, reduceCtorEq, ZB, ZC, ZD, ZE, ZF, ZG, ZH, ZI, ZJ, ZK]
       all_goals simp_all [wS, vaA, vaC, va0, emp]
    ·have t0 : (b1 != 0) = true := by simp [someV] at hs; simp [hs]
     have t2' : (b1 != 2) = true := by simp [someV] at hs; simp [hs]
     rw [f5 rfl ha1 ha2 rfl hs]
     repeat' first | ((with_reducible first | refine cs ?_ ?_ | refine ws ?_ ?_) <;> intro h <;> try simp only [h]) | simp only [↓wBA, tEg, convA, ZA, reduceIte, reduceCtorEq, ZB, ZC, ZD, ZE, ZF, ZG, ZH, ZI, ZJ, ZK, c0, c1, c2, d1, w1, bne_self_eq_false, t0, t2', b1'] | ((with_reducible show ACalls _ _ _ _ _); refine (ihy _).eq ?_)
     all_goals refine ret_is (a := _) ?_ rfl rfl
     all_goals simp only [↓wBA, tEg, convA, ZA, reduceIte, reduceCtorEq, ZB, ZC, ZD, ZE, ZF, ZG, ZH, ZI, ZJ, ZK]
     all_goals simp_all [wS, vaA, vaC, va0, emp]
   ·have e0' : (eb != 0) = true := by simpa using e0
    rw [f4 rfl ha1 ha2, if_pos e0]
    repeat' first | ((with_reducible first | refine cs ?_ ?_ | refine ws ?_ ?_) <;> intro h <;> try simp only [h]) | simp only [↓wBA, tEg, convA, ZA, reduceIte, reduceCtorEq, ZB, ZC, ZD, ZE, ZF, ZG, ZH, ZI, ZJ, ZK, c0, c1, c2, d1, w1, e0', b1'] | ((with_reducible show ACalls _ _ _ _ _); refine (ihy _).eq ?_)
    all_goals refine ret_is (a := _) ?_ rfl rfl
    all_goals simp only [↓wBA, tEg, convA, ZA, reduceIte, reduceCtorEq, ZB, ZC, ZD, ZE, ZF, ZG, ZH, ZI, ZJ, ZK]
    all_goals simp_all [wS, vaA, vaC, va0, emp]
  ·obtain ⟨rfl, ha1, ha2⟩ := hI.1 (by omega)
   obtain ⟨rfl, hb1, hb2⟩ := hI.2 (by omega)
   rw [f7 rfl ha1 ha2 rfl hb1 hb2]
   cases hzz : (za || zb)
   ·simp only [Bool.false_eq_true, if_false]
    repeat' first | ((with_reducible first | refine cs ?_ ?_ | refine ws ?_ ?_) <;> intro h <;> try simp only [h]) | simp only [↓wBA, tEg, convA, ZA, reduceIte, reduceCtorEq, ZB, ZC, ZD, ZE, ZF, ZG, ZH, ZI, ZJ, ZK, c0, c1, c2, d2, b2', hzz] | ((with_reducible show ACalls _ _ _ _ _); refine (hT2 _).eq ?_)
    all_goals refine ret_is (a := _) ?_ rfl rfl
    all_goals simp only [↓wBA, tEg, convA, ZA, reduceIte, reduceCtorEq, ZB, ZC, ZD, ZE, ZF, ZG, ZH, ZI, ZJ, ZK]
    all_goals simp_all [wS, vaA, vaC, va0, emp]
   ·simp only [if_true]
    repeat' first | ((with_reducible first | refine cs ?_ ?_ | refine ws ?_ ?_) <;> intro h <;> try simp only [h]) | simp only [↓wBA, tEg, convA, ZA, reduceIte, reduceCtorEq, ZB, ZC, ZD, ZE, ZF, ZG, ZH, ZI, ZJ, ZK, c0, c1, c2, d2, b2', hzz]
    all_goals refine ret_is (a := _) ?_ rfl rfl
    all_goals simp only [↓wBA, tEg, convA, ZA, reduceIte, reduceCtorEq, ZB, ZC, ZD, ZE, ZF, ZG, ZH, ZI, ZJ, ZK]
    all_goals simp_all [wS, vaA, vaC, va0, emp]
end Go.Proofs.YtpcblbbddccgpaaGreatDoor
