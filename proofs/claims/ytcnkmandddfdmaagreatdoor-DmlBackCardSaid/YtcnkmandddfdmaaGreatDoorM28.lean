/- The reader's expressions, told. -/
import Derived.Test.YtcnkmandddfdmaaGreatDoorM27
set_option linter.unusedSimpArgs false
set_option linter.unusedVariables false
set_option linter.defProp false
set_option maxRecDepth 100000
set_option maxHeartbeats 32000000
namespace Go.Proofs.YtcnkmandddfdmaaGreatDoor
open Go.RowKit
def tGe := aa wX <| aa wbu <| aa T3 <| aa T4 <| aa T9 <| aa T33 <| aa T67 <| aa T69 T78
theorem expF_of (ts : List Tok) (hts : ts.length ≤ 2048) (n : Int) (q : Rs) (hk : q.1 ≤ ts.length) (m : Nat) (hm : 2 * (ts.length - q.1) + 1 ≤ m)
 (hF : OCalls (rdS ts) 84 (fun t => [.mp t 3 0 0]) q fun r s => r = exA (pgF ts m (.fac q)).1 ∧ s = (pgF ts m (.fac q)).2)
 (hE : ∀ (g : Nat) (n' : Int) (q' : Rs), q.1 < q'.1 → q'.1 ≤ ts.length → 2 * (ts.length - q'.1) + 2 ≤ g → OCalls (rdS ts) 56 (fun t => [.mp t 3 0 0, intV .i64 n']) q' fun r s => r = exA (pgF ts g (.exp n' q')).1 ∧ s = (pgF ts g (.exp n' q')).2) :
 OCalls (rdS ts) 56 (fun t => [.mp t 3 0 0, intV .i64 n]) q fun r s => r = exA (expB ts (pgF ts m) n q).1 ∧ s = (expB ts (pgF ts m) n q).2 := by
 refine OCalls.of (rdP ts) (fun t => rfl) rfl ?_
 have hs := arwF wNOT ts hts q
 have hfb : expB ts (pgF ts m) n q = expB ts (pgF ts m) n q := rfl
 conv at hfb => rhs; unfold expB
 by_cases h3 : n < 3
 ·have dn : decide (n < 3) = true := by simp; omega
  by_cases hN : isF ts 1 wNOT q = true
  ·rw [if_pos ⟨h3, hN⟩] at hfb
   have hlt := (isF_in (by decide) hN).2
   rw [hN, psF_pos hN] at hs
   have he := hE m 2 q.next (Nat.lt_succ_self _) hlt (by show 2 * (ts.length - (q.1 + 1)) + 2 ≤ m; omega)
   have hfe := pgF_fwd ts m (.exp 2 q.next) (by show 2 * (ts.length - (q.1 + 1)) + 2 ≤ m; omega) hlt
   obtain ⟨⟨⟨kd, vk, vn, vs, tb, nm, sl, kids⟩, ⟨k2, b2⟩⟩, hr⟩ : ∃ r, pgF ts m (.exp 2 q.next) = r := ⟨_, rfl⟩
   rw [hr] at he hfb hfe
   simp only at hfb
   obtain ⟨fin, hfin⟩ : ∃ r, pgF ts m (.lop n (kdE 4 [.mk kd vk vn vs tb nm sl kids]) true (k2, b2)) = r := ⟨_, rfl⟩
   rw [hfin] at hfb
   rw [hfb]
   clear hfb hr
   obtain ⟨k0, b0⟩ := q
   have hf2a : k0 ≤ k2 := Nat.le_of_succ_le hfe.1
   have hm1 : 2 * (ts.length - k0) + 1 ≤ m := hm
   have hm2 : 2 * (ts.length - k2) + 1 ≤ m := by omega
   have hf2b : k2 ≤ ts.length := hfe.2.1
   simp only at hk hm hE
   simp only [wNOT, Rs.next, intV] at hs he
   refine acalls_of cx_ok dr_ok Tryz.func56 (by kernel_rfl) rfl (nt := 90) (rs := [.cell 4 78]) rfl rfl ?_
   simp only [rdS, rdO]
   repeat' first | ((with_reducible first | refine cs ?_ ?_ | refine ws ?_ ?_) <;> intro h <;> try simp only [h]) | simp only [↓wBA, tGe, convA, seval, dn] | ((with_reducible show ACalls _ _ _ _ _); first | (refine (hs _ 0 rfl).mono ?_; rintro _ _ ⟨_, ⟨rfl, rfl⟩, rfl⟩; simp only [rdS, rdO, exA, exC, List.map_cons, List.map_nil]) | (refine (he _ 0 rfl).mono ?_; rintro _ _ ⟨_, ⟨rfl, rfl⟩, rfl⟩; simp only [rdS, rdO, exA, exC, List.map_cons, List.map_nil]))
   refine awp_loopG (X := { y : Nat × Ex × Bool × Rs // k0 ≤ y.2.2.2.1 ∧ y.2.2.2.1 ≤ ts.length ∧ 2 * (ts.length - y.2.2.2.1) + 1 ≤ y.1 ∧ pgF ts y.1 (.lop n y.2.1 y.2.2.1 y.2.2.2) = fin }) (fun x => ts.length - x.1.2.2.2.1) (fun x => [(6, boolV x.1.2.2.1), (7, .any), (8, .any), (9, .any), (10, .any), (24, .any), (25, .any), (26, .any), (27, .any), (28, .any), (29, .any), (30, .any), (31, .any), (32, .any), (33, .any), (34, .any), (35, .any), (36, .any), (37, .any), (38, .any), (39, .any), (40, .any), (41, .any), (42, .any), (43, .any), (44, .any), (45, .any), (46, .any), (47, .any), (48, .any), (49, .any), (50, .any), (51, .any), (52, .any), (53, .any), (54, .any), (55, .any), (56, .any), (57, .any), (58, .any), (59, .any), (60, .any), (61, .any), (62, .any), (63, .any), (64, .any), (65, .any), (66, .any), (67, .any), (68, .any), (69, .any), (70, .any), (71, .any), (72, .any), (73, .any), (74, .any), (75, .any), (76, .any), (77, .any), (78, .any), (79, .any), (80, .any), (81, .any), (82, .any), (83, .any), (84, .any), (85, .any), (86, .any), (87, .any), (88, .any), (89, .any), (90, .any)]) (fun x => [some (rdS ts x.1.2.2.2), some (.row 8 [[.p (.v (.int .i64 0)), .p (.v (.int .i64 0)), .p (.v (.int .i64 0)), .p (.v (.string ⟨#[]⟩)), .p (.v (.string ⟨#[]⟩)), .p (.v (.string ⟨#[]⟩)), .p (.v (.int .i64 0)), .p (.v (.slice none 0 0))]]), some (.row 8 [(exC x.1.2.1).map .p]), none]) (⟨(m, kdE 4 [.mk kd vk vn vs tb nm sl kids], true, (k2, b2)), hf2a, hf2b, hm2, hfin⟩) ?_ ?_ ?_
   ·intro x; simp
   ·skip
    simp only [wR, Nat.reduceAdd, Nat.reduceLT, reduceIte]
    simp [wW, exC, exL, rdS, rdO, kdE, emp]
   ·intro x
    simp only [wR, Nat.reduceAdd, Nat.reduceLT, reduceIte]
    obtain ⟨⟨g, ⟨kd, vk, vn, vs, tb, nm, sl, kids⟩, c, q1⟩, hq0, hq1, hq2, hI⟩ := x
    simp only at hq0 hq1 hq2 hI
    obtain ⟨g, rfl⟩ : ∃ g0, g = g0 + 1 := ⟨g - 1, by omega⟩
    simp only [pgF] at hI
    simp only [exC, rdS, rdO, List.map_cons, List.map_nil]
    have hbn := abnF ts q1
    have hbi := @bnF_in ts q1
    have hbg := bnF_ge ts q1
    obtain ⟨k1, b1⟩ := q1
    simp only at hq0 hq1 hq2
    cases b1
    ·skip
     unfold lopB at hI
     rw [if_neg (by simp)] at hI
     obtain ⟨⟨r1, r2⟩, hr⟩ : ∃ r, bnF ts (k1, false) = r := ⟨_, rfl⟩
     rw [hr] at hbn hI hbi hbg
     simp only at hbn hI hbi hbg
     by_cases h1 : r1 = 0
     ·subst h1
      rw [if_neg (by omega)] at hI
      have d1 : decide ((0 : Int) > 0) = false := rfl
      have d0 : ((0 : Int) == 0) = true := rfl
      by_cases h4 : n < 4
      ·have d4 : decide (n < 4) = true := by simp [h4]
       cases c
       ·have his := arwF wIS ts hts (k1, false)
        by_cases hIS : isF ts 1 wIS (k1, false) = true
        ·rw [if_pos ⟨rfl, h4, rfl, hIS⟩] at hI
         have hlt := (isF_in (by decide) hIS).2
         simp only at hlt
         rw [hIS, psF_pos hIS] at his
         have hno := arwF wNOT ts hts (Rs.next (k1, false))
         have hfp : Fwd ts (Rs.next (k1, false)) (psF ts 1 wNOT (Rs.next (k1, false))) := .ps (by decide) _ hlt
         obtain ⟨v, hv⟩ : ∃ v, isF ts 1 wNOT (Rs.next (k1, false)) = v := ⟨_, rfl⟩
         obtain ⟨q3, hq3⟩ : ∃ v, psF ts 1 wNOT (Rs.next (k1, false)) = v := ⟨_, rfl⟩
         rw [hv, hq3] at hno
         rw [hv, hq3] at hI
         rw [hq3] at hfp
         have hwn := awnF 1 (by decide) wNULL ts hts q3
         have hfw : Fwd ts q3 (wnF ts 1 wNULL q3) := .wn (by decide) _ hfp.2.1
         obtain ⟨⟨k4, b4⟩, hq4⟩ : ∃ v, wnF ts 1 wNULL q3 = v := ⟨_, rfl⟩
         rw [hq4] at hwn hI hfw
         have hk4 : k1 + 1 ≤ k4 := Nat.le_trans hfp.1 hfw.1
         have hk4b : k4 ≤ ts.length := hfw.2.1
         obtain ⟨k3, b3⟩ := q3
         simp only [Rs.next, wIS, wNOT, wNULL] at his hno hwn
         cases v
         ·simp only [Bool.false_eq_true, if_false, if_true] at hI
          repeat' first | ((with_reducible first | refine cs ?_ ?_ | refine ws ?_ ?_) <;> intro h <;> try simp only [h]) | simp only [↓wBA, tGe, convA, seval, d1, d0, d4] | ((with_reducible show ACalls _ _ _ _ _); first | (refine (hbn _ 0 rfl).mono ?_; rintro _ _ ⟨_, ⟨rfl, rfl⟩, rfl⟩; simp only [rdS, rdO, exA, exC, List.map_cons, List.map_nil]) | (refine (his _ 0 rfl).mono ?_; rintro _ _ ⟨_, ⟨rfl, rfl⟩, rfl⟩; simp only [rdS, rdO, exA, exC, List.map_cons, List.map_nil]) | (refine (hno _ 0 rfl).mono ?_; rintro _ _ ⟨_, ⟨rfl, rfl⟩, rfl⟩; simp only [rdS, rdO, exA, exC, List.map_cons, List.map_nil]) | (refine (hwn _ 0 rfl).mono ?_; rintro _ _ ⟨_, ⟨rfl, rfl⟩, rfl⟩; simp only [rdS, rdO, exA, exC, List.map_cons, List.map_nil]))
          refine ⟨⟨(g, kdE 18 [.mk kd vk vn vs tb nm sl kids], true, (k4, b4)), by show k0 ≤ k4; omega, hk4b, by show 2 * (ts.length - k4) + 1 ≤ g; omega, hI⟩, by show ts.length - k4 < ts.length - k1; omega, ?_⟩
          simp only [wR, Nat.reduceAdd, Nat.reduceLT, reduceIte]
          simp [wW, exC, exL, rdS, rdO, kdE, emp]
         ·simp only [Bool.false_eq_true, if_false, if_true] at hI
          repeat' first | ((with_reducible first | refine cs ?_ ?_ | refine ws ?_ ?_) <;> intro h <;> try simp only [h]) | simp only [↓wBA, tGe, convA, seval, d1, d0, d4] | ((with_reducible show ACalls _ _ _ _ _); first | (refine (hbn _ 0 rfl).mono ?_; rintro _ _ ⟨_, ⟨rfl, rfl⟩, rfl⟩; simp only [rdS, rdO, exA, exC, List.map_cons, List.map_nil]) | (refine (his _ 0 rfl).mono ?_; rintro _ _ ⟨_, ⟨rfl, rfl⟩, rfl⟩; simp only [rdS, rdO, exA, exC, List.map_cons, List.map_nil]) | (refine (hno _ 0 rfl).mono ?_; rintro _ _ ⟨_, ⟨rfl, rfl⟩, rfl⟩; simp only [rdS, rdO, exA, exC, List.map_cons, List.map_nil]) | (refine (hwn _ 0 rfl).mono ?_; rintro _ _ ⟨_, ⟨rfl, rfl⟩, rfl⟩; simp only [rdS, rdO, exA, exC, List.map_cons, List.map_nil]))
          refine ⟨⟨(g, kdE 19 [.mk kd vk vn vs tb nm sl kids], true, (k4, b4)), by show k0 ≤ k4; omega, hk4b, by show 2 * (ts.length - k4) + 1 ≤ g; omega, hI⟩, by show ts.length - k4 < ts.length - k1; omega, ?_⟩
          simp only [wR, Nat.reduceAdd, Nat.reduceLT, reduceIte]
          simp [wW, exC, exL, rdS, rdO, kdE, emp]
        ·have hIS0 : isF ts 1 wIS (k1, false) = false := by simpa using hIS
         rw [hIS0, psF_neg hIS0] at his
         simp only [wIS] at his
         rw [if_neg (fun h => hIS h.2.2.2)] at hI
         repeat' first | ((with_reducible first | refine cs ?_ ?_ | refine ws ?_ ?_) <;> intro h <;> try simp only [h]) | simp only [↓wBA, tGe, convA, seval, d1, d0, d4] | ((with_reducible show ACalls _ _ _ _ _); first | (refine (hbn _ 0 rfl).mono ?_; rintro _ _ ⟨_, ⟨rfl, rfl⟩, rfl⟩; simp only [rdS, rdO, exA, exC, List.map_cons, List.map_nil]) | (refine (his _ 0 rfl).mono ?_; rintro _ _ ⟨_, ⟨rfl, rfl⟩, rfl⟩; simp only [rdS, rdO, exA, exC, List.map_cons, List.map_nil]))
         all_goals rw [← hI]
         all_goals clear hI
         all_goals refine ret_obI (a := _) (b := _) (rdP ts _) ?_ rfl rfl
         all_goals simp only [↓wBA, tGe, convA, seval]
         all_goals simp_all [wS, rdS, rdO, exA, exC, exL, ex0, lfE, kdE, emp, Rs.next]
       ·rw [if_neg (fun h => by simp at h)] at hI
        repeat' first | ((with_reducible first | refine cs ?_ ?_ | refine ws ?_ ?_) <;> intro h <;> try simp only [h]) | simp only [↓wBA, tGe, convA, seval, d1, d0, d4] | ((with_reducible show ACalls _ _ _ _ _); refine (hbn _ 0 rfl).mono ?_; rintro _ _ ⟨_, ⟨rfl, rfl⟩, rfl⟩; simp only [rdS, rdO, exA, exC, List.map_cons, List.map_nil])
        all_goals rw [← hI]
        all_goals clear hI
        all_goals refine ret_obI (a := _) (b := _) (rdP ts _) ?_ rfl rfl
        all_goals simp only [↓wBA, tGe, convA, seval]
        all_goals simp_all [wS, rdS, rdO, exA, exC, exL, ex0, lfE, kdE, emp, Rs.next]
      ·have d4 : decide (n < 4) = false := by simp; omega
       rw [if_neg (fun h => h4 h.2.1)] at hI
       repeat' first | ((with_reducible first | refine cs ?_ ?_ | refine ws ?_ ?_) <;> intro h <;> try simp only [h]) | simp only [↓wBA, tGe, convA, seval, d1, d0, d4] | ((with_reducible show ACalls _ _ _ _ _); refine (hbn _ 0 rfl).mono ?_; rintro _ _ ⟨_, ⟨rfl, rfl⟩, rfl⟩; simp only [rdS, rdO, exA, exC, List.map_cons, List.map_nil])
       all_goals rw [← hI]
       all_goals clear hI
       all_goals refine ret_obI (a := _) (b := _) (rdP ts _) ?_ rfl rfl
       all_goals simp only [↓wBA, tGe, convA, seval]
       all_goals simp_all [wS, rdS, rdO, exA, exC, exL, ex0, lfE, kdE, emp, Rs.next]
     ·have d1 : decide (r1 > 0) = true := by simp; omega
      have d0 : (r1 == 0) = false := by simp [h1]
      have hlt := (hbi h1).2
      have hw := wI k1 (by omega)
      by_cases h2 : r2 > n
      ·have d2 : decide (r2 > n) = true := by simp; omega
       cases c
       ·rw [if_pos ⟨by omega, h2, by simp⟩] at hI
        simp only [Bool.false_or] at hI
        obtain ⟨w, hw4⟩ : ∃ w, decide (r2 ≤ 4) = w := ⟨_, rfl⟩
        rw [hw4] at hI
        have he := hE g r2 (Rs.next (k1, false)) (by show k0 < k1 + 1; omega) (by show k1 + 1 ≤ ts.length; omega) (by show 2 * (ts.length - (k1 + 1)) + 2 ≤ g; omega)
        have hfe := pgF_fwd ts g (.exp r2 (Rs.next (k1, false))) (by show 2 * (ts.length - (k1 + 1)) + 2 ≤ g; omega) (by show k1 + 1 ≤ ts.length; omega)
        obtain ⟨⟨⟨kd', vk', vn', vs', tb', nm', sl', kids'⟩, ⟨k4, b4⟩⟩, hr4⟩ : ∃ r, pgF ts g (.exp r2 (Rs.next (k1, false))) = r := ⟨_, rfl⟩
        rw [hr4] at he hI hfe
        have hk4 : k1 + 1 ≤ k4 := hfe.1
        have hk4b : k4 ≤ ts.length := hfe.2.1
        simp only [Rs.next] at he
        repeat' first | ((with_reducible first | refine cs ?_ ?_ | refine ws ?_ ?_) <;> intro h <;> try simp only [h]) | simp only [↓wBA, tGe, convA, seval, d1, d0, d2, hw, hw4] | ((with_reducible show ACalls _ _ _ _ _); first | (refine (hbn _ 0 rfl).mono ?_; rintro _ _ ⟨_, ⟨rfl, rfl⟩, rfl⟩; simp only [rdS, rdO, exA, exC, List.map_cons, List.map_nil]) | (refine (he _ 0 rfl).mono ?_; rintro _ _ ⟨_, ⟨rfl, rfl⟩, rfl⟩; simp only [rdS, rdO, exA, exC, List.map_cons, List.map_nil]))
        refine ⟨⟨(g, kdE r1 [.mk kd vk vn vs tb nm sl kids, .mk kd' vk' vn' vs' tb' nm' sl' kids'], w, (k4, b4)), by show k0 ≤ k4; omega, hk4b, by show 2 * (ts.length - k4) + 1 ≤ g; omega, hI⟩, by show ts.length - k4 < ts.length - k1; omega, ?_⟩
        simp only [wR, Nat.reduceAdd, Nat.reduceLT, reduceIte]
        simp [wW, exC, exL, rdS, rdO, kdE, emp]
       ·by_cases h5 : r2 ≥ 4
        ·have d5 : decide (r2 ≥ 4) = true := by simp; omega
         rw [if_neg (fun h => h.2.2 ⟨rfl, h5⟩), if_neg (fun h => h1 h.1)] at hI
         repeat' first | ((with_reducible first | refine cs ?_ ?_ | refine ws ?_ ?_) <;> intro h <;> try simp only [h]) | simp only [↓wBA, tGe, convA, seval, d1, d0, d2, d5] | ((with_reducible show ACalls _ _ _ _ _); refine (hbn _ 0 rfl).mono ?_; rintro _ _ ⟨_, ⟨rfl, rfl⟩, rfl⟩; simp only [rdS, rdO, exA, exC, List.map_cons, List.map_nil])
         all_goals rw [← hI]
         all_goals clear hI
         all_goals refine ret_obI (a := _) (b := _) (rdP ts _) ?_ rfl rfl
         all_goals simp only [↓wBA, tGe, convA, seval]
         all_goals simp_all [wS, rdS, rdO, exA, exC, exL, ex0, lfE, kdE, emp, Rs.next]
        ·have d5 : decide (r2 ≥ 4) = false := by simp; omega
         rw [if_pos ⟨by omega, h2, fun h => h5 h.2⟩] at hI
         simp only [Bool.true_or] at hI
         have he := hE g r2 (Rs.next (k1, false)) (by show k0 < k1 + 1; omega) (by show k1 + 1 ≤ ts.length; omega) (by show 2 * (ts.length - (k1 + 1)) + 2 ≤ g; omega)
         have hfe := pgF_fwd ts g (.exp r2 (Rs.next (k1, false))) (by show 2 * (ts.length - (k1 + 1)) + 2 ≤ g; omega) (by show k1 + 1 ≤ ts.length; omega)
         obtain ⟨⟨⟨kd', vk', vn', vs', tb', nm', sl', kids'⟩, ⟨k4, b4⟩⟩, hr4⟩ : ∃ r, pgF ts g (.exp r2 (Rs.next (k1, false))) = r := ⟨_, rfl⟩
         rw [hr4] at he hI hfe
         have hk4 : k1 + 1 ≤ k4 := hfe.1
         have hk4b : k4 ≤ ts.length := hfe.2.1
         simp only [Rs.next] at he
         repeat' first | ((with_reducible first | refine cs ?_ ?_ | refine ws ?_ ?_) <;> intro h <;> try simp only [h]) | simp only [↓wBA, tGe, convA, seval, d1, d0, d2, hw, d5] | ((with_reducible show ACalls _ _ _ _ _); first | (refine (hbn _ 0 rfl).mono ?_; rintro _ _ ⟨_, ⟨rfl, rfl⟩, rfl⟩; simp only [rdS, rdO, exA, exC, List.map_cons, List.map_nil]) | (refine (he _ 0 rfl).mono ?_; rintro _ _ ⟨_, ⟨rfl, rfl⟩, rfl⟩; simp only [rdS, rdO, exA, exC, List.map_cons, List.map_nil]))
         refine ⟨⟨(g, kdE r1 [.mk kd vk vn vs tb nm sl kids, .mk kd' vk' vn' vs' tb' nm' sl' kids'], true, (k4, b4)), by show k0 ≤ k4; omega, hk4b, by show 2 * (ts.length - k4) + 1 ≤ g; omega, hI⟩, by show ts.length - k4 < ts.length - k1; omega, ?_⟩
         simp only [wR, Nat.reduceAdd, Nat.reduceLT, reduceIte]
         simp [wW, exC, exL, rdS, rdO, kdE, emp]
      ·have d2 : decide (r2 > n) = false := by simp; omega
       rw [if_neg (fun h => h2 h.2.1), if_neg (fun h => h1 h.1)] at hI
       repeat' first | ((with_reducible first | refine cs ?_ ?_ | refine ws ?_ ?_) <;> intro h <;> try simp only [h]) | simp only [↓wBA, tGe, convA, seval, d1, d0, d2] | ((with_reducible show ACalls _ _ _ _ _); refine (hbn _ 0 rfl).mono ?_; rintro _ _ ⟨_, ⟨rfl, rfl⟩, rfl⟩; simp only [rdS, rdO, exA, exC, List.map_cons, List.map_nil])
       all_goals rw [← hI]
       all_goals clear hI
       all_goals refine ret_obI (a := _) (b := _) (rdP ts _) ?_ rfl rfl
       all_goals simp only [↓wBA, tGe, convA, seval]
       all_goals simp_all [wS, rdS, rdO, exA, exC, exL, ex0, lfE, kdE, emp, Rs.next]
    ·unfold lopB at hI
     rw [if_pos rfl] at hI
     repeat' first | ((with_reducible first | refine cs ?_ ?_ | refine ws ?_ ?_) <;> intro h <;> try simp only [h]) | simp only [↓wBA, tGe, convA, seval]
     all_goals rw [← hI]
     all_goals clear hI
     all_goals refine ret_obI (a := _) (b := _) (rdP ts _) ?_ rfl rfl
     all_goals simp only [↓wBA, tGe, convA, seval]
     all_goals simp_all [wS, rdS, rdO, exA, exC, exL, ex0, lfE, kdE, emp, Rs.next]
  ·have hN0 : isF ts 1 wNOT q = false := by simpa using hN
   rw [if_neg (fun h => hN h.2)] at hfb
   rw [hN0, psF_neg hN0] at hs
   have hfq := pgF_fwd ts m (.fac q) hm hk
   obtain ⟨⟨⟨kd, vk, vn, vs, tb, nm, sl, kids⟩, ⟨k2, b2⟩⟩, hr⟩ : ∃ r, pgF ts m (.fac q) = r := ⟨_, rfl⟩
   rw [hr] at hF hfb hfq
   simp only at hfb
   obtain ⟨fin, hfin⟩ : ∃ r, pgF ts m (.lop n (.mk kd vk vn vs tb nm sl kids) false (k2, b2)) = r := ⟨_, rfl⟩
   rw [hfin] at hfb
   rw [hfb]
   clear hfb hr
   obtain ⟨k0, b0⟩ := q
   have hf2a : k0 ≤ k2 := hfq.1
   have hm1 : 2 * (ts.length - k0) + 1 ≤ m := hm
   have hm2 : 2 * (ts.length - k2) + 1 ≤ m := by omega
   have hf2b : k2 ≤ ts.length := hfq.2.1
   simp only at hk hm hE
   simp only [wNOT] at hs
   refine acalls_of cx_ok dr_ok Tryz.func56 (by kernel_rfl) rfl (nt := 90) (rs := [.cell 4 78]) rfl rfl ?_
   simp only [rdS, rdO]
   repeat' first | ((with_reducible first | refine cs ?_ ?_ | refine ws ?_ ?_) <;> intro h <;> try simp only [h]) | simp only [↓wBA, tGe, convA, seval, dn] | ((with_reducible show ACalls _ _ _ _ _); first | (refine (hs _ 0 rfl).mono ?_; rintro _ _ ⟨_, ⟨rfl, rfl⟩, rfl⟩; simp only [rdS, rdO, exA, exC, List.map_cons, List.map_nil]) | (refine (hF _ 0 rfl).mono ?_; rintro _ _ ⟨_, ⟨rfl, rfl⟩, rfl⟩; simp only [rdS, rdO, exA, exC, List.map_cons, List.map_nil]))
   refine awp_loopG (X := { y : Nat × Ex × Bool × Rs // k0 ≤ y.2.2.2.1 ∧ y.2.2.2.1 ≤ ts.length ∧ 2 * (ts.length - y.2.2.2.1) + 1 ≤ y.1 ∧ pgF ts y.1 (.lop n y.2.1 y.2.2.1 y.2.2.2) = fin }) (fun x => ts.length - x.1.2.2.2.1) (fun x => [(6, boolV x.1.2.2.1), (7, .any), (8, .any), (9, .any), (10, .any), (24, .any), (25, .any), (26, .any), (27, .any), (28, .any), (29, .any), (30, .any), (31, .any), (32, .any), (33, .any), (34, .any), (35, .any), (36, .any), (37, .any), (38, .any), (39, .any), (40, .any), (41, .any), (42, .any), (43, .any), (44, .any), (45, .any), (46, .any), (47, .any), (48, .any), (49, .any), (50, .any), (51, .any), (52, .any), (53, .any), (54, .any), (55, .any), (56, .any), (57, .any), (58, .any), (59, .any), (60, .any), (61, .any), (62, .any), (63, .any), (64, .any), (65, .any), (66, .any), (67, .any), (68, .any), (69, .any), (70, .any), (71, .any), (72, .any), (73, .any), (74, .any), (75, .any), (76, .any), (77, .any), (78, .any), (79, .any), (80, .any), (81, .any), (82, .any), (83, .any), (84, .any), (85, .any), (86, .any), (87, .any), (88, .any), (89, .any), (90, .any)]) (fun x => [some (rdS ts x.1.2.2.2), some (.row 8 [[.p (.v (.int .i64 0)), .p (.v (.int .i64 0)), .p (.v (.int .i64 0)), .p (.v (.string ⟨#[]⟩)), .p (.v (.string ⟨#[]⟩)), .p (.v (.string ⟨#[]⟩)), .p (.v (.int .i64 0)), .p (.v (.slice none 0 0))]]), some (.row 8 [(exC x.1.2.1).map .p])]) (⟨(m, .mk kd vk vn vs tb nm sl kids, false, (k2, b2)), hf2a, hf2b, hm2, hfin⟩) ?_ ?_ ?_
   ·intro x; simp
   ·skip
    simp only [wR, Nat.reduceAdd, Nat.reduceLT, reduceIte]
    simp [wW, exC, exL, rdS, rdO, kdE, emp]
   ·intro x
    simp only [wR, Nat.reduceAdd, Nat.reduceLT, reduceIte]
    obtain ⟨⟨g, ⟨kd, vk, vn, vs, tb, nm, sl, kids⟩, c, q1⟩, hq0, hq1, hq2, hI⟩ := x
    simp only at hq0 hq1 hq2 hI
    obtain ⟨g, rfl⟩ : ∃ g0, g = g0 + 1 := ⟨g - 1, by omega⟩
    simp only [pgF] at hI
    simp only [exC, rdS, rdO, List.map_cons, List.map_nil]
    have hbn := abnF ts q1
    have hbi := @bnF_in ts q1
    have hbg := bnF_ge ts q1
    obtain ⟨k1, b1⟩ := q1
    simp only at hq0 hq1 hq2
    cases b1
    ·skip
     unfold lopB at hI
     rw [if_neg (by simp)] at hI
     obtain ⟨⟨r1, r2⟩, hr⟩ : ∃ r, bnF ts (k1, false) = r := ⟨_, rfl⟩
     rw [hr] at hbn hI hbi hbg
     simp only at hbn hI hbi hbg
     by_cases h1 : r1 = 0
     ·subst h1
      rw [if_neg (by omega)] at hI
      have d1 : decide ((0 : Int) > 0) = false := rfl
      have d0 : ((0 : Int) == 0) = true := rfl
      by_cases h4 : n < 4
      ·have d4 : decide (n < 4) = true := by simp [h4]
       cases c
       ·have his := arwF wIS ts hts (k1, false)
        by_cases hIS : isF ts 1 wIS (k1, false) = true
        ·rw [if_pos ⟨rfl, h4, rfl, hIS⟩] at hI
         have hlt := (isF_in (by decide) hIS).2
         simp only at hlt
         rw [hIS, psF_pos hIS] at his
         have hno := arwF wNOT ts hts (Rs.next (k1, false))
         have hfp : Fwd ts (Rs.next (k1, false)) (psF ts 1 wNOT (Rs.next (k1, false))) := .ps (by decide) _ hlt
         obtain ⟨v, hv⟩ : ∃ v, isF ts 1 wNOT (Rs.next (k1, false)) = v := ⟨_, rfl⟩
         obtain ⟨q3, hq3⟩ : ∃ v, psF ts 1 wNOT (Rs.next (k1, false)) = v := ⟨_, rfl⟩
         rw [hv, hq3] at hno
         rw [hv, hq3] at hI
         rw [hq3] at hfp
         have hwn := awnF 1 (by decide) wNULL ts hts q3
         have hfw : Fwd ts q3 (wnF ts 1 wNULL q3) := .wn (by decide) _ hfp.2.1
         obtain ⟨⟨k4, b4⟩, hq4⟩ : ∃ v, wnF ts 1 wNULL q3 = v := ⟨_, rfl⟩
         rw [hq4] at hwn hI hfw
         have hk4 : k1 + 1 ≤ k4 := Nat.le_trans hfp.1 hfw.1
         have hk4b : k4 ≤ ts.length := hfw.2.1
         obtain ⟨k3, b3⟩ := q3
         simp only [Rs.next, wIS, wNOT, wNULL] at his hno hwn
         cases v
         ·simp only [Bool.false_eq_true, if_false, if_true] at hI
          repeat' first | ((with_reducible first | refine cs ?_ ?_ | refine ws ?_ ?_) <;> intro h <;> try simp only [h]) | simp only [↓wBA, tGe, convA, seval, d1, d0, d4] | ((with_reducible show ACalls _ _ _ _ _); first | (refine (hbn _ 0 rfl).mono ?_; rintro _ _ ⟨_, ⟨rfl, rfl⟩, rfl⟩; simp only [rdS, rdO, exA, exC, List.map_cons, List.map_nil]) | (refine (his _ 0 rfl).mono ?_; rintro _ _ ⟨_, ⟨rfl, rfl⟩, rfl⟩; simp only [rdS, rdO, exA, exC, List.map_cons, List.map_nil]) | (refine (hno _ 0 rfl).mono ?_; rintro _ _ ⟨_, ⟨rfl, rfl⟩, rfl⟩; simp only [rdS, rdO, exA, exC, List.map_cons, List.map_nil]) | (refine (hwn _ 0 rfl).mono ?_; rintro _ _ ⟨_, ⟨rfl, rfl⟩, rfl⟩; simp only [rdS, rdO, exA, exC, List.map_cons, List.map_nil]))
          refine ⟨⟨(g, kdE 18 [.mk kd vk vn vs tb nm sl kids], true, (k4, b4)), by show k0 ≤ k4; omega, hk4b, by show 2 * (ts.length - k4) + 1 ≤ g; omega, hI⟩, by show ts.length - k4 < ts.length - k1; omega, ?_⟩
          simp only [wR, Nat.reduceAdd, Nat.reduceLT, reduceIte]
          simp [wW, exC, exL, rdS, rdO, kdE, emp]
         ·simp only [Bool.false_eq_true, if_false, if_true] at hI
          repeat' first | ((with_reducible first | refine cs ?_ ?_ | refine ws ?_ ?_) <;> intro h <;> try simp only [h]) | simp only [↓wBA, tGe, convA, seval, d1, d0, d4] | ((with_reducible show ACalls _ _ _ _ _); first | (refine (hbn _ 0 rfl).mono ?_; rintro _ _ ⟨_, ⟨rfl, rfl⟩, rfl⟩; simp only [rdS, rdO, exA, exC, List.map_cons, List.map_nil]) | (refine (his _ 0 rfl).mono ?_; rintro _ _ ⟨_, ⟨rfl, rfl⟩, rfl⟩; simp only [rdS, rdO, exA, exC, List.map_cons, List.map_nil]) | (refine (hno _ 0 rfl).mono ?_; rintro _ _ ⟨_, ⟨rfl, rfl⟩, rfl⟩; simp only [rdS, rdO, exA, exC, List.map_cons, List.map_nil]) | (refine (hwn _ 0 rfl).mono ?_; rintro _ _ ⟨_, ⟨rfl, rfl⟩, rfl⟩; simp only [rdS, rdO, exA, exC, List.map_cons, List.map_nil]))
          refine ⟨⟨(g, kdE 19 [.mk kd vk vn vs tb nm sl kids], true, (k4, b4)), by show k0 ≤ k4; omega, hk4b, by show 2 * (ts.length - k4) + 1 ≤ g; omega, hI⟩, by show ts.length - k4 < ts.length - k1; omega, ?_⟩
          simp only [wR, Nat.reduceAdd, Nat.reduceLT, reduceIte]
          simp [wW, exC, exL, rdS, rdO, kdE, emp]
        ·have hIS0 : isF ts 1 wIS (k1, false) = false := by simpa using hIS
         rw [hIS0, psF_neg hIS0] at his
         simp only [wIS] at his
         rw [if_neg (fun h => hIS h.2.2.2)] at hI
         repeat' first | ((with_reducible first | refine cs ?_ ?_ | refine ws ?_ ?_) <;> intro h <;> try simp only [h]) | simp only [↓wBA, tGe, convA, seval, d1, d0, d4] | ((with_reducible show ACalls _ _ _ _ _); first | (refine (hbn _ 0 rfl).mono ?_; rintro _ _ ⟨_, ⟨rfl, rfl⟩, rfl⟩; simp only [rdS, rdO, exA, exC, List.map_cons, List.map_nil]) | (refine (his _ 0 rfl).mono ?_; rintro _ _ ⟨_, ⟨rfl, rfl⟩, rfl⟩; simp only [rdS, rdO, exA, exC, List.map_cons, List.map_nil]))
         all_goals rw [← hI]
         all_goals clear hI
         all_goals refine ret_obI (a := _) (b := _) (rdP ts _) ?_ rfl rfl
         all_goals simp only [↓wBA, tGe, convA, seval]
         all_goals simp_all [wS, rdS, rdO, exA, exC, exL, ex0, lfE, kdE, emp, Rs.next]
       ·rw [if_neg (fun h => by simp at h)] at hI
        repeat' first | ((with_reducible first | refine cs ?_ ?_ | refine ws ?_ ?_) <;> intro h <;> try simp only [h]) | simp only [↓wBA, tGe, convA, seval, d1, d0, d4] | ((with_reducible show ACalls _ _ _ _ _); refine (hbn _ 0 rfl).mono ?_; rintro _ _ ⟨_, ⟨rfl, rfl⟩, rfl⟩; simp only [rdS, rdO, exA, exC, List.map_cons, List.map_nil])
        all_goals rw [← hI]
        all_goals clear hI
        all_goals refine ret_obI (a := _) (b := _) (rdP ts _) ?_ rfl rfl
        all_goals simp only [↓wBA, tGe, convA, seval]
        all_goals simp_all [wS, rdS, rdO, exA, exC, exL, ex0, lfE, kdE, emp, Rs.next]
      ·have d4 : decide (n < 4) = false := by simp; omega
       rw [if_neg (fun h => h4 h.2.1)] at hI
       repeat' first | ((with_reducible first | refine cs ?_ ?_ | refine ws ?_ ?_) <;> intro h <;> try simp only [h]) | simp only [↓wBA, tGe, convA, seval, d1, d0, d4] | ((with_reducible show ACalls _ _ _ _ _); refine (hbn _ 0 rfl).mono ?_; rintro _ _ ⟨_, ⟨rfl, rfl⟩, rfl⟩; simp only [rdS, rdO, exA, exC, List.map_cons, List.map_nil])
       all_goals rw [← hI]
       all_goals clear hI
       all_goals refine ret_obI (a := _) (b := _) (rdP ts _) ?_ rfl rfl
       all_goals simp only [↓wBA, tGe, convA, seval]
       all_goals simp_all [wS, rdS, rdO, exA, exC, exL, ex0, lfE, kdE, emp, Rs.next]
     ·have d1 : decide (r1 > 0) = true := by simp; omega
      have d0 : (r1 == 0) = false := by simp [h1]
      have hlt := (hbi h1).2
      have hw := wI k1 (by omega)
      by_cases h2 : r2 > n
      ·have d2 : decide (r2 > n) = true := by simp; omega
       cases c
       ·rw [if_pos ⟨by omega, h2, by simp⟩] at hI
        simp only [Bool.false_or] at hI
        obtain ⟨w, hw4⟩ : ∃ w, decide (r2 ≤ 4) = w := ⟨_, rfl⟩
        rw [hw4] at hI
        have he := hE g r2 (Rs.next (k1, false)) (by show k0 < k1 + 1; omega) (by show k1 + 1 ≤ ts.length; omega) (by show 2 * (ts.length - (k1 + 1)) + 2 ≤ g; omega)
        have hfe := pgF_fwd ts g (.exp r2 (Rs.next (k1, false))) (by show 2 * (ts.length - (k1 + 1)) + 2 ≤ g; omega) (by show k1 + 1 ≤ ts.length; omega)
        obtain ⟨⟨⟨kd', vk', vn', vs', tb', nm', sl', kids'⟩, ⟨k4, b4⟩⟩, hr4⟩ : ∃ r, pgF ts g (.exp r2 (Rs.next (k1, false))) = r := ⟨_, rfl⟩
        rw [hr4] at he hI hfe
        have hk4 : k1 + 1 ≤ k4 := hfe.1
        have hk4b : k4 ≤ ts.length := hfe.2.1
        simp only [Rs.next] at he
        repeat' first | ((with_reducible first | refine cs ?_ ?_ | refine ws ?_ ?_) <;> intro h <;> try simp only [h]) | simp only [↓wBA, tGe, convA, seval, d1, d0, d2, hw, hw4] | ((with_reducible show ACalls _ _ _ _ _); first | (refine (hbn _ 0 rfl).mono ?_; rintro _ _ ⟨_, ⟨rfl, rfl⟩, rfl⟩; simp only [rdS, rdO, exA, exC, List.map_cons, List.map_nil]) | (refine (he _ 0 rfl).mono ?_; rintro _ _ ⟨_, ⟨rfl, rfl⟩, rfl⟩; simp only [rdS, rdO, exA, exC, List.map_cons, List.map_nil]))
        refine ⟨⟨(g, kdE r1 [.mk kd vk vn vs tb nm sl kids, .mk kd' vk' vn' vs' tb' nm' sl' kids'], w, (k4, b4)), by show k0 ≤ k4; omega, hk4b, by show 2 * (ts.length - k4) + 1 ≤ g; omega, hI⟩, by show ts.length - k4 < ts.length - k1; omega, ?_⟩
        simp only [wR, Nat.reduceAdd, Nat.reduceLT, reduceIte]
        simp [wW, exC, exL, rdS, rdO, kdE, emp]
       ·by_cases h5 : r2 ≥ 4
        ·have d5 : decide (r2 ≥ 4) = true := by simp; omega
         rw [if_neg (fun h => h.2.2 ⟨rfl, h5⟩), if_neg (fun h => h1 h.1)] at hI
         repeat' first | ((with_reducible first | refine cs ?_ ?_ | refine ws ?_ ?_) <;> intro h <;> try simp only [h]) | simp only [↓wBA, tGe, convA, seval, d1, d0, d2, d5] | ((with_reducible show ACalls _ _ _ _ _); refine (hbn _ 0 rfl).mono ?_; rintro _ _ ⟨_, ⟨rfl, rfl⟩, rfl⟩; simp only [rdS, rdO, exA, exC, List.map_cons, List.map_nil])
         all_goals rw [← hI]
         all_goals clear hI
         all_goals refine ret_obI (a := _) (b := _) (rdP ts _) ?_ rfl rfl
         all_goals simp only [↓wBA, tGe, convA, seval]
         all_goals simp_all [wS, rdS, rdO, exA, exC, exL, ex0, lfE, kdE, emp, Rs.next]
        ·have d5 : decide (r2 ≥ 4) = false := by simp; omega
         rw [if_pos ⟨by omega, h2, fun h => h5 h.2⟩] at hI
         simp only [Bool.true_or] at hI
         have he := hE g r2 (Rs.next (k1, false)) (by show k0 < k1 + 1; omega) (by show k1 + 1 ≤ ts.length; omega) (by show 2 * (ts.length - (k1 + 1)) + 2 ≤ g; omega)
         have hfe := pgF_fwd ts g (.exp r2 (Rs.next (k1, false))) (by show 2 * (ts.length - (k1 + 1)) + 2 ≤ g; omega) (by show k1 + 1 ≤ ts.length; omega)
         obtain ⟨⟨⟨kd', vk', vn', vs', tb', nm', sl', kids'⟩, ⟨k4, b4⟩⟩, hr4⟩ : ∃ r, pgF ts g (.exp r2 (Rs.next (k1, false))) = r := ⟨_, rfl⟩
         rw [hr4] at he hI hfe
         have hk4 : k1 + 1 ≤ k4 := hfe.1
         have hk4b : k4 ≤ ts.length := hfe.2.1
         simp only [Rs.next] at he
         repeat' first | ((with_reducible first | refine cs ?_ ?_ | refine ws ?_ ?_) <;> intro h <;> try simp only [h]) | simp only [↓wBA, tGe, convA, seval, d1, d0, d2, hw, d5] | ((with_reducible show ACalls _ _ _ _ _); first | (refine (hbn _ 0 rfl).mono ?_; rintro _ _ ⟨_, ⟨rfl, rfl⟩, rfl⟩; simp only [rdS, rdO, exA, exC, List.map_cons, List.map_nil]) | (refine (he _ 0 rfl).mono ?_; rintro _ _ ⟨_, ⟨rfl, rfl⟩, rfl⟩; simp only [rdS, rdO, exA, exC, List.map_cons, List.map_nil]))
         refine ⟨⟨(g, kdE r1 [.mk kd vk vn vs tb nm sl kids, .mk kd' vk' vn' vs' tb' nm' sl' kids'], true, (k4, b4)), by show k0 ≤ k4; omega, hk4b, by show 2 * (ts.length - k4) + 1 ≤ g; omega, hI⟩, by show ts.length - k4 < ts.length - k1; omega, ?_⟩
         simp only [wR, Nat.reduceAdd, Nat.reduceLT, reduceIte]
         simp [wW, exC, exL, rdS, rdO, kdE, emp]
      ·have d2 : decide (r2 > n) = false := by simp; omega
       rw [if_neg (fun h => h2 h.2.1), if_neg (fun h => h1 h.1)] at hI
       repeat' first | ((with_reducible first | refine cs ?_ ?_ | refine ws ?_ ?_) <;> intro h <;> try simp only [h]) | simp only [↓wBA, tGe, convA, seval, d1, d0, d2] | ((with_reducible show ACalls _ _ _ _ _); refine (hbn _ 0 rfl).mono ?_; rintro _ _ ⟨_, ⟨rfl, rfl⟩, rfl⟩; simp only [rdS, rdO, exA, exC, List.map_cons, List.map_nil])
       all_goals rw [← hI]
       all_goals clear hI
       all_goals refine ret_obI (a := _) (b := _) (rdP ts _) ?_ rfl rfl
       all_goals simp only [↓wBA, tGe, convA, seval]
       all_goals simp_all [wS, rdS, rdO, exA, exC, exL, ex0, lfE, kdE, emp, Rs.next]
    ·unfold lopB at hI
     rw [if_pos rfl] at hI
     repeat' first | ((with_reducible first | refine cs ?_ ?_ | refine ws ?_ ?_) <;> intro h <;> try simp only [h]) | simp only [↓wBA, tGe, convA, seval]
     all_goals rw [← hI]
     all_goals clear hI
     all_goals refine ret_obI (a := _) (b := _) (rdP ts _) ?_ rfl rfl
     all_goals simp only [↓wBA, tGe, convA, seval]
     all_goals simp_all [wS, rdS, rdO, exA, exC, exL, ex0, lfE, kdE, emp, Rs.next]
 ·have dn : decide (n < 3) = false := by simp; omega
  rw [if_neg (fun h => h3 h.1)] at hfb
  have hfq := pgF_fwd ts m (.fac q) hm hk
  obtain ⟨⟨⟨kd, vk, vn, vs, tb, nm, sl, kids⟩, ⟨k2, b2⟩⟩, hr⟩ : ∃ r, pgF ts m (.fac q) = r := ⟨_, rfl⟩
  rw [hr] at hF hfb hfq
  simp only at hfb
  obtain ⟨fin, hfin⟩ : ∃ r, pgF ts m (.lop n (.mk kd vk vn vs tb nm sl kids) false (k2, b2)) = r := ⟨_, rfl⟩
  rw [hfin] at hfb
  rw [hfb]
  clear hfb hr
  obtain ⟨k0, b0⟩ := q
  have hf2a : k0 ≤ k2 := hfq.1
  have hm1 : 2 * (ts.length - k0) + 1 ≤ m := hm
  have hm2 : 2 * (ts.length - k2) + 1 ≤ m := by omega
  have hf2b : k2 ≤ ts.length := hfq.2.1
  simp only at hk hm hE
  simp only [wNOT] at hs
  refine acalls_of cx_ok dr_ok Tryz.func56 (by kernel_rfl) rfl (nt := 90) (rs := [.cell 4 78]) rfl rfl ?_
  simp only [rdS, rdO]
  repeat' first | ((with_reducible first | refine cs ?_ ?_ | refine ws ?_ ?_) <;> intro h <;> try simp only [h]) | simp only [↓wBA, tGe, convA, seval, dn] | ((with_reducible show ACalls _ _ _ _ _); refine (hF _ 0 rfl).mono ?_; rintro _ _ ⟨_, ⟨rfl, rfl⟩, rfl⟩; simp only [rdS, rdO, exA, exC, List.map_cons, List.map_nil])
  refine awp_loopG (X := { y : Nat × Ex × Bool × Rs // k0 ≤ y.2.2.2.1 ∧ y.2.2.2.1 ≤ ts.length ∧ 2 * (ts.length - y.2.2.2.1) + 1 ≤ y.1 ∧ pgF ts y.1 (.lop n y.2.1 y.2.2.1 y.2.2.2) = fin }) (fun x => ts.length - x.1.2.2.2.1) (fun x => [(6, boolV x.1.2.2.1), (7, .any), (8, .any), (9, .any), (10, .any), (24, .any), (25, .any), (26, .any), (27, .any), (28, .any), (29, .any), (30, .any), (31, .any), (32, .any), (33, .any), (34, .any), (35, .any), (36, .any), (37, .any), (38, .any), (39, .any), (40, .any), (41, .any), (42, .any), (43, .any), (44, .any), (45, .any), (46, .any), (47, .any), (48, .any), (49, .any), (50, .any), (51, .any), (52, .any), (53, .any), (54, .any), (55, .any), (56, .any), (57, .any), (58, .any), (59, .any), (60, .any), (61, .any), (62, .any), (63, .any), (64, .any), (65, .any), (66, .any), (67, .any), (68, .any), (69, .any), (70, .any), (71, .any), (72, .any), (73, .any), (74, .any), (75, .any), (76, .any), (77, .any), (78, .any), (79, .any), (80, .any), (81, .any), (82, .any), (83, .any), (84, .any), (85, .any), (86, .any), (87, .any), (88, .any), (89, .any), (90, .any)]) (fun x => [some (rdS ts x.1.2.2.2), some (.row 8 [[.p (.v (.int .i64 0)), .p (.v (.int .i64 0)), .p (.v (.int .i64 0)), .p (.v (.string ⟨#[]⟩)), .p (.v (.string ⟨#[]⟩)), .p (.v (.string ⟨#[]⟩)), .p (.v (.int .i64 0)), .p (.v (.slice none 0 0))]]), some (.row 8 [(exC x.1.2.1).map .p])]) (⟨(m, .mk kd vk vn vs tb nm sl kids, false, (k2, b2)), hf2a, hf2b, hm2, hfin⟩) ?_ ?_ ?_
  ·intro x; simp
  ·skip
   simp only [wR, Nat.reduceAdd, Nat.reduceLT, reduceIte]
   simp [wW, exC, exL, rdS, rdO, kdE, emp]
  ·intro x
   simp only [wR, Nat.reduceAdd, Nat.reduceLT, reduceIte]
   obtain ⟨⟨g, ⟨kd, vk, vn, vs, tb, nm, sl, kids⟩, c, q1⟩, hq0, hq1, hq2, hI⟩ := x
   simp only at hq0 hq1 hq2 hI
   obtain ⟨g, rfl⟩ : ∃ g0, g = g0 + 1 := ⟨g - 1, by omega⟩
   simp only [pgF] at hI
   simp only [exC, rdS, rdO, List.map_cons, List.map_nil]
   have hbn := abnF ts q1
   have hbi := @bnF_in ts q1
   have hbg := bnF_ge ts q1
   obtain ⟨k1, b1⟩ := q1
   simp only at hq0 hq1 hq2
   cases b1
   ·skip
    unfold lopB at hI
    rw [if_neg (by simp)] at hI
    obtain ⟨⟨r1, r2⟩, hr⟩ : ∃ r, bnF ts (k1, false) = r := ⟨_, rfl⟩
    rw [hr] at hbn hI hbi hbg
    simp only at hbn hI hbi hbg
    by_cases h1 : r1 = 0
    ·subst h1
     rw [if_neg (by omega)] at hI
     have d1 : decide ((0 : Int) > 0) = false := rfl
     have d0 : ((0 : Int) == 0) = true := rfl
     by_cases h4 : n < 4
     ·have d4 : decide (n < 4) = true := by simp [h4]
      cases c
      ·have his := arwF wIS ts hts (k1, false)
       by_cases hIS : isF ts 1 wIS (k1, false) = true
       ·rw [if_pos ⟨rfl, h4, rfl, hIS⟩] at hI
        have hlt := (isF_in (by decide) hIS).2
        simp only at hlt
        rw [hIS, psF_pos hIS] at his
        have hno := arwF wNOT ts hts (Rs.next (k1, false))
        have hfp : Fwd ts (Rs.next (k1, false)) (psF ts 1 wNOT (Rs.next (k1, false))) := .ps (by decide) _ hlt
        obtain ⟨v, hv⟩ : ∃ v, isF ts 1 wNOT (Rs.next (k1, false)) = v := ⟨_, rfl⟩
        obtain ⟨q3, hq3⟩ : ∃ v, psF ts 1 wNOT (Rs.next (k1, false)) = v := ⟨_, rfl⟩
        rw [hv, hq3] at hno
        rw [hv, hq3] at hI
        rw [hq3] at hfp
        have hwn := awnF 1 (by decide) wNULL ts hts q3
        have hfw : Fwd ts q3 (wnF ts 1 wNULL q3) := .wn (by decide) _ hfp.2.1
        obtain ⟨⟨k4, b4⟩, hq4⟩ : ∃ v, wnF ts 1 wNULL q3 = v := ⟨_, rfl⟩
        rw [hq4] at hwn hI hfw
        have hk4 : k1 + 1 ≤ k4 := Nat.le_trans hfp.1 hfw.1
        have hk4b : k4 ≤ ts.length := hfw.2.1
        obtain ⟨k3, b3⟩ := q3
        simp only [Rs.next, wIS, wNOT, wNULL] at his hno hwn
        cases v
        ·simp only [Bool.false_eq_true, if_false, if_true] at hI
         repeat' first | ((with_reducible first | refine cs ?_ ?_ | refine ws ?_ ?_) <;> intro h <;> try simp only [h]) | simp only [↓wBA, tGe, convA, seval, d1, d0, d4] | ((with_reducible show ACalls _ _ _ _ _); first | (refine (hbn _ 0 rfl).mono ?_; rintro _ _ ⟨_, ⟨rfl, rfl⟩, rfl⟩; simp only [rdS, rdO, exA, exC, List.map_cons, List.map_nil]) | (refine (his _ 0 rfl).mono ?_; rintro _ _ ⟨_, ⟨rfl, rfl⟩, rfl⟩; simp only [rdS, rdO, exA, exC, List.map_cons, List.map_nil]) | (refine (hno _ 0 rfl).mono ?_; rintro _ _ ⟨_, ⟨rfl, rfl⟩, rfl⟩; simp only [rdS, rdO, exA, exC, List.map_cons, List.map_nil]) | (refine (hwn _ 0 rfl).mono ?_; rintro _ _ ⟨_, ⟨rfl, rfl⟩, rfl⟩; simp only [rdS, rdO, exA, exC, List.map_cons, List.map_nil]))
         refine ⟨⟨(g, kdE 18 [.mk kd vk vn vs tb nm sl kids], true, (k4, b4)), by show k0 ≤ k4; omega, hk4b, by show 2 * (ts.length - k4) + 1 ≤ g; omega, hI⟩, by show ts.length - k4 < ts.length - k1; omega, ?_⟩
         simp only [wR, Nat.reduceAdd, Nat.reduceLT, reduceIte]
         simp [wW, exC, exL, rdS, rdO, kdE, emp]
        ·simp only [Bool.false_eq_true, if_false, if_true] at hI
         repeat' first | ((with_reducible first | refine cs ?_ ?_ | refine ws ?_ ?_) <;> intro h <;> try simp only [h]) | simp only [↓wBA, tGe, convA, seval, d1, d0, d4] | ((with_reducible show ACalls _ _ _ _ _); first | (refine (hbn _ 0 rfl).mono ?_; rintro _ _ ⟨_, ⟨rfl, rfl⟩, rfl⟩; simp only [rdS, rdO, exA, exC, List.map_cons, List.map_nil]) | (refine (his _ 0 rfl).mono ?_; rintro _ _ ⟨_, ⟨rfl, rfl⟩, rfl⟩; simp only [rdS, rdO, exA, exC, List.map_cons, List.map_nil]) | (refine (hno _ 0 rfl).mono ?_; rintro _ _ ⟨_, ⟨rfl, rfl⟩, rfl⟩; simp only [rdS, rdO, exA, exC, List.map_cons, List.map_nil]) | (refine (hwn _ 0 rfl).mono ?_; rintro _ _ ⟨_, ⟨rfl, rfl⟩, rfl⟩; simp only [rdS, rdO, exA, exC, List.map_cons, List.map_nil]))
         refine ⟨⟨(g, kdE 19 [.mk kd vk vn vs tb nm sl kids], true, (k4, b4)), by show k0 ≤ k4; omega, hk4b, by show 2 * (ts.length - k4) + 1 ≤ g; omega, hI⟩, by show ts.length - k4 < ts.length - k1; omega, ?_⟩
         simp only [wR, Nat.reduceAdd, Nat.reduceLT, reduceIte]
         simp [wW, exC, exL, rdS, rdO, kdE, emp]
       ·have hIS0 : isF ts 1 wIS (k1, false) = false := by simpa using hIS
        rw [hIS0, psF_neg hIS0] at his
        simp only [wIS] at his
        rw [if_neg (fun h => hIS h.2.2.2)] at hI
        repeat' first | ((with_reducible first | refine cs ?_ ?_ | refine ws ?_ ?_) <;> intro h <;> try simp only [h]) | simp only [↓wBA, tGe, convA, seval, d1, d0, d4] | ((with_reducible show ACalls _ _ _ _ _); first | (refine (hbn _ 0 rfl).mono ?_; rintro _ _ ⟨_, ⟨rfl, rfl⟩, rfl⟩; simp only [rdS, rdO, exA, exC, List.map_cons, List.map_nil]) | (refine (his _ 0 rfl).mono ?_; rintro _ _ ⟨_, ⟨rfl, rfl⟩, rfl⟩; simp only [rdS, rdO, exA, exC, List.map_cons, List.map_nil]))
        all_goals rw [← hI]
        all_goals clear hI
        all_goals refine ret_obI (a := _) (b := _) (rdP ts _) ?_ rfl rfl
        all_goals simp only [↓wBA, tGe, convA, seval]
        all_goals simp_all [wS, rdS, rdO, exA, exC, exL, ex0, lfE, kdE, emp, Rs.next]
      ·rw [if_neg (fun h => by simp at h)] at hI
       repeat' first | ((with_reducible first | refine cs ?_ ?_ | refine ws ?_ ?_) <;> intro h <;> try simp only [h]) | simp only [↓wBA, tGe, convA, seval, d1, d0, d4] | ((with_reducible show ACalls _ _ _ _ _); refine (hbn _ 0 rfl).mono ?_; rintro _ _ ⟨_, ⟨rfl, rfl⟩, rfl⟩; simp only [rdS, rdO, exA, exC, List.map_cons, List.map_nil])
       all_goals rw [← hI]
       all_goals clear hI
       all_goals refine ret_obI (a := _) (b := _) (rdP ts _) ?_ rfl rfl
       all_goals simp only [↓wBA, tGe, convA, seval]
       all_goals simp_all [wS, rdS, rdO, exA, exC, exL, ex0, lfE, kdE, emp, Rs.next]
     ·have d4 : decide (n < 4) = false := by simp; omega
      rw [if_neg (fun h => h4 h.2.1)] at hI
      repeat' first | ((with_reducible first | refine cs ?_ ?_ | refine ws ?_ ?_) <;> intro h <;> try simp only [h]) | simp only [↓wBA, tGe, convA, seval, d1, d0, d4] | ((with_reducible show ACalls _ _ _ _ _); refine (hbn _ 0 rfl).mono ?_; rintro _ _ ⟨_, ⟨rfl, rfl⟩, rfl⟩; simp only [rdS, rdO, exA, exC, List.map_cons, List.map_nil])
      all_goals rw [← hI]
      all_goals clear hI
      all_goals refine ret_obI (a := _) (b := _) (rdP ts _) ?_ rfl rfl
      all_goals simp only [↓wBA, tGe, convA, seval]
      all_goals simp_all [wS, rdS, rdO, exA, exC, exL, ex0, lfE, kdE, emp, Rs.next]
    ·have d1 : decide (r1 > 0) = true := by simp; omega
     have d0 : (r1 == 0) = false := by simp [h1]
     have hlt := (hbi h1).2
     have hw := wI k1 (by omega)
     by_cases h2 : r2 > n
     ·have d2 : decide (r2 > n) = true := by simp; omega
      cases c
      ·rw [if_pos ⟨by omega, h2, by simp⟩] at hI
       simp only [Bool.false_or] at hI
       obtain ⟨w, hw4⟩ : ∃ w, decide (r2 ≤ 4) = w := ⟨_, rfl⟩
       rw [hw4] at hI
       have he := hE g r2 (Rs.next (k1, false)) (by show k0 < k1 + 1; omega) (by show k1 + 1 ≤ ts.length; omega) (by show 2 * (ts.length - (k1 + 1)) + 2 ≤ g; omega)
       have hfe := pgF_fwd ts g (.exp r2 (Rs.next (k1, false))) (by show 2 * (ts.length - (k1 + 1)) + 2 ≤ g; omega) (by show k1 + 1 ≤ ts.length; omega)
       obtain ⟨⟨⟨kd', vk', vn', vs', tb', nm', sl', kids'⟩, ⟨k4, b4⟩⟩, hr4⟩ : ∃ r, pgF ts g (.exp r2 (Rs.next (k1, false))) = r := ⟨_, rfl⟩
       rw [hr4] at he hI hfe
       have hk4 : k1 + 1 ≤ k4 := hfe.1
       have hk4b : k4 ≤ ts.length := hfe.2.1
       simp only [Rs.next] at he
       repeat' first | ((with_reducible first | refine cs ?_ ?_ | refine ws ?_ ?_) <;> intro h <;> try simp only [h]) | simp only [↓wBA, tGe, convA, seval, d1, d0, d2, hw, hw4] | ((with_reducible show ACalls _ _ _ _ _); first | (refine (hbn _ 0 rfl).mono ?_; rintro _ _ ⟨_, ⟨rfl, rfl⟩, rfl⟩; simp only [rdS, rdO, exA, exC, List.map_cons, List.map_nil]) | (refine (he _ 0 rfl).mono ?_; rintro _ _ ⟨_, ⟨rfl, rfl⟩, rfl⟩; simp only [rdS, rdO, exA, exC, List.map_cons, List.map_nil]))
       refine ⟨⟨(g, kdE r1 [.mk kd vk vn vs tb nm sl kids, .mk kd' vk' vn' vs' tb' nm' sl' kids'], w, (k4, b4)), by show k0 ≤ k4; omega, hk4b, by show 2 * (ts.length - k4) + 1 ≤ g; omega, hI⟩, by show ts.length - k4 < ts.length - k1; omega, ?_⟩
       simp only [wR, Nat.reduceAdd, Nat.reduceLT, reduceIte]
       simp [wW, exC, exL, rdS, rdO, kdE, emp]
      ·by_cases h5 : r2 ≥ 4
       ·have d5 : decide (r2 ≥ 4) = true := by simp; omega
        rw [if_neg (fun h => h.2.2 ⟨rfl, h5⟩), if_neg (fun h => h1 h.1)] at hI
        repeat' first | ((with_reducible first | refine cs ?_ ?_ | refine ws ?_ ?_) <;> intro h <;> try simp only [h]) | simp only [↓wBA, tGe, convA, seval, d1, d0, d2, d5] | ((with_reducible show ACalls _ _ _ _ _); refine (hbn _ 0 rfl).mono ?_; rintro _ _ ⟨_, ⟨rfl, rfl⟩, rfl⟩; simp only [rdS, rdO, exA, exC, List.map_cons, List.map_nil])
        all_goals rw [← hI]
        all_goals clear hI
        all_goals refine ret_obI (a := _) (b := _) (rdP ts _) ?_ rfl rfl
        all_goals simp only [↓wBA, tGe, convA, seval]
        all_goals simp_all [wS, rdS, rdO, exA, exC, exL, ex0, lfE, kdE, emp, Rs.next]
       ·have d5 : decide (r2 ≥ 4) = false := by simp; omega
        rw [if_pos ⟨by omega, h2, fun h => h5 h.2⟩] at hI
        simp only [Bool.true_or] at hI
        have he := hE g r2 (Rs.next (k1, false)) (by show k0 < k1 + 1; omega) (by show k1 + 1 ≤ ts.length; omega) (by show 2 * (ts.length - (k1 + 1)) + 2 ≤ g; omega)
        have hfe := pgF_fwd ts g (.exp r2 (Rs.next (k1, false))) (by show 2 * (ts.length - (k1 + 1)) + 2 ≤ g; omega) (by show k1 + 1 ≤ ts.length; omega)
        obtain ⟨⟨⟨kd', vk', vn', vs', tb', nm', sl', kids'⟩, ⟨k4, b4⟩⟩, hr4⟩ : ∃ r, pgF ts g (.exp r2 (Rs.next (k1, false))) = r := ⟨_, rfl⟩
        rw [hr4] at he hI hfe
        have hk4 : k1 + 1 ≤ k4 := hfe.1
        have hk4b : k4 ≤ ts.length := hfe.2.1
        simp only [Rs.next] at he
        repeat' first | ((with_reducible first | refine cs ?_ ?_ | refine ws ?_ ?_) <;> intro h <;> try simp only [h]) | simp only [↓wBA, tGe, convA, seval, d1, d0, d2, hw, d5] | ((with_reducible show ACalls _ _ _ _ _); first | (refine (hbn _ 0 rfl).mono ?_; rintro _ _ ⟨_, ⟨rfl, rfl⟩, rfl⟩; simp only [rdS, rdO, exA, exC, List.map_cons, List.map_nil]) | (refine (he _ 0 rfl).mono ?_; rintro _ _ ⟨_, ⟨rfl, rfl⟩, rfl⟩; simp only [rdS, rdO, exA, exC, List.map_cons, List.map_nil]))
        refine ⟨⟨(g, kdE r1 [.mk kd vk vn vs tb nm sl kids, .mk kd' vk' vn' vs' tb' nm' sl' kids'], true, (k4, b4)), by show k0 ≤ k4; omega, hk4b, by show 2 * (ts.length - k4) + 1 ≤ g; omega, hI⟩, by show ts.length - k4 < ts.length - k1; omega, ?_⟩
        simp only [wR, Nat.reduceAdd, Nat.reduceLT, reduceIte]
        simp [wW, exC, exL, rdS, rdO, kdE, emp]
     ·have d2 : decide (r2 > n) = false := by simp; omega
      rw [if_neg (fun h => h2 h.2.1), if_neg (fun h => h1 h.1)] at hI
      repeat' first | ((with_reducible first | refine cs ?_ ?_ | refine ws ?_ ?_) <;> intro h <;> try simp only [h]) | simp only [↓wBA, tGe, convA, seval, d1, d0, d2] | ((with_reducible show ACalls _ _ _ _ _); refine (hbn _ 0 rfl).mono ?_; rintro _ _ ⟨_, ⟨rfl, rfl⟩, rfl⟩; simp only [rdS, rdO, exA, exC, List.map_cons, List.map_nil])
      all_goals rw [← hI]
      all_goals clear hI
      all_goals refine ret_obI (a := _) (b := _) (rdP ts _) ?_ rfl rfl
      all_goals simp only [↓wBA, tGe, convA, seval]
      all_goals simp_all [wS, rdS, rdO, exA, exC, exL, ex0, lfE, kdE, emp, Rs.next]
   ·unfold lopB at hI
    rw [if_pos rfl] at hI
    repeat' first | ((with_reducible first | refine cs ?_ ?_ | refine ws ?_ ?_) <;> intro h <;> try simp only [h]) | simp only [↓wBA, tGe, convA, seval]
    all_goals rw [← hI]
    all_goals clear hI
    all_goals refine ret_obI (a := _) (b := _) (rdP ts _) ?_ rfl rfl
    all_goals simp only [↓wBA, tGe, convA, seval]
    all_goals simp_all [wS, rdS, rdO, exA, exC, exL, ex0, lfE, kdE, emp, Rs.next]
theorem feF (ts : List Tok) (hts : ts.length ≤ 2048) : ∀ (d : Nat) (q : Rs), q.1 ≤ ts.length → ts.length - q.1 = d →
 (∀ g, 2 * (ts.length - q.1) + 1 ≤ g → OCalls (rdS ts) 84 (fun t => [.mp t 3 0 0]) q fun r s => r = exA (pgF ts g (.fac q)).1 ∧ s = (pgF ts g (.fac q)).2) ∧
 (∀ (n : Int) g, 2 * (ts.length - q.1) + 2 ≤ g → OCalls (rdS ts) 56 (fun t => [.mp t 3 0 0, intV .i64 n]) q fun r s => r = exA (pgF ts g (.exp n q)).1 ∧ s = (pgF ts g (.exp n q)).2) := by
 intro d
 induction d using Nat.strongRecOn with
 | ind d ih =>
   intro q hk hd
   have hF : ∀ g, 2 * (ts.length - q.1) + 1 ≤ g → OCalls (rdS ts) 84 (fun t => [.mp t 3 0 0]) q fun r s => r = exA (pgF ts g (.fac q)).1 ∧ s = (pgF ts g (.fac q)).2 := by
    intro g hg
    obtain ⟨g, rfl⟩ : ∃ g0, g = g0 + 1 := ⟨g - 1, by omega⟩
    exact facF_of ts hts q hk (pgF ts g) (fun q' h1 h2 => (ih (ts.length - q'.1) (by omega) q' h2 rfl).1 g (by omega)) (fun n q' h1 h2 => (ih (ts.length - q'.1) (by omega) q' h2 rfl).2 n g (by omega)) (fun n q' h1 h2 => (pgF_fwd ts g (.exp n q') (by simp only [Job.need]; omega) h2).2.1)
   refine ⟨hF, fun n g hg => ?_⟩
   obtain ⟨g, rfl⟩ : ∃ g0, g = g0 + 1 := ⟨g - 1, by omega⟩
   exact expF_of ts hts n q hk g (by omega) (hF g (by omega)) (fun g' n' q' h1 h2 h3 => (ih (ts.length - q'.1) (by omega) q' h2 rfl).2 n' g' h3)
def exF (ts : List Tok) (q : Rs) : Ex × Rs := pgF ts 5000 (.exp 0 q)
theorem aexF (ts : List Tok) (hts : ts.length ≤ 2048) (q : Rs) (hk : q.1 ≤ ts.length) : OCalls (rdS ts) 56 (fun t => [.mp t 3 0 0, intV .i64 0]) q fun r s => r = exA (exF ts q).1 ∧ s = (exF ts q).2 := (feF ts hts _ q hk rfl).2 0 5000 (by omega)
theorem exF_fwd (ts : List Tok) (hts : ts.length ≤ 2048) (q : Rs) (hk : q.1 ≤ ts.length) : Fwd ts q (exF ts q).2 := pgF_fwd ts 5000 (.exp 0 q) (by simp only [Job.need]; omega) hk
end Go.Proofs.YtcnkmandddfdmaaGreatDoor
