/- Trees: the laws' awake and tree. Trees: what the laws share: texts, the tree of some keys. Trees: all pages are given back. -/
import Derived.Test.YtockimhceppkbaaGreatM45
set_option linter.unusedSimpArgs false
set_option linter.unusedVariables false
set_option linter.defProp false
set_option maxRecDepth 100000
set_option maxHeartbeats 32000000
namespace Go.Proofs.YtockimhceppkbaaGreat
open Go.RowKit
def pl12_20Yr : Plan := (.det 0 (.det 1 (.det 2 (.det 3 (.det 4 (.det 5 (.det 6 (.act 7 (.det 8 (.fin 9 (.det 10 .done)))))))))))
def tYr := aa wX <| aa wbu <| aa T3 <| aa T4 <| aa T9 <| aa T24 <| aa T25 <| aa T28 <| aa T30 <| aa T35 <| aa T37 <| aa T40 <| aa T48 <| aa T86 <| aa T87 <| aa T90 <| aa T92 T97
theorem atInsLong {σ : St} {b : Nat} {n p s : Int} {k : List UInt8} (hl : 140 < k.length) : ACalls Tryz.prog 12 [.mp b 2 0 0, intV .i64 n, .p (.sl 1 (encB k)), .agg [intV .i64 p, intV .i64 s]] σ fun r σ' => r = intV .i64 4 ∧ Ap σ σ' := by
 have hkl := encB_len' k
 have e1 : decide ((k.length : Int) > 140) = true := by simp; omega
 have e1' := dT (i := 140) (n := k.length) (by omega)
 refine acalls_of cx_ok dr_ok Tryz.func12 (by kernel_rfl) rfl (nt := 76) (rs := [.tmp 8]) rfl rfl ?_
 repeat' first | ((with_reducible first | refine cs ?_ ?_ | refine ws ?_ ?_ | refine wd ?_ ?_ | refine wu ?_ ?_) <;> intro h <;> try simp only [h]) | simp only [↓wBA, tYr, convA, seval, pl12_20Yr, wH, hkl, e1, e1'] | (with_reducible refine dP pl12_20Yr 11 (some 70) (by decide) (by kernel_rfl) ?_)
 all_goals refine ret_st ?_ (by first | exact Nat.le_refl _ | (simp only [List.length_set, List.length_append]; omega) | omega)
 all_goals simp only [resA.eq_1, resL.eq_1, resL.eq_2, resV.eq_1, resV.eq_2, ↓wBA, tYr, convA, seval, wH]
 exact Ap.app _ _
theorem root_leaf {t : List Ent} {e : Ent} {h' : Nat} {t' : BTr h'} (hr : RootR 0 t e h' t') (hs : szL (its0 (t.take (cutI (its0 t) e) ++ e :: t.drop (cutI (its0 t) e))) ≤ 496) : ∃ q : h' = 0, (q ▸ t' : BTr 0) = (t.take (cutI (its0 t) e) ++ e :: t.drop (cutI (its0 t) e) : List Ent) := by
 rcases hr with ⟨rfl, hi⟩ | ⟨q, t1, n, m, x, s, hi, ht⟩
 ·obtain ⟨_, h1⟩ := hi
  rcases h1 with ⟨_, h1, _⟩ | ⟨h1, _⟩
  ·exact ⟨rfl, h1⟩
  ·exact absurd h1 (Nat.not_lt.2 hs)
 ·obtain ⟨_, h1⟩ := hi
  rcases h1 with ⟨_, _, h1⟩ | ⟨h1, _⟩
  ·cases h1
  ·exact absurd h1 (Nat.not_lt.2 hs)
theorem aawake7 (σ : St) : ACalls Tryz.prog 7 [] σ fun r σ' => Ap σ σ' ∧ r = boolV true := by
 refine acalls_of cx_ok dr_ok Tryz.func7 (by kernel_rfl) rfl (nt := 84) (rs := [.tmp 0]) rfl rfl ?_
 repeat' first | ((with_reducible first | refine cs ?_ ?_ | refine ws ?_ ?_) <;> intro h <;> try simp only [h]) | simp only [↓wBA, tYr, convA, seval, wH]
 refine (adnew 800 (by omega) σ).mono ?_
 rintro _ s1 ⟨dd, Fd, rfl, a1, hd, hFd⟩
 repeat' first | ((with_reducible first | refine cs ?_ ?_ | refine ws ?_ ?_) <;> intro h <;> try simp only [h]) | simp only [↓wBA, tYr, convA, seval, wH]
 refine (adnew 4000 (by omega) s1).mono ?_
 rintro _ s2 ⟨dl, Fl, rfl, a2, hl, hFl⟩
 have hd2 := hd.ap a2
 have l1 := a1.len
 have l2 := a2.len
 repeat' first | ((with_reducible first | refine cs ?_ ?_ | refine ws ?_ ?_) <;> intro h <;> try simp only [h]) | simp only [↓wBA, tYr, convA, seval, wH]
 refine (aopenN2 hd2 hl (fun t h1 h2 => by have := hd.lt t h1; have := hFl t h2; omega) (by omega) (by omega) 4 (by omega) (by omega)).mono ?_
 rintro _ s3 ⟨p, l, kh, G, P, rfl, a3, hP, p1, p2, p3, p4, p5, p6, p7, p8, p9⟩
 have l3 := a3.len
 have hGσ : ∀ t, G t → σ.length ≤ t := fun t ht => by
  rcases p9 t ht with h | h | h
  ·exact hFd t h
  ·have := hFl t h; omega
  ·omega
 have hpg : P.pages = 100 := by rw [p1]; rfl
 have hbud : Bud P 1000000 := ⟨by omega, by rw [p7]; simp, by omega⟩
 repeat' first | ((with_reducible first | refine cs ?_ ?_ | refine ws ?_ ?_) <;> intro h <;> try simp only [h]) | simp only [↓wBA, tYr, convA, seval, wH] | ((with_reducible show ACalls _ _ _ _ _); refine (abBatch hP).mono ?_; rintro _ s4 ⟨rfl, a4, h4⟩)
 have l4 := a4.len
 refine (atMake (T := fun n => n == 0) h4 (by rw [p8]; exact tk_new (by omega)) (by omega) (by omega) rfl (hbud.mono (by omega))).mono ?_
 rintro r s5 ⟨U5, P5, v5, f5, h5, k5, hc⟩
 rcases hc with ⟨m, hTm, rfl, hvo, hTk, ht0, hR5⟩ | ⟨hall, _, _⟩
 rotate_left
 ·exact absurd (hall 1 (by omega)) (by decide)
 have l5 := f5.len
 have hpg5 := k5.pages
 have hu8 := ck_5
 repeat' first | ((with_reducible first | refine cs ?_ ?_ | refine ws ?_ ?_) <;> intro h <;> try simp only [h]) | simp only [↓wBA, tYr, convA, seval, wH, convB, convC, hu8]
 have hm2 := hR5.tk m (pgT_root _ _ _)
 have cn5 : cnt (updT (fun n => n == 0) m true) 100 = 2 := by rw [cnt_true (T := fun n => n == 0) (k := m) hTm 100 (by omega), cnt_one _ (by omega)]
 rw [hpg] at hTk hR5
 refine (atIns (e := ⟨[98], 1, 1⟩) (h5.ap (Ap.app s5 [none])) (by rw [hpg5, hpg]; exact hTk) (by omega) ht0 (hbud.kp k5 (by omega)) (by rw [hpg5, hpg]; exact hR5) ⟨by decide, by decide, by decide⟩).mono ?_
 rintro r s6 ⟨U6, P6, v6, T6, h6', t6, f6, h6, k6, hR6, hW6, hc6⟩
 rw [hpg5, hpg] at hR6 hW6 hc6
 have l6 := f6.len
 simp only [List.length_append, List.length_cons, List.length_nil] at l6
 rcases hc6 with ⟨rfl, hr6, hx6⟩ | ⟨_, hm6, _⟩ | ⟨_, hf6, hl6⟩
 rotate_left
 ·simp [entsT] at hm6
 ·obtain ⟨h2, t2, q1, q2⟩ := hl6.cnt hf6
  obtain ⟨rfl, _⟩ := root_leaf q1 (by decide)
  simp only [pgT, List.length_cons, List.length_nil] at q2
  omega
 obtain ⟨rfl, ht6⟩ := root_leaf hr6 (by decide)
 have ht6 : t6 = ([⟨[98], 1, 1⟩] : List Ent) := ht6
 subst ht6
 have hpg6 := k6.pages
 have cn6 : cnt T6 100 ≤ 3 := by
  have := cntL [m] (T := updT (fun n => n == 0) m true) (T' := T6) (fun q hq => (hx6 q hq).imp id fun h => by simpa [pgT] using h) 100
  simp only [List.length_cons, List.length_nil] at this
  omega
 have kk6 := k5.trans k6
 repeat' first | ((with_reducible first | refine cs ?_ ?_ | refine ws ?_ ?_) <;> intro h <;> try simp only [h]) | simp only [↓wBA, tYr, convA, seval, wH, convB, convC, hu8]
 refine (atIns (e := ⟨[97], 2, 1⟩) (h6.ap (Ap.app s6 [none])) (by rw [hpg6, hpg5, hpg]; exact hW6.tkk) (by omega) hW6.t0 (hbud.kp kk6 (by omega)) (by rw [hpg6, hpg5, hpg]; exact hR6) ⟨by decide, by decide, by decide⟩).mono ?_
 rintro r s7 ⟨U7, P7, v7, T7, h7', t7, f7, h7, k7, hR7, hW7, hc7⟩
 rw [hpg6, hpg5, hpg] at hR7 hW7 hc7
 have l7 := f7.len
 simp only [List.length_append, List.length_cons, List.length_nil] at l7
 rcases hc7 with ⟨rfl, hr7, hx7⟩ | ⟨_, hm7, _⟩ | ⟨_, hf7, hl7⟩
 rotate_left
 ·exfalso
  have hm7 : (⟨[97], 2, 1⟩ : Ent) ∈ ([⟨[98], 1, 1⟩] : List Ent) := hm7
  simp at hm7
 ·obtain ⟨h2, t2, q1, q2⟩ := hl7.cnt hf7
  obtain ⟨rfl, _⟩ := root_leaf q1 (by decide)
  simp only [pgT, List.length_cons, List.length_nil] at q2
  omega
 obtain ⟨rfl, ht7⟩ := root_leaf hr7 (by decide)
 have ht7 : t7 = ([⟨[97], 2, 1⟩, ⟨[98], 1, 1⟩] : List Ent) := ht7
 subst ht7
 have hpg7 := k7.pages
 have kk7 := kk6.trans k7
 repeat' first | ((with_reducible first | refine cs ?_ ?_ | refine ws ?_ ?_) <;> intro h <;> try simp only [h]) | simp only [↓wBA, tYr, convA, seval, wH]
 refine (atAll h7 (hbud.kp kk7 (by omega)) (by rw [hpg7, hpg6, hpg5, hpg]; exact hR7)).mono ?_
 rintro _ s8 ⟨U8, P8, av, rfl, f8, h8, k8, hE8⟩
 have l8 := f8.len
 rcases hE8 with ⟨hE8, _⟩ | ⟨_, rfl⟩
 ·exact absurd hE8 (by decide)
 have kk8 := kk7.trans k8
 have hpg8 := k8.pages
 have hst := ck_9
 have hsq : binStr .eql { data := #[97] } { data := #[97] } = some (.bool true) := by simp [binStr]
 have hb2 : bytesOfR [[.v (.int .u8 97)]] = some [97] := rfl
 have hfe : (fromF [] (fun _ => true) 0 ([⟨[97], 2, 1⟩, ⟨[98], 1, 1⟩] : List Ent)).map entP = [[.sl 1 [[.v (.int .u8 97)]], .v (.int .i64 2), .v (.int .i64 1)], [.sl 1 [[.v (.int .u8 98)]], .v (.int .i64 1), .v (.int .i64 1)]] := rfl
 have hins : ∀ {s : St}, Ap s8 s → ACalls Tryz.prog 12 [.mp s3.length 2 0 0, intV .i64 (m : Nat), .p (.sl 1 [[.v (.int .u8 97)]]), .agg [intV .i64 2, intV .i64 1]] s fun q σ' => q = intV .i64 1 ∧ ∃ U', Fr s σ' U8 U' := fun {s} ha => by
  refine (atIns (h := 0) (t := ([⟨[97], 2, 1⟩, ⟨[98], 1, 1⟩] : List Ent)) (e := ⟨[97], 2, 1⟩) (h8.ap ha) (by rw [hpg8, hpg7, hpg6, hpg5, hpg]; exact hW7.tkk) (by rw [hpg8, hpg7, hpg6, hpg5, hpg]; omega) hW7.t0 (hbud.kp kk8 (by omega)) (by rw [hpg8, hpg7, hpg6, hpg5, hpg]; exact hR7) ⟨by decide, by decide, by decide⟩).mono ?_
  rintro q s ⟨U9, P9, v9, T9, h9', t9, f9, h9, k9, hR9, hW9, hc9⟩
  have hno : ∀ {h2 : Nat} {t2 : BTr h2}, ¬ RootR 0 ([⟨[97], 2, 1⟩, ⟨[98], 1, 1⟩] : List Ent) ⟨[97], 2, 1⟩ h2 t2 := fun hr => by
   rcases hr with ⟨_, hi⟩ | ⟨_, _, _, _, _, _, hi, _⟩ <;> exact hi.1 (List.mem_cons_self ..)
  rcases hc9 with ⟨_, hr, _⟩ | ⟨rfl, _, _⟩ | ⟨_, _, hl⟩
  ·exact absurd hr hno
  ·exact ⟨rfl, U9, f9⟩
  ·obtain ⟨_, _, _, _, hr, _⟩ := hl
   exact absurd hr hno
 repeat' first | ((with_reducible first | refine cs ?_ ?_ | refine ws ?_ ?_) <;> intro h <;> try simp only [h]) | simp only [↓wBA, tYr, convA, seval, wH, hfe, convB, convC, hu8, hst, hb2, hsq, Bool.and_self, beq_self_eq_true] | ((with_reducible show ACalls _ _ _ _ _); refine (hins (Ap.app _ _)).mono ?_; rintro _ s10 ⟨rfl, U10, f10⟩)
 have l10 := f10.len
 simp only [List.length_append, List.length_cons, List.length_nil] at l10
 all_goals refine ret_st ?_ (by first | exact Nat.le_refl _ | (simp only [List.length_set, List.length_append]; omega) | omega)
 all_goals simp only [resA.eq_1, resL.eq_1, resL.eq_2, resV.eq_1, resV.eq_2, ↓wBA, tYr, convA, seval, wH]
 exact Ap.of_fr ((((a1.trans a2).trans a3).trans a4).fr (F := fun t => t = s3.length ∨ G t) |>.trans (f5.trans ((Ap.app s5 [none]).fr.trans (f6.trans ((Ap.app s6 [none]).fr.trans (f7.trans (f8.trans ((Ap.app s8 [none]).fr.trans f10)))))))) fun t ht => ht.elim (fun e => by omega) (hGσ t)
end Go.Proofs.YtockimhceppkbaaGreat
namespace Go.Proofs.YtockimhceppkbaaGreat
open Go.RowKit
def RecsY (x : PV) (ys : List PV) : Prop := x = .sl 1 (ys.map fun y => [y]) ∧ ys.length ≤ 140737488351232 ∧ ∀ y ∈ ys, ∃ r : List UInt8, y = .sl 1 (encB r) ∧ r.length ≤ 140737488351232
theorem recs_shY {x : PV} (h : HasSh (.sl 24 [.sl 1 [.int .u8]]) x) : ∃ ys, RecsY x ys := by
 rw [HasSh] at h
 obtain ⟨ls, rfl, hl, hc⟩ := h
 let g : List PV → PV := fun c => match c with
  | y :: _ => y
  | _ => .v undef
 have key : ∀ c ∈ ls, [g c] = c ∧ ∃ r : List UInt8, g c = .sl 1 (encB r) ∧ r.length ≤ 140737488351232 := fun c hm => by
  have := hc c hm
  rw [HasShL] at this
  obtain ⟨x1, c', rfl, h1, h2⟩ := this
  rw [HasShL] at h2
  subst h2
  exact ⟨rfl, bytes_sh2 h1⟩
 refine ⟨ls.map g, ?_, by simp; omega, fun y hy => ?_⟩
 ·rw [List.map_map]
  have : ls.map ((fun y => [y]) ∘ g) = ls := by
   conv => rhs; rw [← List.map_id ls]
   exact List.map_congr_left fun c hm => (key c hm).1
  rw [this]; rfl
 ·obtain ⟨c, hm, rfl⟩ := List.mem_map.1 hy
  exact (key c hm).2
end Go.Proofs.YtockimhceppkbaaGreat
namespace Go.Proofs.YtockimhceppkbaaGreat
open Go.RowKit
def pl36_7Yw : Plan := (.det 0 (.det 1 (.det 2 (.det 3 (.det 4 (.det 5 (.det 6 (.det 7 (.det 8 (.det 9 (.fin 10 (.det 11 .done))))))))))))
def tYw := aa wX <| aa wbu <| aa T3 <| aa T25 <| aa T30 <| aa T86 <| aa T90 <| aa T92 <| aa T97 T100
section
variable {σ : St} {b p dd l kh n : Nat} {U : Nat → Prop} {P : PoolV} {v : Nat → List UInt8} {T : Nat → Bool}
theorem abFree (h : Bt σ b p dd l kh U P v) (hT : Tk (v 0) P.pages T) (hnp : P.pages ≤ 3200) (hn1 : 1 ≤ n) (hn : n < P.pages) (hTn : T n = true) (hb : Bud P 1) :
 ACalls Tryz.prog 38 [.mp b 2 0 0, intV .i64 (n : Nat)] σ fun r σ' => r = intV .i64 0 ∧ ∃ U' P' v', Fr σ σ' U U' ∧ Bt σ' b p dd l kh U' P' v' ∧ Kp P P' 0 ∧ (∀ m, m ≠ 0 → v' m = v m) ∧ Tk (v' 0) P.pages fun m => if m = n then false else T m := by
 obtain ⟨B, G, ch, h, hU⟩ := h
 have := h.chl
 refine (afree h.bt h.pl h.dj (by rw [h.vw]; exact hT) hnp hn1 hn (by omega) hb.c hb.w).mono ?_
 rintro r s ⟨B', G', P', ch', hf, hB, hP, hd, hk, _, hc⟩
 rcases hc with ⟨pg, _, rfl, rfl, hz, hT'⟩ | ⟨hno, _⟩
 ·refine ⟨rfl, fun t => B' t ∨ G' t, P', bview P'.view (setM ch 0 pg), fr_iff hf hU fun t => Iff.rfl, ⟨B', G', _, ⟨hB, hP, hd, fun q hq => ?_, fun m => rfl⟩, fun t => Iff.rfl⟩, hk, fun m hm0 => ?_, ?_⟩
  ·rw [hk.pages]
   rcases mem_set q hq with rfl | hq
   ·exact ⟨by show 0 < _; omega, hz⟩
   ·exact h.ok q hq
  ·rw [bview_set, if_neg hm0, bview_congr hk.view]; exact h.vw m
  ·rw [bview_set, if_pos rfl]; exact hT'
 ·rw [hTn] at hno; cases hno
def FreeR (σ : St) (b p dd l kh : Nat) (U : Nat → Prop) (P : PoolV) (v : Nat → List UInt8) (T : Nat → Bool) (ps : List Nat) (r : AV) (σ' : St) : Prop :=
 r = intV .i64 0 ∧ ∃ U' P' v' T', Fr σ σ' U U' ∧ Bt σ' b p dd l kh U' P' v' ∧ Kp P P' 0 ∧ (∀ m, m ≠ 0 → v' m = v m) ∧ Tk (v' 0) P.pages T' ∧ ∀ m, T' m = (T m && !decide (m ∈ ps))
theorem atFree1 {tb : Nat} {kd dp : Int} {a : AV} (h : Bt σ b p dd l kh U P v) (hT : Tk (v 0) P.pages T) (hnp : P.pages ≤ 3200) (hn1 : 1 ≤ n) (hn : n < P.pages) (hTn : T n = true) (hb : Bud P 1) (htb : σ[tb]? = some (some (Ob.row 1 [[AV.mp b 2 0 0]]))) (hlf : leaf a = true) (hcc : cellsA a = some [a]) :
 ACalls Tryz.prog 37 [intV .i64 (n : Nat), intV .i64 dp, .agg [intV .i64 kd, a], .mp tb 1 0 0] σ fun r σ' => FreeR σ b p dd l kh U P v T [n] r σ' := by
 have a1 := Ap.app σ [some (Ob.row 2 [[intV .i64 kd, a]])]
 have b1 := a1.get htb
 have y1 := at_lt b1
 have y0 := at_lt htb
 refine acalls_of cx_ok dr_ok Tryz.func37 (by kernel_rfl) rfl (nt := 7) (rs := [.tmp 7]) rfl rfl ?_
 repeat' first | ((with_reducible first | refine cs ?_ ?_ | refine ws ?_ ?_) <;> intro h <;> try simp only [h]) | simp only [↓wBA, tYw, convA, seval, wH, hlf, hcc, htb, y0, b1, y1]
 refine (abFree (h.ap a1) hT hnp hn1 hn hTn hb).mono ?_
 rintro _ s ⟨rfl, U', P', v', f1, h1, k1, hv, hT1⟩
 have q1 := f1.len
 simp only [List.length_append, List.length_cons, List.length_nil] at q1
 repeat' first | ((with_reducible first | refine cs ?_ ?_ | refine ws ?_ ?_) <;> intro h <;> try simp only [h]) | simp only [↓wBA, tYw, convA, seval, wH]
 all_goals refine ret_st ?_ (by first | exact Nat.le_refl _ | (simp only [List.length_set, List.length_append]; omega) | omega)
 all_goals simp only [resA.eq_1, resL.eq_1, resL.eq_2, resV.eq_1, resV.eq_2, ↓wBA, tYw, convA, seval, wH]
 refine ⟨rfl, U', P', v', _, a1.fr.trans f1, h1, k1, hv, hT1, fun m => ?_⟩
 by_cases e : m = n <;> simp [e]
theorem atWalkLeaf {tb : Nat} {dp : Int} {t : List Ent} (hB : Bt σ b p dd l kh U P v) (hT : Tk (v 0) P.pages T) (hnp : P.pages ≤ 3200) (hn : 1 ≤ n ∧ n < P.pages ∧ T n = true) (hN : NodeP (v n) 2 (its0 t)) (hb : Bud P 1) (htb : σ[tb]? = some (some (Ob.row 1 [[AV.mp b 2 0 0]]))) (hU : ¬ U tb) :
 ACalls Tryz.prog 36 [.agg [.mp b 2 0 0], intV .i64 (n : Nat), intV .i64 dp, .fn 37 [] [.mp tb 1 0 0]] σ fun r σ' => FreeR σ b p dd l kh U P v T [n] r σ' := by
 have hlt := hB.lt
 have hl49 := hN.n
 have hil : (its0 t).length = t.length := by simp [its0]
 have ytb := at_lt htb
 refine acalls_of cx_ok dr_ok Tryz.func36 (by kernel_rfl) rfl (nt := 49) (rs := [.tmp 8]) rfl rfl ?_
 repeat' first | ((with_reducible first | refine cs ?_ ?_ | refine ws ?_ ?_ | refine wd ?_ ?_ | refine wu ?_ ?_) <;> intro h <;> try simp only [h]) | simp only [↓wBA, tYw, convA, seval, pl36_7Yw, wH] | (with_reducible refine dP pl36_7Yw 12 (some 41) (by decide) (by kernel_rfl) ?_)
 have a1 := Ap.app σ [some (Ob.row 1 [[AV.mp b 2 0 0]])]
 refine (atRead (hB.ap a1) hn.2.1 hN hb).mono ?_
 rintro _ s1 ⟨U1, P1, a, rfl, f1, hB1, k1, ha, hta⟩
 have q1 := f1.len
 simp only [List.length_append, List.length_cons, List.length_nil] at q1
 have hlt1 := hB1.lt
 have hlf := ha.x.leaf
 have hcc := ha.x.cells
 have t1 := f1.get (a1.get htb) hU
 have yt1 := at_lt t1
 obtain ⟨S1, hS1⟩ : ∃ S1, S1 = s1 ++ [some (Ob.row 2 [[AV.p (.v (.int .i64 2)), a]])] := ⟨_, rfl⟩
 have aS : Ap s1 S1 := ⟨_, hS1⟩
 have hS1l : S1.length = s1.length + 1 := by rw [hS1]; simp
 have bN : S1[s1.length]? = some (some (Ob.row 2 [[AV.p (.v (.int .i64 2)), a]])) := by rw [hS1]; simp
 have yN := at_lt bN
 have haS : NdA S1 a (its0 t) := ha.same fun j hj => by rw [hS1, List.getElem?_append_left (ha.lt hj)]
 have hla : lenA cx 90 a = some t.length := by
  rcases ha with ⟨h0, rfl⟩ | ⟨_, tn, rfl, _⟩
  ·rw [← hil, h0]; rfl
  ·rw [hil]; exact km_90
 have htU1 : ¬ U1 tb := fun e => (f1.own _ e).elim hU fun e => by simp at e; omega
 have hfr := atFree1 (dp := dp) (kd := 2) (a := a) (hB1.ap aS) (by rw [k1.pages]; exact hT) (by rw [k1.pages]; exact hnp) hn.1 (by rw [k1.pages]; exact hn.2.1) hn.2.2 (hb.kp k1 (by omega)) (aS.get t1) hlf hcc
 repeat' first | ((with_reducible first | refine cs ?_ ?_ | refine ws ?_ ?_ | refine wd ?_ ?_ | refine wu ?_ ?_) <;> intro h <;> try simp only [h]) | simp only [↓wBA, tYw, convA, seval, pl36_7Yw, wH, c2y, hlf, hcc, hS1.symm, bN, yN, hla] | (with_reducible refine dP pl36_7Yw 12 (some 41) (by decide) (by kernel_rfl) ?_)
 refine hfr.mono ?_
 rintro _ s2 ⟨rfl, U2, P2, v2, T2, f2, hB2, k2, hv2, hT2, he2⟩
 have q2 := f2.len
 have nN : ¬ U1 s1.length := fun e => by have := hlt1 _ e; omega
 have cN := f2.get bN nN
 have zN := at_lt cN
 repeat' first | ((with_reducible first | refine cs ?_ ?_ | refine ws ?_ ?_ | refine wd ?_ ?_ | refine wu ?_ ?_) <;> intro h <;> try simp only [h]) | simp only [↓wBA, tYw, convA, seval, pl36_7Yw, wH] | (with_reducible refine dP pl36_7Yw 12 (some 41) (by decide) (by kernel_rfl) ?_)
 refine awp_loopS (X := Unit) (fun x => 0) (fun x => [(10, intV .i64 0), (11, intV .i64 0)]) [25, 26, 27, 28, 29, 30, 31, 32, 33, 34, 35, 36, 37, 38, 39, 40, 41, 42, 43, 44, 45, 46, 47, 48, 49, 50, 51] (fun x s => s = s2) (()) ?_ ?_ ?_ ?_
 ·simp only [wHl, wHf]
 ·exact rfl
 ·rintro _ _ rfl; omega
 ·intro y J s hI
  simp only [wHl]
  subst hI
  by_cases hlt3 : 0 < t.length
  ·have hdec := dT (i := 0) (n := t.length) (by omega)
   repeat' first | ((with_reducible first | refine cs ?_ ?_ | refine ws ?_ ?_ | refine wd ?_ ?_ | refine wu ?_ ?_) <;> intro h <;> try simp only [h]) | simp only [↓wBA, tYw, convA, seval, pl36_7Yw, wH, wHl, hdec, cN, zN, hla] | (with_reducible refine dP pl36_7Yw 12 (some 41) (by decide) (by kernel_rfl) ?_)
   all_goals refine ret_st ?_ (by first | exact Nat.le_refl _ | (simp only [List.length_set, List.length_append]; omega) | omega)
   all_goals simp only [resA.eq_1, resL.eq_1, resL.eq_2, resV.eq_1, resV.eq_2, ↓wBA, tYw, convA, seval, wH]
   all_goals exact ⟨rfl, U2, P2, v2, T2, ((a1.fr.trans f1).trans aS.fr).trans f2, hB2, k1.trans k2, hv2, by rw [← k1.pages]; exact hT2, he2⟩
  ·have hdec := dF (i := 0) (n := t.length) (by omega)
   repeat' first | ((with_reducible first | refine cs ?_ ?_ | refine ws ?_ ?_ | refine wd ?_ ?_ | refine wu ?_ ?_) <;> intro h <;> try simp only [h]) | simp only [↓wBA, tYw, convA, seval, pl36_7Yw, wH, wHl, hdec, cN, zN, hla] | (with_reducible refine dP pl36_7Yw 12 (some 41) (by decide) (by kernel_rfl) ?_)
   all_goals refine ret_st ?_ (by first | exact Nat.le_refl _ | (simp only [List.length_set, List.length_append]; omega) | omega)
   all_goals simp only [resA.eq_1, resL.eq_1, resL.eq_2, resV.eq_1, resV.eq_2, ↓wBA, tYw, convA, seval, wH]
   all_goals exact ⟨rfl, U2, P2, v2, T2, ((a1.fr.trans f1).trans aS.fr).trans f2, hB2, k1.trans k2, hv2, by rw [← k1.pages]; exact hT2, he2⟩
theorem atWalkNode {h tb : Nat} {dp : Int} {t : NL h} (hB : Bt σ b p dd l kh U P v) (hT : Tk (v 0) P.pages T) (hnp : P.pages ≤ 3200) (hTr : TrAt v (h + 1) n t) (hnd : (pgT (h + 1) n t).Nodup) (htk : ∀ q ∈ pgT (h + 1) n t, 1 ≤ q ∧ q < P.pages ∧ T q = true) (hb : Bud P 1) (htb : σ[tb]? = some (some (Ob.row 1 [[AV.mp b 2 0 0]]))) (hU : ¬ U tb)
 (ih : ∀ {σ : St} {U : Nat → Prop} {P : PoolV} {v : Nat → List UInt8} {T : Nat → Bool} {n : Nat} {dp : Int} {t : BTr h}, Bt σ b p dd l kh U P v → Tk (v 0) P.pages T → P.pages ≤ 3200 → TrAt v h n t → (pgT h n t).Nodup → (∀ q ∈ pgT h n t, 1 ≤ q ∧ q < P.pages ∧ T q = true) → Bud P 1 → σ[tb]? = some (some (Ob.row 1 [[AV.mp b 2 0 0]])) → ¬ U tb →
  ACalls Tryz.prog 36 [.agg [.mp b 2 0 0], intV .i64 (n : Nat), intV .i64 dp, .fn 37 [] [.mp tb 1 0 0]] σ fun r σ' => FreeR σ b p dd l kh U P v T (pgT h n t) r σ') :
 ACalls Tryz.prog 36 [.agg [.mp b 2 0 0], intV .i64 (n : Nat), intV .i64 dp, .fn 37 [] [.mp tb 1 0 0]] σ fun r σ' => FreeR σ b p dd l kh U P v T (pgT (h + 1) n t) r σ' := by
 have hlt := hB.lt
 have hn := htk n (pgT_root _ _ _)
 have hN : NodeP (v n) 3 (its1 t) := hTr.1
 have hl49 := hN.n
 have hil := its1_len t
 have ytb := at_lt htb
 refine acalls_of cx_ok dr_ok Tryz.func36 (by kernel_rfl) rfl (nt := 49) (rs := [.tmp 8]) rfl rfl ?_
 repeat' first | ((with_reducible first | refine cs ?_ ?_ | refine ws ?_ ?_ | refine wd ?_ ?_ | refine wu ?_ ?_) <;> intro h <;> try simp only [h]) | simp only [↓wBA, tYw, convA, seval, pl36_7Yw, wH] | (with_reducible refine dP pl36_7Yw 12 (some 41) (by decide) (by kernel_rfl) ?_)
 have a1 := Ap.app σ [some (Ob.row 1 [[AV.mp b 2 0 0]])]
 refine (atRead (hB.ap a1) hn.2.1 hN hb).mono ?_
 rintro _ s1 ⟨U1, P1, a, rfl, f1, hB1, k1, ha, hta⟩
 have q1 := f1.len
 simp only [List.length_append, List.length_cons, List.length_nil] at q1
 have hlt1 := hB1.lt
 have hlf := ha.x.leaf
 have hcc := ha.x.cells
 have b0' : s1[σ.length]? = some (some (Ob.row 1 [[AV.mp b 2 0 0]])) := by
  rw [f1.keep _ (by simp) fun e => by have := hlt _ e; omega]; simp
 have t1 := f1.get (a1.get htb) hU
 have yt1 := at_lt t1
 obtain ⟨S1, hS1⟩ : ∃ S1, S1 = s1 ++ [some (Ob.row 2 [[AV.p (.v (.int .i64 3)), a]])] := ⟨_, rfl⟩
 have aS : Ap s1 S1 := ⟨_, hS1⟩
 have hS1l : S1.length = s1.length + 1 := by rw [hS1]; simp
 have bN : S1[s1.length]? = some (some (Ob.row 2 [[AV.p (.v (.int .i64 3)), a]])) := by rw [hS1]; simp
 have yN := at_lt bN
 have b0 := aS.get b0'
 have haS : NdA S1 a (its1 t) := ha.same fun j hj => by rw [hS1, List.getElem?_append_left (ha.lt hj)]
 have hla : lenA cx 90 a = some t.length := by
  rcases ha with ⟨h0, rfl⟩ | ⟨_, tn, rfl, _⟩
  ·rw [← hil, h0]; rfl
  ·rw [hil]; exact km_90
 have n0 : ¬ U1 σ.length := fun e => (f1.own _ e).elim (fun e => by have := hlt _ e; omega) fun e => by simp at e; omega
 have htU1 : ¬ U1 tb := fun e => (f1.own _ e).elim hU fun e => by simp at e; omega
 have nN : ¬ U1 s1.length := fun e => by have := hlt1 _ e; omega
 have hfr := atFree1 (dp := dp) (kd := 3) (a := a) (hB1.ap aS) (by rw [k1.pages]; exact hT) (by rw [k1.pages]; exact hnp) hn.1 (by rw [k1.pages]; exact hn.2.1) hn.2.2 (hb.kp k1 (by omega)) (aS.get t1) hlf hcc
 repeat' first | ((with_reducible first | refine cs ?_ ?_ | refine ws ?_ ?_ | refine wd ?_ ?_ | refine wu ?_ ?_) <;> intro h <;> try simp only [h]) | simp only [↓wBA, tYw, convA, seval, pl36_7Yw, wH, c3y, hlf, hcc, hS1.symm, bN, yN, hla] | (with_reducible refine dP pl36_7Yw 12 (some 41) (by decide) (by kernel_rfl) ?_)
 refine hfr.mono ?_
 rintro _ s2 ⟨rfl, U2, P2, v2, T2, f2, hB2, k2, hv2, hT2, he2⟩
 have q2 := f2.len
 have cN2 := f2.get bN nN
 have c02 := f2.get b0 n0
 have ct2 := f2.get (aS.get t1) htU1
 have nN2 : ¬ U2 s1.length := fun e => (f2.own _ e).elim nN fun e => by omega
 have n02 : ¬ U2 σ.length := fun e => (f2.own _ e).elim n0 fun e => by omega
 have nt2 : ¬ U2 tb := fun e => (f2.own _ e).elim htU1 fun e => by omega
 have k12 := k1.trans k2
 have hp2 : ∀ q ∈ pgT (h + 1) n t, q ≠ 0 := fun q hq e => by have := (htk q hq).1; omega
 rw [pgT_node] at hnd
 have hnd2 := List.nodup_cons.1 hnd
 repeat' first | ((with_reducible first | refine cs ?_ ?_ | refine ws ?_ ?_ | refine wd ?_ ?_ | refine wu ?_ ?_) <;> intro h <;> try simp only [h]) | simp only [↓wBA, tYw, convA, seval, pl36_7Yw, wH] | (with_reducible refine dP pl36_7Yw 12 (some 41) (by decide) (by kernel_rfl) ?_)
 refine awp_loopS (X := { i : Nat // i ≤ t.length }) (fun i => t.length - i.1) (fun i => [(10, intV .i64 0), (11, intV .i64 (i.1 : Nat))]) [25, 26, 27, 28, 29, 30, 31, 32, 33, 34, 35, 36, 37, 38, 39, 40, 41, 42, 43, 44, 45, 46, 47, 48, 49, 50, 51] (fun i s => ∃ U' P' v' T', Fr s2 s U2 U' ∧ Bt s b p dd l kh U' P' v' ∧ Kp P P' 0 ∧ (∀ m, m ≠ 0 → v' m = v m) ∧ Tk (v' 0) P.pages T' ∧ ∀ m, T' m = (T m && !decide (m ∈ n :: flP (t.take i.1)))) (⟨0, by omega⟩) ?_ ?_ ?_ ?_
 ·simp only [wHl, wHf]
 ·exact ⟨U2, P2, v2, T2, Fr.refl _ _, hB2, k12, hv2, by rw [← k1.pages]; exact hT2, he2⟩
 ·rintro _ _ ⟨_, _, _, _, h, _⟩; exact h.len
 ·intro y J s hI
  simp only [wHl]
  obtain ⟨i, hi⟩ := y
  obtain ⟨U3, P3, v3, T3, f3, hB3, k3, hv3, hT3, he3⟩ := hI
  dsimp only at *
  have cN := f3.get cN2 nN2
  have c0 := f3.get c02 n02
  have ct := f3.get ct2 nt2
  have nt3 : ¬ U3 tb := fun e => (f3.own _ e).elim nt2 fun e => by have := at_lt ct2; omega
  have zN := at_lt cN
  have z0 := at_lt c0
  have hi0 := nnI i
  by_cases hlt3 : i < t.length
  ·have hdec := dT (i := i) (n := t.length) hlt3
   have hw := wI i (by omega)
   obtain ⟨x, hx⟩ : ∃ x, t[i]? = some x := ⟨t[i], by simp⟩
   have hxm := List.mem_of_getElem? hx
   have hgx : (its1 t)[i]? = some ⟨x.1, x.2.1⟩ := by simp [its1, hx]
   have hgc : ((its1 t).map itC)[i]? = some (itC ⟨x.1, x.2.1⟩) := by simp [hgx]
   rcases haS with ⟨h0, _⟩ | ⟨_, tn, rfl, htn⟩
   ·rw [h0] at hgx; simp at hgx
   have htnU1 : ¬ U1 tn := (hta tn rfl).2
   have ctn2 := f2.get htn htnU1
   have ntn2 : ¬ U2 tn := fun e => (f2.own _ e).elim htnU1 fun e => by have := at_lt htn; omega
   have ctn := f3.get ctn2 ntn2
   have ztn := at_lt ctn
   have hif : ((i : Int) < ((its1 t).length : Int)) = True := eq_true (by omega)
   have htx : ∀ q, q ∈ pgT h x.2.1 x.2.2 → q ∈ flP t := fun q hq => List.mem_flatMap.2 ⟨x, hxm, hq⟩
   obtain ⟨g1, g2⟩ := List.getElem?_eq_some_iff.1 hx
   have hsp : t = t.take i ++ x :: t.drop (i + 1) := by
    conv => lhs; rw [← List.take_append_drop i t, List.drop_eq_getElem_cons g1, g2]
   have hfl : flP t = flP (t.take i) ++ (pgT h x.2.1 x.2.2 ++ flP (t.drop (i + 1))) := by
    conv => lhs; rw [hsp]
    rw [flP_app, flP_cons]
   have hxs : (pgT h x.2.1 x.2.2).Nodup := by
    have := hnd2.2
    rw [hfl] at this
    exact (List.nodup_append.1 (List.nodup_append.1 this).2.1).1
   have hdj : ∀ q, q ∈ pgT h x.2.1 x.2.2 → q ∉ n :: flP (t.take i) := fun q hq e => by
    rcases List.mem_cons.1 e with rfl | e
    ·exact hnd2.1 (htx _ hq)
    ·have := hnd2.2
     rw [hfl] at this
     exact (List.nodup_append.1 this).2.2 q e q (by simp [hq]) rfl
   have htk' : ∀ q ∈ pgT h x.2.1 x.2.2, 1 ≤ q ∧ q < P3.pages ∧ T3 q = true := fun q hq => by
    obtain ⟨u1, u2, u3⟩ := htk q (by rw [pgT_node]; exact List.mem_cons_of_mem _ (htx q hq))
    refine ⟨u1, by rw [k3.pages]; exact u2, ?_⟩
    rw [he3, u3]; simpa using hdj q hq
   have hih := fun dp => ih (dp := dp) hB3 (by rw [k3.pages]; exact hT3) (by rw [k3.pages]; exact hnp) ((hTr.2 x hxm).congr fun q hq => hv3 q (by have := (htk' q hq).1; omega)) hxs htk' (hb.kp k3 (by omega)) ct nt3
   repeat' first | ((with_reducible first | refine cs ?_ ?_ | refine ws ?_ ?_ | refine wd ?_ ?_ | refine wu ?_ ?_) <;> intro h <;> try simp only [h]) | simp only [↓wBA, tYw, convA, seval, pl36_7Yw, wH, wHl, hdec, cN, zN, c0, z0, hla, ctn, ztn, hgc, itC, hif, hi0, c3y] | (with_reducible refine dP pl36_7Yw 12 (some 41) (by decide) (by kernel_rfl) ?_)
   refine (hih _).mono ?_
   rintro _ s4 ⟨rfl, U4, P4, v4, T4, f4, hB4, k4, hv4, hT4, he4⟩
   have q4 := f4.len
   repeat' first | ((with_reducible first | refine cs ?_ ?_ | refine ws ?_ ?_ | refine wd ?_ ?_ | refine wu ?_ ?_) <;> intro h <;> try simp only [h]) | simp only [↓wBA, tYw, convA, seval, pl36_7Yw, wH, wHl, hw] | (with_reducible refine dP pl36_7Yw 12 (some 41) (by decide) (by kernel_rfl) ?_)
   all_goals refine ⟨⟨i + 1, by omega⟩, by show t.length - (i + 1) < t.length - i; omega, ⟨U4, P4, v4, T4, f3.trans f4, hB4, k3.trans k4, fun m hm => (hv4 m hm).trans (hv3 m hm), by rw [← k3.pages]; exact hT4, fun m => ?_⟩, by simp only [wHl, wHf]⟩
   all_goals
    have hti : flP (t.take (i + 1)) = flP (t.take i) ++ pgT h x.2.1 x.2.2 := by
     rw [List.take_add_one, hx, flP_app]; simp [flP]
    rw [he4, he3]
    dsimp only
    rw [hti]
    cases T m with
    | false => simp
    | true =>
      simp only [List.mem_cons, List.mem_append, Bool.true_and]
      by_cases u1 : m = n <;> by_cases u2 : m ∈ flP (t.take i) <;> by_cases u3 : m ∈ pgT h x.2.1 x.2.2 <;> simp [u1, u2, u3]
  ·obtain rfl : i = t.length := by omega
   have hdec := dF (i := t.length) (n := t.length) hlt3
   repeat' first | ((with_reducible first | refine cs ?_ ?_ | refine ws ?_ ?_ | refine wd ?_ ?_ | refine wu ?_ ?_) <;> intro h <;> try simp only [h]) | simp only [↓wBA, tYw, convA, seval, pl36_7Yw, wH, wHl, hdec, cN, zN, hla] | (with_reducible refine dP pl36_7Yw 12 (some 41) (by decide) (by kernel_rfl) ?_)
   all_goals refine ret_st ?_ (by first | exact Nat.le_refl _ | (simp only [List.length_set, List.length_append]; omega) | omega)
   all_goals simp only [resA.eq_1, resL.eq_1, resL.eq_2, resV.eq_1, resV.eq_2, ↓wBA, tYw, convA, seval, wH]
   rw [List.take_length] at he3
   all_goals exact ⟨rfl, U3, P3, v3, T3, (((a1.fr.trans f1).trans aS.fr).trans f2).trans f3, hB3, k3, hv3, hT3, he3⟩
end
theorem atWalkF {b p dd l kh tb : Nat} : ∀ (h : Nat) {σ : St} {U : Nat → Prop} {P : PoolV} {v : Nat → List UInt8} {T : Nat → Bool} {n : Nat} {dp : Int} {t : BTr h}, Bt σ b p dd l kh U P v → Tk (v 0) P.pages T → P.pages ≤ 3200 → TrAt v h n t → (pgT h n t).Nodup → (∀ q ∈ pgT h n t, 1 ≤ q ∧ q < P.pages ∧ T q = true) → Bud P 1 → σ[tb]? = some (some (Ob.row 1 [[AV.mp b 2 0 0]])) → ¬ U tb →
 ACalls Tryz.prog 36 [.agg [.mp b 2 0 0], intV .i64 (n : Nat), intV .i64 dp, .fn 37 [] [.mp tb 1 0 0]] σ fun r σ' => FreeR σ b p dd l kh U P v T (pgT h n t) r σ'
 | 0, σ, U, P, v, T, n, dp, t, hB, hT, hnp, hTr, hnd, htk, hb, htb, hU => atWalkLeaf hB hT hnp (htk n (pgT_root 0 n t)) hTr hb htb hU
 | h + 1, σ, U, P, v, T, n, dp, t, hB, hT, hnp, hTr, hnd, htk, hb, htb, hU => atWalkNode hB hT hnp hTr hnd htk hb htb hU fun a1 a2 a3 a4 a5 a6 a7 a8 a9 => atWalkF h a1 a2 a3 a4 a5 a6 a7 a8 a9
theorem atFreeT {σ : St} {b p dd l kh n h : Nat} {U : Nat → Prop} {P : PoolV} {v : Nat → List UInt8} {T : Nat → Bool} {t : BTr h} (hB : Bt σ b p dd l kh U P v) (hT : Tk (v 0) P.pages T) (hnp : P.pages ≤ 3200) (hR : RootOk v T P.pages n h t) (hb : Bud P 1) :
 ACalls Tryz.prog 13 [.mp b 2 0 0, intV .i64 (n : Nat)] σ fun r σ' => FreeR σ b p dd l kh U P v T (pgT h n t) r σ' := by
 have hlt := hB.lt
 refine acalls_of cx_ok dr_ok Tryz.func13 (by kernel_rfl) rfl (nt := 10) (rs := [.tmp 4]) rfl rfl ?_
 repeat' first | ((with_reducible first | refine cs ?_ ?_ | refine ws ?_ ?_) <;> intro h <;> try simp only [h]) | simp only [↓wBA, tYw, convA, seval, wH]
 have a1 := Ap.app σ [some (Ob.row 1 [[AV.mp b 2 0 0]])]
 have hf := atWalkF (tb := σ.length) (dp := 0) h (hB.ap a1) hT hnp hR.tr hR.nd hR.tk hb (by simp) fun e => by have := hlt _ e; omega
 refine hf.mono ?_
 rintro _ s1 ⟨rfl, U1, P1, v1, T1, f1, hB1, k1, hv1, hT1, he1⟩
 have q1 := f1.len
 simp only [List.length_append, List.length_cons, List.length_nil] at q1
 repeat' first | ((with_reducible first | refine cs ?_ ?_ | refine ws ?_ ?_) <;> intro h <;> try simp only [h]) | simp only [↓wBA, tYw, convA, seval, wH]
 all_goals refine ret_st ?_ (by first | exact Nat.le_refl _ | (simp only [List.length_set, List.length_append]; omega) | omega)
 all_goals simp only [resA.eq_1, resL.eq_1, resL.eq_2, resV.eq_1, resV.eq_2, ↓wBA, tYw, convA, seval, wH]
 exact ⟨rfl, U1, P1, v1, T1, a1.fr.trans f1, hB1, k1, hv1, hT1, he1⟩
end Go.Proofs.YtockimhceppkbaaGreat
