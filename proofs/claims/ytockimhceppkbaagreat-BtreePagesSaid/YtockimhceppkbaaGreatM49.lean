/- BtreePages. What stands in the variables, whatever it is. The law of pages given back. -/
import Derived.Test.YtockimhceppkbaaGreatM46
import Derived.Test.YtockimhceppkbaaGreatM48
import Derived.Shelf.Vars
set_option linter.unusedSimpArgs false
set_option linter.unusedVariables false
set_option linter.defProp false
set_option maxRecDepth 100000
set_option maxHeartbeats 32000000
namespace Go.Proofs.YtockimhceppkbaaGreat
open Go.RowKit
def pl12_20Yz : Plan := (.det 0 (.det 1 (.det 2 (.det 3 (.det 4 (.det 5 (.det 6 (.act 7 (.det 8 (.fin 9 (.det 10 .done)))))))))))
def pl16_10Yz : Plan := (.det 0 (.det 1 (.det 2 (.det 3 (.det 4 (.det 5 (.det 6 (.det 7 (.det 8 (.fin 9 (.det 10 .done)))))))))))
def tYz := aa wX <| aa wbu <| aa T3 <| aa T4 <| aa T5 <| aa T22 <| aa T24 <| aa T25 <| aa T28 <| aa T30 <| aa T35 <| aa T37 <| aa T40 <| aa T48 <| aa T86 <| aa T87 <| aa T90 <| aa T92 <| aa T97 <| aa T100 T109
def entO {h : Nat} : Option (Ent × Nat × BTr h) → List Ent
 | none => []
 | some z => entsT h z.2.2
theorem ins_mem : ∀ {h : Nat} {t t' : BTr h} {e : Ent} {more : Option (Ent × Nat × BTr h)}, InsR h t e t' more → ∀ x, x ∈ entsT h t' ∨ x ∈ entO more → x = e ∨ x ∈ entsT h t
 | 0, t, t', e, more, hi, x, hx => by
   obtain ⟨L, hL⟩ : ∃ L : List Ent, L = (show List Ent from t).take (cutI (its0 t) e) ++ e :: (show List Ent from t).drop (cutI (its0 t) e) := ⟨_, rfl⟩
   have hs := hi.2
   rw [← hL] at hs
   have hxL : x ∈ L := by
    rcases hs with ⟨_, rfl, rfl⟩ | ⟨_, _, _, m, y, _, rfl, rfl⟩
    ·rcases hx with hx | hx
     ·exact hx
     ·cases hx
    ·rcases hx with hx | hx
     ·exact List.mem_of_mem_take hx
     ·exact List.mem_of_mem_drop hx
   rw [hL] at hxL
   rcases List.mem_append.1 hxL with h | h
   ·exact .inr (List.mem_of_mem_take h)
   ·rcases List.mem_cons.1 h with h | h
    ·exact .inl h
    ·exact .inr (List.mem_of_mem_drop h)
 | h + 1, t, t', e, more, hi, x, hx => by
   obtain ⟨l1, y, l2, s', more', rfl, _, hin, hs⟩ := hi
   obtain ⟨l, hl⟩ : ∃ l : NL h, l = l1 ++ (y.1, y.2.1, s') :: (more'.toList ++ l2) := ⟨_, rfl⟩
   rw [← hl] at hs
   have hxl : x ∈ l.flatMap fun z => entsT h z.2.2 := by
    rcases hs with ⟨_, rfl, rfl⟩ | ⟨_, _, _, m, w, _, rfl, rfl⟩
    ·rcases hx with hx | hx
     ·exact hx
     ·cases hx
    ·rcases hx with hx | hx
     ·obtain ⟨z, hz, hx⟩ := List.mem_flatMap.1 (show x ∈ (l.take _).flatMap fun z => entsT h z.2.2 from hx)
      exact List.mem_flatMap.2 ⟨z, List.mem_of_mem_take hz, hx⟩
     ·obtain ⟨z, hz, hx⟩ := List.mem_flatMap.1 (show x ∈ (l.drop _).flatMap fun z => entsT h z.2.2 from hx)
      exact List.mem_flatMap.2 ⟨z, List.mem_of_mem_drop hz, hx⟩
   obtain ⟨z, hz, hx⟩ := List.mem_flatMap.1 hxl
   have hT : ∀ z ∈ (l1 ++ y :: l2 : NL h), x ∈ entsT h z.2.2 → x ∈ entsT (h + 1) (l1 ++ y :: l2 : NL h) := fun z hz hx => List.mem_flatMap.2 ⟨z, hz, hx⟩
   rw [hl] at hz
   simp only [List.mem_append, List.mem_cons, Option.mem_toList] at hz
   rcases hz with hz | rfl | hz | hz
   ·exact .inr (hT z (by simp [hz]) hx)
   ·rcases ins_mem hin x (.inl hx) with h | h
    ·exact .inl h
    ·exact .inr (hT y (by simp) h)
   ·rcases ins_mem hin x (.inr (by rw [hz]; exact hx)) with h | h
    ·exact .inl h
    ·exact .inr (hT y (by simp) h)
   ·exact .inr (hT z (by simp [hz]) hx)
theorem root_mem {h h' : Nat} {t : BTr h} {t' : BTr h'} {e : Ent} (hr : RootR h t e h' t') (x : Ent) (hx : x ∈ entsT h' t') : x = e ∨ x ∈ entsT h t := by
 rcases hr with ⟨rfl, hi⟩ | ⟨rfl, t1, n, m, y, s, hi, ht⟩
 ·exact ins_mem hi x (.inl hx)
 ·have ht : t' = ([(zeroE, n, t1), (y, m, s)] : NL h) := ht
  subst ht
  have hx : x ∈ ([(zeroE, n, t1), (y, m, s)] : NL h).flatMap fun z => entsT h z.2.2 := hx
  simp only [List.flatMap_cons, List.flatMap_nil, List.append_nil, List.mem_append] at hx
  exact ins_mem hi x hx
structure OnlyT (T : Nat → Bool) (np m h : Nat) (t : BTr h) (k : Nat) : Prop where
 only : ∀ q, T q = true → q = 0 ∨ q ∈ pgT h m t
 pi : PgI h t
 pj : PgJ h t
 en : (entsT h t).length ≤ k
theorem OnlyT.count {T : Nat → Bool} {np m h k : Nat} {t : BTr h} (ho : OnlyT T np m h t k) : cnt T np ≤ (pgT h 0 t).length + 1 := by
 have h1 := cntL (0 :: pgT h m t) (T := fun _ => false) (T' := T) (fun q hq => .inr (by simpa using ho.only q hq)) np
 have h2 : cnt (fun _ => false) np = 0 := by
  clear h1 ho
  induction np with
  | zero => rfl
  | succ n ih => simp [cnt, ih]
 rw [h2, List.length_cons, pgT_len h m 0 t] at h1
 omega
theorem OnlyT.room {T T' : Nat → Bool} {m h k : Nat} {t : BTr h} {e : Ent} (ho : OnlyT T 600 m h t k) (hk : k ≤ 60) (hz : SzT h t) (he : e.k.length ≤ 140) (hl : RootLack h t e T T') (ha : ∀ q, q < 600 → T' q = true) : False := by
 obtain ⟨h2, t2, q1, q2⟩ := hl.cnt ha
 have h1 := ho.count
 obtain ⟨g1, g2⟩ := pgI_step ho.pi hz he q1
 have g3 := pgJ_step ho.pi ho.pj hz he q1
 have g4 := pg_bound (n := 0) g1 g3 (by have := ho.en; omega)
 omega
theorem OnlyT.step {T T' : Nat → Bool} {np m h h' k : Nat} {t : BTr h} {t' : BTr h'} {e : Ent} (ho : OnlyT T np m h t k) (hz : SzT h t) (he : e.k.length ≤ 140) (hr : RootR h t e h' t') (hx : ∀ q, T' q = true → T q = true ∨ q ∈ pgT h' m t') : OnlyT T' np m h' t' (k + 1) := by
 obtain ⟨g1, g2⟩ := pgI_step ho.pi hz he hr
 refine ⟨fun q hq => ?_, g1, pgJ_step ho.pi ho.pj hz he hr, by have := ho.en; omega⟩
 rcases hx q hq with h1 | h1
 ·rcases ho.only q h1 with h2 | h2
  ·exact .inl h2
  ·exact .inr (root_pg hr q h2)
 ·exact .inr h1
section
variable {σ : St} {b : Nat} {n : Int}
theorem atMayNo1 (σ : St) : ACalls Tryz.prog 32 [.agg [intV .i64 65536, intV .i64 0]] σ fun r s' => s' = σ ∧ r = boolV false := by
 refine ACalls.pureF (R := fun r => r = boolV false) ?_ rfl σ
 refine acalls_of cx_ok dr_ok Tryz.func32 (by kernel_rfl) rfl (nt := 20) (rs := [.tmp 2]) rfl rfl ?_
 repeat' first | ((with_reducible first | refine cs ?_ ?_ | refine ws ?_ ?_) <;> intro h <;> try simp only [h]) | simp only [↓wBA, tYz, convA, seval, wH]
 all_goals refine ret_is (a := _) ?_ rfl rfl
 all_goals simp only [↓wBA, tYz, convA, seval]
 all_goals simp_all [wS]
theorem atMayNo2 (σ : St) : ACalls Tryz.prog 32 [.agg [intV .i64 0, intV .i64 (-1)]] σ fun r s' => s' = σ ∧ r = boolV false := by
 refine ACalls.pureF (R := fun r => r = boolV false) ?_ rfl σ
 refine acalls_of cx_ok dr_ok Tryz.func32 (by kernel_rfl) rfl (nt := 20) (rs := [.tmp 2]) rfl rfl ?_
 repeat' first | ((with_reducible first | refine cs ?_ ?_ | refine ws ?_ ?_) <;> intro h <;> try simp only [h]) | simp only [↓wBA, tYz, convA, seval, wH]
 all_goals refine ret_is (a := _) ?_ rfl rfl
 all_goals simp only [↓wBA, tYz, convA, seval]
 all_goals simp_all [wS]
theorem atInsNo {p s : Int} (hm : ∀ σ, ACalls Tryz.prog 32 [.agg [intV .i64 p, intV .i64 s]] σ fun r s' => s' = σ ∧ r = boolV false) : ACalls Tryz.prog 12 [.mp b 2 0 0, intV .i64 n, .p (.v (.slice none 0 0)), .agg [intV .i64 p, intV .i64 s]] σ fun r σ' => r = intV .i64 1 ∧ Ap σ σ' := by
 refine acalls_of cx_ok dr_ok Tryz.func12 (by kernel_rfl) rfl (nt := 76) (rs := [.tmp 8]) rfl rfl ?_
 repeat' first | ((with_reducible first | refine cs ?_ ?_ | refine ws ?_ ?_ | refine wd ?_ ?_ | refine wu ?_ ?_) <;> intro h <;> try simp only [h]) | simp only [↓wBA, tYz, convA, seval, pl12_20Yz, wH] | ((with_reducible show ACalls _ _ _ _ _); refine (hm _).eq ?_) | (with_reducible refine dP pl12_20Yz 11 (some 70) (by decide) (by kernel_rfl) ?_)
 all_goals refine ret_st ?_ (by first | exact Nat.le_refl _ | (simp only [List.length_set, List.length_append]; omega) | omega)
 all_goals simp only [resA.eq_1, resL.eq_1, resL.eq_2, resV.eq_1, resV.eq_2, ↓wBA, tYz, convA, seval, wH]
 exact Ap.app _ _
theorem atInsNil : ACalls Tryz.prog 12 [.p (.v (.pointer none)), intV .i64 0, .p (.v (.slice none 0 0)), .agg [intV .i64 0, intV .i64 0]] σ fun r σ' => r = intV .i64 2 ∧ Ap σ σ' := by
 refine acalls_of cx_ok dr_ok Tryz.func12 (by kernel_rfl) rfl (nt := 76) (rs := [.tmp 8]) rfl rfl ?_
 repeat' first | ((with_reducible first | refine cs ?_ ?_ | refine ws ?_ ?_ | refine wd ?_ ?_ | refine wu ?_ ?_) <;> intro h <;> try simp only [h]) | simp only [↓wBA, tYz, convA, seval, pl12_20Yz, wH] | (with_reducible refine dP pl12_20Yz 11 (some 70) (by decide) (by kernel_rfl) ?_)
 all_goals refine ret_st ?_ (by first | exact Nat.le_refl _ | (simp only [List.length_set, List.length_append]; omega) | omega)
 all_goals simp only [resA.eq_1, resL.eq_1, resL.eq_2, resV.eq_1, resV.eq_2, ↓wBA, tYz, convA, seval, wH]
 exact Ap.app _ _
theorem atMakeNil : ACalls Tryz.prog 11 [.p (.v (.pointer none))] σ fun r σ' => r = .tup [intV .i64 0, intV .i64 2] ∧ Ap σ σ' := by
 refine acalls_of cx_ok dr_ok Tryz.func11 (by kernel_rfl) rfl (nt := 9) (rs := [.tmp 2, .tmp 3]) rfl rfl ?_
 repeat' first | ((with_reducible first | refine cs ?_ ?_ | refine ws ?_ ?_) <;> intro h <;> try simp only [h]) | simp only [↓wBA, tYz, convA, seval, wH]
 all_goals refine ret_st ?_ (by first | exact Nat.le_refl _ | (simp only [List.length_set, List.length_append]; omega) | omega)
 all_goals simp only [resA.eq_1, resL.eq_1, resL.eq_2, resV.eq_1, resV.eq_2, ↓wBA, tYz, convA, seval, wH]
 exact Ap.refl _
theorem atAllNil : ACalls Tryz.prog 15 [.p (.v (.pointer none)), intV .i64 0] σ fun r σ' => r = .tup [.p (.v (.slice none 0 0)), intV .i64 2] ∧ Ap σ σ' := by
 refine acalls_of cx_ok dr_ok Tryz.func15 (by kernel_rfl) rfl (nt := 12) (rs := [.tmp 4, .tmp 5]) rfl rfl ?_
 repeat' first | ((with_reducible first | refine cs ?_ ?_ | refine ws ?_ ?_) <;> intro h <;> try simp only [h]) | simp only [↓wBA, tYz, convA, seval, wH]
 all_goals refine ret_st ?_ (by first | exact Nat.le_refl _ | (simp only [List.length_set, List.length_append]; omega) | omega)
 all_goals simp only [resA.eq_1, resL.eq_1, resL.eq_2, resV.eq_1, resV.eq_2, ↓wBA, tYz, convA, seval, wH]
 exact Ap.refl _
theorem atCheckNil : ACalls Tryz.prog 16 [.p (.v (.pointer none)), intV .i64 0] σ fun r σ' => r = intV .i64 2 ∧ Ap σ σ' := by
 refine acalls_of cx_ok dr_ok Tryz.func16 (by kernel_rfl) rfl (nt := 41) (rs := [.tmp 4]) rfl rfl ?_
 repeat' first | ((with_reducible first | refine cs ?_ ?_ | refine ws ?_ ?_ | refine wd ?_ ?_ | refine wu ?_ ?_) <;> intro h <;> try simp only [h]) | simp only [↓wBA, tYz, convA, seval, pl16_10Yz, wH] | (with_reducible refine dP pl16_10Yz 11 (some 26) (by decide) (by kernel_rfl) ?_)
 all_goals refine ret_st ?_ (by first | exact Nat.le_refl _ | (simp only [List.length_set, List.length_append]; omega) | omega)
 all_goals simp only [resA.eq_1, resL.eq_1, resL.eq_2, resV.eq_1, resV.eq_2, ↓wBA, tYz, convA, seval, wH]
 exact Ap.app _ _
theorem atFreeNil : ACalls Tryz.prog 13 [.p (.v (.pointer none)), intV .i64 0] σ fun r σ' => r = intV .i64 2 ∧ Ap σ σ' := by
 refine acalls_of cx_ok dr_ok Tryz.func13 (by kernel_rfl) rfl (nt := 10) (rs := [.tmp 4]) rfl rfl ?_
 repeat' first | ((with_reducible first | refine cs ?_ ?_ | refine ws ?_ ?_) <;> intro h <;> try simp only [h]) | simp only [↓wBA, tYz, convA, seval, wH]
 all_goals refine ret_st ?_ (by first | exact Nat.le_refl _ | (simp only [List.length_set, List.length_append]; omega) | omega)
 all_goals simp only [resA.eq_1, resL.eq_1, resL.eq_2, resV.eq_1, resV.eq_2, ↓wBA, tYz, convA, seval, wH]
 exact Ap.app _ _
end
theorem own_pY {M : View} {t e : Nat} {ls : List (List PV)} {u : Value} (h : ARep M (.own t e ls) u) : ARep M (.p (.sl e ls)) u := by
 simp only [ARep, PRep] at h ⊢
 obtain ⟨b, cap, n, h1, h2, h3, h4, _⟩ := h
 exact .inr ⟨b, 0, cap, h1, h2, h4⟩
theorem c9y : ((9 : Nat) : Int) = 9 := nr rfl
theorem zrow (n : Nat) : List.replicate n [PV.v (.int .u8 0)] = encB (List.replicate n 0) := by
 simp [encB, byteP]
theorem apages7 (x : PV) (ys : List PV) (hx : RecsY x ys) (lg : Int) (hlg : 0 ≤ lg ∧ lg < 256) (σ : St) : ACalls Tryz.prog 3 [.p x, intV .u8 lg] σ fun r σ' => r = boolV true := by
 obtain ⟨rfl, hyl, hys⟩ := hx
 refine acalls_of cx_ok dr_ok Tryz.func3 (by kernel_rfl) rfl (nt := 137) (rs := [.tmp 4]) rfl rfl ?_
 repeat' first | ((with_reducible first | refine cs ?_ ?_ | refine ws ?_ ?_) <;> intro h <;> try simp only [h]) | simp only [↓wBA, tYz, convA, seval, wH] | ((with_reducible show ACalls _ _ _ _ _); refine (aawake7 _).mono ?_; rintro _ s0 ⟨a0, rfl⟩)
 refine (adnew 4800 (by omega) _).mono ?_
 rintro _ s1 ⟨dd, Fd, rfl, a1, hd, hFd⟩
 repeat' first | ((with_reducible first | refine cs ?_ ?_ | refine ws ?_ ?_) <;> intro h <;> try simp only [h]) | simp only [↓wBA, tYz, convA, seval, wH]
 refine (adnew 30000 (by omega) s1).mono ?_
 rintro _ s2 ⟨dl, Fl, rfl, a2, hl, hFl⟩
 have hd2 := hd.ap a2
 have l0 := a0.len
 have l1 := a1.len
 have l2 := a2.len
 repeat' first | ((with_reducible first | refine cs ?_ ?_ | refine ws ?_ ?_) <;> intro h <;> try simp only [h]) | simp only [↓wBA, tYz, convA, seval, wH]
 refine (aopenN2 hd2 hl (fun t h1 h2 => by have := hd.lt t h1; have := hFl t h2; omega) (by omega) (by omega) 6 (by omega) (by omega)).mono ?_
 rintro _ s3 ⟨p, l, kh, G, P, rfl, a3, hP, p1, p2, p3, p4, p5, p6, p7, p8, p9⟩
 have l3 := a3.len
 have hpg : P.pages = 600 := by rw [p1]; rfl
 have hbud : Bud P 1000000 := ⟨by omega, by rw [p7]; simp, by omega⟩
 repeat' first | ((with_reducible first | refine cs ?_ ?_ | refine ws ?_ ?_) <;> intro h <;> try simp only [h]) | simp only [↓wBA, tYz, convA, seval, wH] | ((with_reducible show ACalls _ _ _ _ _); refine (abBatch hP).mono ?_; rintro _ s4 ⟨rfl, a4, h4⟩)
 have l4 := a4.len
 refine (atMake (T := fun n => n == 0) h4 (by rw [p8]; exact tk_new (by omega)) (by omega) (by omega) rfl (hbud.mono (by omega))).mono ?_
 rintro r s5 ⟨U5, P5, v5, f5, h5, k5, hc⟩
 rcases hc with ⟨m, hTm, rfl, hvo, hTk, ht0, hR5⟩ | ⟨hall, _, _⟩
 rotate_left
 ·exact absurd (hall 1 (by omega)) (by decide)
 have l5 := f5.len
 have hpg5 := k5.pages
 rw [hpg] at hTk hR5
 have hb5 := hbud.kp (k := 1000) k5 (by omega)
 have ho5 : OnlyT (updT (fun n => n == 0) m true) 600 m 0 ([] : List Ent) 0 := ⟨fun q hq => by
  unfold updT at hq
  split at hq
  ·rename_i e; right; simp [pgT, e]
  ·left; simpa using hq, pgI_nil, trivial, Nat.le_refl _⟩
 repeat' first | ((with_reducible first | refine cs ?_ ?_ | refine ws ?_ ?_) <;> intro h <;> try simp only [h]) | simp only [↓wBA, tYz, convA, seval, wH]
 refine awp_outS (X := { i : Nat // i ≤ 60 ∧ i ≤ ys.length }) (fun i => [(10, intV .i64 (i.1 : Nat))]) [4, 11, 35, 36, 37, 38, 39, 40, 41, 42, 43, 44, 45, 46, 47, 48, 49, 50, 51, 52, 53, 54, 55, 56, 57, 58, 59, 60, 61, 62] (fun i s => ∃ U' P' v' T' h t, Fr s5 s U5 U' ∧ Bt s s3.length p dd l kh U' P' v' ∧ P'.pages = 600 ∧ Bud P' 1000 ∧ RootOk v' T' 600 m h t ∧ Tk (v' 0) 600 T' ∧ T' 0 = true ∧ OnlyT T' 600 m h t i.1 ∧ ∀ e ∈ entsT h t, e.p = 0 ∧ e.s < i.1) 0 rfl ?_ ?_
 ·skip
  refine awp_loopS (X := { i : Nat // i ≤ 60 ∧ i ≤ ys.length }) (fun i => 60 - i.1) (fun i => [(10, intV .i64 (i.1 : Nat))]) [4, 11, 35, 36, 37, 38, 39, 40, 41, 42, 43, 44, 45, 46, 47, 48, 49, 50, 51, 52, 53, 54, 55, 56, 57, 58, 59, 60, 61, 62] (fun i s => ∃ U' P' v' T' h t, Fr s5 s U5 U' ∧ Bt s s3.length p dd l kh U' P' v' ∧ P'.pages = 600 ∧ Bud P' 1000 ∧ RootOk v' T' 600 m h t ∧ Tk (v' 0) 600 T' ∧ T' 0 = true ∧ OnlyT T' 600 m h t i.1 ∧ ∀ e ∈ entsT h t, e.p = 0 ∧ e.s < i.1) (⟨0, by omega, by omega⟩) ?_ ?_ ?_ ?_
  ·simp only [wHl, wHf]
  ·exact ⟨U5, P5, v5, _, 0, _, Fr.refl _ _, h5, by rw [hpg5, hpg], hb5, hR5, hTk, ht0, ho5, fun e he => by simp [entsT] at he⟩
  ·rintro _ _ ⟨_, _, _, _, _, _, h, _⟩; exact h.len
  ·intro y J q hI
   simp only [wHl]
   obtain ⟨i, hi, hi2⟩ := y
   obtain ⟨U6, P6, v6, T6, h6, t6, f6, hB6, hp6, hb6, hR6, hT6, h06, ho6, he6⟩ := hI
   dsimp only at *
   have q6 := f6.len
   have hln : ((ys.map fun y => [y]).length : Int) = (ys.length : Int) := by simp
   have hln' : (ys.map fun y => [y]).length = ys.length := by simp
   have hi0 := nnI i
   by_cases hlt : i < ys.length ∧ i < 60
   ·have e1 := dT (i := i) (n := ys.length) hlt.1
    have e2 : decide ((i : Int) < 60) = true := by simp; omega
    have hwi := wI i (by omega)
    obtain ⟨y, hy⟩ : ∃ y, ys[i]? = some y := ⟨ys[i]'hlt.1, by simp⟩
    have hget : (ys.map fun y => [y])[i]? = some [y] := by simp [hy]
    obtain ⟨r, rfl, hrl⟩ := hys y (List.mem_of_getElem? hy)
    have hif : ((i : Int) < (ys.length : Int)) = True := eq_true (by omega)
    have hrb : (encB r).length = r.length := encB_len' r
    repeat' first | ((with_reducible first | refine cs ?_ ?_ | refine ws ?_ ?_) <;> intro h <;> try simp only [h]) | simp only [↓wBA, tYz, convA, seval, wH, wHl, wOu, hln, hln', e1, e2, hget, hif, hi0, hwi]
    by_cases hr4 : r.length ≤ 140
    ·have hd4 : decide ((r.length : Int) ≤ 140) = true := by simp; omega
     have hI := atIns (e := ⟨r, 0, i⟩) hB6 (by rw [hp6]; exact hT6) (by omega) h06 (hb6.mono (by omega)) (by rw [hp6]; exact hR6) ⟨hr4, by show 0 < 65536; omega, by show i < 65536; omega⟩
     simp only [c0y] at hI
     refine hI.mono ?_
     rintro rx s7 ⟨U7, P7, v7, T7, h7', t7, f7, h7, k7, hR7, hW7, hc7⟩
     rw [hp6] at hR7 hW7 hc7
     have l7 := f7.len
     rcases hc7 with ⟨rfl, hr7, hx7⟩ | ⟨_, hm7, _⟩ | ⟨_, hf7, hl7⟩
     rotate_left
     ·exact absurd (he6 _ hm7).2 (Nat.lt_irrefl _)
     ·exact (ho6.room (by omega) hR6.tr.szT hr4 hl7 hf7).elim
     repeat' first | ((with_reducible first | refine cs ?_ ?_ | refine ws ?_ ?_) <;> intro h <;> try simp only [h]) | simp only [↓wBA, tYz, convA, seval, wH, wHl, wOu, hwi, hrb, hd4, hget, hif, hi0, hln, hln']
     refine ⟨⟨i + 1, by omega, by omega⟩, by show 60 - (i + 1) < 60 - i; omega, ?_, by simp only [wHl, wHf]⟩
     refine ⟨U7, P7, v7, T7, h7', t7, f6.trans f7, h7, by rw [k7.pages]; exact hp6, hb6.kp k7 (by omega), hR7, hW7.tkk, hW7.t0, ho6.step hR6.tr.szT hr4 hr7 hx7, fun e he => ?_⟩
     rcases root_mem hr7 e he with rfl | he
     ·exact ⟨rfl, by show i < i + 1; omega⟩
     ·have := he6 e he
      exact ⟨this.1, by show e.s < i + 1; omega⟩
    ·have hd4 : decide ((r.length : Int) ≤ 140) = false := by simp; omega
     refine (atInsLong (by omega)).mono ?_
     rintro _ s7 ⟨rfl, a7⟩
     have l7 := a7.len
     repeat' first | ((with_reducible first | refine cs ?_ ?_ | refine ws ?_ ?_) <;> intro h <;> try simp only [h]) | simp only [↓wBA, tYz, convA, seval, wH, wHl, wOu, hwi, hrb, hd4, hget, hif, hi0, hln, hln']
     refine ⟨⟨i + 1, by omega, by omega⟩, by show 60 - (i + 1) < 60 - i; omega, ?_, by simp only [wHl, wHf]⟩
     exact ⟨U6, P6, v6, T6, h6, t6, f6.trans a7.fr, hB6.ap a7, hp6, hb6, hR6, hT6, h06, ⟨ho6.only, ho6.pi, ho6.pj, by have := ho6.en; show _ ≤ i + 1; omega⟩, fun e he => ⟨(he6 e he).1, by have := (he6 e he).2; show e.s < i + 1; omega⟩⟩
   ·have hout : (decide ((i : Int) < (ys.length : Int)) = false ∧ True) ∨ (decide ((i : Int) < (ys.length : Int)) = true ∧ decide ((i : Int) < 60) = false) := by
     by_cases h : i < ys.length
     ·right; exact ⟨dT h, by simp; omega⟩
     ·left; exact ⟨dF (by omega), trivial⟩
    rcases hout with ⟨e1, -⟩ | ⟨e1, e2⟩
    ·skip
     repeat' first | ((with_reducible first | refine cs ?_ ?_ | refine ws ?_ ?_) <;> intro h <;> try simp only [h]) | simp only [↓wBA, tYz, convA, seval, wH, wHl, wOu, hln, hln', e1]
     exact ⟨⟨i, hi, hi2⟩, ⟨U6, P6, v6, T6, h6, t6, f6, hB6, hp6, hb6, hR6, hT6, h06, ho6, he6⟩, by simp only [wHl, wHf]⟩
    ·skip
     repeat' first | ((with_reducible first | refine cs ?_ ?_ | refine ws ?_ ?_) <;> intro h <;> try simp only [h]) | simp only [↓wBA, tYz, convA, seval, wH, wHl, wOu, hln, hln', e1, e2]
     exact ⟨⟨i, hi, hi2⟩, ⟨U6, P6, v6, T6, h6, t6, f6, hB6, hp6, hb6, hR6, hT6, h06, ho6, he6⟩, by simp only [wHl, wHf]⟩
 ·intro y J q hI
  simp only [wHl]
  obtain ⟨i, hi, hi2⟩ := y
  obtain ⟨U6, P6, v6, T6, h6, t6, f6, hB6, hp6, hb6, hR6, hT6, h06, ho6, he6⟩ := hI
  dsimp only at *
  have q6 := f6.len
  obtain ⟨g, hg⟩ : ∃ g : Nat, lg = (g : Int) := ⟨lg.toNat, by omega⟩
  subst hg
  obtain ⟨dB, hdB⟩ : ∃ d : Bool, d = decide (100 + g ≤ 140) := ⟨_, rfl⟩
  have hzl : (encB (List.replicate (100 + g) 0)).length = 100 + g := by rw [encB_len']; simp
  have hbig : ∀ {s : St} {to : Nat}, Ap q s → ACalls Tryz.prog 12 [.mp s3.length 2 0 0, intV .i64 (m : Nat), .own to 1 (encB (List.replicate (100 + g) 0)), .agg [intV .i64 9, intV .i64 0]] s fun r σ' => ∃ z : Int, (z == 0) = dB ∧ r = intV .i64 z ∧ ∃ U' P' v' T' h t, Fr q σ' U6 U' ∧ Bt σ' s3.length p dd l kh U' P' v' ∧ P'.pages = 600 ∧ Bud P' 1000 ∧ RootOk v' T' 600 m h t ∧ Tk (v' 0) 600 T' ∧ T' 0 = true ∧ OnlyT T' 600 m h t 61 := fun {s to} ha => by
   refine ACalls.weakY (args' := [.mp s3.length 2 0 0, intV .i64 (m : Nat), .p (.sl 1 (encB (List.replicate (100 + g) 0))), .agg [intV .i64 9, intV .i64 0]]) ?_ fun M vs hv => ?_
   rotate_left
   ·simp only [ARepL] at hv ⊢
    obtain ⟨u1, us1, rfl, h1, u2, us2, rfl, h2, u3, us3, rfl, h3, h4⟩ := hv
    exact ⟨_, _, rfl, h1, _, _, rfl, h2, _, _, rfl, own_pY h3, h4⟩
   by_cases hr4 : 100 + g ≤ 140
   ·have hI := atIns (e := ⟨List.replicate (100 + g) 0, 9, 0⟩) (hB6.ap ha) (by rw [hp6]; exact hT6) (by omega) h06 (hb6.mono (by omega)) (by rw [hp6]; exact hR6) ⟨by simpa using hr4, by show 9 < 65536; decide, by show 0 < 65536; decide⟩
    simp only [c0y, c9y] at hI
    refine hI.mono ?_
    rintro rx s7 ⟨U7, P7, v7, T7, h7', t7, f7, h7, k7, hR7, hW7, hc7⟩
    rw [hp6] at hR7 hW7 hc7
    rcases hc7 with ⟨rfl, hr7, hx7⟩ | ⟨_, hm7, _⟩ | ⟨_, hf7, hl7⟩
    rotate_left
    ·exact absurd (he6 _ hm7).1 (fun e => by simp at e)
    ·exact (ho6.room (by omega) hR6.tr.szT (by simpa using hr4) hl7 hf7).elim
    have hst := ho6.step hR6.tr.szT (by simpa using hr4) hr7 hx7
    exact ⟨0, by rw [hdB]; simp [hr4], rfl, U7, P7, v7, T7, h7', t7, ha.fr.trans f7, h7, by rw [k7.pages]; exact hp6, hb6.kp k7 (by omega), hR7, hW7.tkk, hW7.t0, hst.only, hst.pi, hst.pj, by have := hst.en; omega⟩
   ·refine (atInsLong (by simp; omega)).mono ?_
    rintro _ s7 ⟨rfl, a7⟩
    exact ⟨4, by rw [hdB]; simp [hr4], rfl, U6, P6, v6, T6, h6, t6, (ha.trans a7).fr, hB6.ap (ha.trans a7), hp6, hb6, hR6, hT6, h06, ho6.only, ho6.pi, ho6.pj, by have := ho6.en; omega⟩
  have wg := wrap_i64 (n := (g : Int)) (by omega) (by omega)
  have wg2 := wrap_i64 (n := (100 : Int) + (g : Int)) (by omega) (by omega)
  have zr := zrow (100 + g)
  have htn : (100 + (g : Int)).toNat = 100 + g := by omega
  have hmk : (0 ≤ 100 + (g : Int) ∧ 1 * (100 + (g : Int)) ≤ 140737488355328 ∧ 100 + (g : Int) ≤ (maxLen : Int)) = True := eq_true (by unfold maxLen; omega)
  have hdl : decide (((100 + g : Nat) : Int) ≤ 140) = dB := by rw [hdB]; simp only [decide_eq_decide]; omega
  have hbne : (dB != dB) = false := by simp
  repeat' first | ((with_reducible first | refine cs ?_ ?_ | refine ws ?_ ?_) <;> intro h <;> try simp only [h]) | simp only [↓wBA, tYz, convA, seval, wH, wHl, wOu, wg, wg2, zr, htn, hmk, hzl, hdl]
  refine (hbig (Ap.app _ _)).mono ?_
  rintro _ s7 ⟨z, hz, rfl, U7, P7, v7, T7, h7, t7, f7, hB7, hp7, hb7, hR7, hT7, h07, ho7⟩
  have q7 := f7.len
  repeat' first | ((with_reducible first | refine cs ?_ ?_ | refine ws ?_ ?_) <;> intro h <;> try simp only [h]) | simp only [↓wBA, tYz, convA, seval, wH, hz, hzl, hdl, beq_self_eq_true, Bool.not_true]
  refine (atInsNo (p := 65536) (s := 0) (n := (m : Nat)) atMayNo1).mono ?_
  rintro _ s8 ⟨rfl, a8⟩
  have q8 := a8.len
  repeat' first | ((with_reducible first | refine cs ?_ ?_ | refine ws ?_ ?_) <;> intro h <;> try simp only [h]) | simp only [↓wBA, tYz, convA, seval, wH]
  refine (atInsNo (p := 0) (s := -1) (n := (m : Nat)) atMayNo2).mono ?_
  rintro _ s9 ⟨rfl, a9⟩
  have q9 := a9.len
  have a79 := a8.trans a9
  repeat' first | ((with_reducible first | refine cs ?_ ?_ | refine ws ?_ ?_) <;> intro h <;> try simp only [h]) | simp only [↓wBA, tYz, convA, seval, wH]
  refine (atFreeT (hB7.ap a79) (by rw [hp7]; exact hT7) (by omega) (by rw [hp7]; exact hR7) (hb7.mono (by omega))).mono ?_
  rintro _ s10 ⟨rfl, U10, P10, v10, T10, f10, hB10, k10, hv10, hT10, he10⟩
  have q10 := f10.len
  rw [hp7] at hT10
  have hp10 : P10.pages = 600 := by rw [k10.pages]; exact hp7
  have hb10 : Bud P10 1 := hb7.kp k10 (by omega)
  have hno0 : ¬ 0 ∈ pgT h7 m t7 := fun e => by have := (hR7.tk 0 e).1; omega
  have hT100 : T10 0 = true := by rw [he10, h07]; simp [hno0]
  have hc10 : cnt T10 600 = 1 := by
   rw [← cnt_one 600 (by omega)]
   refine cnt_congr 600 fun q _ => ?_
   rw [he10]
   cases hq : T7 q with
   | false =>
     have : q ≠ 0 := fun e => by rw [e, h07] at hq; cases hq
     simp [this]
   | true =>
     rcases ho7.only q hq with rfl | h
     ·simp [hno0]
     ·have : q ≠ 0 := fun e => hno0 (e ▸ h)
      simp [h, this]
  repeat' first | ((with_reducible first | refine cs ?_ ?_ | refine ws ?_ ?_) <;> intro h <;> try simp only [h]) | simp only [↓wBA, tYz, convA, seval, wH]
  refine awp_outS (X := Unit) (fun x => [(6, intV .i64 20), (13, intV .i64 600)]) [95, 96, 97, 98, 99, 100, 101, 102, 103] (fun x s => s10.length ≤ s.length) 2 rfl ?_ ?_
  ·skip
   refine awp_loopS (X := { x : Nat × Int // (x.1 ≤ 599 ∧ x.2 = 0) ∨ (x.1 = 600 ∧ x.2 = 20) }) (fun x => 600 - x.1.1) (fun x => [(6, intV .i64 x.1.2), (13, intV .i64 (x.1.1 : Nat))]) [95, 96, 97, 98, 99, 100, 101, 102, 103] (fun x s => s10.length ≤ s.length ∧ ∃ U' P' v' T', Bt s s3.length p dd l kh U' P' v' ∧ P'.pages = 600 ∧ Bud P' 1 ∧ Tk (v' 0) 600 T' ∧ T' 0 = true ∧ (x.1.2 = 0 → cnt T' 600 = 1 + x.1.1)) (⟨(0, 0), .inl ⟨by omega, rfl⟩⟩) ?_ ?_ ?_ ?_
   ·simp only [wHl, wHf]
   ·exact ⟨Nat.le_refl _, U10, P10, v10, T10, hB10, hp10, hb10, hT10, hT100, fun _ => hc10⟩
   ·rintro _ _ ⟨h, _⟩; exact h
   ·intro y J2 s hI2
    simp only [wHl]
    obtain ⟨⟨k, e⟩, hx⟩ := y
    obtain ⟨hq2, U11, P11, v11, T11, hB11, hp11, hb11, hT11, h011, hc11⟩ := hI2
    dsimp only at *
    have hx' := hx
    dsimp only at hx'
    rcases hx' with ⟨hk, he⟩ | ⟨hk, he⟩
    ·subst he
     have hk0 := nnI k
     have hwk := wI k (by omega)
     have hcn := hc11 rfl
     repeat' first | ((with_reducible first | refine cs ?_ ?_ | refine ws ?_ ?_) <;> intro h <;> try simp only [h]) | simp only [↓wBA, tYz, convA, seval, wH, wHl, wOu]
     refine (abAlloc (kind := 1) (T := T11) hB11 (by rw [hp11]; exact hT11) (by omega) (by omega) h011 hb11).mono ?_
     rintro r s11 ⟨U12, P12, v12, f12, hB12, k12, hc⟩
     have q12 := f12.len
     rw [hp11] at hc
     rcases hc with ⟨nn, m1, m2, hTm, rfl, hvm, hvo, hTk12⟩ | ⟨hall, rfl, rfl⟩
     ·have hcc : cnt (updT T11 nn true) 600 = 1 + k + 1 := by rw [cnt_true hTm 600 m2, hcn]
      have hle := cnt_le (updT T11 nn true) 600
      repeat' first | ((with_reducible first | refine cs ?_ ?_ | refine ws ?_ ?_) <;> intro h <;> try simp only [h]) | simp only [↓wBA, tYz, convA, seval, wH, wHl, wOu, hwk]
      refine ⟨⟨(k + 1, 0), .inl ⟨by omega, rfl⟩⟩, by show 600 - (k + 1) < 600 - k; omega, ⟨by omega, U12, P12, v12, _, hB12, by rw [k12.pages]; exact hp11, hb11.kp k12 (by omega), hTk12, by unfold updT; split <;> simp_all, fun _ => by show _ = 1 + (k + 1); omega⟩, by simp only [wHl, wHf]⟩
     ·have hca := cnt_all 600 hall
      repeat' first | ((with_reducible first | refine cs ?_ ?_ | refine ws ?_ ?_) <;> intro h <;> try simp only [h]) | simp only [↓wBA, tYz, convA, seval, wH, wHl, wOu, hwk]
      refine ⟨⟨(k + 1, 20), .inr ⟨by show k + 1 = 600; omega, rfl⟩⟩, by show 600 - (k + 1) < 600 - k; omega, ⟨by omega, U12, P12, _, T11, hB12, by rw [k12.pages]; exact hp11, hb11.kp k12 (by omega), hT11, h011, fun e => by simp at e⟩, by simp only [wHl, wHf]⟩
    ·subst he; subst hk
     repeat' first | ((with_reducible first | refine cs ?_ ?_ | refine ws ?_ ?_) <;> intro h <;> try simp only [h]) | simp only [↓wBA, tYz, convA, seval, wH, wHl, wOu]
     exact ⟨(), hq2⟩
  ·intro y J2 s hI2
   simp only [wHl]
   repeat' first | ((with_reducible first | refine cs ?_ ?_ | refine ws ?_ ?_) <;> intro h <;> try simp only [h]) | simp only [↓wBA, tYz, convA, seval, wH, wHl, wOu]
   refine atMakeNil.mono ?_
   rintro _ s12 ⟨rfl, a12⟩
   have q12 := a12.len
   repeat' first | ((with_reducible first | refine cs ?_ ?_ | refine ws ?_ ?_) <;> intro h <;> try simp only [h]) | simp only [↓wBA, tYz, convA, seval, wH]
   refine atAllNil.mono ?_
   rintro _ s13 ⟨rfl, a13⟩
   have q13 := a13.len
   repeat' first | ((with_reducible first | refine cs ?_ ?_ | refine ws ?_ ?_) <;> intro h <;> try simp only [h]) | simp only [↓wBA, tYz, convA, seval, wH]
   refine atInsNil.mono ?_
   rintro _ s14 ⟨rfl, a14⟩
   have q14 := a14.len
   repeat' first | ((with_reducible first | refine cs ?_ ?_ | refine ws ?_ ?_) <;> intro h <;> try simp only [h]) | simp only [↓wBA, tYz, convA, seval, wH]
   refine atCheckNil.mono ?_
   rintro _ s15 ⟨rfl, a15⟩
   have q15 := a15.len
   repeat' first | ((with_reducible first | refine cs ?_ ?_ | refine ws ?_ ?_) <;> intro h <;> try simp only [h]) | simp only [↓wBA, tYz, convA, seval, wH]
   refine atFreeNil.mono ?_
   rintro _ s16 ⟨rfl, a16⟩
   have q16 := a16.len
   repeat' first | ((with_reducible first | refine cs ?_ ?_ | refine ws ?_ ?_) <;> intro h <;> try simp only [h]) | simp only [↓wBA, tYz, convA, seval, wH]
   all_goals refine ret_st ?_ (by first | exact Nat.le_refl _ | (simp only [List.length_set, List.length_append]; omega) | omega)
   all_goals simp only [resA.eq_1, resL.eq_1, resL.eq_2, resV.eq_1, resV.eq_2, ↓wBA, tYz, convA, seval, wH]
end Go.Proofs.YtockimhceppkbaaGreat
namespace Go.Proofs.YtockimhceppkbaaGreat
open Go.RowKit
theorem globW_open {W : World} (hsh : W.ShapedOpen Tryz.prog) : GlobW W := by
 intro x hx
 rcases List.mem_append.1 hx with hx | hx
 ·cases hx
 ·simp only [List.mem_singleton] at hx
  subst hx
  obtain ⟨zero, t, h0, hz, hb, hc, hu⟩ : ∃ zero t, ((begin Tryz.prog (fun _ _ => 0) default).world.heap[0]?).bind Obj.row? = some (zero, t) ∧ zero.size = 1 ∧ Tryz.prog.buildable t = true ∧ Tryz.prog.cellTypes Tryz.prog.depth t = some [t] ∧ Tryz.prog.underlying t = some (.int .i64) := ⟨#[.int .i64 0], 3, by kernel_rfl, rfl, by kernel_rfl, by kernel_rfl, by kernel_rfl⟩
  obtain ⟨cs, hh, hs, _⟩ := hsh.1 _ zero t (of_decide_eq_true (by kernel_rfl)) h0
  obtain ⟨m, hm⟩ := cell_of_shapedOpen_int hsh (of_decide_eq_true (by kernel_rfl)) h0 hz hb hc hu
  refine ⟨cs, t, hh, m, ?_⟩
  rw [cell_of_row _ _ _ _ _ _ hh] at hm
  apply Array.ext_getElem?
  intro i
  rcases i with _ | i
  ·rw [hm]; rfl
  ·rw [Array.getElem?_eq_none (by omega)]; rfl
end Go.Proofs.YtockimhceppkbaaGreat
namespace Go.Proofs.YtockimhceppkbaaGreat
open Go.RowKit
theorem pages_law (x : PV) (c : Int) (v : Value) (W : World) (hx : HasSh (.sl 24 [.sl 1 [.int .u8]]) x) (hr : PRep W (inH W) x v) (hw : (Lit.int .u8 c).wf = true) (hG : GlobW W) :
 Calls Tryz.prog 3 #[v, .int .u8 c] W fun e W' => e = .returned (.bool true) ∧ Below W.heap.size W W' := by
 obtain ⟨ys, hy⟩ := recs_shY hx
 have hb : 0 ≤ c ∧ c ≤ 255 := by
  simp [Lit.wf, IntKind.min, IntKind.max, IntKind.signed, IntKind.bits] at hw
  omega
 exact law_calls2 (W := W) (vs := [v, .int .u8 c]) (apages7 x ys hy c (by omega) []) (by
  simp only [ARepL]
  exact ⟨_, _, rfl, (by simp only [ARep]; exact hr), _, _, rfl, rep_mk rfl, rfl⟩) hG
end Go.Proofs.YtockimhceppkbaaGreat
