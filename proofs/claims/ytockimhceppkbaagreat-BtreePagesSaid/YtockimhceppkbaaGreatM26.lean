/- Frames: the heap's Fix, Pop, Push. Pools: what they are in a state. -/
import Derived.Test.YtockimhceppkbaaGreatM25
set_option linter.unusedSimpArgs false
set_option linter.unusedVariables false
set_option linter.defProp false
set_option maxRecDepth 100000
set_option maxHeartbeats 32000000
namespace Go.Proofs.YtockimhceppkbaaGreat
open Go.RowKit
def pl143_0Hc : Plan := (.det 0 (.det 2 (.det 3 (.det 4 (.det 5 (.act 1 (.det 6 (.det 7 (.fin 8 .done)))))))))
def pl143_1Hc : Plan := (.det 0 (.det 1 (.det 2 (.det 3 (.det 4 (.act 5 (.act 6 (.fin 7 (.det 8 (.fin 9 .done))))))))))
def tHc := aa wX <| aa wbu <| aa T3 <| aa T4 <| aa T71 <| aa T130 T134
theorem alenM {σ : St} {o n : Nat} : ACalls Tryz.prog 139 [.ms o 1 0 n] σ fun r σ' => σ' = σ ∧ r = intV .i64 (n : Nat) := by
 refine acalls_of cx_ok dr_ok Tryz.func139 (by kernel_rfl) rfl (nt := 4) (rs := [.tmp 2]) rfl rfl ?_
 repeat' first | ((with_reducible first | refine cs ?_ ?_ | refine ws ?_ ?_) <;> intro h <;> try simp only [h]) | simp only [↓wBA, tHc, convA, seval, wH]
 all_goals refine ret_st ?_ (by first | exact Nat.le_refl _ | (simp only [List.length_set, List.length_append]; omega) | omega)
 all_goals simp only [resA.eq_1, resL.eq_1, resL.eq_2, resV.eq_1, resV.eq_2, ↓wBA, tHc, convA, seval, wH]
theorem afix {σ : St} {p o i : Nat} {fs : List Nat} {V : Nat → FrameV} {c0 c1 c2 c4 c5 : AV} (h : HpIn σ o fs V) (h0 : σ[p]? = some (some (.row 6 [[c0, c1, c2, .ms o 1 0 fs.length, c4, c5]]))) (hi : i < fs.length) :
 ACalls Tryz.prog 113 [.dyn 167 (.mp p 6 0 3), intV .i64 (i : Nat)] σ fun r σ' => r = .tup [] ∧ ∃ fs', fs'.Perm fs ∧ HpIn σ' o fs' V ∧ Fr σ σ' (oF o fs) (oF o fs) := by
 have l0 := at_lt h0
 have hb := h.big
 have hp := p_no h h0
 refine acalls_of cx_ok dr_ok Tryz.func113 (by kernel_rfl) rfl (nt := 11) (rs := []) rfl rfl ?_
 repeat' first | ((with_reducible first | refine cs ?_ ?_ | refine ws ?_ ?_) <;> intro h <;> try simp only [h]) | simp only [↓wBA, tHc, convA, seval, wH, h0, l0] | ((with_reducible show ACalls _ _ _ _ _); first | refine alenM.eq ?_ | (refine (adown h h0 (by omega) (Nat.le_refl _)).mono ?_; rintro _ s ⟨⟨b, rfl⟩, fs', hP, h', hf, hk⟩))
 ·have k0 := hf.get h0 hp
  have q0 := at_lt k0
  have hl := hP.length_eq
  rw [← hl] at k0
  repeat' first | ((with_reducible first | refine cs ?_ ?_ | refine ws ?_ ?_) <;> intro h <;> try simp only [h]) | simp only [↓wBA, tHc, convA, seval, wH, k0, q0] | ((with_reducible show ACalls _ _ _ _ _); refine (aup h' k0 (by omega)).mono ?_; rintro _ s2 ⟨rfl, fs2, hP2, h2, hf2⟩)
  have hlen := (hf.trans (oF_perm (o := o) hP ▸ hf2)).len
  all_goals refine ret_st ?_ (by first | exact Nat.le_refl _ | (simp only [List.length_set, List.length_append]; omega) | omega)
  all_goals simp only [resA.eq_1, resL.eq_1, resL.eq_2, resV.eq_1, resV.eq_2, ↓wBA, tHc, convA, seval, wH]
  exact ⟨fs2, hP2.trans hP, h2, hf.trans (oF_perm (o := o) hP ▸ hf2)⟩
 ·have hlen := hf.len
  all_goals refine ret_st ?_ (by first | exact Nat.le_refl _ | (simp only [List.length_set, List.length_append]; omega) | omega)
  all_goals simp only [resA.eq_1, resL.eq_1, resL.eq_2, resV.eq_1, resV.eq_2, ↓wBA, tHc, convA, seval, wH]
  exact ⟨fs', hP, h', hf⟩
theorem apopM {σ : St} {p o f : Nat} {fs : List Nat} {V : Nat → FrameV} {c0 c1 c2 c4 c5 : AV} (h : HpIn σ o (fs ++ [f]) V) (h0 : σ[p]? = some (some (.row 6 [[c0, c1, c2, .ms o 1 0 (fs.length + 1), c4, c5]]))) :
 ACalls Tryz.prog 142 [.mp p 6 0 3] σ fun r σ' => r = .dyn 130 (.mp f 516 0 0) ∧ σ' = σ.set p (some (.row 6 [[c0, c1, c2, .ms o 1 0 fs.length, c4, c5]])) := by
 have l0 := at_lt h0
 obtain ⟨ls, h1, h2, h3⟩ := h.o
 have k1 := ord_get h2 (i := fs.length) (f := f) (by simp)
 have l1 := at_lt h1
 have hb := h.big
 simp only [List.length_append, List.length_cons, List.length_nil] at h3 hb
 have e1 : IntKind.i64.wrap (((fs.length + 1 : Nat) : Int) - 1) = (fs.length : Int) := by rw [wrap_i64 (by omega) (by omega)]; omega
 have d1 : ((fs.length : Int) < ((fs.length + 1 : Nat) : Int)) = True := eq_true (by omega)
 have d2 : ((fs.length : Int) ≤ ((fs.length + 1 : Nat) : Int)) = True := eq_true (by omega)
 have i1 := nnI fs.length
 refine acalls_of cx_ok dr_ok Tryz.func142 (by kernel_rfl) rfl (nt := 22) (rs := [.tmp 2]) rfl rfl ?_
 repeat' first | ((with_reducible first | refine cs ?_ ?_ | refine ws ?_ ?_) <;> intro h <;> try simp only [h]) | simp only [↓wBA, tHc, convA, seval, wH, h0, l0, h1, l1, k1, e1, d1, d2, i1, sliceA, elemsA, boundA]
 all_goals refine ret_st ?_ (by first | exact Nat.le_refl _ | (simp only [List.length_set, List.length_append]; omega) | omega)
 all_goals simp only [resA.eq_1, resL.eq_1, resL.eq_2, resV.eq_1, resV.eq_2, ↓wBA, tHc, convA, seval, wH]
theorem HpIn.same {σ s : St} {o : Nat} {fs : List Nat} {V : Nat → FrameV} (h : HpIn σ o fs V) (hs : ∀ t, oF o fs t → s[t]? = σ[t]?) : HpIn s o fs V :=
 ⟨by rw [hs o (.inl rfl)]; exact h.o, fun i f hi => by rw [hs f (.inr (List.mem_of_getElem? hi))]; exact h.f i f hi, h.nd, h.pg, h.big⟩
theorem HpIn.front {σ : St} {o f : Nat} {fs : List Nat} {V : Nat → FrameV} (h : HpIn σ o (fs ++ [f]) V) : HpIn σ o fs V := by
 obtain ⟨ls, h1, h2, h3⟩ := h.o
 simp only [List.length_append, List.length_cons, List.length_nil] at h2 h3
 refine ⟨⟨ls, h1, ?_, by omega⟩, fun i g hi => h.f i g (by rw [List.getElem?_append_left (List.getElem?_eq_some_iff.1 hi).1]; exact hi), (List.nodup_append.1 h.nd).1, fun g hg => h.pg g (by simp [hg]), by have := h.big; simp at this; omega⟩
 have := congrArg (List.take fs.length) h2
 rw [List.take_take, Nat.min_eq_left (by omega)] at this
 rw [this]
 simp [ordRow]
theorem last_of {fs : List Nat} {n f : Nat} (hl : fs.length = n + 1) (h : fs[n]? = some f) : fs = fs.dropLast ++ [f] := by
 have hne : fs ≠ [] := fun e => by simp [e] at hl
 have := List.dropLast_concat_getLast hne
 rw [List.getLast_eq_getElem] at this
 have hg : fs[fs.length - 1] = f := by
  have := List.getElem?_eq_some_iff.1 h
  obtain ⟨hn, e⟩ := this
  simp only [hl, Nat.add_sub_cancel, e]
 rw [hg] at this
 exact this.symm
theorem apop {σ : St} {p o f0 : Nat} {fs : List Nat} {V : Nat → FrameV} {c0 c1 c2 c4 c5 : AV} (h : HpIn σ o fs V) (h0 : σ[p]? = some (some (.row 6 [[c0, c1, c2, .ms o 1 0 fs.length, c4, c5]]))) (hf0 : fs[0]? = some f0) :
 ACalls Tryz.prog 92 [.dyn 167 (.mp p 6 0 3)] σ fun r σ' => r = .dyn 130 (.mp f0 516 0 0) ∧ (∃ i, σ'[f0]? = some (frOb (V f0) i)) ∧ ∃ fs', (f0 :: fs').Perm fs ∧ HpIn σ' o fs' V ∧ σ'[p]? = some (some (.row 6 [[c0, c1, c2, .ms o 1 0 fs'.length, c4, c5]])) ∧ Fr σ σ' (fun t => t = p ∨ oF o fs t) (fun t => t = p ∨ oF o fs t) := by
 have l0 := at_lt h0
 have hb := h.big
 have hp := p_no h h0
 have hl := (List.getElem?_eq_some_iff.1 hf0).1
 obtain ⟨n, hn⟩ : ∃ n, fs.length = n + 1 := ⟨fs.length - 1, by omega⟩
 have e1 : IntKind.i64.wrap ((fs.length : Int) - 1) = (n : Int) := by rw [wrap_i64 (by omega) (by omega)]; omega
 have hs := aswap h (i := 0) (j := n) hl (by omega)
 simp only [cz] at hs
 refine acalls_of cx_ok dr_ok Tryz.func92 (by kernel_rfl) rfl (nt := 14) (rs := [.tmp 2]) rfl rfl ?_
 repeat' first | ((with_reducible first | refine cs ?_ ?_ | refine ws ?_ ?_) <;> intro h <;> try simp only [h]) | simp only [↓wBA, tHc, convA, seval, wH, h0, l0, e1, cz] | ((with_reducible show ACalls _ _ _ _ _); first | refine alenM.eq ?_ | (refine hs.mono ?_; rintro _ s ⟨rfl, h1, hf1⟩))
 have k0 := hf1.get h0 hp
 have q0 := at_lt k0
 rw [← swapL_len fs 0 n] at k0
 have hd := adown h1 k0 (i0 := 0) (n := n) (by omega) (by rw [swapL_len]; omega)
 simp only [cz] at hd
 repeat' first | ((with_reducible first | refine cs ?_ ?_ | refine ws ?_ ?_) <;> intro h <;> try simp only [h]) | simp only [↓wBA, tHc, convA, seval, wH, k0, q0, cz] | ((with_reducible show ACalls _ _ _ _ _); refine hd.mono ?_; rintro _ s2 ⟨⟨b, rfl⟩, fs2, hP2, h2, hf2, hk⟩)
 have hP1 := swapL_perm (fs := fs) (i := 0) (j := n) hl (by omega)
 have j0 := hf2.get k0 (by rw [oF_perm hP1]; exact hp)
 have p0 := at_lt j0
 have hl2 : fs2.length = n + 1 := by rw [hP2.length_eq, swapL_len, hn]
 have hlast := hk n (Nat.le_refl _)
 rw [swapL_get hl (by omega), if_pos rfl, hf0] at hlast
 have he := last_of hl2 hlast
 rw [swapL_len, hn] at j0
 have hl3 : fs2.dropLast.length = n := by simp [hl2]
 rw [he] at h2
 have hpp := apopM (p := p) (c0 := c0) (c1 := c1) (c2 := c2) (c4 := c4) (c5 := c5) h2 (by rw [hl3]; exact j0)
 rw [hl3] at hpp
 have hff : Fr σ s2 (oF o fs) (oF o fs) := by
  have := hf2
  rw [oF_perm hP1] at this
  exact Fr.trans hf1 this
 have hlen := hff.len
 repeat' first | ((with_reducible first | refine cs ?_ ?_ | refine ws ?_ ?_) <;> intro h <;> try simp only [h]) | simp only [↓wBA, tHc, convA, seval, wH, j0, p0] | ((with_reducible show ACalls _ _ _ _ _); refine hpp.mono ?_; rintro _ _ ⟨rfl, rfl⟩)
 all_goals refine ret_st ?_ (by first | exact Nat.le_refl _ | (simp only [List.length_set, List.length_append]; omega) | omega)
 all_goals simp only [resA.eq_1, resL.eq_1, resL.eq_2, resV.eq_1, resV.eq_2, ↓wBA, tHc, convA, seval, wH, p0]
 have hpn := p_no h2 j0
 have hfl := h2.f n f0 (by rw [List.getElem?_append_right (by omega), hl3]; simp)
 refine ⟨⟨n, (List.getElem?_set_ne fun e => hpn (by subst e; exact .inr (by simp))).trans hfl⟩, fs2.dropLast, ?_, h2.front.same fun t ht => ?_, ?_, ?_⟩
 ·have h5 : (fs2.dropLast ++ [f0]).Perm (f0 :: fs2.dropLast) := List.perm_append_comm
  exact h5.symm.trans (he ▸ (hP2.trans hP1))
 ·exact List.getElem?_set_ne fun e => hpn (by subst e; exact ht.imp id (fun h => by simp [h]))
 ·simp only [hl3]
 ·exact Fr.set (F := fun t => t = p ∨ oF o fs t) (F' := fun t => t = p ∨ oF o fs t) ⟨hff.len, fun t ht hn => hff.keep t ht fun h => hn (.inr h), fun t ht => .inl ht⟩ _ (.inl rfl)
theorem HpIn.push {s : St} {o' f : Nat} {fs : List Nat} {V : Nat → FrameV} (hnd : (fs ++ [f]).Nodup) (hb : fs.length + 1 ≤ 1000000) (ho : s[o']? = some (some (.row 1 (ordRow (fs ++ [f]))))) (hfs : ∀ (i g : Nat), fs[i]? = some g → s[g]? = some (frOb (V g) i)) (hf : s[f]? = some (frOb (V f) fs.length)) (hpg : ∀ g ∈ fs ++ [f], (V g).pg.length = 512) :
 HpIn s o' (fs ++ [f]) V := by
 refine ⟨⟨_, ho, List.take_of_length_le (by simp [ordRow]), by simp [ordRow]⟩, fun i g hi => ?_, hnd, hpg, by simp; omega⟩
 by_cases h : i < fs.length
 ·rw [List.getElem?_append_left h] at hi
  exact hfs i g hi
 ·have hl := (List.getElem?_eq_some_iff.1 hi).1
  simp at hl
  have : i = fs.length := by omega
  subst this
  simp at hi
  subst hi
  exact hf
inductive Ord (σ : St) (V : Nat → FrameV) : AV → Option Nat → List Nat → Prop
 | nil : Ord σ V (.p (.v (.slice none 0 0))) none []
 | hp {o fs} : HpIn σ o fs V → Ord σ V (.ms o 1 0 fs.length) (some o) fs
def oG (w : Option Nat) (fs : List Nat) (t : Nat) : Prop := w = some t ∨ t ∈ fs
theorem apushM {σ : St} {p f : Nat} {w : Option Nat} {fs : List Nat} {V : Nat → FrameV} {a c0 c1 c2 c4 c5 : AV} {i0 : Nat} (h : Ord σ V a w fs) (h0 : σ[p]? = some (some (.row 6 [[c0, c1, c2, a, c4, c5]]))) (hf : σ[f]? = some (frOb (V f) i0)) (hfn : f ∉ fs) (hpf : (V f).pg.length = 512) (hb : fs.length + 1 ≤ 1000000) :
 ACalls Tryz.prog 143 [.mp p 6 0 3, .dyn 130 (.mp f 516 0 0)] σ fun r σ' => r = .tup [] ∧ ∃ o', HpIn σ' o' (fs ++ [f]) V ∧ σ'[p]? = some (some (.row 6 [[c0, c1, c2, .ms o' 1 0 (fs.length + 1), c4, c5]])) ∧ (w = some o' ∨ σ.length ≤ o') ∧ Fr σ σ' (fun t => t = p ∨ t = f ∨ oG w fs t) (fun t => t = p ∨ t = f ∨ oG (some o') fs t) := by
 have l0 := at_lt h0
 have lf := at_lt hf
 have n0 : (p = f) = False := nf (ne_of_ob h0 hf (by simp [frOb]))
 have n1 : (f = p) = False := nf (ne_of_ob hf h0 (by simp [frOb]))
 simp only [frOb] at hf
 cases h with
 | nil =>
   have hl4 := lM (n := 1) (by omega)
   refine acalls_of cx_ok dr_ok Tryz.func143 (by kernel_rfl) rfl (nt := 19) (rs := []) rfl rfl ?_
   repeat' first | ((with_reducible first | refine cs ?_ ?_ | refine ws ?_ ?_ | refine wd ?_ ?_ | refine wu ?_ ?_) <;> intro h <;> try simp only [h]) | simp only [↓wBA, tHc, convA, seval, pl143_0Hc, pl143_1Hc, wH, wFr, h0, l0, hf, lf, n0, n1, hpf, cz, appendA, srcA, appendM, srcM, sliceA, elemsA, boundA, hl4] | (with_reducible refine dP pl143_0Hc 9 (some 4) (by decide) (by kernel_rfl) ?_) | (with_reducible refine dP pl143_1Hc 10 (some 12) (by decide) (by kernel_rfl) ?_)
   all_goals refine ret_st ?_ (by first | exact Nat.le_refl _ | (simp only [List.length_set, List.length_append]; omega) | omega)
   all_goals simp only [resA.eq_1, resL.eq_1, resL.eq_2, resV.eq_1, resV.eq_2, ↓wBA, tHc, convA, seval, wH]
   refine ⟨_, HpIn.push (fs := []) (V := V) (f := f) (by simp) hb ?_ (by simp) ?_ (by simpa using hpf), ?_, .inr (Nat.le_succ _), ?_⟩
   ·simp only [wH, l0, lf, n0, n1, List.length_cons, List.length_nil, Nat.zero_add, Nat.reduceAdd]; rfl
   ·simp only [wH, l0, lf, n0, n1, List.length_cons, List.length_nil, Nat.zero_add, Nat.reduceAdd]; rfl
   ·simp only [wH, l0, lf, n0, n1, List.length_cons, List.length_nil, Nat.zero_add, Nat.reduceAdd]
   ·refine ((((Fr.refl σ _).set _ (.inr (.inl rfl))).set _ (.inl rfl)).app _).app _ |>.to fun t ht => ?_
    rcases ht with rfl | rfl | ht | ht
    ·exact .inl (.inl rfl)
    ·exact .inl (.inr (.inl rfl))
    ·simp at ht; omega
    ·simp at ht
 | hp h =>
   obtain ⟨ls, h1, h2, h3⟩ := h.o
   rename_i o
   have l1 := at_lt h1
   have n2 : (o = f) = False := nf (ne_of_ob h1 hf (by simp))
   have n3 : (f = o) = False := nf (ne_of_ob hf h1 (by simp))
   have n4 : (o = p) = False := nf (ne_of_ob h1 h0 (by simp))
   have n5 : (p = o) = False := nf (ne_of_ob h0 h1 (by simp))
   have hl1 := tL (n := (fs.length + 1) * 8) (by omega)
   have hl2 := lM (n := fs.length + 1) (by omega)
   have hl3 := eq_true h3
   refine acalls_of cx_ok dr_ok Tryz.func143 (by kernel_rfl) rfl (nt := 19) (rs := []) rfl rfl ?_
   repeat' first | ((with_reducible first | refine cs ?_ ?_ | refine ws ?_ ?_ | refine wd ?_ ?_ | refine wu ?_ ?_) <;> intro h <;> try simp only [h]) | simp only [↓wBA, tHc, convA, seval, pl143_0Hc, pl143_1Hc, wH, wFr, h0, l0, hf, lf, n0, n1, n2, n3, n4, n5, hpf, h1, l1, h2, cz, appendA, srcA, appendM, srcM, sliceA, elemsA, boundA, hl1, hl2, hl3] | (with_reducible refine dP pl143_0Hc 9 (some 4) (by decide) (by kernel_rfl) ?_) | (with_reducible refine dP pl143_1Hc 10 (some 12) (by decide) (by kernel_rfl) ?_)
   all_goals refine ret_st ?_ (by first | exact Nat.le_refl _ | (simp only [List.length_set, List.length_append]; omega) | omega)
   all_goals simp only [resA.eq_1, resL.eq_1, resL.eq_2, resV.eq_1, resV.eq_2, ↓wBA, tHc, convA, seval, wH]
   refine ⟨_, HpIn.push (fs := fs) (V := V) (f := f) (List.nodup_append.2 ⟨h.nd, by simp, fun a ha b hb e => by simp at hb; subst hb; subst e; exact hfn ha⟩) hb ?_ (fun i g hi => ?_) ?_ (fun g hg => ?_), ?_, .inr (Nat.le_succ _), ?_⟩
   ·simp only [wH, l0, lf, n0, n1, List.length_cons, List.length_nil, Nat.zero_add, Nat.reduceAdd, ordRow, List.map_append, List.map_cons, List.map_nil]
   ·have hg := h.f i g hi
    have m1 : (f = g) = False := nf fun e => hfn (e ▸ List.mem_of_getElem? hi)
    have m2 : (o = g) = False := nf (ne_of_ob h1 hg (by simp [frOb]))
    have m3 : (p = g) = False := nf (ne_of_ob h0 hg (by simp [frOb]))
    simp only [wH, l0, lf, l1, m1, m2, m3, hg, at_lt hg]
   ·simp only [wH, l0, lf, n0, n1, n2, n3, n4, n5, l1, List.length_cons, List.length_nil, Nat.zero_add, Nat.reduceAdd]; rfl
   ·rcases List.mem_append.1 hg with hg | hg
    ·exact h.pg g hg
    ·simp at hg; subst hg; exact hpf
   ·simp only [wH, l0, lf, n0, n1, n2, n3, n4, n5, l1, List.length_cons, List.length_nil, Nat.zero_add, Nat.reduceAdd]
   ·refine (((((Fr.refl σ _).set _ (.inr (.inl rfl))).set _ (.inr (.inr (.inl rfl)))).set _ (.inl rfl)).app _).app _ |>.to fun t ht => ?_
    rcases ht with rfl | rfl | ht | ht
    ·exact .inl (.inl rfl)
    ·exact .inl (.inr (.inl rfl))
    ·simp at ht; omega
    ·exact .inl (.inr (.inr (.inr ht)))
theorem apush {σ : St} {p f : Nat} {w : Option Nat} {fs : List Nat} {V : Nat → FrameV} {a c0 c1 c2 c4 c5 : AV} {i0 : Nat} (h : Ord σ V a w fs) (h0 : σ[p]? = some (some (.row 6 [[c0, c1, c2, a, c4, c5]]))) (hf : σ[f]? = some (frOb (V f) i0)) (hfn : f ∉ fs) (hpf : (V f).pg.length = 512) (hb : fs.length + 1 ≤ 1000000) :
 ACalls Tryz.prog 93 [.dyn 167 (.mp p 6 0 3), .dyn 130 (.mp f 516 0 0)] σ fun r σ' => r = .tup [] ∧ ∃ o' fs', fs'.Perm (fs ++ [f]) ∧ HpIn σ' o' fs' V ∧ σ'[p]? = some (some (.row 6 [[c0, c1, c2, .ms o' 1 0 fs'.length, c4, c5]])) ∧ Fr σ σ' (fun t => t = p ∨ t = f ∨ oG w fs t) (fun t => t = p ∨ oF o' fs' t) := by
 have l0 := at_lt h0
 refine acalls_of cx_ok dr_ok Tryz.func93 (by kernel_rfl) rfl (nt := 10) (rs := []) rfl rfl ?_
 repeat' first | ((with_reducible first | refine cs ?_ ?_ | refine ws ?_ ?_) <;> intro h <;> try simp only [h]) | simp only [↓wBA, tHc, convA, seval, wH, h0, l0] | ((with_reducible show ACalls _ _ _ _ _); refine (apushM h h0 hf hfn hpf hb).mono ?_; rintro _ s ⟨rfl, o', h1, k0, ho, hf1⟩)
 have q0 := at_lt k0
 have e1 : IntKind.i64.wrap (((fs.length + 1 : Nat) : Int) - 1) = (fs.length : Int) := by rw [wrap_i64 (by omega) (by omega)]; omega
 have hl : (fs ++ [f]).length = fs.length + 1 := by simp
 have hu := aup h1 (hl ▸ k0) (j := fs.length) (by simp)
 repeat' first | ((with_reducible first | refine cs ?_ ?_ | refine ws ?_ ?_) <;> intro h <;> try simp only [h]) | simp only [↓wBA, tHc, convA, seval, wH, k0, q0, e1] | ((with_reducible show ACalls _ _ _ _ _); first | refine alenM.eq ?_ | (refine hu.mono ?_; rintro _ s2 ⟨rfl, fs2, hP, h2, hf2⟩))
 have hF : Fr σ s2 (fun t => t = p ∨ t = f ∨ oG w fs t) (fun t => t = p ∨ oF o' fs2 t) := by
  refine ⟨Nat.le_trans hf1.len hf2.len, fun t ht hn => ?_, fun t ht => ?_⟩
  ·rw [hf2.keep t (Nat.lt_of_lt_of_le ht hf1.len) ?_, hf1.keep t ht hn]
   rintro (rfl | h5)
   ·rcases ho with rfl | ho
    ·exact hn (.inr (.inr (.inl rfl)))
    ·omega
   ·rcases List.mem_append.1 h5 with h5 | h5
    ·exact hn (.inr (.inr (.inr h5)))
    ·simp at h5; exact hn (.inr (.inl h5))
  ·rcases ht with rfl | rfl | h5
   ·exact .inl (.inl rfl)
   ·exact ho.imp (fun h => .inr (.inr (.inl h))) id
   ·rcases List.mem_append.1 (hP.mem_iff.1 h5) with h5 | h5
    ·exact .inl (.inr (.inr (.inr h5)))
    ·simp at h5; exact .inl (.inr (.inl h5))
 have hlen := hF.len
 have j0 := hf2.get (hl ▸ k0) (p_no h1 (hl ▸ k0))
 all_goals refine ret_st ?_ (by first | exact Nat.le_refl _ | (simp only [List.length_set, List.length_append]; omega) | omega)
 all_goals simp only [resA.eq_1, resL.eq_1, resL.eq_2, resV.eq_1, resV.eq_2, ↓wBA, tHc, convA, seval, wH]
 exact ⟨o', fs2, hP, h2, hP.length_eq ▸ j0, hF⟩
end Go.Proofs.YtockimhceppkbaaGreat
namespace Go.Proofs.YtockimhceppkbaaGreat
open Go.RowKit
def delM {β : Type} : List (Nat × β) → Nat → List (Nat × β)
 | [], _ => []
 | (j, x) :: m, k => if j = k then m else (j, x) :: delM m k
theorem ix_del {β : Type} (f : β → AV) (k : Nat) : ∀ (m : List (Nat × β)) (i : Nat), (ixM m k i = none → delM m k = m) ∧ ∀ j x, ixM m k i = some (j, x) → i ≤ j ∧ (encM f m).eraseIdx (j - i) = encM f (delM m k)
 | [], i => ⟨fun _ => rfl, fun j x h => by simp [ixM] at h⟩
 | (q, z) :: m, i => by
   obtain ⟨h1, h2⟩ := ix_del f k m (i + 1)
   by_cases e : q = k
   ·subst e
    refine ⟨fun h => by simp [ixM] at h, fun j x h => ?_⟩
    simp only [ixM, if_true, Option.some.injEq, Prod.mk.injEq] at h
    obtain ⟨rfl, rfl⟩ := h
    simp [encM, delM]
   ·refine ⟨fun h => ?_, fun j x h => ?_⟩
    ·simp only [ixM, if_neg e] at h
     simp only [delM, if_neg e, h1 h]
    ·simp only [ixM, if_neg e] at h
     obtain ⟨h3, h4⟩ := h2 j x h
     refine ⟨by omega, ?_⟩
     rw [show j - i = (j - (i + 1)) + 1 by omega]
     simp only [encM, delM, if_neg e, List.map_cons, List.eraseIdx_cons_succ] at h4 ⊢
     rw [h4]
theorem del_enc {β : Type} (f : β → AV) (m : List (Nat × β)) (k : Nat) : delK (.int .i64) (.int .i64 (k : Int)) (encM f m) = some (encM f (delM m k)) := by
 unfold delK
 rw [if_pos (by simp [keyOk]), find_enc]
 obtain ⟨h1, h2⟩ := ix_del f k m 0
 cases hl : ixM m k 0 with
 | none => simp [h1 hl]
 | some q =>
   obtain ⟨j, x⟩ := q
   simpa using (h2 j x hl).2
theorem mem_lk {β : Type} (k : Nat) : ∀ m : List (Nat × β), k ∉ m.map Prod.fst → lkM m k = none
 | [], h => rfl
 | (j, x) :: m, h => by
   simp at h
   have : ¬ j = k := fun e => h.1 e.symm
   simp only [lkM, if_neg this]
   exact mem_lk k m (by simpa using h.2)
theorem lk_delM {β : Type} (k i : Nat) : ∀ m : List (Nat × β), (m.map Prod.fst).Nodup → lkM (delM m k) i = if i = k then none else lkM m i
 | [], _ => by simp [delM, lkM]
 | (j, x) :: m, h => by
   simp only [List.map_cons, List.nodup_cons] at h
   simp only [delM]
   by_cases e : j = k
   ·subst e
    simp only [if_true, lkM]
    by_cases h2 : i = j
    ·subst h2; simp [mem_lk _ m h.1]
    ·have : ¬ j = i := fun e => h2 e.symm
     simp [h2, this]
   ·simp only [if_neg e, lkM, lk_delM k i m h.2]
    by_cases h2 : j = i
    ·subst h2; simp [e]
    ·simp [h2]
theorem keys_set {β : Type} (k : Nat) (y : β) : ∀ m : List (Nat × β), (setM m k y).map Prod.fst = if k ∈ m.map Prod.fst then m.map Prod.fst else m.map Prod.fst ++ [k]
 | [] => by simp [setM]
 | (j, x) :: m => by
   simp only [setM]
   by_cases e : j = k
   ·subst e; simp
   ·have e' : ¬ k = j := fun h => e h.symm
    simp only [if_neg e, List.map_cons, keys_set k y m, List.mem_cons, e', false_or]
    split <;> simp
theorem nodup_set {β : Type} (k : Nat) (y : β) (m : List (Nat × β)) (h : (m.map Prod.fst).Nodup) : ((setM m k y).map Prod.fst).Nodup := by
 rw [keys_set]
 split
 ·exact h
 ·rename_i hk
  exact List.nodup_append.2 ⟨h, by simp, fun a ha b hb e => by simp at hb; subst hb; subst e; exact hk ha⟩
theorem keys_del {β : Type} (k : Nat) : ∀ m : List (Nat × β), ((delM m k).map Prod.fst).Sublist (m.map Prod.fst)
 | [] => List.Sublist.refl _
 | (j, x) :: m => by
   simp only [delM]
   split
   ·simp
   ·simpa using keys_del k m
theorem nodup_del {β : Type} (k : Nat) (m : List (Nat × β)) (h : (m.map Prod.fst).Nodup) : ((delM m k).map Prod.fst).Nodup := h.sublist (keys_del k m)
def secs (m : List (Nat × List UInt8)) (n k : Nat) : List UInt8 := (List.range k).flatMap fun i => secAt m (8 * n + i)
theorem secs_succ (m : List (Nat × List UInt8)) (n k : Nat) : secs m n (k + 1) = secs m n k ++ secAt m (8 * n + k) := by simp [secs, List.range_succ]
theorem secs_len {m : List (Nat × List UInt8)} (h : ∀ k, (secAt m k).length = 64) (n : Nat) : ∀ k, (secs m n k).length = 64 * k
 | 0 => rfl
 | k + 1 => by rw [secs_succ, List.length_append, secs_len h n k, h]; omega
def diskPg (m : List (Nat × List UInt8)) (n : Nat) : List UInt8 := secs m n 8
theorem diskPg_len {m : List (Nat × List UInt8)} (h : ∀ k, (secAt m k).length = 64) (n : Nat) : (diskPg m n).length = 512 := secs_len h n 8
def zero512 : List UInt8 := List.replicate 512 0
def pgz (l : List UInt8) : List UInt8 := if l = zero512 then newL 0 else l
theorem pgz_len {l : List UInt8} (h : l.length = 512) : (pgz l).length = 512 := by
 unfold pgz
 split
 ·exact length_newL 0
 ·exact h
def wrPg (m : List (Nat × List UInt8)) (n : Nat) (pg : List UInt8) : Nat → List (Nat × List UInt8)
 | 0 => m
 | k + 1 => setM (wrPg m n pg k) (8 * n + k) ((pg.drop (64 * k)).take 64)
def wrW (n : Nat) (pg : List UInt8) (k : Nat) : List (Nat × List UInt8) := (List.range k).map fun i => (8 * n + i, (pg.drop (64 * i)).take 64)
theorem sec_wr (m : List (Nat × List UInt8)) (n : Nat) (pg : List UInt8) (j : Nat) : ∀ k, secAt (wrPg m n pg k) j = if 8 * n ≤ j ∧ j < 8 * n + k then (pg.drop (64 * (j - 8 * n))).take 64 else secAt m j
 | 0 => by rw [if_neg (by omega)]; rfl
 | k + 1 => by
   rw [wrPg, secAt_set, sec_wr m n pg j k]
   by_cases h : j = 8 * n + k
   ·subst h
    rw [if_pos rfl, if_pos (by omega)]
    congr 3; omega
   ·rw [if_neg h]
    by_cases h2 : 8 * n ≤ j ∧ j < 8 * n + k
    ·rw [if_pos h2, if_pos (by omega)]
    ·rw [if_neg h2, if_neg (by omega)]
theorem secs_pg {pg : List UInt8} (h : pg.length = 512) (m : List (Nat × List UInt8)) (n : Nat) (hm : ∀ i, i < 8 → secAt m (8 * n + i) = (pg.drop (64 * i)).take 64) : ∀ k, k ≤ 8 → secs m n k = pg.take (64 * k)
 | 0, _ => rfl
 | k + 1, hk => by
   rw [secs_succ, secs_pg h m n hm k (by omega), hm k (by omega), show 64 * (k + 1) = 64 * k + 64 by omega, List.take_add]
theorem disk_wr {pg : List UInt8} (h : pg.length = 512) (m : List (Nat × List UInt8)) (n : Nat) : diskPg (wrPg m n pg 8) n = pg := by
 unfold diskPg
 rw [secs_pg h _ n (fun i hi => ?_) 8 (Nat.le_refl _)]
 ·exact List.take_of_length_le (by omega)
 ·rw [sec_wr, if_pos (by omega)]; congr 3; omega
theorem secs_congr (m m' : List (Nat × List UInt8)) (n : Nat) : ∀ k, (∀ i, i < k → secAt m (8 * n + i) = secAt m' (8 * n + i)) → secs m n k = secs m' n k
 | 0, _ => rfl
 | k + 1, h => by rw [secs_succ, secs_succ, secs_congr m m' n k (fun i hi => h i (by omega)), h k (by omega)]
theorem disk_wr' (m : List (Nat × List UInt8)) (n n' : Nat) (pg : List UInt8) (hn : n' ≠ n) : diskPg (wrPg m n pg 8) n' = diskPg m n' := by
 refine secs_congr _ _ _ 8 fun i hi => ?_
 rw [sec_wr, if_neg (by omega)]
structure PoolV where
 data : DiskV
 log : LogV
 most : Nat
 tick : Int
 fs : List Nat
 V : Nat → FrameV
 hm : List (Nat × Nat)
def PoolV.pages (P : PoolV) : Nat := min (P.data.size / 8) 3840
def PoolV.view (P : PoolV) (n : Nat) : List UInt8 := match lkM P.hm n with
 | some f => (P.V f).pg
 | none => pgz (diskPg P.data.now n)
structure PoolH (σ : St) (p dd l kh : Nat) (Fd Gl : Nat → Prop) (w : Option Nat) (a : AV) (P : PoolV) : Prop where
 o : σ[p]? = some (some (.row 6 [[.mp dd 6 0 0, .mp l 5 0 0, intV .i64 (P.most : Nat), a, .mmap kh, intV .i64 P.tick]]))
 data : DiskAt σ dd Fd P.data
 log : LogAt σ l Gl P.log
 ord : Ord σ P.V a w P.fs
 has : σ[kh]? = some (some (.map (encM (fun f => .mp f 516 0 0) P.hm)))
 dl : ∀ t, Fd t → Gl t → False
 od : ∀ t, oG w P.fs t → Fd t → False
 ol : ∀ t, oG w P.fs t → Gl t → False
 pd : ¬ Fd p
 pl : ¬ Gl p
 kd : ¬ Fd kh
 kl : ¬ Gl kh
structure PoolOk (P : PoolV) : Prop where
 keys : ∀ n f, lkM P.hm n = some f ↔ f ∈ P.fs ∧ (P.V f).n = n
 kn : (P.hm.map Prod.fst).Nodup
 m1 : 1 ≤ P.most
 mb : P.most ≤ 100000
 len : P.fs.length ≤ P.most
 fn : ∀ f ∈ P.fs, (P.V f).n < P.pages
 nz : ∀ f ∈ P.fs, pgz (P.V f).pg = (P.V f).pg
 cl : ∀ f ∈ P.fs, (P.V f).dirty = false → pgz (diskPg P.data.now (P.V f).n) = (P.V f).pg
 secs : ∀ k, (secAt P.data.now k).length = 64
 size : 16 ≤ P.data.size
def PoolIs (σ : St) (p dd l kh : Nat) (G : Nat → Prop) (P : PoolV) : Prop := PoolOk P ∧ ∃ Fd Gl w a, PoolH σ p dd l kh Fd Gl w a P ∧ ∀ t, G t ↔ (t = p ∨ t = kh ∨ Fd t ∨ Gl t ∨ oG w P.fs t)
theorem Ord.big {σ : St} {V : Nat → FrameV} {a : AV} {w : Option Nat} {fs : List Nat} (h : Ord σ V a w fs) : (∀ f ∈ fs, (V f).pg.length = 512) ∧ fs.Nodup := by
 cases h with
 | nil => exact ⟨by simp, by simp⟩
 | hp h => exact ⟨h.pg, h.nd⟩
theorem Ord.same {σ s : St} {V : Nat → FrameV} {a : AV} {w : Option Nat} {fs : List Nat} (h : Ord σ V a w fs) (hs : ∀ t, oG w fs t → s[t]? = σ[t]?) : Ord s V a w fs := by
 cases h with
 | nil => exact .nil
 | hp h => exact .hp (h.same fun t ht => hs t (ht.imp (fun e => by rw [e]) id))
theorem Ord.lt {σ : St} {V : Nat → FrameV} {a : AV} {w : Option Nat} {fs : List Nat} (h : Ord σ V a w fs) : ∀ t, oG w fs t → t < σ.length := by
 cases h with
 | nil => intro t ht; rcases ht with ht | ht <;> simp at ht
 | hp h =>
   intro t ht
   rcases ht with ht | ht
   ·simp only [Option.some.injEq] at ht; subst ht
    obtain ⟨ls, ho, _⟩ := h.o
    exact at_lt ho
   ·obtain ⟨i, hi⟩ := List.getElem?_of_mem ht
    exact at_lt (h.f _ _ hi)
theorem Ord.not {σ : St} {V : Nat → FrameV} {a : AV} {w : Option Nat} {fs : List Nat} (h : Ord σ V a w fs) {t : Nat} {x : Option Ob} (ht : σ[t]? = some x) (h1 : ∀ ls, x ≠ some (.row 1 ls)) (h2 : ∀ c, x ≠ some (.row 516 c)) : ¬ oG w fs t := by
 cases h with
 | nil => intro e; rcases e with e | e <;> simp at e
 | hp h =>
   rintro (e | e)
   ·simp only [Option.some.injEq] at e; subst e
    obtain ⟨ls, ho, _⟩ := h.o
    rw [ho] at ht; simp only [Option.some.injEq] at ht; exact h1 _ ht.symm
   ·obtain ⟨i, hi⟩ := List.getElem?_of_mem e
    have := h.f _ _ hi
    rw [this] at ht; simp only [Option.some.injEq] at ht; exact h2 _ ht.symm
theorem PoolH.np {σ : St} {p dd l kh : Nat} {Fd Gl : Nat → Prop} {w : Option Nat} {a : AV} {P : PoolV} (h : PoolH σ p dd l kh Fd Gl w a P) : ¬ oG w P.fs p := h.ord.not h.o (by simp) (by simp)
theorem PoolH.nk {σ : St} {p dd l kh : Nat} {Fd Gl : Nat → Prop} {w : Option Nat} {a : AV} {P : PoolV} (h : PoolH σ p dd l kh Fd Gl w a P) : ¬ oG w P.fs kh := h.ord.not h.has (by simp) (by simp)
theorem PoolH.pk {σ : St} {p dd l kh : Nat} {Fd Gl : Nat → Prop} {w : Option Nat} {a : AV} {P : PoolV} (h : PoolH σ p dd l kh Fd Gl w a P) : p ≠ kh := ne_of_ob h.o h.has (by simp)
theorem PoolIs.lt {σ : St} {p dd l kh : Nat} {G : Nat → Prop} {P : PoolV} (h : PoolIs σ p dd l kh G P) : ∀ t, G t → t < σ.length := by
 obtain ⟨_, Fd, Gl, w, a, h, hG⟩ := h
 intro t ht
 rcases (hG t).1 ht with rfl | rfl | ht | ht | ht
 ·exact at_lt h.o
 ·exact at_lt h.has
 ·exact h.data.lt t ht
 ·exact h.log.lt t ht
 ·exact h.ord.lt t ht
theorem PoolIs.same {σ s : St} {p dd l kh : Nat} {G : Nat → Prop} {P : PoolV} (h : PoolIs σ p dd l kh G P) (hs : ∀ t, G t → s[t]? = σ[t]?) : PoolIs s p dd l kh G P := by
 obtain ⟨hk, Fd, Gl, w, a, h, hG⟩ := h
 exact ⟨hk, Fd, Gl, w, a, ⟨by rw [hs p ((hG p).2 (.inl rfl))]; exact h.o, h.data.same fun t ht => hs t ((hG t).2 (.inr (.inr (.inl ht)))), h.log.same fun t ht => hs t ((hG t).2 (.inr (.inr (.inr (.inl ht))))), h.ord.same fun t ht => hs t ((hG t).2 (.inr (.inr (.inr (.inr ht))))), by rw [hs kh ((hG kh).2 (.inr (.inl rfl)))]; exact h.has, h.dl, h.od, h.ol, h.pd, h.pl, h.kd, h.kl⟩, hG⟩
theorem PoolIs.frame {σ s : St} {p dd l kh : Nat} {G K K' : Nat → Prop} {P : PoolV} (h : PoolIs σ p dd l kh G P) (hf : Fr σ s K K') (hd : ∀ t, G t → K t → False) : PoolIs s p dd l kh G P :=
 h.same fun t ht => hf.keep t (h.lt t ht) fun hg => hd t ht hg
theorem PoolIs.ap {σ s : St} {p dd l kh : Nat} {G : Nat → Prop} {P : PoolV} (h : PoolIs σ p dd l kh G P) (hs : Ap σ s) : PoolIs s p dd l kh G P := by
 obtain ⟨τ, rfl⟩ := hs
 exact h.same fun t ht => List.getElem?_append_left (h.lt t ht)
theorem PoolIs.root {σ : St} {p dd l kh : Nat} {G : Nat → Prop} {P : PoolV} (h : PoolIs σ p dd l kh G P) : G p := by
 obtain ⟨_, Fd, Gl, w, a, h, hG⟩ := h
 exact (hG p).2 (.inl rfl)
def PoolV.dirt (P : PoolV) : Nat := P.fs.countP fun f => (P.V f).dirty
def PoolV.ct (P : PoolV) : Nat := P.log.ctr + min P.log.wait 1
def PoolV.dq (P : PoolV) : Nat := P.data.wait.length + 8 * P.dirt
theorem dirt_eq {P P' : PoolV} (hp : P'.fs.Perm P.fs) (hV : ∀ g ∈ P.fs, (P'.V g).dirty = (P.V g).dirty) : P'.dirt = P.dirt := by
 unfold PoolV.dirt
 rw [hp.countP_eq]
 exact List.countP_congr fun g hg => by rw [hV g hg]
theorem dq_le {P P' : PoolV} (hw : P'.data.wait = P.data.wait) (hp : P'.fs.Perm P.fs) (hV : ∀ g ∈ P.fs, (P'.V g).dirty = (P.V g).dirty) (k : Nat) : P'.dq ≤ P.dq + k := by
 unfold PoolV.dq
 rw [hw, dirt_eq hp hV]; omega
theorem ct_le {P P' : PoolV} (hl : P'.log = P.log) (k : Nat) : P'.ct ≤ P.ct + k := by unfold PoolV.ct; rw [hl]; omega
structure Kp (P P' : PoolV) (k : Nat) : Prop where
 size : P'.data.size = P.data.size
 most : P'.most = P.most
 ls : P'.log.disk.size = P.log.disk.size
 ld : P'.log.d = P.log.d
 str : P'.log.str = P.log.str
 wait : P'.log.wait ≤ P.log.wait
 ctr : P'.ct ≤ P.ct + k
 dw : P'.dq ≤ P.dq + 8 * k
 view : ∀ n, P'.view n = P.view n
 kept : P'.data.kept = P.data.kept := by rfl
theorem Kp.refl (P : PoolV) (k : Nat) : Kp P P k := ⟨rfl, rfl, rfl, rfl, rfl, Nat.le_refl _, by omega, by omega, fun _ => rfl, rfl⟩
theorem Kp.trans {P P' P'' : PoolV} {k k' : Nat} (h : Kp P P' k) (h' : Kp P' P'' k') : Kp P P'' (k + k') :=
 ⟨h'.size.trans h.size, h'.most.trans h.most, h'.ls.trans h.ls, h'.ld.trans h.ld, h'.str.trans h.str, Nat.le_trans h'.wait h.wait, by have := h.ctr; have := h'.ctr; omega, by have := h.dw; have := h'.dw; omega, fun n => (h'.view n).trans (h.view n), h'.kept.trans h.kept⟩
theorem Kp.pages {P P' : PoolV} {k : Nat} (h : Kp P P' k) : P'.pages = P.pages := by unfold PoolV.pages; rw [h.size]
end Go.Proofs.YtockimhceppkbaaGreat
