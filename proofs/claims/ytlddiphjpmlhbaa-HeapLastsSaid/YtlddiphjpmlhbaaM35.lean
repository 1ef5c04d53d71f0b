/- Frames: the heap's Fix, Pop, Push. -/
import Derived.Test.YtlddiphjpmlhbaaM34
set_option linter.unusedSimpArgs false
set_option linter.unusedVariables false
set_option linter.defProp false
set_option maxRecDepth 100000
set_option maxHeartbeats 32000000
namespace Go.Proofs.Ytlddiphjpmlhbaa
open Go.RowKit
def pl107_0Hc : Plan := (.det 0 (.det 2 (.det 3 (.det 4 (.det 5 (.act 1 (.det 6 (.det 7 (.fin 8 .done)))))))))
def pl107_1Hc : Plan := (.det 0 (.det 1 (.det 2 (.det 3 (.det 4 (.act 5 (.act 6 (.fin 7 (.det 8 (.fin 9 .done))))))))))
def tHc := aa wX <| aa wbu <| aa T3 <| aa T4 <| aa T71 <| aa T124 T128
theorem alenM {σ : St} {o n : Nat} : ACalls Try.prog 103 [.ms o 1 0 n] σ fun r σ' => σ' = σ ∧ r = intV .i64 (n : Nat) := by
 refine acalls_of cx_ok dr_ok Try.func103 (by kernel_rfl) rfl (nt := 4) (rs := [.tmp 2]) rfl rfl ?_
 repeat' first | ((with_reducible first | refine cs ?_ ?_ | refine ws ?_ ?_) <;> intro h <;> try simp only [h]) | simp only [↓wBA, tHc, convA, seval, wH]
 all_goals refine ret_st ?_ (by first | exact Nat.le_refl _ | (simp only [List.length_set, List.length_append]; omega) | omega)
 all_goals simp only [resA.eq_1, resL.eq_1, resL.eq_2, resV.eq_1, resV.eq_2, ↓wBA, tHc, convA, seval, wH]
theorem afix {σ : St} {p o i : Nat} {fs : List Nat} {V : Nat → FrameV} {c0 c1 c2 c4 c5 : AV} (h : HpIn σ o fs V) (h0 : σ[p]? = some (some (.row 6 [[c0, c1, c2, .ms o 1 0 fs.length, c4, c5]]))) (hi : i < fs.length) :
 ACalls Try.prog 78 [.dyn 147 (.mp p 6 0 3), intV .i64 (i : Nat)] σ fun r σ' => r = .tup [] ∧ ∃ fs', fs'.Perm fs ∧ HpIn σ' o fs' V ∧ Fr σ σ' (oF o fs) (oF o fs) := by
 have l0 := at_lt h0
 have hb := h.big
 have hp := p_no h h0
 refine acalls_of cx_ok dr_ok Try.func78 (by kernel_rfl) rfl (nt := 11) (rs := []) rfl rfl ?_
 repeat' first | ((with_reducible first | refine cs ?_ ?_ | refine ws ?_ ?_) <;> intro h <;> try simp only [h]) | simp only [↓wBA, tHc, convA, seval, wH, h0, l0] | ((with_reducible show ACalls _ _ _ _ _); first | refine alenM.eq ?_ | (refine (adown h h0 (by omega) (Nat.le_refl _)).mono ?_; rintro _ s ⟨⟨b, rfl⟩, fs', hP, h', hf, hk⟩))
 ·have k0 := hf.get h0 hp
  have q0 := at_lt k0
  have hl := hP.length_eq
  rw [← hl] at k0
  repeat' first | ((with_reducible first | refine cs ?_ ?_ | refine ws ?_ ?_) <;> intro h <;> try simp only [h]) | simp only [↓wBA, tHc, convA, seval, wH, k0, q0] | ((with_reducible show ACalls _ _ _ _ _); refine (aup h' k0 (by omega)).mono ?_; rintro _ s2 ⟨rfl, fs2, hP2, h2, hf2⟩)
  have hlen := (hf.trans (oF_perm (o := o) hP ▸ hf2)).len
  all_goals refine ret_st ?_ (by first | exact Nat.le_refl _ | (simp only [List.length_set, List.length_append]; omega) | omega)
  all_goals simp only [resA.eq_1, resL.eq_1, resL.eq_2, resV.eq_1, resV.eq_2, ↓wBA, tHc, convA, seval, wH]
  exact ⟨fs2, hP2.trans hP, h2, hf.trans (oF_perm (o := o) hP ▸ hf2)⟩
 ·have hlen := hf.len
  all_goals refine ret_st ?_ (by first | exact Nat.le_refl _ | (simp only [List.length_set, List.length_append]; omega) | omega)
  all_goals simp only [resA.eq_1, resL.eq_1, resL.eq_2, resV.eq_1, resV.eq_2, ↓wBA, tHc, convA, seval, wH]
  exact ⟨fs', hP, h', hf⟩
theorem apopM {σ : St} {p o f : Nat} {fs : List Nat} {V : Nat → FrameV} {c0 c1 c2 c4 c5 : AV} (h : HpIn σ o (fs ++ [f]) V) (h0 : σ[p]? = some (some (.row 6 [[c0, c1, c2, .ms o 1 0 (fs.length + 1), c4, c5]]))) :
 ACalls Try.prog 106 [.mp p 6 0 3] σ fun r σ' => r = .dyn 124 (.mp f 516 0 0) ∧ σ' = σ.set p (some (.row 6 [[c0, c1, c2, .ms o 1 0 fs.length, c4, c5]])) := by
 have l0 := at_lt h0
 obtain ⟨ls, h1, h2, h3⟩ := h.o
 have k1 := ord_get h2 (i := fs.length) (f := f) (by simp)
 have l1 := at_lt h1
 have hb := h.big
 simp only [List.length_append, List.length_cons, List.length_nil] at h3 hb
 have e1 : IntKind.i64.wrap (((fs.length + 1 : Nat) : Int) - 1) = (fs.length : Int) := by rw [wrap_i64 (by omega) (by omega)]; omega
 have d1 : ((fs.length : Int) < ((fs.length + 1 : Nat) : Int)) = True := eq_true (by omega)
 have d2 : ((fs.length : Int) ≤ ((fs.length + 1 : Nat) : Int)) = True := eq_true (by omega)
 have i1 := nnI fs.length
 refine acalls_of cx_ok dr_ok Try.func106 (by kernel_rfl) rfl (nt := 22) (rs := [.tmp 2]) rfl rfl ?_
 repeat' first | ((with_reducible first | refine cs ?_ ?_ | refine ws ?_ ?_) <;> intro h <;> try simp only [h]) | simp only [↓wBA, tHc, convA, seval, wH, h0, l0, h1, l1, k1, e1, d1, d2, i1, sliceA, elemsA, boundA]
 all_goals refine ret_st ?_ (by first | exact Nat.le_refl _ | (simp only [List.length_set, List.length_append]; omega) | omega)
 all_goals simp only [resA.eq_1, resL.eq_1, resL.eq_2, resV.eq_1, resV.eq_2, ↓wBA, tHc, convA, seval, wH]
theorem HpIn.same {σ s : St} {o : Nat} {fs : List Nat} {V : Nat → FrameV} (h : HpIn σ o fs V) (hs : ∀ t, oF o fs t → s[t]? = σ[t]?) : HpIn s o fs V :=
 ⟨by rw [hs o (.inl rfl)]; exact h.o, fun i f hi => by rw [hs f (.inr (List.mem_of_getElem? hi))]; exact h.f i f hi, h.nd, h.pg, h.big⟩
theorem HpIn.front {σ : St} {o f : Nat} {fs : List Nat} {V : Nat → FrameV} (h : HpIn σ o (fs ++ [f]) V) : HpIn σ o fs V := by
 obtain ⟨ls, h1, h2, h3⟩ := h.o
 simp only [List.length_append, List.length_cons, List.length_nil] at h2 h3
 refine ⟨⟨ls, h1, ?_, by omega⟩, fun i g hi => h.f i g (by rw [List.getElem?_append_left (List.getElem?_eq_some_iff.1 hi).1]; exact hi), (List.nodup_append.1 h.nd).1, fun g hg => h.pg g (by simp [hg]), by have := h.big; simp at this; omega⟩
 have := congrArg (List.take fs.length) h2
 rw [List.take_take, Nat.min_eq_left (by omega)] at this
 rw [this]
 simp [ordRow]
theorem last_of {fs : List Nat} {n f : Nat} (hl : fs.length = n + 1) (h : fs[n]? = some f) : fs = fs.dropLast ++ [f] := by
 have hne : fs ≠ [] := fun e => by simp [e] at hl
 have := List.dropLast_concat_getLast hne
 rw [List.getLast_eq_getElem] at this
 have hg : fs[fs.length - 1] = f := by
  have := List.getElem?_eq_some_iff.1 h
  obtain ⟨hn, e⟩ := this
  simp only [hl, Nat.add_sub_cancel, e]
 rw [hg] at this
 exact this.symm
theorem apop {σ : St} {p o f0 : Nat} {fs : List Nat} {V : Nat → FrameV} {c0 c1 c2 c4 c5 : AV} (h : HpIn σ o fs V) (h0 : σ[p]? = some (some (.row 6 [[c0, c1, c2, .ms o 1 0 fs.length, c4, c5]]))) (hf0 : fs[0]? = some f0) :
 ACalls Try.prog 71 [.dyn 147 (.mp p 6 0 3)] σ fun r σ' => r = .dyn 124 (.mp f0 516 0 0) ∧ (∃ i, σ'[f0]? = some (frOb (V f0) i)) ∧ ∃ fs', (f0 :: fs').Perm fs ∧ HpIn σ' o fs' V ∧ σ'[p]? = some (some (.row 6 [[c0, c1, c2, .ms o 1 0 fs'.length, c4, c5]])) ∧ Fr σ σ' (fun t => t = p ∨ oF o fs t) (fun t => t = p ∨ oF o fs t) := by
 have l0 := at_lt h0
 have hb := h.big
 have hp := p_no h h0
 have hl := (List.getElem?_eq_some_iff.1 hf0).1
 obtain ⟨n, hn⟩ : ∃ n, fs.length = n + 1 := ⟨fs.length - 1, by omega⟩
 have e1 : IntKind.i64.wrap ((fs.length : Int) - 1) = (n : Int) := by rw [wrap_i64 (by omega) (by omega)]; omega
 have hs := aswap h (i := 0) (j := n) hl (by omega)
 simp only [cz] at hs
 refine acalls_of cx_ok dr_ok Try.func71 (by kernel_rfl) rfl (nt := 14) (rs := [.tmp 2]) rfl rfl ?_
 repeat' first | ((with_reducible first | refine cs ?_ ?_ | refine ws ?_ ?_) <;> intro h <;> try simp only [h]) | simp only [↓wBA, tHc, convA, seval, wH, h0, l0, e1, cz] | ((with_reducible show ACalls _ _ _ _ _); first | refine alenM.eq ?_ | (refine hs.mono ?_; rintro _ s ⟨rfl, h1, hf1⟩))
 have k0 := hf1.get h0 hp
 have q0 := at_lt k0
 rw [← swapL_len fs 0 n] at k0
 have hd := adown h1 k0 (i0 := 0) (n := n) (by omega) (by rw [swapL_len]; omega)
 simp only [cz] at hd
 repeat' first | ((with_reducible first | refine cs ?_ ?_ | refine ws ?_ ?_) <;> intro h <;> try simp only [h]) | simp only [↓wBA, tHc, convA, seval, wH, k0, q0, cz] | ((with_reducible show ACalls _ _ _ _ _); refine hd.mono ?_; rintro _ s2 ⟨⟨b, rfl⟩, fs2, hP2, h2, hf2, hk⟩)
 have hP1 := swapL_perm (fs := fs) (i := 0) (j := n) hl (by omega)
 have j0 := hf2.get k0 (by rw [oF_perm hP1]; exact hp)
 have p0 := at_lt j0
 have hl2 : fs2.length = n + 1 := by rw [hP2.length_eq, swapL_len, hn]
 have hlast := hk n (Nat.le_refl _)
 rw [swapL_get hl (by omega), if_pos rfl, hf0] at hlast
 have he := last_of hl2 hlast
 rw [swapL_len, hn] at j0
 have hl3 : fs2.dropLast.length = n := by simp [hl2]
 rw [he] at h2
 have hpp := apopM (p := p) (c0 := c0) (c1 := c1) (c2 := c2) (c4 := c4) (c5 := c5) h2 (by rw [hl3]; exact j0)
 rw [hl3] at hpp
 have hff : Fr σ s2 (oF o fs) (oF o fs) := by
  have := hf2
  rw [oF_perm hP1] at this
  exact Fr.trans hf1 this
 have hlen := hff.len
 repeat' first | ((with_reducible first | refine cs ?_ ?_ | refine ws ?_ ?_) <;> intro h <;> try simp only [h]) | simp only [↓wBA, tHc, convA, seval, wH, j0, p0] | ((with_reducible show ACalls _ _ _ _ _); refine hpp.mono ?_; rintro _ _ ⟨rfl, rfl⟩)
 all_goals refine ret_st ?_ (by first | exact Nat.le_refl _ | (simp only [List.length_set, List.length_append]; omega) | omega)
 all_goals simp only [resA.eq_1, resL.eq_1, resL.eq_2, resV.eq_1, resV.eq_2, ↓wBA, tHc, convA, seval, wH, p0]
 have hpn := p_no h2 j0
 have hfl := h2.f n f0 (by rw [List.getElem?_append_right (by omega), hl3]; simp)
 refine ⟨⟨n, (List.getElem?_set_ne fun e => hpn (by subst e; exact .inr (by simp))).trans hfl⟩, fs2.dropLast, ?_, h2.front.same fun t ht => ?_, ?_, ?_⟩
 ·have h5 : (fs2.dropLast ++ [f0]).Perm (f0 :: fs2.dropLast) := List.perm_append_comm
  exact h5.symm.trans (he ▸ (hP2.trans hP1))
 ·exact List.getElem?_set_ne fun e => hpn (by subst e; exact ht.imp id (fun h => by simp [h]))
 ·simp only [hl3]
 ·exact Fr.set (F := fun t => t = p ∨ oF o fs t) (F' := fun t => t = p ∨ oF o fs t) ⟨hff.len, fun t ht hn => hff.keep t ht fun h => hn (.inr h), fun t ht => .inl ht⟩ _ (.inl rfl)
theorem HpIn.push {s : St} {o' f : Nat} {fs : List Nat} {V : Nat → FrameV} (hnd : (fs ++ [f]).Nodup) (hb : fs.length + 1 ≤ 1000000) (ho : s[o']? = some (some (.row 1 (ordRow (fs ++ [f]))))) (hfs : ∀ (i g : Nat), fs[i]? = some g → s[g]? = some (frOb (V g) i)) (hf : s[f]? = some (frOb (V f) fs.length)) (hpg : ∀ g ∈ fs ++ [f], (V g).pg.length = 512) :
 HpIn s o' (fs ++ [f]) V := by
 refine ⟨⟨_, ho, List.take_of_length_le (by simp [ordRow]), by simp [ordRow]⟩, fun i g hi => ?_, hnd, hpg, by simp; omega⟩
 by_cases h : i < fs.length
 ·rw [List.getElem?_append_left h] at hi
  exact hfs i g hi
 ·have hl := (List.getElem?_eq_some_iff.1 hi).1
  simp at hl
  have : i = fs.length := by omega
  subst this
  simp at hi
  subst hi
  exact hf
inductive Ord (σ : St) (V : Nat → FrameV) : AV → Option Nat → List Nat → Prop
 | nil : Ord σ V (.p (.v (.slice none 0 0))) none []
 | hp {o fs} : HpIn σ o fs V → Ord σ V (.ms o 1 0 fs.length) (some o) fs
def oG (w : Option Nat) (fs : List Nat) (t : Nat) : Prop := w = some t ∨ t ∈ fs
theorem apushM {σ : St} {p f : Nat} {w : Option Nat} {fs : List Nat} {V : Nat → FrameV} {a c0 c1 c2 c4 c5 : AV} {i0 : Nat} (h : Ord σ V a w fs) (h0 : σ[p]? = some (some (.row 6 [[c0, c1, c2, a, c4, c5]]))) (hf : σ[f]? = some (frOb (V f) i0)) (hfn : f ∉ fs) (hpf : (V f).pg.length = 512) (hb : fs.length + 1 ≤ 1000000) :
 ACalls Try.prog 107 [.mp p 6 0 3, .dyn 124 (.mp f 516 0 0)] σ fun r σ' => r = .tup [] ∧ ∃ o', HpIn σ' o' (fs ++ [f]) V ∧ σ'[p]? = some (some (.row 6 [[c0, c1, c2, .ms o' 1 0 (fs.length + 1), c4, c5]])) ∧ (w = some o' ∨ σ.length ≤ o') ∧ Fr σ σ' (fun t => t = p ∨ t = f ∨ oG w fs t) (fun t => t = p ∨ t = f ∨ oG (some o') fs t) := by
 have l0 := at_lt h0
 have lf := at_lt hf
 have n0 : (p = f) = False := nf (ne_of_ob h0 hf (by simp [frOb]))
 have n1 : (f = p) = False := nf (ne_of_ob hf h0 (by simp [frOb]))
 simp only [frOb] at hf
 cases h with
 | nil =>
   have hl4 := lM (n := 1) (by omega)
   refine acalls_of cx_ok dr_ok Try.func107 (by kernel_rfl) rfl (nt := 19) (rs := []) rfl rfl ?_
   repeat' first | ((with_reducible first | refine cs ?_ ?_ | refine ws ?_ ?_ | refine wd ?_ ?_ | refine wu ?_ ?_) <;> intro h <;> try simp only [h]) | simp only [↓wBA, tHc, convA, seval, pl107_0Hc, pl107_1Hc, wH, wFr, h0, l0, hf, lf, n0, n1, hpf, cz, appendA, srcA, appendM, srcM, sliceA, elemsA, boundA, hl4] | (with_reducible refine dP pl107_0Hc 9 (some 4) (by decide) (by kernel_rfl) ?_) | (with_reducible refine dP pl107_1Hc 10 (some 12) (by decide) (by kernel_rfl) ?_)
   all_goals refine ret_st ?_ (by first | exact Nat.le_refl _ | (simp only [List.length_set, List.length_append]; omega) | omega)
   all_goals simp only [resA.eq_1, resL.eq_1, resL.eq_2, resV.eq_1, resV.eq_2, ↓wBA, tHc, convA, seval, wH]
   refine ⟨_, HpIn.push (fs := []) (V := V) (f := f) (by simp) hb ?_ (by simp) ?_ (by simpa using hpf), ?_, .inr (Nat.le_succ _), ?_⟩
   ·simp only [wH, l0, lf, n0, n1, List.length_cons, List.length_nil, Nat.zero_add, Nat.reduceAdd]; rfl
   ·simp only [wH, l0, lf, n0, n1, List.length_cons, List.length_nil, Nat.zero_add, Nat.reduceAdd]; rfl
   ·simp only [wH, l0, lf, n0, n1, List.length_cons, List.length_nil, Nat.zero_add, Nat.reduceAdd]
   ·refine ((((Fr.refl σ _).set _ (.inr (.inl rfl))).set _ (.inl rfl)).app _).app _ |>.to fun t ht => ?_
    rcases ht with rfl | rfl | ht | ht
    ·exact .inl (.inl rfl)
    ·exact .inl (.inr (.inl rfl))
    ·simp at ht; omega
    ·simp at ht
 | hp h =>
   obtain ⟨ls, h1, h2, h3⟩ := h.o
   rename_i o
   have l1 := at_lt h1
   have n2 : (o = f) = False := nf (ne_of_ob h1 hf (by simp))
   have n3 : (f = o) = False := nf (ne_of_ob hf h1 (by simp))
   have n4 : (o = p) = False := nf (ne_of_ob h1 h0 (by simp))
   have n5 : (p = o) = False := nf (ne_of_ob h0 h1 (by simp))
   have hl1 := tL (n := (fs.length + 1) * 8) (by omega)
   have hl2 := lM (n := fs.length + 1) (by omega)
   have hl3 := eq_true h3
   refine acalls_of cx_ok dr_ok Try.func107 (by kernel_rfl) rfl (nt := 19) (rs := []) rfl rfl ?_
   repeat' first | ((with_reducible first | refine cs ?_ ?_ | refine ws ?_ ?_ | refine wd ?_ ?_ | refine wu ?_ ?_) <;> intro h <;> try simp only [h]) | simp only [↓wBA, tHc, convA, seval, pl107_0Hc, pl107_1Hc, wH, wFr, h0, l0, hf, lf, n0, n1, n2, n3, n4, n5, hpf, h1, l1, h2, cz, appendA, srcA, appendM, srcM, sliceA, elemsA, boundA, hl1, hl2, hl3] | (with_reducible refine dP pl107_0Hc 9 (some 4) (by decide) (by kernel_rfl) ?_) | (with_reducible refine dP pl107_1Hc 10 (some 12) (by decide) (by kernel_rfl) ?_)
   all_goals refine ret_st ?_ (by first | exact Nat.le_refl _ | (simp only [List.length_set, List.length_append]; omega) | omega)
   all_goals simp only [resA.eq_1, resL.eq_1, resL.eq_2, resV.eq_1, resV.eq_2, ↓wBA, tHc, convA, seval, wH]
   refine ⟨_, HpIn.push (fs := fs) (V := V) (f := f) (List.nodup_append.2 ⟨h.nd, by simp, fun a ha b hb e => by simp at hb; subst hb; subst e; exact hfn ha⟩) hb ?_ (fun i g hi => ?_) ?_ (fun g hg => ?_), ?_, .inr (Nat.le_succ _), ?_⟩
   ·simp only [wH, l0, lf, n0, n1, List.length_cons, List.length_nil, Nat.zero_add, Nat.reduceAdd, ordRow, List.map_append, List.map_cons, List.map_nil]
   ·have hg := h.f i g hi
    have m1 : (f = g) = False := nf fun e => hfn (e ▸ List.mem_of_getElem? hi)
    have m2 : (o = g) = False := nf (ne_of_ob h1 hg (by simp [frOb]))
    have m3 : (p = g) = False := nf (ne_of_ob h0 hg (by simp [frOb]))
    simp only [wH, l0, lf, l1, m1, m2, m3, hg, at_lt hg]
   ·simp only [wH, l0, lf, n0, n1, n2, n3, n4, n5, l1, List.length_cons, List.length_nil, Nat.zero_add, Nat.reduceAdd]; rfl
   ·rcases List.mem_append.1 hg with hg | hg
    ·exact h.pg g hg
    ·simp at hg; subst hg; exact hpf
   ·simp only [wH, l0, lf, n0, n1, n2, n3, n4, n5, l1, List.length_cons, List.length_nil, Nat.zero_add, Nat.reduceAdd]
   ·refine (((((Fr.refl σ _).set _ (.inr (.inl rfl))).set _ (.inr (.inr (.inl rfl)))).set _ (.inl rfl)).app _).app _ |>.to fun t ht => ?_
    rcases ht with rfl | rfl | ht | ht
    ·exact .inl (.inl rfl)
    ·exact .inl (.inr (.inl rfl))
    ·simp at ht; omega
    ·exact .inl (.inr (.inr (.inr ht)))
theorem apush {σ : St} {p f : Nat} {w : Option Nat} {fs : List Nat} {V : Nat → FrameV} {a c0 c1 c2 c4 c5 : AV} {i0 : Nat} (h : Ord σ V a w fs) (h0 : σ[p]? = some (some (.row 6 [[c0, c1, c2, a, c4, c5]]))) (hf : σ[f]? = some (frOb (V f) i0)) (hfn : f ∉ fs) (hpf : (V f).pg.length = 512) (hb : fs.length + 1 ≤ 1000000) :
 ACalls Try.prog 72 [.dyn 147 (.mp p 6 0 3), .dyn 124 (.mp f 516 0 0)] σ fun r σ' => r = .tup [] ∧ ∃ o' fs', fs'.Perm (fs ++ [f]) ∧ HpIn σ' o' fs' V ∧ σ'[p]? = some (some (.row 6 [[c0, c1, c2, .ms o' 1 0 fs'.length, c4, c5]])) ∧ Fr σ σ' (fun t => t = p ∨ t = f ∨ oG w fs t) (fun t => t = p ∨ oF o' fs' t) := by
 have l0 := at_lt h0
 refine acalls_of cx_ok dr_ok Try.func72 (by kernel_rfl) rfl (nt := 10) (rs := []) rfl rfl ?_
 repeat' first | ((with_reducible first | refine cs ?_ ?_ | refine ws ?_ ?_) <;> intro h <;> try simp only [h]) | simp only [↓wBA, tHc, convA, seval, wH, h0, l0] | ((with_reducible show ACalls _ _ _ _ _); refine (apushM h h0 hf hfn hpf hb).mono ?_; rintro _ s ⟨rfl, o', h1, k0, ho, hf1⟩)
 have q0 := at_lt k0
 have e1 : IntKind.i64.wrap (((fs.length + 1 : Nat) : Int) - 1) = (fs.length : Int) := by rw [wrap_i64 (by omega) (by omega)]; omega
 have hl : (fs ++ [f]).length = fs.length + 1 := by simp
 have hu := aup h1 (hl ▸ k0) (j := fs.length) (by simp)
 repeat' first | ((with_reducible first | refine cs ?_ ?_ | refine ws ?_ ?_) <;> intro h <;> try simp only [h]) | simp only [↓wBA, tHc, convA, seval, wH, k0, q0, e1] | ((with_reducible show ACalls _ _ _ _ _); first | refine alenM.eq ?_ | (refine hu.mono ?_; rintro _ s2 ⟨rfl, fs2, hP, h2, hf2⟩))
 have hF : Fr σ s2 (fun t => t = p ∨ t = f ∨ oG w fs t) (fun t => t = p ∨ oF o' fs2 t) := by
  refine ⟨Nat.le_trans hf1.len hf2.len, fun t ht hn => ?_, fun t ht => ?_⟩
  ·rw [hf2.keep t (Nat.lt_of_lt_of_le ht hf1.len) ?_, hf1.keep t ht hn]
   rintro (rfl | h5)
   ·rcases ho with rfl | ho
    ·exact hn (.inr (.inr (.inl rfl)))
    ·omega
   ·rcases List.mem_append.1 h5 with h5 | h5
    ·exact hn (.inr (.inr (.inr h5)))
    ·simp at h5; exact hn (.inr (.inl h5))
  ·rcases ht with rfl | rfl | h5
   ·exact .inl (.inl rfl)
   ·exact ho.imp (fun h => .inr (.inr (.inl h))) id
   ·rcases List.mem_append.1 (hP.mem_iff.1 h5) with h5 | h5
    ·exact .inl (.inr (.inr (.inr h5)))
    ·simp at h5; exact .inl (.inr (.inl h5))
 have hlen := hF.len
 have j0 := hf2.get (hl ▸ k0) (p_no h1 (hl ▸ k0))
 all_goals refine ret_st ?_ (by first | exact Nat.le_refl _ | (simp only [List.length_set, List.length_append]; omega) | omega)
 all_goals simp only [resA.eq_1, resL.eq_1, resL.eq_2, resV.eq_1, resV.eq_2, ↓wBA, tHc, convA, seval, wH]
 exact ⟨o', fs2, hP, h2, hP.length_eq ▸ j0, hF⟩
end Go.Proofs.Ytlddiphjpmlhbaa
