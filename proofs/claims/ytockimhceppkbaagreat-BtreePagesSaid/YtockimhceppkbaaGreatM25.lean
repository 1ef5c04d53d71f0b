/- Frames and their heap: what they are in a state. Frames: the heap's methods. Frames: the heap goes up and down. -/
import Derived.Test.YtockimhceppkbaaGreatM24
set_option linter.unusedSimpArgs false
set_option linter.unusedVariables false
set_option linter.defProp false
set_option maxRecDepth 100000
set_option maxHeartbeats 32000000
namespace Go.Proofs.YtockimhceppkbaaGreat
open Go.RowKit
structure FrameV where
 n : Nat
 pg : List UInt8
 dirty : Bool
 used : Int
def frOb (v : FrameV) (i : Nat) : Option Ob := some (.row 516 [frR v.n v.pg v.dirty v.used i])
def ordRow (fs : List Nat) : List (List AV) := fs.map fun f => [.mp f 516 0 0]
structure HpIn (σ : St) (o : Nat) (fs : List Nat) (V : Nat → FrameV) : Prop where
 o : ∃ ls, σ[o]? = some (some (.row 1 ls)) ∧ ls.take fs.length = ordRow fs ∧ fs.length ≤ ls.length
 f : ∀ (i f : Nat), fs[i]? = some f → σ[f]? = some (frOb (V f) i)
 nd : fs.Nodup
 pg : ∀ f ∈ fs, (V f).pg.length = 512
 big : fs.length ≤ 1000000
theorem ordRow_len (fs : List Nat) : (ordRow fs).length = fs.length := by simp [ordRow]
theorem ord_get {fs : List Nat} {ls : List (List AV)} (h : ls.take fs.length = ordRow fs) {i f : Nat} (hi : fs[i]? = some f) : ls[i]? = some [.mp f 516 0 0] := by
 have hl := (List.getElem?_eq_some_iff.1 hi).1
 have : (ls.take fs.length)[i]? = some [.mp f 516 0 0] := by rw [h]; simp [ordRow, hi]
 rwa [List.getElem?_take, if_pos hl] at this
def swapL (fs : List Nat) (i j : Nat) : List Nat := (fs.set i (fs.getD j 0)).set j (fs.getD i 0)
theorem swapL_len (fs : List Nat) (i j : Nat) : (swapL fs i j).length = fs.length := by simp [swapL]
theorem swapL_get {fs : List Nat} {i j : Nat} (hi : i < fs.length) (hj : j < fs.length) (k : Nat) : (swapL fs i j)[k]? = if k = j then fs[i]? else if k = i then fs[j]? else fs[k]? := by
 unfold swapL
 rw [List.getElem?_set, List.getElem?_set]
 simp only [List.length_set, List.getD_eq_getElem?_getD]
 by_cases h1 : k = j
 ·subst h1; simp [hi, hj]
 ·have h1' : ¬ j = k := fun e => h1 e.symm
  by_cases h2 : k = i
  ·subst h2; simp [hi, hj, h1, h1']
  ·have h2' : ¬ i = k := fun e => h2 e.symm
   simp [h1, h1', h2, h2']
theorem swapL_perm {fs : List Nat} {i j : Nat} (hi : i < fs.length) (hj : j < fs.length) : (swapL fs i j).Perm fs := by
 have e1 : fs.getD j 0 = fs[j] := by simp [hj]
 have e2 : fs.getD i 0 = fs[i] := by simp [hi]
 unfold swapL
 rw [e1, e2]
 exact List.set_set_perm (by simpa using hi) hj
theorem ordRow_swap {fs : List Nat} {ls : List (List AV)} {i j fi fj : Nat} (h : ls.take fs.length = ordRow fs) (hi : fs[i]? = some fi) (hj : fs[j]? = some fj) :
 ((ls.set i [.mp fj 516 0 0]).set j [.mp fi 516 0 0]).take (swapL fs i j).length = ordRow (swapL fs i j) := by
 have li := (List.getElem?_eq_some_iff.1 hi).1
 have lj := (List.getElem?_eq_some_iff.1 hj).1
 rw [swapL_len]
 apply List.ext_getElem?
 intro k
 rw [List.getElem?_take, ordRow, List.getElem?_map, swapL_get li lj]
 have hk : ∀ f, fs[k]? = some f → ls[k]? = some [.mp f 516 0 0] := fun f hf => ord_get h hf
 have hll : fs.length ≤ ls.length := by
  have := congrArg List.length h
  rw [ordRow_len, List.length_take] at this
  omega
 split
 ·rename_i hlt
  rw [List.getElem?_set, List.getElem?_set]
  have hkl : k < ls.length := by omega
  by_cases h1 : k = j
  ·subst h1; simp [hi, hkl]
  ·have h1' : ¬ j = k := fun e => h1 e.symm
   by_cases h2 : k = i
   ·subst h2; simp [hj, hkl, h1, h1']
   ·have h2' : ¬ i = k := fun e => h2 e.symm
    rw [if_neg h1', if_neg h2', if_neg h1, if_neg h2, hk _ (List.getElem?_eq_getElem hlt), List.getElem?_eq_getElem hlt]
    rfl
 ·rename_i hge
  rw [if_neg (by omega), if_neg (by omega), List.getElem?_eq_none (by omega)]
  rfl
theorem swapL_self {fs : List Nat} {i : Nat} (hi : i < fs.length) : swapL fs i i = fs := by
 apply List.ext_getElem?
 intro k
 rw [swapL_get hi hi]
 by_cases hk : k = i
 ·subst hk; simp
 ·simp [hk]
theorem HpIn.swap {σ s : St} {o i j fi fj : Nat} {fs : List Nat} {V : Nat → FrameV} {ls : List (List AV)} (h : HpIn σ o fs V) (h2 : ls.take fs.length = ordRow fs) (h3 : fs.length ≤ ls.length) (gi : fs[i]? = some fi) (gj : fs[j]? = some fj) (hij : i ≠ j)
 (so : s[o]? = some (some (.row 1 ((ls.set i [.mp fj 516 0 0]).set j [.mp fi 516 0 0])))) (si : s[fi]? = some (frOb (V fi) j)) (sj : s[fj]? = some (frOb (V fj) i)) (sk : ∀ t, t ≠ o → t ≠ fi → t ≠ fj → s[t]? = σ[t]?) :
 HpIn s o (swapL fs i j) V := by
 have li := (List.getElem?_eq_some_iff.1 gi).1
 have lj := (List.getElem?_eq_some_iff.1 gj).1
 obtain ⟨ls', ho, _, _⟩ := h.o
 refine ⟨⟨_, so, ordRow_swap h2 gi gj, by rw [swapL_len]; simpa using h3⟩, fun k f hk => ?_, (swapL_perm li lj).nodup_iff.2 h.nd, fun f hf => h.pg f ((swapL_perm li lj).mem_iff.1 hf), by rw [swapL_len]; exact h.big⟩
 rw [swapL_get li lj] at hk
 split at hk
 ·rename_i e; subst e
  rw [gi] at hk; cases hk; exact si
 ·split at hk
  ·rename_i e; subst e
   rw [gj] at hk; cases hk; exact sj
  ·rename_i h4 h5
   have hf := h.f k f hk
   rw [sk f (ne_of_ob hf ho (by simp [frOb])) (fun e => ?_) (fun e => ?_)]
   ·exact hf
   ·subst e
    exact h5 ((List.getElem?_inj (List.getElem?_eq_some_iff.1 hk).1 h.nd).1 (hk.trans gi.symm))
   ·subst e
    exact h4 ((List.getElem?_inj (List.getElem?_eq_some_iff.1 hk).1 h.nd).1 (hk.trans gj.symm))
end Go.Proofs.YtockimhceppkbaaGreat
namespace Go.Proofs.YtockimhceppkbaaGreat
open Go.RowKit
def pl140_1Ha : Plan := (.det 0 (.det 1 (.det 2 (.det 3 (.det 4 (.det 5 (.det 6 (.det 7 (.det 8 (.det 9 (.det 10 (.det 11 (.det 12 (.det 13 (.det 14 (.det 15 .done))))))))))))))))
def pl141_0Ha : Plan := (.det 0 (.det 1 (.det 2 (.det 3 (.det 4 (.det 5 (.det 6 (.det 7 (.det 8 (.det 9 (.det 10 (.det 11 (.det 12 (.fin 13 (.det 14 (.fin 15 .done))))))))))))))))
def pl141_1Ha : Plan := (.det 0 (.det 1 (.det 2 (.det 3 (.det 4 (.det 5 (.det 6 (.det 7 (.det 8 (.det 9 (.det 10 (.det 11 (.fin 12 (.det 13 (.det 14 (.fin 15 .done))))))))))))))))
def tHa := aa wX <| aa wbu <| aa T3 <| aa T71 <| aa T130 T134
theorem aless {σ : St} {o i j : Nat} {fs : List Nat} {V : Nat → FrameV} (h : HpIn σ o fs V) (hi : i < fs.length) (hj : j < fs.length) :
 ACalls Tryz.prog 140 [.ms o 1 0 fs.length, intV .i64 (i : Nat), intV .i64 (j : Nat)] σ fun r σ' => σ' = σ ∧ ∃ b, r = boolV b := by
 obtain ⟨ls, h1, h2, h3⟩ := h.o
 have l1 := at_lt h1
 have gi := List.getElem?_eq_getElem hi
 have gj := List.getElem?_eq_getElem hj
 have k1 := ord_get h2 gi
 have k2 := ord_get h2 gj
 have f1 := h.f _ _ gi
 have f2 := h.f _ _ gj
 have p1 := h.pg _ (List.mem_of_getElem? gi)
 have p2 := h.pg _ (List.mem_of_getElem? gj)
 have b1 := dT (i := i) (n := fs.length) (by omega)
 have b2 := dT (i := j) (n := fs.length) (by omega)
 have d1 : ((i : Int) < (fs.length : Int)) = True := eq_true (by omega)
 have d2 : ((j : Int) < (fs.length : Int)) = True := eq_true (by omega)
 have i1 := nnI i
 have i2 := nnI j
 generalize fs[i] = fi at gi k1 f1 p1
 generalize fs[j] = fj at gj k2 f2 p2
 have q1 := at_lt f1
 have q2 := at_lt f2
 simp only [frOb] at f1 f2
 refine acalls_of cx_ok dr_ok Tryz.func140 (by kernel_rfl) rfl (nt := 19) (rs := [.tmp 6]) rfl rfl ?_
 repeat' first | ((with_reducible first | refine cs ?_ ?_ | refine ws ?_ ?_ | refine wd ?_ ?_ | refine wu ?_ ?_) <;> intro h <;> try simp only [h]) | simp only [↓wBA, tHa, convA, seval, pl140_1Ha, wH, wFr, h1, l1, k1, k2, f1, f2, p1, p2, b1, b2, d1, d2, i1, i2, q1, q2] | (with_reducible refine dP pl140_1Ha 16 (some 7) (by decide) (by kernel_rfl) ?_)
 all_goals refine ret_st ?_ (by first | exact Nat.le_refl _ | (simp only [List.length_set, List.length_append]; omega) | omega)
 all_goals simp only [resA.eq_1, resL.eq_1, resL.eq_2, resV.eq_1, resV.eq_2, ↓wBA, tHa, convA, seval, wH]
 exact ⟨_, rfl⟩
theorem list_back {α : Type} {ls : List α} {i : Nat} {x : α} (h : ls[i]? = some x) : ls.set i x = ls := by
 apply List.ext_getElem?
 intro k
 rw [List.getElem?_set]
 split
 ·rename_i e; subst e; rw [if_pos (List.getElem?_eq_some_iff.1 h).1, h]
 ·rfl
theorem aswap {σ : St} {o i j : Nat} {fs : List Nat} {V : Nat → FrameV} (h : HpIn σ o fs V) (hi : i < fs.length) (hj : j < fs.length) :
 ACalls Tryz.prog 141 [.ms o 1 0 fs.length, intV .i64 (i : Nat), intV .i64 (j : Nat)] σ fun r σ' => r = .tup [] ∧ HpIn σ' o (swapL fs i j) V ∧ Fr σ σ' (fun t => t = o ∨ t ∈ fs) (fun t => t = o ∨ t ∈ fs) := by
 obtain ⟨ls, h1, h2, h3⟩ := h.o
 have l1 := at_lt h1
 have gi := List.getElem?_eq_getElem hi
 have gj := List.getElem?_eq_getElem hj
 have k1 := ord_get h2 gi
 have k2 := ord_get h2 gj
 have f1 := h.f _ _ gi
 have f2 := h.f _ _ gj
 have p1 := h.pg _ (List.mem_of_getElem? gi)
 have p2 := h.pg _ (List.mem_of_getElem? gj)
 have b1 := dT (i := i) (n := fs.length) (by omega)
 have b2 := dT (i := j) (n := fs.length) (by omega)
 have d1 : ((i : Int) < (fs.length : Int)) = True := eq_true (by omega)
 have d2 : ((j : Int) < (fs.length : Int)) = True := eq_true (by omega)
 have i1 := nnI i
 have i2 := nnI j
 generalize fs[i] = fi at gi k1 f1 p1
 generalize fs[j] = fj at gj k2 f2 p2
 have q1 := at_lt f1
 have q2 := at_lt f2
 have n1 : (o = fi) = False := nf (ne_of_ob h1 f1 (by simp [frOb]))
 have n2 : (fi = o) = False := nf (ne_of_ob f1 h1 (by simp [frOb]))
 have n3 : (o = fj) = False := nf (ne_of_ob h1 f2 (by simp [frOb]))
 have n4 : (fj = o) = False := nf (ne_of_ob f2 h1 (by simp [frOb]))
 simp only [frOb] at f1 f2
 by_cases hij : i = j
 ·subst hij
  rw [gi] at gj
  cases gj
  have e0 : ls.set i [.mp fi 516 0 0] = ls := list_back k1
  refine acalls_of cx_ok dr_ok Tryz.func141 (by kernel_rfl) rfl (nt := 31) (rs := []) rfl rfl ?_
  repeat' first | ((with_reducible first | refine cs ?_ ?_ | refine ws ?_ ?_ | refine wd ?_ ?_ | refine wu ?_ ?_) <;> intro h <;> try simp only [h]) | simp only [↓wBA, tHa, convA, seval, pl141_0Ha, pl141_1Ha, wH, wFr, h1, l1, k1, f1, p1, b1, d1, i1, q1, n1, n2, e0] | (with_reducible refine dP pl141_0Ha 16 (some 6) (by decide) (by kernel_rfl) ?_) | (with_reducible refine dP pl141_1Ha 16 (some 20) (by decide) (by kernel_rfl) ?_)
  all_goals refine ret_st ?_ (by first | exact Nat.le_refl _ | (simp only [List.length_set, List.length_append]; omega) | omega)
  all_goals simp only [resA.eq_1, resL.eq_1, resL.eq_2, resV.eq_1, resV.eq_2, ↓wBA, tHa, convA, seval, wH]
  rw [swapL_self hi]
  exact ⟨h, Fr.refl _ _⟩
 ·have n5 : (fi = fj) = False := nf (fun e => hij (by
   subst e
   exact (List.getElem?_inj hi h.nd).1 (gi.trans gj.symm)))
  have n6 : (fj = fi) = False := nf (fun e => (of_eq_false n5) e.symm)
  have li : i < ls.length := by omega
  have lj : j < ls.length := by omega
  have hij' : ¬ j = i := fun e => hij e.symm
  have e1 : (ls.set i [.mp fj 516 0 0])[j]? = some [.mp fj 516 0 0] := by rw [List.getElem?_set_ne hij]; exact k2
  have e2 : ((ls.set i [.mp fj 516 0 0]).set j [.mp fi 516 0 0])[i]? = some [.mp fj 516 0 0] := by rw [List.getElem?_set_ne hij']; simp [li]
  have e3 : ((ls.set i [.mp fj 516 0 0]).set j [.mp fi 516 0 0])[j]? = some [.mp fi 516 0 0] := by simp [lj]
  refine acalls_of cx_ok dr_ok Tryz.func141 (by kernel_rfl) rfl (nt := 31) (rs := []) rfl rfl ?_
  repeat' first | ((with_reducible first | refine cs ?_ ?_ | refine ws ?_ ?_ | refine wd ?_ ?_ | refine wu ?_ ?_) <;> intro h <;> try simp only [h]) | simp only [↓wBA, tHa, convA, seval, pl141_0Ha, pl141_1Ha, wH, wFr, h1, l1, k1, k2, f1, f2, p1, p2, b1, b2, d1, d2, i1, i2, q1, q2, n1, n2, n3, n4, n5, n6, e1, e2, e3] | (with_reducible refine dP pl141_0Ha 16 (some 6) (by decide) (by kernel_rfl) ?_) | (with_reducible refine dP pl141_1Ha 16 (some 20) (by decide) (by kernel_rfl) ?_)
  all_goals refine ret_st ?_ (by first | exact Nat.le_refl _ | (simp only [List.length_set, List.length_append]; omega) | omega)
  all_goals simp only [resA.eq_1, resL.eq_1, resL.eq_2, resV.eq_1, resV.eq_2, ↓wBA, tHa, convA, seval, wH]
  have hm : ∀ k f, fs[k]? = some f → f = o ∨ f ∈ fs := fun k f e => .inr (List.mem_of_getElem? e)
  refine ⟨h.swap h2 h3 gi gj hij ?_ ?_ ?_ ?_, (((Fr.refl σ _).set _ (.inl rfl)).set _ (hm _ _ ‹_›)).set _ (hm _ _ ‹_›)⟩
  ·simp only [wH, l1, n1, n2, n3, n4, q1, q2]
  ·simp only [wH, l1, n1, n2, n3, n4, n5, n6, q1, q2, frOb]
  ·simp only [wH, l1, n1, n2, n3, n4, n5, n6, q1, q2, frOb]
  ·intro t ht hi hj
   have m1 := nf ht
   have m2 := nf hi
   have m3 := nf hj
   simp only [wH, nf (Ne.symm ht), nf (Ne.symm hi), nf (Ne.symm hj)]
end Go.Proofs.YtockimhceppkbaaGreat
namespace Go.Proofs.YtockimhceppkbaaGreat
open Go.RowKit
def tHb := aa wX <| aa wbu <| aa T3 T4
def oF (o : Nat) (fs : List Nat) (t : Nat) : Prop := t = o ∨ t ∈ fs
theorem oF_perm {o : Nat} {fs fs' : List Nat} (h : fs'.Perm fs) : oF o fs' = oF o fs := funext fun t => propext (or_congr Iff.rfl h.mem_iff)
theorem p_no {σ : St} {p o : Nat} {fs : List Nat} {V : Nat → FrameV} {c : List AV} (h : HpIn σ o fs V) (h0 : σ[p]? = some (some (.row 6 [c]))) : ¬ oF o fs p := fun e => by
 rcases e with rfl | e
 ·obtain ⟨ls, ho, _⟩ := h.o
  rw [ho] at h0; simp at h0
 ·obtain ⟨i, hi⟩ := List.getElem?_of_mem e
  have := h.f _ _ hi
  rw [this] at h0; simp [frOb] at h0
theorem aup {σ : St} {p o j : Nat} {fs : List Nat} {V : Nat → FrameV} {c0 c1 c2 c4 c5 : AV} (h : HpIn σ o fs V) (h0 : σ[p]? = some (some (.row 6 [[c0, c1, c2, .ms o 1 0 fs.length, c4, c5]]))) (hj : j < fs.length) :
 ACalls Tryz.prog 115 [.dyn 167 (.mp p 6 0 3), intV .i64 (j : Nat)] σ fun r σ' => r = .tup [] ∧ ∃ fs', fs'.Perm fs ∧ HpIn σ' o fs' V ∧ Fr σ σ' (oF o fs) (oF o fs) := by
 have hp := p_no h h0
 refine acalls_of cx_ok dr_ok Tryz.func115 (by kernel_rfl) rfl (nt := 21) (rs := []) rfl rfl ?_
 repeat' first | ((with_reducible first | refine cs ?_ ?_ | refine ws ?_ ?_) <;> intro h <;> try simp only [h]) | simp only [↓wBA, tHb, convA, seval, wH]
 refine awp_loopS (X := { j : Nat // j < fs.length }) (fun j => j.1) (fun j => [(1, intV .i64 (j.1 : Nat))]) [4, 5, 6, 7, 8, 9, 10, 11, 12, 13, 14, 15, 16, 17, 18, 19, 20, 21, 22] (fun j s => ∃ fs', fs'.Perm fs ∧ HpIn s o fs' V ∧ Fr σ s (oF o fs) (oF o fs)) (⟨j, hj⟩) ?_ ?_ ?_ ?_
 ·simp only [wHl, wHf]
 ·exact ⟨fs, .refl _, h, Fr.refl _ _⟩
 ·rintro _ _ ⟨_, _, _, hf⟩; exact hf.len
 ·intro x J s hI
  simp only [wHl]
  obtain ⟨j, hj⟩ := x
  obtain ⟨fs', hP, h', hf⟩ := hI
  have k0 := hf.get h0 hp
  have q0 := at_lt k0
  have hl := hP.length_eq
  have hb := h.big
  dsimp only
  rw [← hl] at k0
  have e1 : IntKind.i64.wrap ((j : Int) - 1) = (j : Int) - 1 := wrap_i64 (by omega) (by omega)
  have e2 : IntKind.i64.wrap (((j : Int) - 1).tdiv 2) = (((j - 1) / 2 : Nat) : Int) := by
   by_cases h0 : j = 0
   ·subst h0; decide
   ·rw [Int.tdiv_eq_ediv_of_nonneg (by omega), wrap_i64 (by omega) (by omega)]; omega
  have hi' : (j - 1) / 2 < fs'.length := by omega
  repeat' first | ((with_reducible first | refine cs ?_ ?_ | refine ws ?_ ?_) <;> intro h <;> try simp only [h]) | simp only [↓wBA, tHb, convA, seval, wH, wHl, k0, q0, e1, e2] | ((with_reducible show ACalls _ _ _ _ _); first | (refine (aless h' (by omega) hi').mono ?_; rintro _ _ ⟨rfl, b, rfl⟩) | (refine (aswap h' hi' (by omega)).mono ?_; rintro _ s2 ⟨rfl, h2, hf2⟩))
  all_goals have hlen := hf.len
  ·skip
   all_goals refine ret_st ?_ (by first | exact Nat.le_refl _ | (simp only [List.length_set, List.length_append]; omega) | omega)
   all_goals simp only [resA.eq_1, resL.eq_1, resL.eq_2, resV.eq_1, resV.eq_2, ↓wBA, tHb, convA, seval, wH]
   exact ⟨fs', hP, h', hf⟩
  ·have hj0 : j ≠ 0 := fun e => by subst e; simp_all
   refine ⟨⟨(j - 1) / 2, by omega⟩, by show (j - 1) / 2 < j; omega, ⟨_, (swapL_perm hi' (by omega)).trans hP, h2, ?_⟩, ?_⟩
   ·have := oF_perm (o := o) hP
    exact hf.trans (this ▸ hf2)
   ·simp only [wHl, wHf]
  ·skip
   all_goals refine ret_st ?_ (by first | exact Nat.le_refl _ | (simp only [List.length_set, List.length_append]; omega) | omega)
   all_goals simp only [resA.eq_1, resL.eq_1, resL.eq_2, resV.eq_1, resV.eq_2, ↓wBA, tHb, convA, seval, wH]
   exact ⟨fs', hP, h', hf⟩
theorem swapL_far {fs : List Nat} {i j n : Nat} (hi : i < n) (hj : j < n) (hn : n ≤ fs.length) (k : Nat) (hk : n ≤ k) : (swapL fs i j)[k]? = fs[k]? := by
 rw [swapL_get (by omega) (by omega), if_neg (by omega), if_neg (by omega)]
theorem adown {σ : St} {p o i0 n : Nat} {fs : List Nat} {V : Nat → FrameV} {c0 c1 c2 c4 c5 : AV} (h : HpIn σ o fs V) (h0 : σ[p]? = some (some (.row 6 [[c0, c1, c2, .ms o 1 0 fs.length, c4, c5]]))) (hi : i0 ≤ 1000000) (hn : n ≤ fs.length) :
 ACalls Tryz.prog 114 [.dyn 167 (.mp p 6 0 3), intV .i64 (i0 : Nat), intV .i64 (n : Nat)] σ fun r σ' => (∃ b, r = boolV b) ∧ ∃ fs', fs'.Perm fs ∧ HpIn σ' o fs' V ∧ Fr σ σ' (oF o fs) (oF o fs) ∧ ∀ k, n ≤ k → fs'[k]? = fs[k]? := by
 have hp := p_no h h0
 refine acalls_of cx_ok dr_ok Tryz.func114 (by kernel_rfl) rfl (nt := 45) (rs := [.tmp 6]) rfl rfl ?_
 repeat' first | ((with_reducible first | refine cs ?_ ?_ | refine ws ?_ ?_) <;> intro h <;> try simp only [h]) | simp only [↓wBA, tHb, convA, seval, wH]
 refine awp_loopS (X := { i : Nat // i ≤ 1000000 }) (fun i => n - i.1) (fun i => [(7, intV .i64 (i.1 : Nat))]) [8, 9, 10, 12, 13, 14, 15, 16, 17, 18, 19, 20, 21, 22, 23, 24, 25, 26, 27, 28, 29, 30, 31, 32, 33, 34, 35, 36, 37, 38, 39, 40, 41, 42, 43, 44] (fun i s => ∃ fs', fs'.Perm fs ∧ HpIn s o fs' V ∧ Fr σ s (oF o fs) (oF o fs) ∧ ∀ k, n ≤ k → fs'[k]? = fs[k]?) (⟨i0, hi⟩) ?_ ?_ ?_ ?_
 ·simp only [wHl, wHf]
 ·exact ⟨fs, .refl _, h, Fr.refl _ _, fun _ _ => rfl⟩
 ·rintro _ _ ⟨_, _, _, hf, _⟩; exact hf.len
 ·intro x J s hI
  simp only [wHl]
  obtain ⟨i, hi⟩ := x
  obtain ⟨fs', hP, h', hf, hk⟩ := hI
  have k0 := hf.get h0 hp
  have q0 := at_lt k0
  have hl := hP.length_eq
  have hb := h.big
  have hlen := hf.len
  dsimp only
  rw [← hl] at k0
  have e1 : IntKind.i64.wrap (2 * (i : Int)) = 2 * (i : Int) := wrap_i64 (by omega) (by omega)
  have e2 : IntKind.i64.wrap (2 * (i : Int) + 1) = ((2 * i + 1 : Nat) : Int) := by rw [wrap_i64 (by omega) (by omega)]; simp
  have e3 : IntKind.i64.wrap (((2 * i + 1 : Nat) : Int) + 1) = ((2 * i + 2 : Nat) : Int) := by rw [wrap_i64 (by omega) (by omega)]; simp; omega
  by_cases hn1 : 2 * i + 1 < n
  ·have e4 : decide (((2 * i + 1 : Nat) : Int) ≥ (n : Int)) = false := by simp; omega
   have e5 : decide (((2 * i + 1 : Nat) : Int) < 0) = false := by simp; omega
   have hj : ∀ j, i < j → j < n → ∀ s2, HpIn s2 o (swapL fs' i j) V → Fr s s2 (oF o fs') (oF o fs') → j ≤ 1000000 ∧ n - j < n - i ∧ ∃ fs', fs'.Perm fs ∧ HpIn s2 o fs' V ∧ Fr σ s2 (oF o fs) (oF o fs) ∧ ∀ k, n ≤ k → fs'[k]? = fs[k]? := fun j h1 h2 s2 h3 h4 => by
    refine ⟨by omega, by omega, _, (swapL_perm (by omega) (by omega)).trans hP, h3, hf.trans ((oF_perm (o := o) hP) ▸ h4), fun k h5 => ?_⟩
    rw [swapL_far (n := n) (by omega) (by omega) (by omega) k h5, hk k h5]
   by_cases hn2 : 2 * i + 2 < n
   ·have e6 : decide (((2 * i + 2 : Nat) : Int) < (n : Int)) = true := by simp; omega
    repeat' first | ((with_reducible first | refine cs ?_ ?_ | refine ws ?_ ?_) <;> intro h <;> try simp only [h]) | simp only [↓wBA, tHb, convA, seval, wH, wHl, k0, q0, e1, e2, e3, e4, e5, e6] | ((with_reducible show ACalls _ _ _ _ _); first | (refine (aless h' (by omega) (by omega)).mono ?_; rintro _ _ ⟨rfl, b, rfl⟩) | (refine (aswap h' (by omega) (by omega)).mono ?_; rintro _ s2 ⟨rfl, h2, hf2⟩))
    ·skip
     all_goals refine ret_st ?_ (by first | exact Nat.le_refl _ | (simp only [List.length_set, List.length_append]; omega) | omega)
     all_goals simp only [resA.eq_1, resL.eq_1, resL.eq_2, resV.eq_1, resV.eq_2, ↓wBA, tHb, convA, seval, wH]
     exact ⟨⟨_, rfl⟩, fs', hP, h', hf, hk⟩
    ·obtain ⟨j1, j2, j3⟩ := hj _ (by omega) (by omega) s2 h2 hf2
     refine ⟨⟨_, j1⟩, j2, j3, ?_⟩
     simp only [wHl, wHf]
    ·skip
     all_goals refine ret_st ?_ (by first | exact Nat.le_refl _ | (simp only [List.length_set, List.length_append]; omega) | omega)
     all_goals simp only [resA.eq_1, resL.eq_1, resL.eq_2, resV.eq_1, resV.eq_2, ↓wBA, tHb, convA, seval, wH]
     exact ⟨⟨_, rfl⟩, fs', hP, h', hf, hk⟩
    ·obtain ⟨j1, j2, j3⟩ := hj _ (by omega) (by omega) s2 h2 hf2
     refine ⟨⟨_, j1⟩, j2, j3, ?_⟩
     simp only [wHl, wHf]
   ·have e6 : decide (((2 * i + 2 : Nat) : Int) < (n : Int)) = false := by simp; omega
    repeat' first | ((with_reducible first | refine cs ?_ ?_ | refine ws ?_ ?_) <;> intro h <;> try simp only [h]) | simp only [↓wBA, tHb, convA, seval, wH, wHl, k0, q0, e1, e2, e3, e4, e5, e6] | ((with_reducible show ACalls _ _ _ _ _); first | (refine (aless h' (by omega) (by omega)).mono ?_; rintro _ _ ⟨rfl, b, rfl⟩) | (refine (aswap h' (by omega) (by omega)).mono ?_; rintro _ s2 ⟨rfl, h2, hf2⟩))
    ·skip
     all_goals refine ret_st ?_ (by first | exact Nat.le_refl _ | (simp only [List.length_set, List.length_append]; omega) | omega)
     all_goals simp only [resA.eq_1, resL.eq_1, resL.eq_2, resV.eq_1, resV.eq_2, ↓wBA, tHb, convA, seval, wH]
     exact ⟨⟨_, rfl⟩, fs', hP, h', hf, hk⟩
    ·obtain ⟨j1, j2, j3⟩ := hj _ (by omega) (by omega) s2 h2 hf2
     refine ⟨⟨_, j1⟩, j2, j3, ?_⟩
     simp only [wHl, wHf]
  ·have e4 : decide (((2 * i + 1 : Nat) : Int) ≥ (n : Int)) = true := by simp; omega
   repeat' first | ((with_reducible first | refine cs ?_ ?_ | refine ws ?_ ?_) <;> intro h <;> try simp only [h]) | simp only [↓wBA, tHb, convA, seval, wH, wHl, k0, q0, e1, e2, e3, e4]
   all_goals refine ret_st ?_ (by first | exact Nat.le_refl _ | (simp only [List.length_set, List.length_append]; omega) | omega)
   all_goals simp only [resA.eq_1, resL.eq_1, resL.eq_2, resV.eq_1, resV.eq_2, ↓wBA, tHb, convA, seval, wH]
   exact ⟨⟨_, rfl⟩, fs', hP, h', hf, hk⟩
end Go.Proofs.YtockimhceppkbaaGreat
