/- Loops: the ways out told together. Heaps: the lists of the reference. Heaps: a record goes from the reference's list. Heaps: a heap has what a list has. Heaps and lists: what calls do with both. -/
import Derived.Test.YtlddiphjpmlhbaaM21
import Derived.Test.YtlddiphjpmlhbaaM43
set_option linter.unusedSimpArgs false
set_option linter.unusedVariables false
set_option linter.defProp false
set_option maxRecDepth 100000
set_option maxHeartbeats 32000000
namespace Go.Proofs.Ytlddiphjpmlhbaa
open Go.RowKit
section
variable {P : Program} {C : Ctx} {fr f : List AV} {σ s : St} {Q : Exit → List AV → St → Prop} {c : Code} {X : Type} {D : X → List (Nat × AV)} {Js : List Nat} {I : X → St → Prop} {id : Nat}
end
end Go.Proofs.Ytlddiphjpmlhbaa
namespace Go.Proofs.Ytlddiphjpmlhbaa
open Go.RowKit
def pl43_4Hx : Plan := (.det 0 (.det 1 (.det 2 (.det 3 (.det 4 (.det 5 (.det 6 (.det 7 (.det 8 .done)))))))))
def tHx := aa wX <| aa wbu <| aa T3 <| aa T35 <| aa T37 T58
def cxH : Ctx := { cx with muts := [22 * 100000 + 108, 23 * 100000 + 54, 22 * 100000 + 38, 105 * 100000 + 35] }
theorem cxH_ok : cxH.ok Try.prog := cx_ok
theorem drH_ok : DrawOk Try.prog (aDraw Try.prog cxH) := aDraw_ok cxH_ok (by kernel_rfl)
theorem kindH (t : TypeId) : cxH.kind t = cx.kind t := nr rfl
theorem tyH (t : TypeId) : cxH.ty t = cx.ty t := nr rfl
theorem mutsH : cxH.muts = [22 * 100000 + 108, 23 * 100000 + 54, 22 * 100000 + 38, 105 * 100000 + 35] := nr rfl
theorem lenH {T : TypeId} {x : AV} : lenA cxH T x = lenA cx T x := nr rfl
theorem appH {k : Nat} {T : TypeId} {x y : AV} {σ : St} : appendA cxH k T x y σ = appendA cx k T x y σ := nr rfl
theorem sliceH {T : TypeId} {x : AV} {lo hi : Option AV} : sliceA cxH T x lo hi = sliceA cx T x lo hi := nr rfl
theorem convBH {S T : TypeId} {x : AV} : convB cxH S T x = convB cx S T x := nr rfl
theorem convCH {S T : TypeId} {x : AV} {σ : St} : convC cxH S T x σ = convC cx S T x σ := nr rfl
theorem wHH : (type_of% @kindH) ∧ (type_of% @tyH) ∧ (type_of% @mutsH) ∧ (type_of% @lenH) ∧ (type_of% @appH) ∧ (type_of% @sliceH) ∧ (type_of% @convBH) ∧ (type_of% @convCH) := ⟨@kindH, @tyH, @mutsH, @lenH, @appH, @sliceH, @convBH, @convCH⟩
abbrev Ents := List ((Nat × Nat) × List UInt8)
def atE (es : Ents) : List (List PV) := es.map fun e => [.v (.int .i64 (e.1.1 : Nat)), .v (.int .i64 (e.1.2 : Nat))]
def rcE (es : Ents) : List (List AV) := es.map fun e => [.p (.sl 1 (encB e.2))]
theorem atE_len (es : Ents) : (atE es).length = es.length := by simp [atE]
theorem rcE_len (es : Ents) : (rcE es).length = es.length := by simp [rcE]
theorem atE_app (es : Ents) (e : (Nat × Nat) × List UInt8) : atE es ++ [[.v (.int .i64 (e.1.1 : Nat)), .v (.int .i64 (e.1.2 : Nat))]] = atE (es ++ [e]) := by simp [atE]
theorem rcE_app (es : Ents) (e : (Nat × Nat) × List UInt8) : rcE es ++ [[.p (.sl 1 (encB e.2))]] = rcE (es ++ [e]) := by simp [rcE]
theorem atE_get {es : Ents} {i : Nat} {e : (Nat × Nat) × List UInt8} (h : es[i]? = some e) : (atE es)[i]? = some [.v (.int .i64 (e.1.1 : Nat)), .v (.int .i64 (e.1.2 : Nat))] := by simp [atE, h]
theorem rcE_get {es : Ents} {i : Nat} {e : (Nat × Nat) × List UInt8} (h : es[i]? = some e) : (rcE es)[i]? = some [.p (.sl 1 (encB e.2))] := by simp [rcE, h]
structure HRefI (σ : St) (o : Nat) (a c : AV) (es : Ents) : Prop where
 o : σ[o]? = some (some (.row 2 [[a, c]]))
 ats : OwnR σ a 37 2 (atE es)
 rc : MutR σ c 1 (rcE es)
def HRef (σ : St) (o : Nat) (H : Nat → Prop) (es : Ents) : Prop := ∃ a c, HRefI σ o a c es ∧ ∀ t, H t ↔ (t = o ∨ ownOf a = some t ∨ msOf c = some t)
theorem HRef.lt {σ : St} {o : Nat} {H : Nat → Prop} {es : Ents} (h : HRef σ o H es) : ∀ t, H t → t < σ.length := by
 obtain ⟨a, c, h, hH⟩ := h
 intro t ht
 rcases (hH t).1 ht with rfl | e | e
 ·exact at_lt h.o
 ·exact h.ats.lt e
 ·exact h.rc.lt e
theorem HRef.same {σ s : St} {o : Nat} {H : Nat → Prop} {es : Ents} (h : HRef σ o H es) (hs : ∀ t, H t → s[t]? = σ[t]?) : HRef s o H es := by
 obtain ⟨a, c, h, hH⟩ := h
 exact ⟨a, c, ⟨by rw [hs o ((hH o).2 (.inl rfl))]; exact h.o, h.ats.same fun t ht => hs t ((hH t).2 (.inr (.inl ht))), h.rc.same fun t ht => hs t ((hH t).2 (.inr (.inr ht)))⟩, hH⟩
theorem HRef.frame {σ s : St} {o : Nat} {H K K' : Nat → Prop} {es : Ents} (h : HRef σ o H es) (hf : Fr σ s K K') (hd : ∀ t, H t → K t → False) : HRef s o H es := h.same fun t ht => hf.keep t (h.lt t ht) fun e => hd t ht e
theorem HRef.ap {σ s : St} {o : Nat} {H : Nat → Prop} {es : Ents} (h : HRef σ o H es) (ha : Ap σ s) : HRef s o H es := h.same fun t ht => by
 have := h.lt t ht
 obtain ⟨τ, rfl⟩ := ha
 exact List.getElem?_append_left this
theorem own_len {C : Ctx} {q : St} {av : AV} {E T : TypeId} {e eb : Nat} {ez : List Value} {ls : List (List PV)} (hk : C.kind T = some (.slice E e eb ez)) (h : OwnR q av E e ls) : lenA C T av = some ls.length := by
 rcases h with ⟨rfl, rfl⟩ | ⟨t, rfl, _, _⟩
 ·simp [lenA, hk, elemsA]
 ·simp [lenA, hk, elemsA]
def FndR (es : Ents) (e : Nat × Nat) (r : AV) : Prop := (∃ i x, es[i]? = some (e, x) ∧ r = intV .i64 (i : Nat)) ∨ (e ∉ es.map Prod.fst ∧ r = intV .i64 (-1))
theorem afindR {σ : St} {o n k : Nat} {H : Nat → Prop} {es : Ents} (h : HRef σ o H es) (hl : es.length ≤ 1000) :
 ACalls Try.prog 43 [.mp o 2 0 0, .agg [intV .i64 (n : Nat), intV .i64 (k : Nat)]] σ fun r σ' => Ap σ σ' ∧ FndR es (n, k) r := by
 obtain ⟨a, c, h, hH⟩ := h
 have h0 := h.o
 have l0 := at_lt h0
 have hla := own_len (C := cx) ck_35 h.ats
 rw [atE_len] at hla
 refine acalls_of cx_ok dr_ok Try.func43 (by kernel_rfl) rfl (nt := 23) (rs := [.tmp 4]) rfl rfl ?_
 repeat' first | ((with_reducible first | refine cs ?_ ?_ | refine ws ?_ ?_ | refine wd ?_ ?_ | refine wu ?_ ?_) <;> intro h <;> try simp only [h]) | simp only [↓wBA, tHx, convA, seval, pl43_4Hx, wH] | (with_reducible refine dP pl43_4Hx 9 (some 15) (by decide) (by kernel_rfl) ?_)
 refine awp_loopS (X := { i : Nat // i ≤ es.length }) (fun i => es.length - i.1) (fun i => [(5, intV .i64 (i.1 : Nat))]) [4, 6, 7, 8, 9, 10, 11, 12, 13, 14, 15, 16, 17, 18, 19, 20, 21, 22, 23, 24] (fun i s => s = σ ++ [some (.row 2 [[intV .i64 (n : Nat), intV .i64 (k : Nat)]])] ∧ ∀ j e, j < i.1 → es[j]? = some e → e.1 ≠ (n, k)) (⟨0, by omega⟩) ?_ ?_ ?_ ?_
 ·simp only [wHl, wHf]
 ·exact ⟨rfl, fun j e hj => absurd hj (Nat.not_lt_zero _)⟩
 ·rintro _ _ ⟨rfl, _⟩; simp
 ·intro x J s hI
  simp only [wHl]
  obtain ⟨i, hi⟩ := x
  obtain ⟨rfl, hno⟩ := hI
  dsimp only at *
  by_cases hlt : i < es.length
  ·have e1 := dT hlt
   obtain ⟨⟨⟨n', k'⟩, y⟩, he⟩ : ∃ e, es[i]? = some e := ⟨es[i], by simp⟩
   obtain ⟨t, rfl, _, ho⟩ : ∃ t, a = .own t 2 (atE es) ∧ atE es ≠ [] ∧ σ[t]? = some (some (.right 37 ((atE es).length * 2))) := by
    rcases h.ats with ⟨_, e⟩ | e
    ·have : es = [] := by simpa [atE] using e
     rw [this] at hlt; simp at hlt
    ·exact e
   have g1 := atE_get he
   have g2 := atE_len es
   have u1 := nnI i
   have u2 : ((i : Int) < (es.length : Int)) = True := eq_true (by omega)
   have hwi := wI i (by omega)
   by_cases hq : n' = n ∧ k' = k
   ·have e2 : ((n' : Int) == (n : Int)) = true := by rw [hq.1]; simp
    have e3 : ((k' : Int) == (k : Int)) = true := by rw [hq.2]; simp
    repeat' first | ((with_reducible first | refine cs ?_ ?_ | refine ws ?_ ?_ | refine wd ?_ ?_ | refine wu ?_ ?_) <;> intro h <;> try simp only [h]) | simp only [↓wBA, tHx, convA, seval, pl43_4Hx, wH, wHl, h0, l0, hla, e1, g1, g2, u1, u2, Int.toNat_natCast, e2, e3, Bool.and_self] | (with_reducible refine dP pl43_4Hx 9 (some 15) (by decide) (by kernel_rfl) ?_)
    all_goals refine ret_st ?_ (by first | exact Nat.le_refl _ | (simp only [List.length_set, List.length_append]; omega) | omega)
    all_goals simp only [resA.eq_1, resL.eq_1, resL.eq_2, resV.eq_1, resV.eq_2, ↓wBA, tHx, convA, seval, wH]
    all_goals exact ⟨Ap.app _ _, .inl ⟨i, y, by rw [he, hq.1, hq.2], rfl⟩⟩
   ·have e2 : (((n' : Int) == (n : Int)) && (((k' : Int) == (k : Int)) && true)) = false := by
     simp only [Bool.and_true, Bool.and_eq_false_iff, beq_eq_false_iff_ne]
     by_cases e : n' = n
     ·right; intro e'; exact hq ⟨e, by omega⟩
     ·left; omega
    repeat' first | ((with_reducible first | refine cs ?_ ?_ | refine ws ?_ ?_ | refine wd ?_ ?_ | refine wu ?_ ?_) <;> intro h <;> try simp only [h]) | simp only [↓wBA, tHx, convA, seval, pl43_4Hx, wH, wHl, h0, l0, hla, e1, g1, g2, u1, u2, Int.toNat_natCast, e2, hwi] | (with_reducible refine dP pl43_4Hx 9 (some 15) (by decide) (by kernel_rfl) ?_)
    all_goals
     refine ⟨⟨i + 1, by omega⟩, by show es.length - (i + 1) < es.length - i; omega, fun j e hj he' => ?_, by simp only [wHl, wHf]⟩
     by_cases ej : j = i
     ·subst ej; rw [he] at he'; simp only [Option.some.injEq] at he'; subst he'
      intro e3; simp only [Prod.mk.injEq] at e3; exact hq e3
     ·exact hno j e (by have : j < i + 1 := hj; omega) he'
  ·have he : i = es.length := by omega
   subst he
   have e1 := dF (i := es.length) (n := es.length) (by omega)
   repeat' first | ((with_reducible first | refine cs ?_ ?_ | refine ws ?_ ?_ | refine wd ?_ ?_ | refine wu ?_ ?_) <;> intro h <;> try simp only [h]) | simp only [↓wBA, tHx, convA, seval, pl43_4Hx, wH, wHl, h0, l0, hla, e1] | (with_reducible refine dP pl43_4Hx 9 (some 15) (by decide) (by kernel_rfl) ?_)
   all_goals refine ret_st ?_ (by first | exact Nat.le_refl _ | (simp only [List.length_set, List.length_append]; omega) | omega)
   all_goals simp only [resA.eq_1, resL.eq_1, resL.eq_2, resV.eq_1, resV.eq_2, ↓wBA, tHx, convA, seval, wH]
   all_goals
    refine ⟨Ap.app _ _, .inr ⟨fun hm => ?_, rfl⟩⟩
    obtain ⟨e, he, e2⟩ := List.mem_map.1 hm
    obtain ⟨j, hj⟩ := List.getElem?_of_mem he
    exact hno j e (List.getElem?_eq_some_iff.1 hj).1 hj e2
end Go.Proofs.Ytlddiphjpmlhbaa
namespace Go.Proofs.Ytlddiphjpmlhbaa
open Go.RowKit
def tHy := aa wX <| aa wbu <| aa T3 <| aa T22 <| aa T23 <| aa T35 <| aa T37 T58
theorem own_ms_neE {q : St} {a c : AV} {E : TypeId} {e e' : Nat} {ls : List (List PV)} {ls' : List (List AV)} (h : OwnR q a E e ls) (h' : MutR q c e' ls') {t : Nat} (h1 : ownOf a = some t) (h2 : msOf c = some t) : False := by
 rcases h with ⟨rfl, _⟩ | ⟨t1, rfl, _, h⟩
 ·cases h1
 ·rcases h' with ⟨rfl, _⟩ | ⟨t2, rfl, _, h'⟩
  ·cases h2
  ·simp only [ownOf, Option.some.injEq] at h1
   simp only [msOf, Option.some.injEq] at h2
   subst h1 h2
   rw [h] at h'; cases h'
theorem MutR.cells {q : St} {av : AV} {e : Nat} {ls : List (List AV)} (h : MutR q av e ls) : cellsA av = some [av] := by
 rcases h with ⟨rfl, _⟩ | ⟨t, rfl, _, _⟩ <;> rfl
theorem gone_hit {α : Type} {l : List α} {k : Nat} (hk : k < l.length) : (l.take (k + 1)).eraseIdx k = (l.take k).eraseIdx k := by
 have h1 : (l.take k).eraseIdx k = l.take k := List.eraseIdx_of_length_le (List.length_take_le _ _)
 have h2 : (l.take k).length = k := by rw [List.length_take]; omega
 rw [h1, List.take_add_one, List.getElem?_eq_getElem hk, List.eraseIdx_append_of_length_le (by omega), h2]
 simp
theorem gone_step {α : Type} {l : List α} {k i : Nat} {x : α} (hx : l[i]? = some x) (hn : i ≠ k) : (l.take (i + 1)).eraseIdx k = (l.take i).eraseIdx k ++ [x] := by
 have hi := (List.getElem?_eq_some_iff.1 hx).1
 rw [List.take_add_one, hx]
 by_cases h : k < i
 ·rw [List.eraseIdx_append_of_lt_length (by simp; omega)]; rfl
 ·rw [List.eraseIdx_of_length_le (by simp; omega), List.eraseIdx_of_length_le (by simp; omega)]; rfl
theorem adropR {σ : St} {o k : Nat} {H : Nat → Prop} {es : Ents} (h : HRef σ o H es) (hl : es.length ≤ 1000) (hk : k < es.length) :
 ACalls Try.prog 44 [.mp o 2 0 0, intV .i64 (k : Nat)] σ fun r σ' => r = .tup [] ∧ ∃ H', Fr σ σ' H H' ∧ HRef σ' o H' (es.eraseIdx k) := by
 obtain ⟨a, c, h, hH⟩ := h
 have h0 := h.o
 have l0 := at_lt h0
 have hla := own_len (C := cx) ck_35 h.ats
 rw [atE_len] at hla
 obtain ⟨ta, rfl, _, hoa⟩ : ∃ t, a = .own t 2 (atE es) ∧ atE es ≠ [] ∧ σ[t]? = some (some (.right 37 ((atE es).length * 2))) := by
  rcases h.ats with ⟨_, e⟩ | e
  ·have : es = [] := by simpa [atE] using e
   rw [this] at hk; simp at hk
  ·exact e
 obtain ⟨tc, rfl, _, hoc⟩ : ∃ t, c = .ms t 1 0 (rcE es).length ∧ rcE es ≠ [] ∧ σ[t]? = some (some (.row 1 (rcE es))) := by
  rcases h.rc with ⟨_, e⟩ | e
  ·have : es = [] := by simpa [rcE] using e
   rw [this] at hk; simp at hk
  ·exact e
 refine acalls_of cxH_ok drH_ok Try.func44 (by kernel_rfl) rfl (nt := 45) (rs := []) rfl rfl ?_
 repeat' first | ((with_reducible first | refine cs ?_ ?_ | refine ws ?_ ?_) <;> intro h <;> try simp only [h]) | simp only [↓wBA, tHy, convA, seval, wH, wHH]
 refine awp_loopS (X := { x : Nat × AV × AV // x.1 ≤ es.length }) (fun x => es.length - x.1.1) (fun x => [(4, x.1.2.1), (5, x.1.2.2), (6, intV .i64 (x.1.1 : Nat))]) [7, 8, 9, 10, 11, 12, 13, 14, 15, 16, 17, 18, 19, 20, 21, 22, 23, 24, 25, 26, 27, 28, 29, 30, 31, 32, 33, 34, 35, 36, 37, 38] (fun x s => Ap σ s ∧ OwnR s x.1.2.1 37 2 (atE ((es.take x.1.1).eraseIdx k)) ∧ MutR s x.1.2.2 1 (rcE ((es.take x.1.1).eraseIdx k)) ∧ (∀ t, ownOf x.1.2.1 = some t → σ.length ≤ t) ∧ ∀ t, msOf x.1.2.2 = some t → σ.length ≤ t) (⟨(0, .p (.v (.slice none 0 0)), .p (.v (.slice none 0 0))), by omega⟩) ?_ ?_ ?_ ?_
 ·simp only [wHl, wHf]
 ·exact ⟨Ap.refl _, .inl ⟨rfl, by simp [atE]⟩, .inl ⟨rfl, by simp [rcE]⟩, by simp [ownOf], by simp [msOf]⟩
 ·rintro _ _ ⟨h, _⟩; exact h.len
 ·intro x J s hI
  simp only [wHl]
  obtain ⟨⟨i, a4, a5⟩, hi⟩ := x
  obtain ⟨ha, ho4, ho5, hn4, hn5⟩ := hI
  dsimp only at *
  have k0 := ha.get h0
  have q0 := at_lt k0
  have kc := ha.get hoc
  have qc := at_lt kc
  have hsl := ha.len
  by_cases hlt : i < es.length
  ·have e1 := dT hlt
   obtain ⟨⟨⟨n, k'⟩, y⟩, he⟩ : ∃ e, es[i]? = some e := ⟨es[i], by simp⟩
   have g1 := atE_get he
   have g2 := atE_len es
   have g3 := rcE_get he
   have g4 := rcE_len es
   have u1 := nnI i
   have u2 : ((i : Int) < (es.length : Int)) = True := eq_true (by omega)
   have hwi := wI i (by omega)
   by_cases hq : i = k
   ·have e2 : ((i : Int) != (k : Int)) = false := by rw [hq]; simp
    repeat' first | ((with_reducible first | refine cs ?_ ?_ | refine ws ?_ ?_) <;> intro h <;> try simp only [h]) | simp only [↓wBA, tHy, convA, seval, wH, wHl, wHH, k0, q0, hla, e1, e2, hwi]
    refine ⟨⟨(i + 1, a4, a5), by omega⟩, by show es.length - (i + 1) < es.length - i; omega, ⟨ha, ?_, ?_, hn4, hn5⟩, by simp only [wHl, wHf]⟩
    ·show OwnR s a4 _ 2 (atE ((es.take (i + 1)).eraseIdx k))
     rw [hq, gone_hit hk]; rw [hq] at ho4; exact ho4
    ·show MutR s a5 1 (rcE ((es.take (i + 1)).eraseIdx k))
     rw [hq, gone_hit hk]; rw [hq] at ho5; exact ho5
   ·have e2 : ((i : Int) != (k : Int)) = true := by simp; omega
    have hst := gone_step he hq
    obtain ⟨D, hD⟩ : ∃ D, (es.take i).eraseIdx k = D := ⟨_, rfl⟩
    have hDl : D.length ≤ 1000 := by rw [← hD]; have := (List.eraseIdx_sublist (es.take i) k).length_le; rw [List.length_take] at this; omega
    rw [hD] at ho4 ho5 hst
    have ho4' := ho4.same (q' := s ++ [some (.right 37 2)]) fun t ht => List.getElem?_append_left (ho4.lt ht)
    obtain ⟨a4', s1, h1, p1, p2, p3, p4⟩ := app_own (q := s ++ [some (.right 37 2)]) (y := .own s.length 2 [[.v (.int .i64 (n : Nat)), .v (.int .i64 (k' : Nat))]]) (m := [[.v (.int .i64 (n : Nat)), .v (.int .i64 (k' : Nat))]]) ck_35 ho4' rfl (by simp) (by simp only [atE_len, List.length_cons, List.length_nil]; omega) (by simp only [atE_len, List.length_cons, List.length_nil]; omega)
    simp only [List.length_append, List.length_cons, List.length_nil, Nat.zero_add] at h1 p2 p3 p4
    have ho5' : MutR (s1 ++ [some (.right 23 1)]) a5 1 (rcE D) := ho5.same fun t ht => by
     have hlt5 := ho5.lt ht
     rw [List.getElem?_append_left (by omega), p3 t (by omega) (fun e => own_ms_neE ho4 ho5 e ht), List.getElem?_append_left hlt5]
    obtain ⟨s2, h2, r1, r2, r3⟩ := app_mut (C := cxH) (q := s1 ++ [some (.right 23 1)]) (y := .own s1.length 1 [[.sl 1 (encB y)]]) (m := [[.p (.sl 1 (encB y))]]) ((kindH _).trans ck_22) ho5' rfl (by simp) (by simp only [rcE_len, List.length_cons, List.length_nil]; omega) (by simp only [rcE_len, List.length_cons, List.length_nil]; omega)
    simp only [List.length_append, List.length_cons, List.length_nil, Nat.zero_add] at h2 r1 r2 r3
    have k1 : s1[o]? = some (some (.row 2 [[.own ta 2 (atE es), .ms tc 1 0 (rcE es).length]])) := by
     rw [p3 o (by omega) (fun e => by have := hn4 o e; omega), List.getElem?_append_left q0]; exact k0
    have q1 := at_lt k1
    have kc1 : s1[tc]? = some (some (.row 1 (rcE es))) := by
     rw [p3 tc (by omega) (fun e => by have := hn4 tc e; have := at_lt hoc; omega), List.getElem?_append_left qc]; exact kc
    have qc1 := at_lt kc1
    repeat' first | ((with_reducible first | refine cs ?_ ?_ | refine ws ?_ ?_) <;> intro h <;> try simp only [h]) | simp only [↓wBA, tHy, convA, seval, wH, wHl, wHH, k0, q0, k1, q1, kc1, qc1, hla, e1, e2, g1, g2, g3, g4, u1, u2, Int.toNat_natCast, h1, h2, hwi]
    have hA2 : Ap σ s2 := Ap.of_keep (by omega) fun t ht => by
     rw [r3 t (by omega) (fun e => by have := hn5 t e; omega), List.getElem?_append_left (by omega), p3 t (by omega) (fun e => by have := hn4 t e; omega), List.getElem?_append_left (by omega)]
     obtain ⟨τ, rfl⟩ := ha
     exact List.getElem?_append_left ht
    refine ⟨⟨(i + 1, a4', .ms (s1.length + 1) 1 0 ((rcE D).length + 1)), by omega⟩, by show es.length - (i + 1) < es.length - i; omega, ⟨hA2, ?_, ?_, fun t ht => (p4 t ht).elim (hn4 t) fun e => by omega, fun t ht => ?_⟩, by simp only [wHl, wHf]⟩
    ·show OwnR s2 a4' _ 2 (atE ((es.take (i + 1)).eraseIdx k))
     rw [hst, ← atE_app]
     refine p1.same fun t ht => ?_
     have := p1.lt ht
     rw [r3 t (by omega) (fun e => (p4 t ht).elim (fun e' => own_ms_neE ho4 ho5 e' e) fun e' => by have := ho5.lt e; omega), List.getElem?_append_left this]
    ·show MutR s2 _ 1 (rcE ((es.take (i + 1)).eraseIdx k))
     rw [hst, ← rcE_app]
     exact .inr ⟨s1.length + 1, by simp, by simp, r1⟩
    ·simp only [msOf, Option.some.injEq] at ht; omega
  ·have he : i = es.length := by omega
   subst he
   have e1 := dF (i := es.length) (n := es.length) (by omega)
   have c4 := ho4.cells
   have c5 := ho5.cells
   repeat' first | ((with_reducible first | refine cs ?_ ?_ | refine ws ?_ ?_) <;> intro h <;> try simp only [h]) | simp only [↓wBA, tHy, convA, seval, wH, wHl, wHH, k0, q0, hla, e1, c4, c5]
   all_goals refine ret_st ?_ (by first | exact Nat.le_refl _ | (simp only [List.length_set, List.length_append]; omega) | omega)
   all_goals simp only [resA.eq_1, resL.eq_1, resL.eq_2, resV.eq_1, resV.eq_2, ↓wBA, tHy, convA, seval, wH, q0]
   rw [List.take_length] at ho4 ho5
   have hso : ∀ x : Option Ob, ∀ t, t ≠ o → (s.set o x)[t]? = s[t]? := fun x t ht => List.getElem?_set_ne fun e => ht e.symm
   refine ⟨fun t => t = o ∨ ownOf a4 = some t ∨ msOf a5 = some t, ((ha.fr.set _ ((hH o).2 (.inl rfl)))).to fun t ht => ?_, a4, a5, ⟨by simp [q0], ho4.same fun t ht => hso _ t fun e => ?_, ho5.same fun t ht => hso _ t fun e => ?_⟩, fun t => Iff.rfl⟩
   ·rcases ht with rfl | ht | ht
    ·exact .inl ((hH _).2 (.inl rfl))
    ·exact .inr (hn4 t ht)
    ·exact .inr (hn5 t ht)
   ·subst e; have := hn4 _ ht; omega
   ·subst e; have := hn5 _ ht; omega
end Go.Proofs.Ytlddiphjpmlhbaa
namespace Go.Proofs.Ytlddiphjpmlhbaa
open Go.RowKit
def pl20_9Hz : Plan := (.det 0 (.det 1 (.det 2 (.det 3 (.det 4 (.det 5 (.det 6 (.det 7 (.det 8 (.det 9 (.det 10 (.det 11 (.det 12 (.det 13 (.det 15 (.det 16 (.det 17 (.det 18 (.det 19 (.det 20 (.det 21 (.two 14 (.act 22 (.det 23 (.det 24 .done))) 22 (.act 14 (.det 23 (.det 24 .done)))))))))))))))))))))))))
def tHz := aa wX <| aa wbu <| aa T3 <| aa T4 <| aa T9 <| aa T22 <| aa T23 <| aa T26 <| aa T31 <| aa T35 <| aa T37 <| aa T46 <| aa T52 <| aa T56 <| aa T58 T105
theorem nodup_sub_len {α : Type} [DecidableEq α] : ∀ (a b : List α), a.Nodup → (∀ x ∈ a, x ∈ b) → a.length ≤ b.length
 | [], b, _, _ => Nat.zero_le _
 | x :: a, b, hn, hs => by
   rw [List.nodup_cons] at hn
   have hx := hs x (by simp)
   have := nodup_sub_len a (b.erase x) hn.2 fun y hy => (List.mem_erase_of_ne (fun e => hn.1 (by rw [← e]; exact hy))).2 (hs y (by simp [hy]))
   rw [List.length_erase_of_mem hx] at this
   have := List.length_pos_of_mem hx
   simp only [List.length_cons]; omega
structure HEq (v : Nat → List UInt8) (ns : List Nat) (es : Ents) : Prop where
 get : ∀ n k r, HRec v ns n k = some r ↔ ((n, k), r) ∈ es
 nd : (es.map Prod.fst).Nodup
def keyE (e : Nat × Nat × List UInt8) : Nat × Nat := (e.1, e.2.1)
theorem HEq.len {v : Nat → List UInt8} {T : Nat → Bool} {np : Nat} {ns : List Nat} {es : Ents} (h : HEq v ns es) (hh : Heap v T np ns) : (entH v ns).length = es.length := by
 have h1 : ((entH v ns).map keyE).Nodup := nodup_entH v ns hh.nd
 have a := nodup_sub_len _ (es.map Prod.fst) h1 fun x hx => by
  obtain ⟨⟨n, k, r⟩, he, rfl⟩ := List.mem_map.1 hx
  exact List.mem_map.2 ⟨((n, k), r), (h.get n k r).1 ((mem_entH hh n k r).1 he), rfl⟩
 have b := nodup_sub_len _ ((entH v ns).map keyE) h.nd fun x hx => by
  obtain ⟨⟨⟨n, k⟩, r⟩, he, rfl⟩ := List.mem_map.1 hx
  exact List.mem_map.2 ⟨(n, k, r), (mem_entH hh n k r).2 ((h.get n k r).2 he), rfl⟩
 simp only [List.length_map] at a b
 omega
theorem HEq.one {v : Nat → List UInt8} {ns : List Nat} {es : Ents} (h : HEq v ns es) {e : Nat × Nat} {x y : List UInt8} (hx : (e, x) ∈ es) (hy : (e, y) ∈ es) : x = y := by
 have h1 := (h.get e.1 e.2 x).2 hx
 have h2 := (h.get e.1 e.2 y).2 hy
 rw [h1] at h2; simpa using h2
def bRs (B : List Bool) : List (List AV) := B.map fun b => [boolV b]
theorem bRs_len (B : List Bool) : (bRs B).length = B.length := by simp [bRs]
theorem bRs_get {B : List Bool} {i : Nat} {b : Bool} (h : B[i]? = some b) : (bRs B)[i]? = some [boolV b] := by simp [bRs, h]
theorem bRs_rep (n : Nat) : List.replicate n [AV.p (.v (.bool false))] = bRs (List.replicate n false) := by simp [bRs, boolV]
theorem bRs_set (B : List Bool) (i : Nat) (b : Bool) : (bRs B).set i [boolV b] = bRs (B.set i b) := by simp [bRs]
theorem aalike {σ : St} {b p dd l kh first o : Nat} {U H : Nat → Prop} {P : PoolV} {v : Nat → List UInt8} {T : Nat → Bool} {ns : List Nat} {es : Ents} (h : Bt σ b p dd l kh U P v) (hh : Heap v T P.pages ns) (hf : ns[0]? = some first) (hb : Bud P 1) (hns : ns.length ≤ 7000) (hr : HRef σ o H es) (hl : es.length ≤ 1000) (hd : ∀ t, U t → H t → False) (he : HEq v ns es) :
 ACalls Try.prog 20 [.mp b 2 0 0, intV .i64 (first : Nat), .mp o 2 0 0] σ fun r σ' => r = boolV true ∧ ∃ U' P', Fr σ σ' U U' ∧ Bt σ' b p dd l kh U' P' v ∧ Kp P P' 0 := by
 refine acalls_of cxH_ok drH_ok Try.func20 (by kernel_rfl) rfl (nt := 74) (rs := [.tmp 6]) rfl rfl ?_
 repeat' first | ((with_reducible first | refine cs ?_ ?_ | refine ws ?_ ?_ | refine wd ?_ ?_ | refine wu ?_ ?_) <;> intro h <;> try simp only [h]) | simp only [↓wBA, tHz, convA, seval, pl20_9Hz, wH, wHH] | (with_reducible refine dP pl20_9Hz 25 (some 49) (by decide) (by kernel_rfl) ?_) | with_reducible refine And.intro ?_ ?_
 refine (ascan h hh hf hb hns).mono ?_
 rintro _ s1 ⟨rfl, U1, P1, f1, h1, k1⟩
 have l1 := f1.len
 have hr1 := hr.frame f1 fun t a b => hd t b a
 have hLl := he.len hh
 have hnd : ((entH v ns).map keyE).Nodup := nodup_entH v ns hh.nd
 have hmm : ∀ e ∈ entH v ns, ((e.1, e.2.1), e.2.2) ∈ es := fun e hm => (he.get e.1 e.2.1 e.2.2).1 ((mem_entH hh e.1 e.2.1 e.2.2).1 hm)
 obtain ⟨L, hL⟩ : ∃ L, entH v ns = L := ⟨_, rfl⟩
 rw [hL] at hLl hnd hmm ⊢
 have hlL : lenA cx 46 (lsV 3 (L.map entR)) = some L.length := by
  unfold lsV
  split
  ·rename_i e
   have : L = [] := by simpa using e
   subst this; rfl
  ·show (match cx.kind 46 with | some (.slice ..) => some (L.map entR).length | _ => none) = _
   rw [ck_46]; simp
 obtain ⟨a, c, hI, hH⟩ := id hr1
 have h0 := hI.o
 have l0 := at_lt h0
 have hla := own_len (C := cx) ck_35 hI.ats
 rw [atE_len] at hla
 have bne : ((L.length : Int) != (es.length : Int)) = false := by rw [hLl]; simp
 have tl : ((es.length : Int) ≤ 140737488355328) = True := eq_true (by omega)
 have ml : ((es.length : Int) ≤ (maxLen : Int)) = True := eq_true (by unfold maxLen; omega)
 repeat' first | ((with_reducible first | refine cs ?_ ?_ | refine ws ?_ ?_ | refine wd ?_ ?_ | refine wu ?_ ?_) <;> intro h <;> try simp only [h]) | simp only [↓wBA, tHz, convA, seval, pl20_9Hz, wH, wHH, hlL, h0, l0, hla, bne, make_eq, tl, ml, nnI, Int.one_mul, Int.toNat_natCast, zeroA, bRs_rep] | (with_reducible refine dP pl20_9Hz 25 (some 49) (by decide) (by kernel_rfl) ?_) | with_reducible refine And.intro ?_ ?_
 refine awp_loopS (X := { i : Nat // i ≤ L.length }) (fun i => L.length - i.1) (fun i => [(10, intV .i64 (i.1 : Nat))]) [6, 11, 36, 37, 38, 39, 40, 41, 42, 43, 44, 45, 46, 47, 48, 49, 50, 51, 52, 53, 54, 55, 56, 57, 58, 59, 60, 61, 62, 63, 64, 65, 66, 67, 68, 69, 70, 71, 72, 73, 74, 75, 76] (fun i s => Ap s1 s ∧ ∃ B, s[s1.length]? = some (some (.row 1 (bRs B))) ∧ B.length = es.length ∧ ∀ (j : Nat) (e : (Nat × Nat) × List UInt8), es[j]? = some e → B[j]? = some (decide (e.1 ∈ (L.take i.1).map keyE))) (⟨0, by omega⟩) ?_ ?_ ?_ ?_
 ·simp only [wHl, wHf]
 ·refine ⟨Ap.app _ _, List.replicate es.length false, by simp, by simp, fun j e hj => ?_⟩
  have := (List.getElem?_eq_some_iff.1 hj).1
  simp [this]
 ·rintro _ _ ⟨_, B, hB, _⟩; have := at_lt hB; simp; omega
 ·intro x J s hI2
  simp only [wHl]
  obtain ⟨i, hi⟩ := x
  obtain ⟨ha, B, hB, hBl, hBe⟩ := hI2
  dsimp only at *
  have hsl := ha.len
  have k0 := ha.get h0
  have q0 := at_lt k0
  have qB := at_lt hB
  by_cases hlt : i < L.length
  ·have e1 := dT hlt
   obtain ⟨⟨n, k, r⟩, hLi⟩ : ∃ e, L[i]? = some e := ⟨L[i], by simp⟩
   have hLne : L ≠ [] := fun e => by rw [e] at hlt; simp at hlt
   have hls : lsV 3 (L.map entR) = .p (.sl 3 (L.map entR)) := if_neg (by simpa using hLne)
   have hgb : (L.map entR)[i]? = some [.v (.int .i64 (n : Nat)), .v (.int .i64 (k : Nat)), .sl 1 (encB r)] := by simp [hLi, entR]
   have hml : (L.map entR).length = L.length := by simp
   have u5 := nnI i
   have u6 : ((i : Int) < (L.length : Int)) = True := eq_true (by omega)
   have hwi := wI i (by omega)
   have hmem := hmm _ (List.mem_of_getElem? hLi)
   dsimp only at hmem
   rw [hls]
   repeat' first | ((with_reducible first | refine cs ?_ ?_ | refine ws ?_ ?_ | refine wd ?_ ?_ | refine wu ?_ ?_) <;> intro h <;> try simp only [h]) | simp only [↓wBA, tHz, convA, seval, pl20_9Hz, wH, wHl, wHH, e1, hml, hgb, u5, u6, Int.toNat_natCast] | (with_reducible refine dP pl20_9Hz 25 (some 49) (by decide) (by kernel_rfl) ?_) | with_reducible refine And.intro ?_ ?_
   refine (afindR (hr1.ap ha) hl).mono ?_
   rintro _ s2 ⟨a2, ⟨j, y, hj, rfl⟩ | ⟨hno, _⟩⟩
   rotate_left
   ·exact absurd (List.mem_map.2 ⟨_, hmem, rfl⟩) hno
   have hry : y = r := he.one (List.mem_of_getElem? hj) hmem
   subst hry
   have hjl := (List.getElem?_eq_some_iff.1 hj).1
   have l2 := a2.len
   have kB := a2.get hB
   have qB2 := at_lt kB
   have k2 := a2.get k0
   have q2 := at_lt k2
   have hnew : decide ((n, k) ∈ (L.take i).map keyE) = false := by
    simp only [decide_eq_false_iff_not]
    intro hm
    have h2 : (L.map keyE)[i]? = some (n, k) := by rw [List.getElem?_map, hLi]; rfl
    rw [List.map_take] at hm
    obtain ⟨q, hq⟩ := List.getElem?_of_mem hm
    have hql := (List.getElem?_eq_some_iff.1 hq).1
    simp only [List.length_take] at hql
    rw [List.getElem?_take, if_pos (by omega)] at hq
    have := (List.getElem?_inj (by simp; omega) hnd).1 (hq.trans h2.symm)
    omega
   have hBj := hBe j _ hj
   dsimp only at hBj
   rw [hnew] at hBj
   have hBg := bRs_get hBj
   have hBs := bRs_set B j true
   have hBL := bRs_len B
   simp only [boolV] at hBg hBs
   obtain ⟨tc, rfl, _, hoc⟩ : ∃ t, c = .ms t 1 0 (rcE es).length ∧ rcE es ≠ [] ∧ s1[t]? = some (some (.row 1 (rcE es))) := by
    rcases hI.rc with ⟨_, e⟩ | e
    ·have : es = [] := by simpa [rcE] using e
     rw [this] at hjl; simp at hjl
    ·exact e
   have kc := a2.get (ha.get hoc)
   have qc := at_lt kc
   have tcl := at_lt hoc
   have n1 : (tc = o) = False := nf (ne_of_ob kc k2 (by simp))
   have n2 : (o = tc) = False := nf (ne_of_ob k2 kc (by simp))
   have n3 : (tc = s1.length) = False := nf (by omega)
   have n4 : (s1.length = tc) = False := nf (by omega)
   have n5 : (o = s1.length) = False := nf (by omega)
   have n6 : (s1.length = o) = False := nf (by omega)
   have g3 := rcE_get hj
   have g4 := rcE_len es
   have d0 : decide ((j : Int) < 0) = false := by simp
   have u7 := nnI j
   have u8 : ((j : Int) < (es.length : Int)) = True := eq_true (by omega)
   have hcy := convB_bx (.inl rfl : BX (.sl 1 (encB y)) y)
   have hbn := binStr_neq ⟨y.toArray⟩
   repeat' first | ((with_reducible first | refine cs ?_ ?_ | refine ws ?_ ?_ | refine wd ?_ ?_ | refine wu ?_ ?_) <;> intro h <;> try simp only [h]) | simp only [↓wBA, tHz, convA, seval, pl20_9Hz, wH, wHl, wHH, e1, hml, hgb, u5, u6, Int.toNat_natCast, k2, q2, kB, qB2, kc, qc, hBl, hBg, hBs, hBL, g3, g4, d0, u7, u8, hcy, hbn, hwi, n1, n2, n3, n4, n5, n6] | (with_reducible refine dP pl20_9Hz 25 (some 49) (by decide) (by kernel_rfl) ?_) | with_reducible refine And.intro ?_ ?_
   have htk : (L.take (i + 1)).map keyE = (L.take i).map keyE ++ [(n, k)] := by rw [List.take_add_one, hLi]; simp [keyE]
   refine ⟨⟨i + 1, by omega⟩, by show L.length - (i + 1) < L.length - i; omega, ⟨(ha.trans a2).set (Nat.le_refl _) _, B.set j true, rfl, by simp [hBl], fun q e hq => ?_⟩, by simp only [wHl, wHf]⟩
   show (B.set j true)[q]? = some (decide (e.1 ∈ (L.take (i + 1)).map keyE))
   rw [htk, List.getElem?_set]
   by_cases hqj : j = q
   ·subst hqj
    rw [hj] at hq; simp only [Option.some.injEq] at hq; subst hq
    rw [if_pos rfl, if_pos (by omega)]
    simp
   ·rw [if_neg hqj, hBe q e hq]
    have hne : e.1 ≠ (n, k) := fun e' => hqj (by
     have h3 : (es.map Prod.fst)[j]? = (es.map Prod.fst)[q]? := by rw [List.getElem?_map, List.getElem?_map, hj, hq]; simp [e']
     exact (List.getElem?_inj (by simpa using hjl) he.nd).1 h3)
    simp [hne]
  ·have hie : i = L.length := by omega
   subst hie
   have e1 := dF (i := L.length) (n := L.length) (by omega)
   repeat' first | ((with_reducible first | refine cs ?_ ?_ | refine ws ?_ ?_ | refine wd ?_ ?_ | refine wu ?_ ?_) <;> intro h <;> try simp only [h]) | simp only [↓wBA, tHz, convA, seval, pl20_9Hz, wH, wHl, wHH, hlL, e1] | (with_reducible refine dP pl20_9Hz 25 (some 49) (by decide) (by kernel_rfl) ?_) | with_reducible refine And.intro ?_ ?_
   all_goals refine ret_st ?_ (by first | exact Nat.le_refl _ | (simp only [List.length_set, List.length_append]; omega) | omega)
   all_goals simp only [resA.eq_1, resL.eq_1, resL.eq_2, resV.eq_1, resV.eq_2, ↓wBA, tHz, convA, seval, wH, wHH]
   all_goals exact ⟨U1, P1, f1.trans ha.fr, h1.ap ha, k1⟩
end Go.Proofs.Ytlddiphjpmlhbaa
namespace Go.Proofs.Ytlddiphjpmlhbaa
open Go.RowKit
theorem HPg.far {l : List UInt8} {nx : Nat} {ss : List (Option (List UInt8))} (h : HPg l nx ss) : getL l ((200 : Nat) : Int) = none := by
 have h1 := slotsL_le (l := l)
 rw [h.pg.slots, List.length_cons] at h1
 rw [show (200 : Nat) = 199 + 1 from rfl, h.at, List.getD_eq_getElem?_getD, List.getElem?_eq_none (by omega)]; rfl
section
variable {v v' : Nat → List UInt8} {T T' : Nat → Bool} {np n k : Nat} {ns ns' : List Nat} {es : Ents} {r rr : List UInt8}
theorem HEq.pos (h : HEq v ns es) (he : ((n, k), r) ∈ es) : n ∈ ns ∧ 1 ≤ k ∧ getL (v n) (k : Nat) = some r := by
 have h1 := (h.get n k r).2 he
 unfold HRec at h1
 by_cases hn : n ∈ ns
 ·rw [if_pos hn] at h1
  rcases Nat.eq_zero_or_pos k with h0 | h0
  ·rw [h0, recOf_zero] at h1; cases h1
  ·unfold recOf at h1
   rw [if_neg (by omega)] at h1
   exact ⟨hn, h0, h1⟩
 ·rw [if_neg hn] at h1; cases h1
theorem HEq.add (h : HEq v ns es) (hi : InsR v v' T T' np ns ns' n k r) : HEq v' ns' (es ++ [((n, k), r)]) := by
 have hno : ∀ y, ((n, k), y) ∉ es := fun y hy => by
  have := (h.get n k y).2 hy
  rw [hi.old] at this; cases this
 refine ⟨fun n' k' r' => ?_, ?_⟩
 ·rw [hi.get, List.mem_append, List.mem_singleton]
  by_cases e : n' = n ∧ k' = k
  ·obtain ⟨rfl, rfl⟩ := e
   rw [if_pos ⟨rfl, rfl⟩]
   constructor
   ·intro e; right; simp only [Option.some.injEq] at e; rw [e]
   ·rintro (e | e)
    ·exact absurd e (hno r')
    ·simp only [Prod.mk.injEq, true_and] at e; rw [e]
  ·rw [if_neg e, h.get]
   constructor
   ·exact .inl
   ·rintro (e' | e')
    ·exact e'
    ·simp only [Prod.mk.injEq] at e'; exact absurd ⟨e'.1.1, e'.1.2⟩ e
 ·rw [List.map_append]
  refine List.nodup_append.2 ⟨h.nd, by simp, fun a ha b hb e => ?_⟩
  obtain ⟨⟨q, y⟩, hx, rfl⟩ := List.mem_map.1 ha
  simp at hb; subst hb
  subst e
  exact hno y hx
theorem key_inj (hn : (es.map Prod.fst).Nodup) {i j : Nat} {e x y} (hi : es[i]? = some (e, x)) (hj : es[j]? = some (e, y)) : i = j := by
 have hl := (List.getElem?_eq_some_iff.1 hi).1
 exact (List.getElem?_inj (by simpa using hl) hn).1 (by rw [List.getElem?_map, List.getElem?_map, hi, hj]; rfl)
theorem HEq.upd {j : Nat} {x : Option (List UInt8)} (h : HEq v ns es) (hj : es[j]? = some ((n, k), r)) (hg : ∀ n' k', HRec v' ns n' k' = if n' = n ∧ k' = k then x else HRec v ns n' k') :
 (x = none → HEq v' ns (es.eraseIdx j)) ∧ ∀ rr, x = some rr → HEq v' ns (es.set j ((n, k), rr)) := by
 have hjl := (List.getElem?_eq_some_iff.1 hj).1
 have hne : ∀ i e y, i ≠ j → es[i]? = some (e, y) → e ≠ (n, k) := fun i e y hij hi e' => hij (key_inj (y := r) h.nd hi (by rw [hj, e']))
 constructor
 ·rintro rfl
  refine ⟨fun n' k' r' => ?_, ?_⟩
  ·rw [hg, List.mem_eraseIdx_iff_getElem?]
   by_cases e : n' = n ∧ k' = k
   ·rw [if_pos e]
    constructor
    ·intro e; cases e
    ·rintro ⟨i, hij, hi⟩
     exact absurd (Prod.ext e.1 e.2) (hne i _ _ hij hi)
   ·rw [if_neg e, h.get, List.mem_iff_getElem?]
    constructor
    ·rintro ⟨i, hi⟩
     refine ⟨i, fun hij => e ?_, hi⟩
     subst hij; rw [hj] at hi; simp only [Option.some.injEq, Prod.mk.injEq] at hi
     exact ⟨hi.1.1.symm, hi.1.2.symm⟩
    ·rintro ⟨i, _, hi⟩; exact ⟨i, hi⟩
  ·exact h.nd.sublist ((List.eraseIdx_sublist es j).map Prod.fst)
 ·rintro rr rfl
  refine ⟨fun n' k' r' => ?_, ?_⟩
  ·rw [hg, List.mem_iff_getElem?]
   by_cases e : n' = n ∧ k' = k
   ·rw [if_pos e]
    obtain ⟨rfl, rfl⟩ := e
    constructor
    ·intro e; simp only [Option.some.injEq] at e; subst e
     exact ⟨j, by rw [List.getElem?_set, if_pos rfl, if_pos hjl]⟩
    ·rintro ⟨i, hi⟩
     rw [List.getElem?_set] at hi
     by_cases hij : j = i
     ·rw [if_pos hij, if_pos hjl] at hi
      simp only [Option.some.injEq, Prod.mk.injEq, true_and] at hi; rw [hi]
     ·rw [if_neg hij] at hi
      exact absurd rfl (hne i _ _ (fun e => hij e.symm) hi)
   ·rw [if_neg e, h.get, List.mem_iff_getElem?]
    constructor
    ·rintro ⟨i, hi⟩
     refine ⟨i, ?_⟩
     rw [List.getElem?_set, if_neg fun hij => e ?_]
     ·exact hi
     ·subst hij; rw [hj] at hi; simp only [Option.some.injEq, Prod.mk.injEq] at hi
      exact ⟨hi.1.1.symm, hi.1.2.symm⟩
    ·rintro ⟨i, hi⟩
     rw [List.getElem?_set] at hi
     by_cases hij : j = i
     ·rw [if_pos hij, if_pos hjl] at hi
      simp only [Option.some.injEq, Prod.mk.injEq] at hi
      exact absurd ⟨hi.1.1.symm, hi.1.2.symm⟩ e
     ·rw [if_neg hij] at hi; exact ⟨i, hi⟩
  ·have : (es.set j ((n, k), rr)).map Prod.fst = es.map Prod.fst := by
    rw [List.map_set]
    apply List.ext_getElem?
    intro a
    rw [List.getElem?_set]
    by_cases e : j = a
    ·subst e
     rw [if_pos rfl, if_pos (by simpa using hjl), List.getElem?_map, hj]; rfl
    ·rw [if_neg e]
   rw [this]; exact h.nd
theorem HEq.setH {j : Nat} (h : HEq v ns es) (hh : Heap v T np ns) (hj : es[j]? = some ((n, k), r)) (hl : rr.length ≤ r.length) :
 Heap (upV v n (setL (v n) (k : Nat) rr).1) T np ns ∧ HEq (upV v n (setL (v n) (k : Nat) rr).1) ns (es.set j ((n, k), rr)) := by
 obtain ⟨hn, hk, hg⟩ := h.pos (List.mem_of_getElem? hj)
 obtain ⟨kq, rfl⟩ : ∃ kq, k = kq + 1 := ⟨k - 1, by omega⟩
 obtain ⟨ii, hii⟩ := List.getElem?_of_mem hn
 obtain ⟨ss, hp⟩ := hh.ch.get hii
 have hgs : ss.getD kq none = some r := by rw [← hp.at]; exact hg
 have hkl : kq < ss.length := by
  rcases Nat.lt_or_ge kq ss.length with h | h
  ·exact h
  ·rw [List.getD_eq_getElem?_getD, List.getElem?_eq_none h] at hgs; simp at hgs
 obtain ⟨_, hp'⟩ := hp.set hgs rr hl
 obtain ⟨hh2, hg2⟩ := hh.change hii hp rfl hp' (x := some rr) (k := kq) fun a => by
  rw [List.getD_eq_getElem?_getD, List.getElem?_set]
  by_cases e : kq = a
  ·subst e; simp [hkl]
  ·have : ¬ a = kq := fun h => e h.symm
   rw [if_neg e, if_neg this, ← List.getD_eq_getElem?_getD]
 exact ⟨hh2, (h.upd hj hg2).2 rr rfl⟩
theorem HEq.dropH {j : Nat} (h : HEq v ns es) (hh : Heap v T np ns) (hj : es[j]? = some ((n, k), r)) :
 Heap (upV v n (dropL (v n) (k : Nat)).1) T np ns ∧ HEq (upV v n (dropL (v n) (k : Nat)).1) ns (es.eraseIdx j) := by
 obtain ⟨hn, hk, hg⟩ := h.pos (List.mem_of_getElem? hj)
 obtain ⟨kq, rfl⟩ : ∃ kq, k = kq + 1 := ⟨k - 1, by omega⟩
 obtain ⟨ii, hii⟩ := List.getElem?_of_mem hn
 obtain ⟨ss, hp⟩ := hh.ch.get hii
 have hgs : ss.getD kq none = some r := by rw [← hp.at]; exact hg
 obtain ⟨_, hp'⟩ := hp.drop hgs
 obtain ⟨hh2, hg2⟩ := hh.change hii hp rfl hp' (x := none) (k := kq) fun a => by
  rw [trimL_getD', List.getD_eq_getElem?_getD, List.getElem?_set]
  by_cases e : kq = a
  ·subst e
   rw [if_pos rfl, if_pos rfl]
   split <;> rfl
  ·rw [if_neg e, if_neg (fun h => e h.symm), ← List.getD_eq_getElem?_getD]
 exact ⟨hh2, (h.upd hj hg2).1 rfl⟩
end
end Go.Proofs.Ytlddiphjpmlhbaa
