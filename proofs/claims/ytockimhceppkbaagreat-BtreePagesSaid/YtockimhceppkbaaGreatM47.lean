/- Trees, plain: how many pages there are: levels. Trees, plain: how many pages there are: what each level leaves out. Trees, plain: how many pages there are: two levels can't both be tight for long. -/
import Derived.Test.YtockimhceppkbaaGreatM43
set_option linter.unusedSimpArgs false
set_option linter.unusedVariables false
set_option linter.defProp false
set_option maxRecDepth 100000
set_option maxHeartbeats 32000000
namespace Go.Proofs.YtockimhceppkbaaGreat
open Go.RowKit
def cn : (h : Nat) → BTr h → Nat → Nat
 | 0, _, j => if j = 0 then 1 else 0
 | h + 1, t, j => if j = h + 1 then 1 else ((show NL h from t).map fun x => cn h x.2.2 j).sum
def cnL {h : Nat} (l : NL h) (j : Nat) : Nat := (l.map fun x => cn h x.2.2 j).sum
def cnO {h : Nat} : Option (Ent × Nat × BTr h) → Nat → Nat
 | none, _ => 0
 | some z, j => cn h z.2.2 j
theorem cnL_app {h : Nat} (a b : NL h) (j : Nat) : cnL (a ++ b) j = cnL a j + cnL b j := by simp [cnL]
theorem cnL_cons {h : Nat} (x : Ent × Nat × BTr h) (b : NL h) (j : Nat) : cnL (x :: b) j = cn h x.2.2 j + cnL b j := by simp [cnL]
theorem cnL_opt {h : Nat} (o : Option (Ent × Nat × BTr h)) (j : Nat) : cnL o.toList j = cnO o j := by cases o <;> simp [cnL, cnO]
theorem cn_top (h : Nat) (t : BTr h) : cn h t h = 1 := by cases h <;> simp [cn]
theorem cn_low {h j : Nat} (t : NL h) (hj : j ≤ h) : cn (h + 1) t j = cnL t j := by
 show (if j = h + 1 then 1 else _) = _
 rw [if_neg (by omega)]; rfl
def sumN (f : Nat → Nat) : Nat → Nat
 | 0 => f 0
 | h + 1 => f 0 + sumN (fun j => f (j + 1)) h
theorem sumN_top : ∀ (h : Nat) (f : Nat → Nat), sumN f (h + 1) = sumN f h + f (h + 1)
 | 0, f => rfl
 | h + 1, f => by
   have := sumN_top h fun j => f (j + 1)
   simp only [sumN] at this ⊢; omega
theorem sumN_congr : ∀ (h : Nat) {f g : Nat → Nat}, (∀ j, j ≤ h → f j = g j) → sumN f h = sumN g h
 | 0, f, g, hf => hf 0 (Nat.le_refl _)
 | h + 1, f, g, hf => by simp only [sumN]; rw [hf 0 (by omega), sumN_congr h fun j hj => hf (j + 1) (by omega)]
theorem sumN_add : ∀ (h : Nat) (f g : Nat → Nat), sumN (fun j => f j + g j) h = sumN f h + sumN g h
 | 0, f, g => rfl
 | h + 1, f, g => by simp only [sumN]; rw [sumN_add h]; omega
theorem sumN_zero : ∀ (h : Nat), sumN (fun _ => 0) h = 0
 | 0 => rfl
 | h + 1 => by simp only [sumN]; rw [sumN_zero h]
theorem pg_sum : ∀ (h n : Nat) (t : BTr h), (pgT h n t).length = sumN (cn h t) h
 | 0, n, t => rfl
 | h + 1, n, t => by
   rw [sumN_top, cn_top, sumN_congr (g := cnL (show NL h from t)) h fun j hj => cn_low (show NL h from t) hj]
   rw [show (pgT (h + 1) n t).length = (flP (show NL h from t)).length + 1 from rfl]
   have : ∀ l : NL h, (flP l).length = sumN (cnL l) h := by
    intro l
    induction l with
    | nil => rw [show cnL ([] : NL h) = fun _ => 0 from rfl, sumN_zero]; rfl
    | cons x l ih =>
      rw [flP_cons, List.length_append, pg_sum h, ih, ← sumN_add]
      exact sumN_congr h fun j _ => (cnL_cons x l j).symm
   rw [this]
def SzT : (h : Nat) → BTr h → Prop
 | 0, t => szL (its0 t) ≤ 496 ∧ ∀ e ∈ (show List Ent from t), e.k.length ≤ 140
 | h + 1, t => szL (its1 (show NL h from t)) ≤ 496 ∧ (∀ x ∈ (show NL h from t), x.1.k.length ≤ 140) ∧ ∀ x ∈ (show NL h from t), SzT h x.2.2
theorem TrAt.szT {v : Nat → List UInt8} : ∀ {h n : Nat} {t : BTr h}, TrAt v h n t → SzT h t
 | 0, n, t, ht => ⟨NodeP.sz ht, fun e he => (NodeP.ok ht ⟨e, 0⟩ (List.mem_map.2 ⟨e, he, rfl⟩)).1.1⟩
 | h + 1, n, t, ht => ⟨ht.1.sz, fun x hx => (ht.1.ok ⟨x.1, x.2.1⟩ (List.mem_map.2 ⟨x, hx, rfl⟩)).1.1, fun x hx => (ht.2 x hx).szT⟩
theorem ins_more : ∀ {h : Nat} {t t' : BTr h} {e : Ent} {more : Option (Ent × Nat × BTr h)}, SzT h t → e.k.length ≤ 140 → InsR h t e t' more → ∀ z, more = some z → z.1.k.length ≤ 140
 | 0, t, t', e, more, hz, he, hi, z, hm => by
   rcases hi.2 with ⟨_, _, rfl⟩ | ⟨_, _, _, m, y, hy, _, rfl⟩
   ·cases hm
   ·obtain rfl := Option.some.inj hm
    obtain ⟨y0, h1, rfl⟩ := List.mem_map.1 (List.mem_of_getElem? hy)
    rcases List.mem_append.1 h1 with h1 | h1
    ·exact hz.2 _ (List.mem_of_mem_take h1)
    ·rcases List.mem_cons.1 h1 with rfl | h1
     ·exact he
     ·exact hz.2 _ (List.mem_of_mem_drop h1)
 | h + 1, t, t', e, more, hz, he, hi, z, hm => by
   obtain ⟨l1, x, l2, s', more', rfl, _, hin, hs⟩ := hi
   have ih := ins_more (hz.2.2 x (by simp)) he hin
   rcases hs with ⟨_, _, rfl⟩ | ⟨_, _, _, m, y, hy, _, rfl⟩
   ·cases hm
   ·obtain rfl := Option.some.inj hm
    obtain ⟨y0, h1, rfl⟩ := List.mem_map.1 (List.mem_of_getElem? hy)
    simp only [List.mem_append, List.mem_cons, Option.mem_toList] at h1
    rcases h1 with h1 | rfl | h1 | h1
    ·exact hz.2.1 y0 (by simp [h1])
    ·exact hz.2.1 x (by simp)
    ·exact ih y0 h1
    ·exact hz.2.1 y0 (by simp [h1])
theorem add_eq {a b c d : Nat} (h1 : a = c) (h2 : b = d) : a + b = c + d := by rw [h1, h2]
theorem sp_cn {h : Nat} {l : NL h} {t' : BTr (h + 1)} {more : Option (Ent × Nat × BTr (h + 1))} (hs : SpR its1 l (show NL h from t') more) : (∀ j, j ≤ h → cn (h + 1) t' j + cnO more j = cnL l j) ∧ ((more = none ∧ cn (h + 1) t' (h + 1) + cnO more (h + 1) = 1) ∨ (more ≠ none ∧ 496 < szL (its1 l) ∧ cn (h + 1) t' (h + 1) + cnO more (h + 1) = 2)) := by
 rcases hs with ⟨s1, h1, rfl⟩ | ⟨s1, _, _, m, y, _, h1, rfl⟩
 ·subst h1
  exact ⟨fun j hj => cn_low t' hj, .inl ⟨rfl, cn_top (h + 1) t'⟩⟩
 ·refine ⟨fun j hj => ?_, .inr ⟨Option.some_ne_none _, s1, ?_⟩⟩
  ·have a1 : cn (h + 1) t' j = cnL (l.take (midF (its1 l))) j := by rw [← h1]; exact cn_low _ hj
   have a2 : cnO (h := h + 1) (some (y.e, m, l.drop (midF (its1 l)))) j = cnL (l.drop (midF (its1 l))) j := cn_low _ hj
   have a3 := cnL_app (l.take (midF (its1 l))) (l.drop (midF (its1 l))) j
   rw [List.take_append_drop] at a3
   exact (add_eq a1 a2).trans a3.symm
  ·have a1 := cn_top (h + 1) t'
   have a2 : cnO (h := h + 1) (some (y.e, m, l.drop (midF (its1 l)))) (h + 1) = 1 := cn_top (h + 1) _
   exact add_eq a1 a2
theorem ins_cn : ∀ {h : Nat} {t t' : BTr h} {e : Ent} {more : Option (Ent × Nat × BTr h)}, SzT h t → InsR h t e t' more → ∃ δ : Nat → Nat, (∀ j, δ j ≤ 1) ∧ (∀ j, δ (j + 1) ≤ δ j) ∧ (∀ j, j ≤ h → cn h t' j + cnO more j = cn h t j + δ j) ∧ (more ≠ none → δ h = 1) ∧ (more = none → δ h = 0)
 | 0, t, t', e, more, hz, hi => by
   rcases hi.2 with ⟨_, _, rfl⟩ | ⟨_, _, _, m, y, hy, _, rfl⟩
   ·refine ⟨fun _ => 0, fun _ => Nat.zero_le _, fun _ => Nat.le_refl _, fun j hj => ?_, fun h => absurd rfl h, fun _ => rfl⟩
    obtain rfl : j = 0 := Nat.le_zero.1 hj
    rfl
   ·refine ⟨fun j => if j = 0 then 1 else 0, fun j => by dsimp only; split <;> omega, fun j => by dsimp only; rw [if_neg (by omega)]; exact Nat.zero_le _, fun j hj => ?_, fun _ => rfl, fun h => by cases h⟩
    obtain rfl : j = 0 := Nat.le_zero.1 hj
    rfl
 | h + 1, t, t', e, more, hz, hi => by
   obtain ⟨l1, x, l2, s', more', rfl, _, hin, hs⟩ := hi
   obtain ⟨δ, d1, d2, d3, d4, d5⟩ := ins_cn (hz.2.2 x (by simp)) hin
   obtain ⟨l, hl⟩ : ∃ l : NL h, l = l1 ++ (x.1, x.2.1, s') :: (more'.toList ++ l2) := ⟨_, rfl⟩
   rw [← hl] at hs
   have hc : ∀ j, j ≤ h → cnL l j = cnL (l1 ++ x :: l2 : NL h) j + δ j := fun j hj => by
    rw [hl, cnL_app, cnL_cons, cnL_app, cnL_opt, cnL_app, cnL_cons]
    have := d3 j hj
    dsimp only; omega
   obtain ⟨c1, c2⟩ := sp_cn hs
   have hz1 : szL (its1 (l1 ++ x :: l2 : NL h)) ≤ 496 := hz.1
   have k1 : ∀ j, j ≤ h → cn (h + 1) t' j + cnO more j = cn (h + 1) (l1 ++ x :: l2 : NL h) j + δ j := fun j hj => (c1 j hj).trans ((hc j hj).trans (congrArg (· + δ j) (cn_low (l1 ++ x :: l2 : NL h) hj).symm))
   have k2 := cn_top (h + 1) (l1 ++ x :: l2 : NL h)
   rcases c2 with ⟨rfl, c2⟩ | ⟨c0, s1, c2⟩
   ·refine ⟨fun j => if j ≤ h then δ j else 0, fun j => ?_, fun j => ?_, fun j hj => ?_, fun h => absurd rfl h, fun _ => if_neg (by omega)⟩
    ·dsimp only
     split
     ·exact d1 j
     ·omega
    ·dsimp only
     by_cases e : j + 1 ≤ h
     ·rw [if_pos e, if_pos (by omega)]; exact d2 j
     ·rw [if_neg e]; exact Nat.zero_le _
    ·dsimp only
     rcases Nat.lt_or_ge h j with e | e
     ·obtain rfl : j = h + 1 := by omega
      rw [if_neg (by omega)]
      exact c2.trans k2.symm
     ·rw [if_pos e]; exact k1 j e
   ·have hmo : more' ≠ none := fun e0 => by
     subst e0
     have e1 : its1 l = its1 (l1 ++ x :: l2 : NL h) := by rw [hl]; simp [its1]
     rw [e1] at s1
     omega
    have d4' := d4 hmo
    refine ⟨fun j => if j ≤ h then δ j else if j = h + 1 then 1 else 0, fun j => ?_, fun j => ?_, fun j hj => ?_, fun _ => ?_, fun h => absurd h c0⟩
    ·dsimp only
     split
     ·exact d1 j
     ·split <;> omega
    ·dsimp only
     rcases Nat.lt_trichotomy (j + 1) (h + 1) with e | e | e
     ·rw [if_pos (by omega), if_pos (by omega)]; exact d2 j
     ·rw [if_neg (by omega), if_pos e, if_pos (by omega)]
      obtain rfl : j = h := by omega
      omega
     ·rw [if_neg (by omega), if_neg (by omega)]; exact Nat.zero_le _
    ·dsimp only
     rcases Nat.lt_or_ge h j with e | e
     ·obtain rfl : j = h + 1 := by omega
      rw [if_neg (by omega), if_pos rfl]
      exact c2.trans (congrArg (· + 1) k2.symm)
     ·rw [if_pos e]; exact k1 j e
    ·dsimp only
     rw [if_neg (by omega), if_pos rfl]
theorem ins_en : ∀ {h : Nat} {t t' : BTr h} {e : Ent} {more : Option (Ent × Nat × BTr h)}, InsR h t e t' more → (entsT h t').length + (match more with
    | none => 0
    | some z => (entsT h z.2.2).length) = (entsT h t).length + 1
  | 0, t, t', e, more, hi => by
    have hl : (List.take (cutI (its0 t) e) (show List Ent from t) ++ e :: List.drop (cutI (its0 t) e) (show List Ent from t)).length = (show List Ent from t).length + 1 := by
      rw [List.length_append, List.length_cons, List.length_take, List.length_drop]; omega
    rcases hi.2 with ⟨_, rfl, rfl⟩ | ⟨_, _, _, m, y, hy, rfl, rfl⟩
    · exact hl
    · show (List.take _ _).length + (List.drop _ _).length = _
      rw [← List.length_append, List.take_append_drop]; exact hl
  | h + 1, t, t', e, more, hi => by
    obtain ⟨l1, x, l2, s', more', rfl, _, hin, hs⟩ := hi
    have ih := ins_en hin
    obtain ⟨l, hl⟩ : ∃ l : NL h, l = l1 ++ (x.1, x.2.1, s') :: (more'.toList ++ l2) := ⟨_, rfl⟩
    rw [← hl] at hs
    have hc : (l.flatMap fun x => entsT h x.2.2).length = ((l1 ++ x :: l2 : NL h).flatMap fun x => entsT h x.2.2).length + 1 := by
      rw [hl]
      cases more' with
      | none => simp only [Option.toList, List.nil_append, List.flatMap_append, List.flatMap_cons, List.length_append] at ih ⊢; omega
      | some z => simp only [Option.toList, List.cons_append, List.nil_append, List.flatMap_append, List.flatMap_cons, List.length_append] at ih ⊢; omega
    rcases hs with ⟨_, rfl, rfl⟩ | ⟨_, _, _, m, y, hy, rfl, rfl⟩
    · exact hc
    · show ((List.take _ l).flatMap fun x => entsT h x.2.2).length + ((List.drop _ l).flatMap fun x => entsT h x.2.2).length = _
      rw [← List.length_append, ← List.flatMap_append, List.take_append_drop]; exact hc
end Go.Proofs.YtockimhceppkbaaGreat
namespace Go.Proofs.YtockimhceppkbaaGreat
open Go.RowKit
theorem szL_le {l : List Itm} (h : ∀ x ∈ l, x.e.k.length ≤ 140) : szL l ≤ 150 * l.length := by
 induction l with
 | nil => simp [szL_nil]
 | cons x l ih =>
   have h1 := ih fun y hy => h y (by simp [hy])
   have h2 := h x (by simp)
   rw [szL_cons, List.length_cons]
   have : szI x ≤ 150 := by unfold szI; omega
   omega
def headZ : (h : Nat) → BTr h → Prop
 | 0, _ => True
 | h + 1, t => ∃ x r, (show NL h from t) = x :: r ∧ x.1.k = []
structure PgI (h : Nat) (t : BTr h) : Prop where
 c0 : 1 ≤ h → cn h t 0 + 2 ≤ (entsT h t).length
 cj : ∀ j, 1 ≤ j → j < h → cn h t j + 3 ≤ cn h t (j - 1)
 hd : headZ h t
theorem cn_items {h : Nat} (t : NL h) : cn (h + 1) t h = t.length := by
 rw [cn_low t (Nat.le_refl h)]
 induction t with
 | nil => rfl
 | cons x l ih => rw [cnL_cons, ih, cn_top, List.length_cons]; omega
theorem headZ_ins {h : Nat} {l1 l2 : NL h} {x : Ent × Nat × BTr h} {s' : BTr h} {o : Option (Ent × Nat × BTr h)} (hz : headZ (h + 1) (l1 ++ x :: l2 : NL h)) : headZ (h + 1) (l1 ++ (x.1, x.2.1, s') :: (o.toList ++ l2) : NL h) := by
 obtain ⟨y, r, hy, h0⟩ := hz
 have hy : l1 ++ x :: l2 = y :: r := hy
 cases l1 with
 | nil =>
   simp only [List.nil_append, List.cons.injEq] at hy
   obtain ⟨rfl, rfl⟩ := hy
   exact ⟨_, _, rfl, h0⟩
 | cons a l1 =>
   simp only [List.cons_append, List.cons.injEq] at hy
   obtain ⟨rfl, rfl⟩ := hy
   exact ⟨_, _, rfl, h0⟩
theorem ins_keys {h : Nat} {l1 l2 : NL h} {x : Ent × Nat × BTr h} {s' : BTr h} {e : Ent} {more' : Option (Ent × Nat × BTr h)} (hz : SzT (h + 1) (l1 ++ x :: l2 : NL h)) (he : e.k.length ≤ 140) (hin : InsR h x.2.2 e s' more') : ∀ y ∈ its1 (l1 ++ (x.1, x.2.1, s') :: (more'.toList ++ l2) : NL h), y.e.k.length ≤ 140 := fun y hy => by
 obtain ⟨y0, h1, rfl⟩ := List.mem_map.1 hy
 simp only [List.mem_append, List.mem_cons, Option.mem_toList] at h1
 rcases h1 with h1 | rfl | h1 | h1
 ·exact hz.2.1 y0 (by simp [h1])
 ·exact hz.2.1 x (by simp)
 ·exact ins_more (hz.2.2 x (by simp)) he hin y0 h1
 ·exact hz.2.1 y0 (by simp [h1])
theorem headZ_sz {h : Nat} {l : NL h} (hk : ∀ y ∈ its1 l, y.e.k.length ≤ 140) (hz : headZ (h + 1) l) : szL (its1 l) + 140 ≤ 150 * l.length := by
 obtain ⟨x, r, hl, h0⟩ := hz
 have hl : l = x :: r := hl
 subst hl
 rw [its1_cons] at hk ⊢
 have := szL_le fun y hy => hk y (List.mem_cons_of_mem _ hy)
 rw [its1_len] at this
 rw [szL_cons, List.length_cons]
 have h1 : szI ⟨x.1, x.2.1⟩ = 10 := by unfold szI; simp [h0]
 omega
theorem split_five {h : Nat} {t : BTr (h + 1)} {t' : BTr (h + 1)} {e : Ent} {z : Ent × Nat × BTr (h + 1)} (hz : SzT (h + 1) t) (hd : headZ (h + 1) t) (he : e.k.length ≤ 140) (hi : InsR (h + 1) t e t' (some z)) : 4 ≤ (show NL h from t).length := by
 obtain ⟨l1, x, l2, s', more', rfl, _, hin, hs⟩ := hi
 have hk := ins_keys hz he hin
 have h1 := headZ_sz hk (headZ_ins hd)
 rcases hs with ⟨_, _, h2⟩ | ⟨s1, _⟩
 ·cases h2
 ·have h3 : (l1 ++ (x.1, x.2.1, s') :: (more'.toList ++ l2) : NL h).length ≤ (l1 ++ x :: l2 : NL h).length + 1 := by
   cases more' <;> simp <;> omega
  show 4 ≤ (l1 ++ x :: l2 : NL h).length
  omega
theorem leaf_four {t t' : BTr 0} {e : Ent} {z : Ent × Nat × BTr 0} (hz : SzT 0 t) (he : e.k.length ≤ 140) (hi : InsR 0 t e t' (some z)) : 3 ≤ (entsT 0 t).length := by
 rcases hi.2 with ⟨_, _, h2⟩ | ⟨s1, _⟩
 ·cases h2
 ·have h1 := szL_le (l := its0 ((show List Ent from t).take (cutI (its0 t) e) ++ e :: (show List Ent from t).drop (cutI (its0 t) e))) fun y hy => by
   obtain ⟨y0, h1, rfl⟩ := List.mem_map.1 hy
   rcases List.mem_append.1 h1 with h1 | h1
   ·exact hz.2 _ (List.mem_of_mem_take h1)
   ·rcases List.mem_cons.1 h1 with rfl | h1
    ·exact he
    ·exact hz.2 _ (List.mem_of_mem_drop h1)
  have h2 : (its0 ((show List Ent from t).take (cutI (its0 t) e) ++ e :: (show List Ent from t).drop (cutI (its0 t) e))).length = (show List Ent from t).length + 1 := by
   unfold its0
   rw [List.length_map, List.length_append, List.length_cons, List.length_take, List.length_drop]; omega
  rw [h2] at h1
  show 3 ≤ (show List Ent from t).length
  omega
theorem pgI_step {h h' : Nat} {t : BTr h} {t' : BTr h'} {e : Ent} (hp : PgI h t) (hz : SzT h t) (he : e.k.length ≤ 140) (hr : RootR h t e h' t') : PgI h' t' ∧ (entsT h' t').length = (entsT h t).length + 1 := by
 rcases hr with ⟨rfl, hi⟩ | ⟨rfl, t1, n, m, x, s, hi, ht⟩
 ·have hi : InsR h' t e t' none := hi
  obtain ⟨δ, d1, d2, d3, d4, d5⟩ := ins_cn hz hi
  have hen := ins_en hi
  simp only [Nat.add_zero] at hen
  have e1 : ∀ j, j ≤ h' → cn h' t' j = cn h' t j + δ j := fun j hj => d3 j hj
  refine ⟨⟨fun h1 => ?_, fun j j1 j2 => ?_, ?_⟩, hen⟩
  ·rw [e1 0 (by omega), hen]
   have := hp.c0 h1; have := d1 0; omega
  ·rw [e1 j (by omega), e1 (j - 1) (by omega)]
   have h2 := hp.cj j j1 j2
   have h3 := d2 (j - 1)
   rw [Nat.sub_add_cancel j1] at h3
   omega
  ·cases h' with
   | zero => trivial
   | succ h =>
     obtain ⟨l1, x, l2, s', more', rfl, _, hin, hs⟩ := hi
     rcases hs with ⟨_, h2, _⟩ | ⟨_, _, _, _, _, _, _, h2⟩
     ·have h2 : t' = (l1 ++ (x.1, x.2.1, s') :: (more'.toList ++ l2) : NL h) := h2
      rw [h2]
      exact headZ_ins hp.hd
     ·cases h2
 ·have ht : t' = ([(zeroE, n, t1), (x, m, s)] : NL h) := ht
  subst ht
  obtain ⟨δ, d1, d2, d3, d4, d5⟩ := ins_cn hz hi
  have hen := ins_en hi
  have d4' := d4 (Option.some_ne_none _)
  have e1 : ∀ j, j ≤ h → cn (h + 1) ([(zeroE, n, t1), (x, m, s)] : NL h) j = cn h t j + δ j := fun j hj => by
   rw [cn_low _ hj, cnL_cons, cnL_cons]
   exact d3 j hj
  have e2 : (entsT (h + 1) ([(zeroE, n, t1), (x, m, s)] : NL h)).length = (entsT h t).length + 1 := by
   show ([(zeroE, n, t1), (x, m, s)].flatMap fun x => entsT h x.2.2).length = _
   simp only [List.flatMap_cons, List.flatMap_nil, List.append_nil, List.length_append]
   exact hen
  refine ⟨⟨fun h1 => ?_, fun j j1 j2 => ?_, ⟨_, _, rfl, rfl⟩⟩, e2⟩
  ·rw [e1 0 (by omega), e2]
   cases h with
   | zero =>
     have := leaf_four hz he hi
     rw [cn_top 0 t, d4']; omega
   | succ h => have := hp.c0 (by omega); have := d1 0; omega
  ·rw [e1 j (by omega), e1 (j - 1) (by omega)]
   have h3 := d2 (j - 1)
   rw [Nat.sub_add_cancel j1] at h3
   rcases Nat.lt_or_ge j h with h4 | h4
   ·have h2 := hp.cj j j1 h4
    omega
   ·obtain rfl : j = h := by omega
    obtain ⟨k, rfl⟩ : ∃ k, j = k + 1 := ⟨j - 1, by omega⟩
    have h5 := split_five hz hp.hd he hi
    have h6 := cn_items (show NL k from t)
    have h7 := cn_top (k + 1) t
    simp only [Nat.add_sub_cancel] at h3 ⊢
    have h8 : cn (k + 1) t k = (show NL k from t).length := h6
    have := d1 (k + 1)
    omega
theorem pgI_nil : PgI 0 ([] : List Ent) := ⟨fun h => by omega, fun j h1 h2 => by omega, trivial⟩
theorem fall_sum : ∀ (h : Nat) (f : Nat → Nat), (∀ j, 1 ≤ j → j < h + 1 → f j + 3 ≤ f (j - 1)) → f (h + 1) = 1 → 6 * sumN f (h + 1) ≤ f 0 * f 0 + 3 * f 0 + 2 + 6
 | 0, f, hf, h1 => by
   have h1 : f 1 = 1 := h1
   simp only [sumN]
   rw [h1]
   generalize f 0 = a
   have h2 : 3 * a ≤ a * a + 2 := by
    rcases Nat.lt_or_ge a 3 with h | h
    ·have : a = 0 ∨ a = 1 ∨ a = 2 := by omega
     rcases this with rfl | rfl | rfl <;> decide
    ·have := Nat.mul_le_mul_right a h
     omega
   omega
 | h + 1, f, hf, h1 => by
   have ih := fall_sum h (fun j => f (j + 1)) (fun j j1 j2 => by
    have := hf (j + 1) (by omega) (by omega)
    simp only [Nat.add_sub_cancel] at this
    rw [Nat.sub_add_cancel j1]; exact this) h1
   have h3 := hf 1 (Nat.le_refl _) (by omega)
   have h4 : sumN f (h + 1 + 1) = f 0 + sumN (fun j => f (j + 1)) (h + 1) := rfl
   rw [h4]
   simp only [Nat.zero_add, Nat.sub_self] at ih h3
   obtain ⟨d, hd⟩ : ∃ d, f 0 = f 1 + 3 + d := ⟨f 0 - f 1 - 3, by omega⟩
   rw [hd]
   generalize f 1 = a at *
   have e1 : (a + 3 + d) * (a + 3 + d) = a * a + 6 * a + 9 + 2 * (a * d) + 6 * d + d * d := by
    simp only [Nat.add_mul, Nat.mul_add, Nat.mul_comm d a, Nat.mul_comm d 3, Nat.mul_comm a 3]
    omega
   rw [e1]
   have := Nat.zero_le (a * d)
   have := Nat.zero_le (d * d)
   omega
theorem pg_le {h n : Nat} {t : BTr h} (hp : PgI h t) (h1 : 1 ≤ h) : 6 * (pgT h n t).length ≤ cn h t 0 * cn h t 0 + 3 * cn h t 0 + 2 + 6 := by
 obtain ⟨k, rfl⟩ : ∃ k, h = k + 1 := ⟨h - 1, by omega⟩
 rw [pg_sum]
 exact fall_sum k _ (fun j j1 j2 => hp.cj j j1 j2) (cn_top _ _)
end Go.Proofs.YtockimhceppkbaaGreat
namespace Go.Proofs.YtockimhceppkbaaGreat
open Go.RowKit
theorem halvesK (l : List Itm) (hok : ∀ x ∈ l, x.e.k.length ≤ 140) (h1 : 496 < szL l) (h2 : szL l ≤ 646) : szL (l.drop (midF l)) ≤ 323 := by
 obtain ⟨m1, m2, m3⟩ := mid_spec l
 have hsum : szL (l.take (midF l)) + szL (l.drop (midF l)) = szL l := by rw [← szL_app, List.take_append_drop]
 omega
def nds : (h : Nat) → BTr (h + 1) → List (NL 0)
 | 0, t => [t]
 | h + 1, t => (show NL (h + 1) from t).flatMap fun x => nds h x.2.2
def ndsO {h : Nat} : Option (Ent × Nat × BTr (h + 1)) → List (NL 0)
 | none => []
 | some z => nds h z.2.2
def leafOf (x : Ent × Nat × BTr 0) : List Ent := x.2.2
def lvN (nd : NL 0) : List (List Ent) := nd.map leafOf
theorem nds_len : ∀ (h : Nat) (t : BTr (h + 1)), cn (h + 1) t 1 = (nds h t).length
 | 0, t => cn_top 1 t
 | h + 1, t => by
   have e1 : cn (h + 2) t 1 = cnL (show NL (h + 1) from t) 1 := cn_low (show NL (h + 1) from t) (by omega)
   rw [e1]
   show _ = ((show NL (h + 1) from t).flatMap fun x => nds h x.2.2).length
   generalize (show NL (h + 1) from t) = l
   induction l with
   | nil => rfl
   | cons x l ih => rw [cnL_cons, ih, List.flatMap_cons, List.length_append, nds_len h]
theorem nds_sum : ∀ (h : Nat) (t : BTr (h + 1)), cn (h + 1) t 0 = ((nds h t).map List.length).sum
 | 0, t => by
   have : cn 1 t 0 = (show NL 0 from t).length := cn_items (show NL 0 from t)
   have hh : ∀ l : NL 0, l.length = ([l].map List.length).sum := fun l => by simp
   exact this.trans (hh t)
 | h + 1, t => by
   have e1 : cn (h + 2) t 0 = cnL (show NL (h + 1) from t) 0 := cn_low (show NL (h + 1) from t) (by omega)
   rw [e1]
   show _ = (((show NL (h + 1) from t).flatMap fun x => nds h x.2.2).map List.length).sum
   generalize (show NL (h + 1) from t) = l
   induction l with
   | nil => rfl
   | cons x l ih => rw [cnL_cons, ih, List.flatMap_cons, List.map_append, List.sum_append_nat, nds_sum h]
theorem nds_sz : ∀ {h : Nat} {t : BTr (h + 1)}, SzT (h + 1) t → ∀ d ∈ nds h t, SzT 1 d
 | 0, t, hz, d, hd => by
   have hd : d ∈ ([t] : List (NL 0)) := hd
   obtain rfl := List.mem_singleton.1 hd
   exact hz
 | h + 1, t, hz, d, hd => by
   obtain ⟨x, hx, hd⟩ := List.mem_flatMap.1 (show d ∈ (show NL (h + 1) from t).flatMap fun x => nds h x.2.2 from hd)
   exact nds_sz (hz.2.2 x hx) d hd
theorem ins_nds : ∀ {h : Nat} {t t' : BTr (h + 1)} {e : Ent} {more : Option (Ent × Nat × BTr (h + 1))}, InsR (h + 1) t e t' more → ∃ (A : List (NL 0)) (nd : NL 0) (B : List (NL 0)) (nd' : NL 0) (mN : Option (Ent × Nat × BTr 1)), nds h t = A ++ nd :: B ∧ InsR 1 nd e nd' mN ∧ nds h t' ++ ndsO more = A ++ nd' :: (ndsO (h := 0) mN ++ B)
 | 0, t, t', e, more, hi => ⟨[], t, [], t', more, rfl, hi, by
   have hh : ∀ (a : NL 0) (b : List (NL 0)), [a] ++ b = [] ++ a :: (b ++ []) := fun a b => by simp
   exact hh t' (ndsO more)⟩
 | h + 1, t, t', e, more, hi => by
   obtain ⟨l1, x, l2, s', more', rfl, _, hin, hs⟩ := hi
   obtain ⟨A, nd, B, nd', mN, i1, i2, i3⟩ := ins_nds hin
   have hD : ∀ l : NL (h + 1), nds (h + 1) l = l.flatMap fun x => nds h x.2.2 := fun l => rfl
   refine ⟨(l1.flatMap fun x => nds h x.2.2) ++ A, nd, B ++ (l2.flatMap fun x => nds h x.2.2), nd', mN, ?_, i2, ?_⟩
   ·rw [show nds (h + 1) (l1 ++ x :: l2 : NL (h + 1)) = (l1 ++ x :: l2 : NL (h + 1)).flatMap fun x => nds h x.2.2 from rfl, List.flatMap_append, List.flatMap_cons, i1]
    simp
   ·have hl : ((l1 ++ (x.1, x.2.1, s') :: (more'.toList ++ l2) : NL (h + 1)).flatMap fun x => nds h x.2.2) = (l1.flatMap fun x => nds h x.2.2) ++ A ++ nd' :: (ndsO (h := 0) mN ++ (B ++ (l2.flatMap fun x => nds h x.2.2))) := by
     have ho : (more'.toList.flatMap fun x : Ent × Nat × BTr (h + 1) => nds h x.2.2) = ndsO more' := by cases more' <;> simp [ndsO]
     rw [List.flatMap_append, List.flatMap_cons, List.flatMap_append, ho, ← List.append_assoc (nds h s'), i3]
     simp
    rw [← hl]
    obtain ⟨l, hl⟩ : ∃ l : NL (h + 1), l = l1 ++ (x.1, x.2.1, s') :: (more'.toList ++ l2) := ⟨_, rfl⟩
    rw [← hl] at hs ⊢
    rcases hs with ⟨s1, h1, rfl⟩ | ⟨s1, _, _, m, y, _, h1, rfl⟩
    ·have h1 : t' = l := h1
     subst h1
     exact List.append_nil _
    ·have h1 : t' = (l.take (midF (its1 l)) : NL (h + 1)) := h1
     subst h1
     show (l.take _).flatMap _ ++ (l.drop _).flatMap _ = _
     rw [← List.flatMap_append, List.take_append_drop]
abbrev kl (x : Ent × Nat × BTr 0) : Nat := x.1.k.length + 10
def TiA (D : List (NL 0)) : Prop := ∀ L ∈ (D.flatMap lvN).tail, szL (its0 L) ≤ 323
def TiB (D : List (NL 0)) (en : Nat) : Prop := ∃ x l r, D = (x :: l) :: r ∧ x.1.k = [] ∧ l.length ≤ 3 ∧ (∀ d ∈ r, szL (its1 d) ≤ 323) ∧ en ≤ 58 ∧ ∀ b c d, l = [b, c, d] → kl b + 2 * kl c + kl d + 11 * en ≤ 677
theorem ins_one {nd nd' : BTr 1} {e : Ent} {mN : Option (Ent × Nat × BTr 1)} (hz : SzT 1 nd) (he : e.k.length ≤ 140) (hi : InsR 1 nd e nd' mN) : ∃ (l1 : NL 0) (x : Ent × Nat × BTr 0) (l2 : NL 0) (s' : BTr 0) (o : Option (Ent × Nat × BTr 0)), nd = (l1 ++ x :: l2 : NL 0) ∧
 SpR its1 (l1 ++ (x.1, x.2.1, s') :: (o.toList ++ l2) : NL 0) nd' mN ∧ (∀ y ∈ its1 (l1 ++ (x.1, x.2.1, s') :: (o.toList ++ l2) : NL 0), y.e.k.length ≤ 140) ∧ szL (its1 (l1 ++ (x.1, x.2.1, s') :: (o.toList ++ l2) : NL 0)) ≤ szL (its1 (l1 ++ x :: l2 : NL 0)) + 150 ∧ szL (its1 (l1 ++ x :: l2 : NL 0)) ≤ 496 ∧
 (o = none ∨ ∃ z, o = some z ∧ 347 ≤ szL (its0 (leafOf x)) ∧ szL (its0 (leafOf z)) ≤ 323) := by
 obtain ⟨l1, x, l2, s', o, rfl, _, hin, hs⟩ := hi
 have hk := ins_keys hz he hin
 have hx := hz.2.2 x (by simp)
 refine ⟨l1, x, l2, s', o, rfl, hs, hk, ?_, hz.1, ?_⟩
 ·rw [its1_app, its1_cons, its1_app, its1_app, its1_cons, szL_app, szL_cons, szL_app, szL_app, szL_cons]
  have h1 : szL (its1 o.toList) ≤ 150 := by
   cases o with
   | none => simp [its1, szL_nil]
   | some z =>
     have h2 := ins_more hx he hin z rfl
     have : szL (its1 [z]) = z.1.k.length + 10 := by simp [its1, szL, szI]
     show szL (its1 [z]) ≤ 150
     omega
  have h2 : szI ⟨x.1, x.2.1⟩ = szI (⟨((x.1, x.2.1, s') : Ent × Nat × BTr 0).1, ((x.1, x.2.1, s') : Ent × Nat × BTr 0).2.1⟩ : Itm) := rfl
  omega
 ·rcases hin.2 with ⟨_, _, rfl⟩ | ⟨s1, _, _, m, y, hy, _, rfl⟩
  ·exact .inl rfl
  ·refine .inr ⟨_, rfl, ?_, ?_⟩
   ·show 347 ≤ szL (its0 x.2.2)
    obtain ⟨L, hL⟩ : ∃ L : List Ent, L = x.2.2 := ⟨_, rfl⟩
    have hsz : szL (its0 (List.take (cutI (its0 L) e) L ++ e :: List.drop (cutI (its0 L) e) L)) = szL (its0 L) + (e.k.length + 10) := by
     have h2 : szL (its0 L) = szL (its0 (L.take (cutI (its0 L) e))) + szL (its0 (L.drop (cutI (its0 L) e))) := by
      rw [← szL_app]; unfold its0; rw [← List.map_append, List.take_append_drop]
     generalize cutI (its0 L) e = kk at h2 ⊢
     unfold its0 at h2 ⊢
     rw [List.map_append, List.map_cons, szL_app, szL_cons]
     unfold szI
     dsimp only
     omega
    have s1 : 496 < szL (its0 (List.take (cutI (its0 L) e) L ++ e :: List.drop (cutI (its0 L) e) L)) := by rw [hL]; exact s1
    rw [← hL]
    omega
   ·obtain ⟨L, hL⟩ : ∃ L : List Ent, L = x.2.2 := ⟨_, rfl⟩
    obtain ⟨M, hM⟩ : ∃ M : List Ent, M = List.take (cutI (its0 L) e) L ++ e :: List.drop (cutI (its0 L) e) L := ⟨_, rfl⟩
    have hMk : ∀ y ∈ its0 M, y.e.k.length ≤ 140 := fun y hy => by
     obtain ⟨y0, h1, rfl⟩ := List.mem_map.1 hy
     rw [hM] at h1
     rcases List.mem_append.1 h1 with h1 | h1
     ·exact hx.2 _ (by rw [← hL]; exact List.mem_of_mem_take h1)
     ·rcases List.mem_cons.1 h1 with rfl | h1
      ·exact he
      ·exact hx.2 _ (by rw [← hL]; exact List.mem_of_mem_drop h1)
    have h2 : szL (its0 L) ≤ 496 := by rw [hL]; exact hx.1
    have hMs : szL (its0 M) ≤ szL (its0 L) + 150 := by
     have h2 : szL (its0 L) = szL (its0 (L.take (cutI (its0 L) e))) + szL (its0 (L.drop (cutI (its0 L) e))) := by
      rw [← szL_app]; unfold its0; rw [← List.map_append, List.take_append_drop]
     rw [hM]
     generalize cutI (its0 L) e = kk at h2 ⊢
     unfold its0 at h2 ⊢
     rw [List.map_append, List.map_cons, szL_app, szL_cons]
     unfold szI
     dsimp only
     omega
    have s1 : 496 < szL (its0 M) := by rw [hM, hL]; exact s1
    have h3 := halvesK (its0 M) hMk s1 (by omega)
    have h4 : its0 (M.drop (midF (its0 M))) = (its0 M).drop (midF (its0 M)) := by unfold its0; rw [List.map_drop]
    have h5 : szL (its0 (M.drop (midF (its0 M)))) ≤ 323 := by rw [h4]; exact h3
    rw [hM, hL] at h5
    exact h5
theorem lv_app (A B : List (NL 0)) : (A ++ B).flatMap lvN = A.flatMap lvN ++ B.flatMap lvN := List.flatMap_append ..
theorem lvN_app (a b : NL 0) : lvN (a ++ b) = lvN a ++ lvN b := List.map_append ..
theorem lvN_cons (x : Ent × Nat × BTr 0) (b : NL 0) : lvN (x :: b) = leafOf x :: lvN b := rfl
theorem sp_lv {l nd' : NL 0} {mN : Option (Ent × Nat × BTr 1)} (hs : SpR its1 l nd' mN) : (nd' :: ndsO (h := 0) mN).flatMap lvN = lvN l ∧ ((nd' :: ndsO (h := 0) mN).map List.length).sum = l.length := by
 rcases hs with ⟨_, rfl, rfl⟩ | ⟨_, _, _, m, y, _, rfl, rfl⟩
 ·constructor
  ·show [nd'].flatMap lvN = lvN nd'
   simp
  ·show ([nd'].map List.length).sum = nd'.length
   simp
 ·constructor
  ·show [l.take (midF (its1 l)), l.drop (midF (its1 l))].flatMap lvN = lvN l
   simp only [List.flatMap_cons, List.flatMap_nil, List.append_nil]
   rw [← lvN_app, List.take_append_drop]
  ·show ([l.take (midF (its1 l)), l.drop (midF (its1 l))].map List.length).sum = l.length
   simp only [List.map_cons, List.map_nil, List.sum_cons, List.sum_nil]
   rw [List.length_take, List.length_drop]; omega
theorem core_A {A B : List (NL 0)} {nd nd' : NL 0} {mN : Option (Ent × Nat × BTr 1)} {e : Ent} (hz : SzT 1 nd) (he : e.k.length ≤ 140) (hi : InsR 1 nd e nd' mN) (hA : TiA (A ++ nd :: B)) (hm : ((A ++ nd' :: (ndsO (h := 0) mN ++ B)).map List.length).sum = ((A ++ nd :: B).map List.length).sum + 1) :
 TiA (A ++ nd' :: (ndsO (h := 0) mN ++ B)) ∧ ∃ (x : Ent × Nat × BTr 0) (l2 : NL 0) (s' : BTr 0) (z : Ent × Nat × BTr 0), (A.flatMap lvN = [] ∧ nd = x :: l2) ∧ SpR its1 ((x.1, x.2.1, s') :: z :: l2 : NL 0) nd' mN ∧ (∀ y ∈ its1 ((x.1, x.2.1, s') :: z :: l2 : NL 0), y.e.k.length ≤ 140) ∧ szL (its1 ((x.1, x.2.1, s') :: z :: l2 : NL 0)) ≤ szL (its1 (x :: l2 : NL 0)) + 150 ∧ szL (its1 (x :: l2 : NL 0)) ≤ 496 := by
 obtain ⟨l1, x, l2, s', o, rfl, hs, hk, hsz, h4, ho⟩ := ins_one hz he hi
 obtain ⟨v1, v2⟩ := sp_lv hs
 have e1 : A ++ nd' :: (ndsO (h := 0) mN ++ B) = A ++ ((nd' :: ndsO (h := 0) mN) ++ B) := by simp
 rw [e1] at hm
 rw [List.map_append, List.map_append, List.sum_append_nat, List.sum_append_nat, v2] at hm
 rw [show A ++ (l1 ++ x :: l2) :: B = A ++ ([l1 ++ x :: l2] ++ B) by simp, List.map_append, List.map_append, List.sum_append_nat, List.sum_append_nat] at hm
 simp only [List.map_cons, List.map_nil, List.sum_cons, List.sum_nil, List.length_append, List.length_cons] at hm
 rcases ho with rfl | ⟨z, rfl, hb, hr⟩
 ·exfalso
  simp at hm
 ·have hlv : (A ++ (l1 ++ x :: l2) :: B).flatMap lvN = (A.flatMap lvN ++ lvN l1) ++ (leafOf x :: (lvN l2 ++ B.flatMap lvN)) := by
   rw [lv_app, List.flatMap_cons, lvN_app, lvN_cons]; simp
  have hnil : A.flatMap lvN ++ lvN l1 = [] := by
   cases hc : A.flatMap lvN ++ lvN l1 with
   | nil => rfl
   | cons a r =>
     exfalso
     have := hA (leafOf x) (by rw [hlv, hc]; simp)
     omega
  obtain ⟨hn1, hn2⟩ := List.append_eq_nil_iff.1 hnil
  have hl1 : l1 = [] := by unfold lvN at hn2; exact List.map_eq_nil_iff.1 hn2
  subst hl1
  refine ⟨?_, x, l2, s', z, ⟨hn1, rfl⟩, hs, hk, hsz, h4⟩
  rw [e1]
  intro L hL
  rw [lv_app, lv_app, v1, hn1] at hL
  simp only [List.nil_append, Option.toList, List.cons_append, lvN_cons, List.tail_cons, List.mem_cons, List.mem_append] at hL
  rcases hL with hL | hL | hL
  ·rw [hL]; exact hr
  ·exact hA L (by rw [hlv, hnil]; simp [hL])
  ·exact hA L (by rw [hlv, hnil]; simp only [List.nil_append, List.tail_cons, List.mem_append]; exact .inr hL)
theorem core_B {x z : Ent × Nat × BTr 0} {l2 : NL 0} {s' : BTr 0} {nd' : NL 0} {r : NL 0} {m : Nat} {w : Ent} (h0 : x.1.k = []) (hl : l2.length ≤ 3) (hs : SpR its1 ((x.1, x.2.1, s') :: z :: l2 : NL 0) nd' (some (w, m, r))) (hk : ∀ y ∈ its1 ((x.1, x.2.1, s') :: z :: l2 : NL 0), y.e.k.length ≤ 140) (hsz : szL (its1 ((x.1, x.2.1, s') :: z :: l2 : NL 0)) ≤ 646) :
 ∃ b c d, l2 = [b, c, d] ∧ szL (its1 r) ≤ 323 ∧ ∃ x' l', nd' = x' :: l' ∧ x'.1.k = [] ∧ l'.length ≤ 3 ∧ ∀ b' c' d', l' = [b', c', d'] → b' = z ∧ c' = b ∧ d' = c ∧ kl z + kl b + 11 ≤ kl c + kl d := by
 rcases hs with ⟨_, _, h⟩ | ⟨s1, m1, m2, m', y, hy, h1, h2⟩
 ·cases h
 ·obtain ⟨l, hl'⟩ : ∃ l : NL 0, l = (x.1, x.2.1, s') :: z :: l2 := ⟨_, rfl⟩
  rw [← hl'] at s1 m1 m2 hy h1 h2 hk hsz
  have h3 : r = l.drop (midF (its1 l)) := by
   have := Option.some.inj h2
   exact (Prod.ext_iff.1 (Prod.ext_iff.1 this).2).2
  have hlen := szL_le fun y hy => hk y (by rw [hl', its1_cons]; exact List.mem_cons_of_mem _ hy)
  have hsl : szL (its1 l) = 10 + szL (its1 (z :: l2 : NL 0)) := by
   rw [hl', its1_cons, szL_cons]
   have : szI ⟨((x.1, x.2.1, s') : Ent × Nat × BTr 0).1, ((x.1, x.2.1, s') : Ent × Nat × BTr 0).2.1⟩ = 10 := by unfold szI; simp [h0]
   rw [this]
  rw [its1_len, List.length_cons] at hlen
  match l2, hl, hl', hlen with
  | [b, c, d], _, hl', _ =>
    refine ⟨b, c, d, rfl, ?_, ?_⟩
    ·rw [h3, its1_drop]
     exact halvesK _ hk s1 hsz
    ·have hmm := mid_spec (its1 l)
     obtain ⟨k, hk'⟩ : ∃ k, k = midF (its1 l) := ⟨_, rfl⟩
     rw [← hk'] at m1 m2 h1 hmm
     subst hl'
     simp only [List.length_cons, List.length_nil] at m2
     obtain ⟨k, rfl⟩ : ∃ j, k = j + 1 := ⟨k - 1, by omega⟩
     refine ⟨_, _, h1, h0, ?_, fun b' c' d' he => ?_⟩
     ·rw [List.length_take]; omega
     ·have hk3 : k = 3 := by
       have := congrArg List.length he
       rw [List.length_take] at this
       simp only [List.length_cons, List.length_nil] at this
       omega
      subst hk3
      simp only [List.take_succ_cons, List.take_zero, List.cons.injEq, and_true] at he
      obtain ⟨rfl, rfl, rfl⟩ := he
      refine ⟨rfl, rfl, rfl, ?_⟩
      have h5 := hmm.2.2.resolve_left (by omega)
      simp only [its1, List.map_cons, List.map_nil, szL, List.take_succ_cons, List.take_zero, List.sum_cons, List.sum_nil, szI, h0, List.length_nil, Nat.add_sub_cancel] at h5
      show _ + 10 + (_ + 10) + 11 ≤ _ + 10 + (_ + 10)
      omega
  | [b, c], _, _, hlen => simp only [List.length_cons, List.length_nil] at hlen; omega
  | [b], _, _, hlen => simp only [List.length_cons, List.length_nil] at hlen; omega
  | [], _, _, hlen => simp only [List.length_cons, List.length_nil] at hlen; omega
end Go.Proofs.YtockimhceppkbaaGreat
