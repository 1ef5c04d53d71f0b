/- Trees, plain: how many pages there are: at most 599 behind 61 insertions. Loops: the ways out told together. -/
import Derived.Test.YtockimhceppkbaaGreatM47
import Derived.Test.YtockimhceppkbaaGreatM21
set_option linter.unusedSimpArgs false
set_option linter.unusedVariables false
set_option linter.defProp false
set_option maxRecDepth 100000
set_option maxHeartbeats 32000000
namespace Go.Proofs.YtockimhceppkbaaGreat
open Go.RowKit
theorem leaf_half {t t' : BTr 0} {e : Ent} {z : Ent × Nat × BTr 0} (hz : SzT 0 t) (he : e.k.length ≤ 140) (hi : InsR 0 t e t' (some z)) : szL (its0 (leafOf z)) ≤ 323 := by
 have h1 : InsR 1 ([(zeroE, 0, t)] : NL 0) e ([(zeroE, 0, t'), z] : NL 0) none := by
  refine ⟨[], (zeroE, 0, t), [], t', some z, rfl, ?_, hi, .inl ⟨?_, rfl, rfl⟩⟩
  ·rcases belF_cases (its1 ([(zeroE, 0, t)] : NL 0)) e (cutI (its1 ([(zeroE, 0, t)] : NL 0)) e) with ⟨x, h1, _, h2⟩ | ⟨_, h2⟩
   ·have h3 : cutI (its1 ([(zeroE, 0, t)] : NL 0)) e < 1 := (List.getElem?_eq_some_iff.1 h1).1
    show 0 = belF _ _ _
    rw [show (show NL 0 from ([(zeroE, 0, t)] : NL 0)) = [(zeroE, 0, t)] from rfl, h2]; omega
   ·have h3 : cutI (its1 ([(zeroE, 0, t)] : NL 0)) e ≤ 1 := by
     unfold cutI
     exact (List.takeWhile_sublist _).length_le
    show 0 = belF _ _ _
    rw [show (show NL 0 from ([(zeroE, 0, t)] : NL 0)) = [(zeroE, 0, t)] from rfl, h2]; omega
  ·have := ins_more hz he hi z rfl
   show szL (its1 [(zeroE, 0, t'), z]) ≤ 496
   simp only [its1, List.map_cons, List.map_nil, szL, szI, List.sum_cons, List.sum_nil, zeroE, List.length_nil]
   omega
 have hz1 : SzT 1 ([(zeroE, 0, t)] : NL 0) := by
  refine ⟨?_, fun x hx => ?_, fun x hx => ?_⟩
  ·show szL (its1 [(zeroE, 0, t)]) ≤ 496
   simp [its1, szL, szI, zeroE]
  ·have hx : x ∈ ([(zeroE, 0, t)] : NL 0) := hx
   obtain rfl := List.mem_singleton.1 hx
   simp [zeroE]
  ·have hx : x ∈ ([(zeroE, 0, t)] : NL 0) := hx
   obtain rfl := List.mem_singleton.1 hx
   exact hz
 have hA : TiA ([] ++ ([(zeroE, 0, t)] : NL 0) :: []) := by
  intro L hL
  simp [lvN] at hL
 have hm : (([] ++ ([(zeroE, 0, t'), z] : NL 0) :: (ndsO (h := 0) none ++ [])).map List.length).sum = (([] ++ ([(zeroE, 0, t)] : NL 0) :: []).map List.length).sum + 1 := rfl
 have := (core_A (A := []) (B := []) hz1 he h1 hA hm).1
 exact this (leafOf z) (by simp [lvN, ndsO])
def PgJ : (h : Nat) → BTr h → Prop
 | 0, _ => True
 | h + 1, t => (cn (h + 1) t 0 + 2 = (entsT (h + 1) t).length → TiA (nds h t)) ∧ (1 ≤ h → cn (h + 1) t 0 + 2 = (entsT (h + 1) t).length → cn (h + 1) t 1 + 3 = cn (h + 1) t 0 → TiB (nds h t) (entsT (h + 1) t).length)
theorem one_list {α : Type} {a b : α} {B : List α} (h : [a] = [] ++ b :: B) : a = b ∧ B = [] := by cases h; exact ⟨rfl, rfl⟩
theorem tiB_head {x : Ent × Nat × BTr 0} {l : NL 0} {r A B : List (NL 0)} {nd : NL 0} (hD : A ++ nd :: B = (x :: l) :: r) (hA : A.flatMap lvN = []) : A = [] ∧ nd = x :: l ∧ B = r := by
 cases A with
 | nil =>
   simp only [List.nil_append, List.cons.injEq] at hD
   exact ⟨rfl, hD.1, hD.2⟩
 | cons a A =>
   simp only [List.cons_append, List.cons.injEq] at hD
   obtain ⟨rfl, _⟩ := hD
   simp [lvN] at hA
theorem root_nds {k h' : Nat} {t : BTr (k + 1)} {t' : BTr h'} {e : Ent} (hr : RootR (k + 1) t e h' t') : ∃ (k' : Nat) (q : h' = k' + 1), ∃ (A : List (NL 0)) (nd : NL 0) (B : List (NL 0)) (nd' : NL 0) (mN : Option (Ent × Nat × BTr 1)), nds k t = A ++ nd :: B ∧ InsR 1 nd e nd' mN ∧ nds k' (q ▸ t') = A ++ nd' :: (ndsO (h := 0) mN ++ B) := by
 rcases hr with ⟨rfl, hi⟩ | ⟨rfl, t1, n, m, x, s, hi, ht⟩
 ·obtain ⟨A, nd, B, nd', mN, i1, i2, i3⟩ := ins_nds hi
  exact ⟨k, rfl, A, nd, B, nd', mN, i1, i2, by simpa [ndsO] using i3⟩
 ·obtain ⟨A, nd, B, nd', mN, i1, i2, i3⟩ := ins_nds hi
  refine ⟨k + 1, rfl, A, nd, B, nd', mN, i1, i2, ?_⟩
  have ht : t' = ([(zeroE, n, t1), (x, m, s)] : NL (k + 1)) := ht
  subst ht
  rw [← i3]
  show ([(zeroE, n, t1), (x, m, s)] : NL (k + 1)).flatMap (fun x => nds k x.2.2) = _
  simp [ndsO]
theorem root_cn {h h' : Nat} {t : BTr h} {t' : BTr h'} {e : Ent} (hz : SzT h t) (hr : RootR h t e h' t') : ∃ δ : Nat → Nat, (∀ j, δ j ≤ 1) ∧ (∀ j, j ≤ h → cn h' t' j = cn h t j + δ j) ∧ (h' = h ∨ δ h = 1) := by
 rcases hr with ⟨rfl, hi⟩ | ⟨rfl, t1, n, m, x, s, hi, ht⟩
 ·obtain ⟨δ, d1, _, d3, _⟩ := ins_cn hz hi
  exact ⟨δ, d1, d3, .inl rfl⟩
 ·obtain ⟨δ, d1, _, d3, d4, _⟩ := ins_cn hz hi
  have ht : t' = ([(zeroE, n, t1), (x, m, s)] : NL h) := ht
  subst ht
  refine ⟨δ, d1, fun j hj => ?_, .inr (d4 (Option.some_ne_none _))⟩
  rw [cn_low _ hj, cnL_cons, cnL_cons]
  exact d3 j hj
theorem pgJ_step {h h' : Nat} {t : BTr h} {t' : BTr h'} {e : Ent} (hp : PgI h t) (hj : PgJ h t) (hz : SzT h t) (he : e.k.length ≤ 140) (hr : RootR h t e h' t') : PgJ h' t' := by
 obtain ⟨hp', hen⟩ := pgI_step hp hz he hr
 cases h with
 | zero =>
   rcases hr with ⟨rfl, hi⟩ | ⟨rfl, t1, n, m, x, s, hi, ht⟩
   ·trivial
   ·have ht : t' = ([(zeroE, n, t1), (x, m, s)] : NL 0) := ht
    subst ht
    refine ⟨fun _ => ?_, fun h => absurd h (Nat.not_succ_le_zero _)⟩
    intro L hL
    have hL : L ∈ (([([(zeroE, n, t1), (x, m, s)] : NL 0)] : List (NL 0)).flatMap lvN).tail := hL
    simp only [lvN, List.flatMap_cons, List.flatMap_nil, List.append_nil, List.map_cons, List.map_nil, List.tail_cons, List.mem_singleton] at hL
    rw [hL]
    exact leaf_half hz he hi
 | succ k =>
   obtain ⟨δ, d1, d2, d5⟩ := root_cn hz hr
   obtain ⟨k', rfl, A, nd, B, nd', mN, i1, i2, i3⟩ := root_nds hr
   have i3 : nds k' t' = A ++ nd' :: (ndsO (h := 0) mN ++ B) := i3
   have hzn : SzT 1 nd := nds_sz hz nd (by rw [i1]; simp)
   have c0 := hp.c0 (by omega)
   have c1 := d1 0
   have c2 := d2 0 (by omega)
   have s1 := nds_sum k t
   have s2 := nds_sum k' t'
   have n1 := nds_len k t
   have n2 := nds_len k' t'
   rw [i1] at s1 n1
   rw [i3] at s2 n2
   have key : cn (k' + 1) t' 0 + 2 = (entsT (k' + 1) t').length → cn (k + 1) t 0 + 2 = (entsT (k + 1) t).length ∧ ((A ++ nd' :: (ndsO (h := 0) mN ++ B)).map List.length).sum = ((A ++ nd :: B).map List.length).sum + 1 := fun h => by
    rw [hen] at h
    refine ⟨by omega, ?_⟩
    rw [← s1, ← s2]; omega
   refine ⟨fun h => ?_, fun hk h g => ?_⟩
   ·obtain ⟨g1, g2⟩ := key h
    rw [i3]
    exact (core_A hzn he i2 (by rw [← i1]; exact hj.1 g1) g2).1
   ·obtain ⟨g1, g2⟩ := key h
    obtain ⟨_, x, l2, s', z, ⟨a1, a2⟩, a3, a4, a5, a6⟩ := core_A hzn he i2 (by rw [← i1]; exact hj.1 g1) g2
    rw [i3, hen]
    have hlen : (A ++ nd' :: (ndsO (h := 0) mN ++ B)).length + 3 = cn (k + 1) t 0 + 1 := by
     rw [← n2]
     have : cn (k + 1) t 0 + 1 = cn (k' + 1) t' 0 := by rw [s1, s2]; exact g2.symm
     omega
    cases k with
    | succ k =>
      have c3 := hp.cj 1 (Nat.le_refl _) (by omega)
      have c4 := d2 1 (by omega)
      have c5 := d1 1
      simp only [Nat.sub_self] at c3
      obtain ⟨x0, l0, r0, b1, b2, b3, b4, b5, b6⟩ := hj.2 (by omega) g1 (by omega)
      rw [i1] at b1
      obtain ⟨rfl, e1, rfl⟩ := tiB_head b1 a1
      rw [a2] at e1
      obtain ⟨rfl, rfl⟩ := List.cons.inj e1
      cases mN with
      | none =>
        exfalso
        simp [ndsO] at hlen n1
        omega
      | some w =>
        obtain ⟨w, m, r⟩ := w
        obtain ⟨b, c, d, rfl, f1, x', l', rfl, f3, f4, f5⟩ := core_B b2 b3 a3 a4 (by omega)
        have f6 := b6 b c d rfl
        refine ⟨x', l', r :: B, rfl, f3, f4, fun y hy => ?_, ?_, fun b' c' d' hl => ?_⟩
        ·rcases List.mem_cons.1 hy with rfl | hy
         ·exact f1
         ·exact b4 y hy
        ·unfold kl at f6; omega
        ·obtain ⟨rfl, rfl, rfl, f7⟩ := f5 b' c' d' hl
         omega
    | zero =>
      have hD : ([show NL 0 from t] : List (NL 0)) = A ++ nd :: B := i1
      cases A with
      | cons a A =>
        have h9 : (1 : Nat) = A.length + (B.length + 1) + 1 := by
         have := congrArg List.length hD
         simp only [List.length_append, List.length_cons] at this
         exact this.trans (by omega)
        omega
      | nil =>
        obtain ⟨h1, rfl⟩ := one_list hD
        subst a2
        have hd := hp.hd
        obtain ⟨y, r, hy, h0⟩ := hd
        have hy : (show NL 0 from t) = y :: r := hy
        rw [h1] at hy
        obtain ⟨rfl, rfl⟩ := List.cons.inj hy
        have ht0 : cn 1 t 0 = (x :: l2).length := by rw [s1]; simp
        cases mN with
        | none =>
          exfalso
          have h6 : cn (k' + 1) t' 1 = 1 := n2
          have h7 := d2 1 (by omega)
          have h8 := cn_top 1 t
          rcases d5 with d5 | d5
          ·omega
          ·have d5 : δ 1 = 1 := d5
           have h8 : cn (0 + 1) t 1 = 1 := h8
           omega
        | some w =>
          obtain ⟨w, m, r⟩ := w
          have h5 : ([] ++ nd' :: (ndsO (h := 0) (some (w, m, r)) ++ []) : List (NL 0)).length = 2 := rfl
          rw [h5, ht0] at hlen
          simp only [List.length_cons] at hlen ht0
          obtain ⟨b, c, d, rfl, f1, x', l', rfl, f3, f4, f5⟩ := core_B h0 (by omega) a3 a4 (by omega)
          refine ⟨x', l', [r], rfl, f3, f4, fun y hy => ?_, by omega, fun b' c' d' hl => ?_⟩
          ·obtain rfl := List.mem_singleton.1 hy
           exact f1
          ·obtain ⟨rfl, rfl, rfl, f7⟩ := f5 b' c' d' hl
           have k1 := a4 ⟨b'.1, b'.2.1⟩ (by simp [its1])
           have k2 := a4 ⟨c'.1, c'.2.1⟩ (by simp [its1])
           have k3 := a4 ⟨d'.1, d'.2.1⟩ (by simp [its1])
           dsimp only at k1 k2 k3
           unfold kl
           omega
theorem pg_bound {h n : Nat} {t : BTr h} (hp : PgI h t) (hj : PgJ h t) (hn : (entsT h t).length ≤ 61) : (pgT h n t).length ≤ 599 := by
 cases h with
 | zero => simp [pgT]
 | succ k =>
   have c0 := hp.c0 (by omega)
   have h1 := pg_le (n := n) hp (by omega)
   obtain ⟨a, ha⟩ : ∃ a, a = cn (k + 1) t 0 := ⟨_, rfl⟩
   rw [← ha] at c0 h1
   rcases Nat.lt_or_ge a 59 with h2 | h2
   ·have h3 : a * a ≤ 58 * 58 := Nat.mul_le_mul (by omega) (by omega)
    omega
   ·have ha2 : a = 59 := by omega
    cases k with
    | zero =>
      rw [pg_sum]
      have h3 : sumN (cn 1 t) 1 = cn 1 t 0 + cn 1 t 1 := rfl
      have h4 := cn_top 1 t
      rw [h3, h4, ← ha]; omega
    | succ k =>
      have c1 := hp.cj 1 (Nat.le_refl _) (by omega)
      simp only [Nat.sub_self] at c1
      rw [← ha] at c1
      obtain ⟨b, hb⟩ : ∃ b, b = cn (k + 2) t 1 := ⟨_, rfl⟩
      rw [← hb] at c1
      have h5 : b ≠ 56 := fun e => by
       obtain ⟨_, _, _, _, _, _, _, h6, _⟩ := hj.2 (by omega) (by rw [← ha]; omega) (by rw [← ha, ← hb]; omega)
       omega
      have h7 := fall_sum k (fun j => cn (k + 2) t (j + 1)) (fun j j1 j2 => by
       have := hp.cj (j + 1) (by omega) (by omega)
       simp only [Nat.add_sub_cancel] at this
       rw [Nat.sub_add_cancel j1]; exact this) (cn_top _ _)
      rw [pg_sum]
      have h8 : sumN (cn (k + 2) t) (k + 2) = cn (k + 2) t 0 + sumN (fun j => cn (k + 2) t (j + 1)) (k + 1) := rfl
      rw [h8, ← ha]
      simp only [Nat.zero_add, ← hb] at h7
      have h9 : b * b ≤ 55 * 55 := Nat.mul_le_mul (by omega) (by omega)
      omega
end Go.Proofs.YtockimhceppkbaaGreat
namespace Go.Proofs.YtockimhceppkbaaGreat
open Go.RowKit
def outS {X : Type} (fr : List AV) (D : X → List (Nat × AV)) (Js : List Nat) (I : X → St → Prop) (id : Nat) (Q : Exit → List AV → St → Prop) (e : Exit) (f : List AV) (s : St) : Prop := match e with
 | .exit id' => if id' = id then ∃ x, I x s ∧ f = fS fr (D x) Js fun t => f.getD t .any else Q (.exit id') f s
 | e => Q e f s
section
variable {P : Program} {C : Ctx} {fr f : List AV} {σ s : St} {Q : Exit → List AV → St → Prop} {c : Code} {X : Type} {D : X → List (Nat × AV)} {Js : List Nat} {I : X → St → Prop} {id : Nat}
theorem outS_exit {id' : Nat} : outS fr D Js I id Q (.exit id') f s = if id' = id then ∃ x, I x s ∧ f = fS fr (D x) Js fun t => f.getD t .any else Q (.exit id') f s := nr rfl
theorem outS_ret : outS fr D Js I id Q .ret f s = Q .ret f s := nr rfl
theorem outS_normal : outS fr D Js I id Q .normal f s = Q .normal f s := nr rfl
theorem awp_outS (D : X → List (Nat × AV)) (Js : List Nat) (I : X → St → Prop) (id : Nat) {d : Array Oper → List AV → St → (List AV → St → Prop) → Prop} (hd : d = aDraw P C) (h : AWp P C d c fr σ (outS fr D Js I id Q)) (hk : ∀ x J s, I x s → Q (.exit id) (fS fr (D x) Js J) s) : AWp P C d c fr σ Q := by
 subst hd
 refine AWp_mono (fun e f s g => ?_) h
 cases e with
 | exit id' =>
   rw [outS_exit] at g
   by_cases e : id' = id
   ·rw [if_pos e] at g
    obtain ⟨x, g1, g2⟩ := g
    rw [e, g2]; exact hk x _ s g1
   ·rw [if_neg e] at g; exact g
 | _ => exact g
end
theorem wOu : (type_of% @outS_exit) ∧ (type_of% @outS_ret) ∧ (type_of% @outS_normal) := ⟨@outS_exit, @outS_ret, @outS_normal⟩
end Go.Proofs.YtockimhceppkbaaGreat
