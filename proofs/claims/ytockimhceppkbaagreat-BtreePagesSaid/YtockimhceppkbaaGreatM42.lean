/- Trees: an entry is put in below an inner page; Insert. Trees: an entry is put in below an inner page, walked. -/
import Derived.Test.YtockimhceppkbaaGreatM41
set_option linter.unusedSimpArgs false
set_option linter.unusedVariables false
set_option linter.defProp false
set_option maxRecDepth 100000
set_option maxHeartbeats 32000000
namespace Go.Proofs.YtockimhceppkbaaGreat
open Go.RowKit
theorem flP_more {h : Nat} (more : Option (Ent × Nat × BTr h)) (l : NL h) : flP (more.toList ++ l) = moreP more ++ flP l := by
 cases more with
 | none => rfl
 | some z => simp [flP, moreP]
theorem node_w {h n np : Nat} {l1 l2 : NL h} {x : Ent × Nat × BTr h} {s' : BTr h} {more' : Option (Ent × Nat × BTr h)} {v v2 : Nat → List UInt8} {T T2 : Nat → Bool} (hTr : TrAt v (h + 1) n (l1 ++ x :: l2 : NL h)) (hnd : (pgT (h + 1) n (l1 ++ x :: l2 : NL h)).Nodup) (htk : ∀ q ∈ pgT (h + 1) n (l1 ++ x :: l2 : NL h), 1 ≤ q ∧ q < np ∧ T q = true)
 (hs : TrAt v2 h x.2.1 s') (hm : MoreAt v2 h more') (hW : InsW v v2 T T2 np (pgT h x.2.1 x.2.2) (pgT h x.2.1 s' ++ moreP more')) :
 InsW v v2 T T2 np (pgT (h + 1) n (l1 ++ x :: l2 : NL h)) (pgT (h + 1) n (l1 ++ (x.1, x.2.1, s') :: (more'.toList ++ l2) : NL h)) ∧ v2 n = v n ∧ (∀ y ∈ (l1 ++ (x.1, x.2.1, s') :: (more'.toList ++ l2) : NL h), TrAt v2 h y.2.1 y.2.2) ∧ ∀ y ∈ its1 (l1 ++ (x.1, x.2.1, s') :: (more'.toList ++ l2) : NL h), y.ok := by
 have e1 : pgT (h + 1) n (l1 ++ x :: l2 : NL h) = (n :: flP l1) ++ pgT h x.2.1 x.2.2 ++ flP l2 := by
  rw [pgT_node, flP_app, flP_cons]; simp
 have e2 : pgT (h + 1) n (l1 ++ (x.1, x.2.1, s') :: (more'.toList ++ l2) : NL h) = (n :: flP l1) ++ (pgT h x.2.1 s' ++ moreP more') ++ flP l2 := by
  rw [pgT_node, flP_app, flP_cons, flP_more]; simp
 rw [e1] at hnd htk ⊢
 rw [e2]
 obtain ⟨g1, g2⟩ := hW.lift hnd htk
 obtain ⟨hN, hch⟩ := hTr
 have hcg : ∀ y : Ent × Nat × BTr h, y ∈ l1 ∨ y ∈ l2 → TrAt v2 h y.2.1 y.2.2 := fun y hy => by
  have h1 : TrAt v h y.2.1 y.2.2 := hch y (by rcases hy with h | h <;> simp [h])
  refine h1.congr fun q hq => g2 q ?_
  rcases hy with h | h
  ·exact .inl (List.mem_cons_of_mem _ (List.mem_flatMap.2 ⟨y, h, hq⟩))
  ·exact .inr (List.mem_flatMap.2 ⟨y, h, hq⟩)
 refine ⟨g1, g2 n (.inl (by simp)), fun y hy => ?_, fun y hy => ?_⟩
 ·simp only [List.mem_append, List.mem_cons, Option.mem_toList] at hy
  rcases hy with h | rfl | h | h
  ·exact hcg y (.inl h)
  ·exact hs
  ·rw [h] at hm; exact hm.1
  ·exact hcg y (.inr h)
 ·have hok := hN.ok
  rw [its1_app, its1_cons] at hok hy
  rw [its1_app] at hy
  simp only [List.mem_append, List.mem_cons] at hok hy
  rcases hy with h | rfl | h | h
  ·exact hok y (.inl h)
  ·exact hok _ (.inr (.inl rfl))
  ·cases more' with
   | none => simp [its1] at h
   | some z => simp [its1] at h; rw [h]; exact hm.2
  ·exact hok y (.inr (.inr h))
theorem flP_sub {h : Nat} (l1 l2 : NL h) (y : Ent × Nat × BTr h) (more' : Option (Ent × Nat × BTr h)) : (flP (l1 ++ y :: l2)).Sublist (flP (l1 ++ y :: (more'.toList ++ l2))) := by
 rw [flP_app, flP_app, flP_cons, flP_cons, flP_more]
 exact List.Sublist.append (List.Sublist.refl _) (List.Sublist.append (List.Sublist.refl _) (List.sublist_append_right _ _))
theorem moreP_len {h : Nat} (more : Option (Ent × Nat × BTr h)) (l : NL h) : (flP (more.toList ++ l)).length = (moreP more).length + (flP l).length := by rw [flP_more, List.length_append]
theorem sp_len {h : Nat} {l t' : NL h} {more : Option (Ent × Nat × NL h)} (hs : SpR its1 l t' more) : (pgT (h + 1) 0 t').length + (moreP (h := h + 1) more).length = (flP l).length + 1 + (if szL (its1 l) ≤ 496 then 0 else 1) := by
 rcases hs with ⟨s1, rfl, rfl⟩ | ⟨s1, _, _, m, y, _, rfl, rfl⟩
 ·rw [if_pos s1]; simp [pgT_node, moreP]
 ·rw [if_neg (by omega)]
  have : flP l = flP (l.take (midF (its1 l))) ++ flP (l.drop (midF (its1 l))) := by rw [← flP_app, List.take_append_drop]
  rw [this]
  simp only [moreP, pgT_node, List.length_cons, List.length_append]; omega
theorem ins_pg : ∀ {h n : Nat} {t t' : BTr h} {e : Ent} {more : Option (Ent × Nat × BTr h)}, InsR h t e t' more → ∀ q ∈ pgT h n t, q ∈ pgT h n t' ++ moreP more
 | 0, n, t, t', e, more, hi, q, hq => by simp only [pgT, List.mem_singleton] at hq; simp [pgT, hq]
 | h + 1, n, t, t', e, more, hi, q, hq => by
   obtain ⟨l1, x, l2, s', more', rfl, _, hin, hs⟩ := hi
   have ih := ins_pg (n := x.2.1) hin
   have h1 : q ∈ n :: flP (l1 ++ (x.1, x.2.1, s') :: (more'.toList ++ l2)) := by
    rw [pgT_node, flP_app, flP_cons] at hq
    rw [flP_app, flP_cons, flP_more]
    simp only [List.mem_cons, List.mem_append] at hq ⊢
    rcases hq with h | h | h | h
    ·exact .inl h
    ·exact .inr (.inl h)
    ·have := ih q h
     simp only [List.mem_append] at this
     rcases this with h | h
     ·exact .inr (.inr (.inl h))
     ·exact .inr (.inr (.inr (.inl h)))
    ·exact .inr (.inr (.inr (.inr h)))
   generalize (l1 ++ (x.1, x.2.1, s') :: (more'.toList ++ l2)) = l at hs h1
   rcases hs with ⟨s1, rfl, rfl⟩ | ⟨s1, _, _, m, y, _, rfl, rfl⟩
   ·simp only [moreP, List.append_nil]; exact h1
   ·have : flP l = flP (l.take (midF (its1 l))) ++ flP (l.drop (midF (its1 l))) := by rw [← flP_app, List.take_append_drop]
    rw [this] at h1
    simp only [moreP, pgT_node, List.mem_cons, List.mem_append] at h1 ⊢
    rcases h1 with h | h | h <;> simp [h]
theorem nodup_len : ∀ {l m : List Nat}, l.Nodup → (∀ x ∈ l, x ∈ m) → l.length ≤ m.length
 | [], m, _, _ => Nat.zero_le _
 | a :: l, m, hn, hs => by
   have hn := List.nodup_cons.1 hn
   have h1 := nodup_len (l := l) (m := m.erase a) hn.2 fun x hx => (List.mem_erase_of_ne fun e => hn.1 (by rw [← e]; exact hx)).2 (hs x (by simp [hx]))
   rw [List.length_erase_of_mem (hs a (by simp))] at h1
   have := List.length_pos_of_mem (hs a (by simp))
   simp only [List.length_cons]; omega
theorem new_len {T : Nat → Bool} {ps ps' : List Nat} (hn : ps.Nodup) (hT : ∀ q ∈ ps, T q = true) (hs : ∀ q ∈ ps, q ∈ ps') : (ps'.filter fun q => !T q).length + ps.length ≤ ps'.length := by
 have h1 : ps.length ≤ (ps'.filter fun q => T q).length := nodup_len hn fun q hq => by simp [hs q hq, hT q hq]
 have h2 : ps'.length = (ps'.filter fun q => T q).length + (ps'.filter fun q => !T q).length := by
  have := List.length_eq_countP_add_countP (fun q => T q) (l := ps')
  simp only [List.countP_eq_length_filter] at this
  simpa using this
 omega
theorem lack_node {h : Nat} {l1 l2 : NL h} {x : Ent × Nat × BTr h} {e : Ent} {T T' : Nat → Bool} {L : List Nat} {s2 : BTr h} {more2 : Option (Ent × Nat × BTr h)} (hL : ∀ q, T' q = true → T q = true ∨ q ∈ L) (hi : InsR h x.2.2 e s2 more2) (hm : ∀ z, more2 = some z → Itm.ok ⟨z.1, z.2.1⟩)
 (hok : ∀ y ∈ its1 (l1 ++ x :: l2 : NL h), y.ok) (hsz : szL (its1 (l1 ++ x :: l2 : NL h)) ≤ 496) (hpl : l1.length = belF (its1 (l1 ++ x :: l2 : NL h)) e (cutI (its1 (l1 ++ x :: l2 : NL h)) e)) (hf : 496 < szL (its1 (l1 ++ (x.1, x.2.1, s2) :: (more2.toList ++ l2) : NL h)) ∧ L.length + (pgT h 0 x.2.2).length ≤ (pgT h 0 s2).length + (moreP more2).length ∨ L.length + (pgT h 0 x.2.2).length + 1 ≤ (pgT h 0 s2).length + (moreP more2).length) : LackR (h + 1) (l1 ++ x :: l2 : NL h) e T T' := by
 obtain ⟨l, hl⟩ : ∃ l : NL h, l = l1 ++ (x.1, x.2.1, s2) :: (more2.toList ++ l2) := ⟨_, rfl⟩
 rw [← hl] at hf
 have hok2 : ∀ y ∈ its1 l, y.ok := fun y hy => by
  rw [its1_app, its1_cons] at hok
  rw [hl, its1_app] at hy
  simp only [List.mem_append, List.mem_cons] at hok hy
  rcases hy with h | hy
  ·exact hok y (.inl h)
  ·rw [its1_cons, its1_app] at hy
   simp only [List.mem_append, List.mem_cons] at hy
   rcases hy with rfl | h | h
   ·exact hok _ (.inr (.inl rfl))
   ·cases more2 with
    | none => simp [its1] at h
    | some z => simp [its1] at h; rw [h]; exact hm z rfl
   ·exact hok y (.inr (.inr h))
 have hsz2 : szL (its1 l) ≤ 646 := by
  have h1 : szL (its1 (l1 ++ x :: l2 : NL h)) = szL (its1 l1) + (szI ⟨x.1, x.2.1⟩ + szL (its1 l2)) := by rw [its1_app, its1_cons, szL_app, szL_cons]
  have h2 : szL (its1 l) = szL (its1 l1) + (szI ⟨x.1, x.2.1⟩ + (szL (its1 more2.toList) + szL (its1 l2))) := by rw [hl, its1_app, its1_cons, its1_app, szL_app, szL_cons, szL_app]
  have h3 : szL (its1 more2.toList) ≤ 150 := by
   cases more2 with
   | none => simp [its1, szL_nil]
   | some z =>
     have := szI_le (hm z rfl)
     simp only [Option.toList, its1_cons, szL_cons]
     have : szL (its1 ([] : NL h)) = 0 := szL_nil
     omega
  omega
 have hlen : (flP l).length = (flP l1).length + (pgT h 0 s2).length + (moreP more2).length + (flP l2).length := by
  rw [hl, flP_app, flP_cons, List.length_append, List.length_append, moreP_len, pgT_len h x.2.1 0 s2]; omega
 have hlen0 : (pgT (h + 1) 0 (l1 ++ x :: l2 : NL h)).length = (flP l1).length + (pgT h 0 x.2.2).length + (flP l2).length + 1 := by
  rw [pgT_node, flP_app, flP_cons, List.length_cons, List.length_append, List.length_append, pgT_len h x.2.1 0 x.2.2]; omega
 obtain ⟨t', more, c1, c2⟩ := sp_any its1 its1_len l hok2 hsz2
 have c3 := sp_len c1
 refine ⟨L, t', more, hL, ⟨l1, x, l2, s2, more2, rfl, hpl, hi, by rw [← hl]; exact c1⟩, fun z hz => ?_, ?_⟩
 ·rcases c2 with ⟨_, rfl, _⟩ | ⟨_, y, hy, rfl, _⟩
  ·cases hz
  ·obtain rfl := Option.some.inj hz
   exact ⟨(hok2 y hy).1, by show 0 < 65536; omega⟩
 ·rw [hlen0]
  split at c3 <;> omega
section
variable {b p dd l kh n h : Nat} {U : Nat → Prop} {P : PoolV} {v : Nat → List UInt8} {T : Nat → Bool} {e : Ent}
theorem node_post {σ0 s : St} {l1 l2 : NL h} {x : Ent × Nat × BTr h} {s' : BTr h} {more' : Option (Ent × Nat × BTr h)} {U' : Nat → Prop} {P' : PoolV} {v2 v' : Nat → List UInt8} {T2 : Nat → Bool} {r : AV} {len0 : Nat} (hf : Fr σ0 s U U') (hB : Bt s b p dd l kh U' P' v') (hk : Kp P P' 0) (hlen : σ0.length ≤ len0) (hnp : P.pages ≤ 3200)
 (hn : 1 ≤ n ∧ n < P.pages ∧ T n = true) (hTr : TrAt v (h + 1) n (l1 ++ x :: l2 : NL h)) (hnd : (pgT (h + 1) n (l1 ++ x :: l2 : NL h)).Nodup) (htk : ∀ q ∈ pgT (h + 1) n (l1 ++ x :: l2 : NL h), 1 ≤ q ∧ q < P.pages ∧ T q = true)
 (hs : TrAt v2 h x.2.1 s') (hm : MoreAt v2 h more') (hW : InsW v v2 T T2 P.pages (pgT h x.2.1 x.2.2) (pgT h x.2.1 s' ++ moreP more')) (hex : ∀ q, T2 q = true → T q = true ∨ q ∈ pgT h x.2.1 s' ++ moreP more')
 (hin : InsR h x.2.2 e s' more') (hpl : l1.length = belF (its1 (l1 ++ x :: l2 : NL h)) e (cutI (its1 (l1 ++ x :: l2 : NL h)) e)) (hsz : szL (its1 (l1 ++ (x.1, x.2.1, s') :: (more'.toList ++ l2) : NL h)) ≤ 646)
 (hsp : SplR T2 P.pages n 3 len0 (its1 (l1 ++ (x.1, x.2.1, s') :: (more'.toList ++ l2) : NL h)) v2 v' r s U') : InsPost (h + 1) n (l1 ++ x :: l2 : NL h) e σ0 b p dd l kh U P v T r s := by
 obtain ⟨w1, w2, w3, w4⟩ := node_w hTr hnd htk hs hm hW
 have hn2 : 1 ≤ n ∧ n < P.pages ∧ T2 n = true := ⟨hn.1, hn.2.1, hW.mono n hn.2.2⟩
 rcases node_spl hn2 w1.nd w1.tk w1.t0 w1.tkk hnp w3 w4 hsz hsp with ⟨t', more, T', g1, g2, g3, g4, g5, g6, g7⟩ | ⟨g0, rfl, rfl, g1⟩
 ·refine ⟨U', P', v', T', t', more, hf, hB, hk, g2, g3, w1.trans g4, .inl ⟨⟨l1, x, l2, s', more', rfl, hpl, hin, g1⟩, fun q hq => ?_, ?_⟩⟩
  ·rcases g5 q hq with h1 | h1
   ·rcases hex q h1 with h2 | h2
    ·exact .inl h2
    ·refine .inr (g6 q ?_)
     rw [pgT_node, flP_app, flP_cons, flP_more]
     simp only [List.mem_append, List.mem_cons] at h2 ⊢
     rcases h2 with h2 | h2 <;> simp [h2]
   ·exact .inr h1
  ·rcases g7 with g7 | ⟨x, m, z, tm, q1, q2, q3, q4, q5⟩
   ·exact .inl g7
   ·exact .inr ⟨x, m, z, tm, q1, q2, q3, by omega, q5⟩
 ·have hmore : ∃ z, more' = some z := by
   cases more' with
   | some z => exact ⟨z, rfl⟩
   | none =>
     exfalso
     have := hTr.1.sz
     have e1 : its1 (l1 ++ (x.1, x.2.1, s') :: ((none : Option (Ent × Nat × BTr h)).toList ++ l2) : NL h) = its1 (l1 ++ x :: l2 : NL h) := by simp [its1]
     rw [e1] at g0
     have h2 : szL (its1 (l1 ++ x :: l2 : NL h)) ≤ 496 := this
     omega
  obtain ⟨z, rfl⟩ := hmore
  have e1 : its1 (l1 ++ (x.1, x.2.1, s') :: l2 : NL h) = its1 (l1 ++ x :: l2 : NL h) := by simp [its1]
  refine ⟨U', P', v', T2, (l1 ++ (x.1, x.2.1, s') :: l2 : NL h), none, hf, hB, hk, ⟨?_, fun y hy => w3 y ?_⟩, trivial, ?_, .inr (.inr ⟨⟨l1, x, l2, s', rfl, hpl, .inr ⟨z, hin⟩, rfl⟩, rfl, rfl, g1, ?_⟩)⟩
  ·rw [w2]
   show NodeP (v n) 3 (its1 (l1 ++ (x.1, x.2.1, s') :: l2 : NL h))
   rw [e1]; exact hTr.1
  ·have hy : y ∈ (l1 ++ (x.1, x.2.1, s') :: l2 : NL h) := hy
   simp only [List.mem_append, List.mem_cons] at hy ⊢
   rcases hy with h | h | h <;> simp [h]
  ·refine w1.sub ?_
   show (pgT (h + 1) n (l1 ++ (x.1, x.2.1, s') :: l2 : NL h) ++ []).Sublist _
   rw [List.append_nil, pgT_node, pgT_node]
   exact List.Sublist.cons_cons _ (flP_sub _ _ _ _)
  ·have hxs : (pgT h x.2.1 x.2.2).Sublist (pgT (h + 1) n (l1 ++ x :: l2 : NL h)) := by
    rw [pgT_node, flP_app, flP_cons]
    exact List.Sublist.cons _ ((List.sublist_append_left _ _).trans (List.sublist_append_right _ _))
   have hnl := new_len (T := T) (hnd.sublist hxs) (fun q hq => (htk q (hxs.subset hq)).2.2) (ins_pg (n := x.2.1) hin)
   rw [List.length_append, pgT_len h x.2.1 0 x.2.2, pgT_len h x.2.1 0 s'] at hnl
   refine lack_node (L := (pgT h x.2.1 s' ++ moreP (some z)).filter fun q => !T q) (fun q hq => ?_) hin (fun z' hz => by obtain rfl := Option.some.inj hz; exact hm.2) hTr.1.ok hTr.1.sz hpl (.inl ⟨g0, hnl⟩)
   cases hTq : T q with
   | true => exact .inl rfl
   | false =>
     rcases hex q hq with h | h
     ·rw [hTq] at h; cases h
     ·refine .inr (List.mem_filter.2 ⟨h, by simp [hTq]⟩)
theorem node_not {σ0 s : St} {l1 l2 : NL h} {x : Ent × Nat × BTr h} {s' : BTr h} {U' : Nat → Prop} {P' : PoolV} {v2 : Nat → List UInt8} {T2 : Nat → Bool} {r : AV} (hf : Fr σ0 s U U') (hB : Bt s b p dd l kh U' P' v2) (hk : Kp P P' 0)
 (hTr : TrAt v (h + 1) n (l1 ++ x :: l2 : NL h)) (hnd : (pgT (h + 1) n (l1 ++ x :: l2 : NL h)).Nodup) (htk : ∀ q ∈ pgT (h + 1) n (l1 ++ x :: l2 : NL h), 1 ≤ q ∧ q < P.pages ∧ T q = true)
 (hs : TrAt v2 h x.2.1 s') (hW : InsW v v2 T T2 P.pages (pgT h x.2.1 x.2.2) (pgT h x.2.1 s' ++ moreP (none : Option (Ent × Nat × BTr h))))
 (hpl : l1.length = belF (its1 (l1 ++ x :: l2 : NL h)) e (cutI (its1 (l1 ++ x :: l2 : NL h)) e))
 (hO : (e ∈ entsT h x.2.2 ∧ s' = x.2.2 ∧ r = .tup [nilQ, intV .i64 1]) ∨ (FailR h x.2.2 e s' ∧ r = .tup [nilQ, intV .i64 20] ∧ (∀ q, q < P.pages → T2 q = true) ∧ LackR h x.2.2 e T T2)) : InsPost (h + 1) n (l1 ++ x :: l2 : NL h) e σ0 b p dd l kh U P v T r s := by
 obtain ⟨w1, w2, w3, w4⟩ := node_w (more' := none) hTr hnd htk hs trivial hW
 have e1 : its1 (l1 ++ (x.1, x.2.1, s') :: l2 : NL h) = its1 (l1 ++ x :: l2 : NL h) := by simp [its1]
 refine ⟨U', P', v2, T2, (l1 ++ (x.1, x.2.1, s') :: l2 : NL h), none, hf, hB, hk, ⟨?_, fun y hy => w3 y (by simpa using hy)⟩, trivial, ?_, ?_⟩
 ·rw [w2]
  show NodeP (v n) 3 (its1 (l1 ++ (x.1, x.2.1, s') :: l2 : NL h))
  rw [e1]; exact hTr.1
 ·simpa [moreP] using w1
 ·rcases hO with ⟨h1, rfl, rfl⟩ | ⟨h1, rfl, h2, hla⟩
  ·refine .inr (.inl ⟨?_, rfl, rfl, rfl⟩)
   show e ∈ (l1 ++ x :: l2 : NL h).flatMap fun x => entsT h x.2.2
   exact List.mem_flatMap.2 ⟨x, by simp, h1⟩
  ·obtain ⟨L, t2, more2, u1, u2, u3, u4⟩ := hla
   exact .inr (.inr ⟨⟨l1, x, l2, s', rfl, hpl, .inl h1, rfl⟩, rfl, rfl, h2, lack_node u1 u2 u3 hTr.1.ok hTr.1.sz hpl (.inr u4)⟩)
end
end Go.Proofs.YtockimhceppkbaaGreat
namespace Go.Proofs.YtockimhceppkbaaGreat
open Go.RowKit
def pl33_11Yj : Plan := (.det 0 (.det 1 (.det 2 (.det 3 (.det 4 (.det 5 (.det 6 (.det 7 (.fin 8 (.det 9 (.det 10 (.det 11 (.det 12 (.det 13 .done))))))))))))))
def pl33_15Yj : Plan := (.det 0 (.det 1 (.det 2 (.det 3 (.det 4 (.det 5 (.det 6 (.act 7 (.fin 8 (.det 9 (.fin 10 .done)))))))))))
def tYj := aa wX <| aa wbu <| aa T3 <| aa T25 <| aa T48 <| aa T86 <| aa T87 <| aa T90 <| aa T92 <| aa T97 T139
theorem InsPost.tup {h n : Nat} {t : BTr h} {e : Ent} {σ : St} {b p dd l kh : Nat} {U : Nat → Prop} {P : PoolV} {v : Nat → List UInt8} {T : Nat → Bool} {r : AV} {σ' : St} (hp : InsPost h n t e σ b p dd l kh U P v T r σ') : ∃ x y, r = .tup [x, y] := by
 obtain ⟨_, _, _, _, _, _, _, _, _, _, _, _, hO⟩ := hp
 rcases hO with ⟨_, _, ⟨_, rfl⟩ | ⟨_, _, _, _, _, rfl, _⟩⟩ | ⟨_, _, _, rfl⟩ | ⟨_, _, rfl, _⟩ <;> exact ⟨_, _, rfl⟩
theorem atInsNode {σ : St} {b p dd l kh n h : Nat} {U : Nat → Prop} {P : PoolV} {v : Nat → List UInt8} {T : Nat → Bool} {e lo : Ent} {hi : Option Ent} {t0 : NL h} (hB : Bt σ b p dd l kh U P v) (hT : Tk (v 0) P.pages T) (hnp : P.pages ≤ 3200) (hT0 : T 0 = true) (hb : Bud P 1) (hTr : TrAt v (h + 1) n t0) (hnd : (pgT (h + 1) n t0).Nodup)
 (htk : ∀ q ∈ pgT (h + 1) n t0, 1 ≤ q ∧ q < P.pages ∧ T q = true) (hOk : OkT true (h + 1) lo hi t0) (h1 : leE lo e) (h2 : ltO e hi) (heo : e.ok)
 (ih : ∀ {σ : St} {U : Nat → Prop} {P : PoolV} {v : Nat → List UInt8} {T : Nat → Bool} {n : Nat} {t : BTr h} {lo : Ent} {hi : Option Ent}, Bt σ b p dd l kh U P v → Tk (v 0) P.pages T → P.pages ≤ 3200 → T 0 = true → Bud P 1 → TrAt v h n t → (pgT h n t).Nodup → (∀ q ∈ pgT h n t, 1 ≤ q ∧ q < P.pages ∧ T q = true) → OkT true h lo hi t → leE lo e → ltO e hi →
  ACalls Tryz.prog 33 [.agg [.mp b 2 0 0], intV .i64 (n : Nat), entA e] σ fun r σ' => InsPost h n t e σ b p dd l kh U P v T r σ') :
 ACalls Tryz.prog 33 [.agg [.mp b 2 0 0], intV .i64 (n : Nat), entA e] σ fun r σ' => InsPost (h + 1) n t0 e σ b p dd l kh U P v T r σ' := by
 have hn := htk n (pgT_root _ _ _)
 have hlt := hB.lt
 obtain ⟨hne, hhd, hoc⟩ := hOk
 obtain ⟨l1, x, l2, rfl, hpl, g1, g2⟩ := okC_find hne hhd hoc h1 h2
 obtain ⟨t, ht⟩ : ∃ t : NL h, t = l1 ++ x :: l2 := ⟨_, rfl⟩
 rw [← ht] at hhd hoc hpl
 have hN : NodeP (v n) 3 (its1 t) := by rw [ht]; exact hTr.1
 have hl49 := hN.n
 have hcut := cutI_at (l := its1 t) (e := e) (by rw [its1_e]; exact head_lt hhd hoc)
 obtain ⟨i, hi'⟩ : ∃ i, i = belF (its1 t) e (cutI (its1 t) e) := ⟨_, rfl⟩
 have hpl1 : l1.length = i := by rw [hi']; exact hpl
 have hil : i < (its1 t).length := by rw [its1_len, ht, ← hpl1]; simp
 have hne' : its1 t ≠ [] := fun e => by rw [e] at hil; simp at hil
 have hgi : ((its1 t).map itC)[i]? = some (itC ⟨x.1, x.2.1⟩) := by
  rw [← hpl1, ht, its1_app, its1_cons, List.map_append, List.getElem?_append_right (by simp [its1])]
  simp [its1]
 have htake : (its1 t).take (i + 1) = its1 l1 ++ [⟨x.1, x.2.1⟩] := by
  rw [ht, its1_app, its1_cons, ← hpl1, ← its1_len l1, List.take_append]
  simp
  exact List.take_of_length_le (Nat.le_succ _)
 have hdrop : (its1 t).drop (i + 1) = its1 l2 := by
  rw [ht, its1_app, its1_cons, ← hpl1, ← its1_len l1, List.drop_append]
  simp
 have hif : ((i : Int) < ((its1 t).length : Int)) = True := eq_true (by omega)
 have hi0 := nnI i
 have hiw := wI i (by omega)
 refine acalls_of cx_ok dr_ok Tryz.func33 (by kernel_rfl) rfl (nt := 81) (rs := [.tmp 6, .tmp 7]) rfl rfl ?_
 simp only [entA]
 repeat' first | ((with_reducible first | refine cs ?_ ?_ | refine ws ?_ ?_ | refine wd ?_ ?_ | refine wu ?_ ?_) <;> intro h <;> try simp only [h]) | simp only [↓wBA, tYj, convA, seval, pl33_11Yj, pl33_15Yj, wH] | (with_reducible refine dP pl33_11Yj 14 (some 52) (by decide) (by kernel_rfl) ?_) | (with_reducible refine dP pl33_15Yj 11 (some 68) (by decide) (by kernel_rfl) ?_)
 have a1 : Ap σ (σ ++ [some (Ob.row 1 [[AV.mp b 2 0 0]])] ++ [some (Ob.row 3 [[.p (.sl 1 (encB e.k)), intV .i64 (e.p : Nat), intV .i64 (e.s : Nat)]])]) := (Ap.app _ _).more _
 refine (atRead (hB.ap a1) hn.2.1 hN hb).mono ?_
 rintro _ s1 ⟨U1, P1, a, rfl, f1, hB1, k1, ha, hta⟩
 rcases ha with ⟨h0, _⟩ | ⟨_, tn, rfl, htn⟩
 ·exact absurd h0 hne'
 have q1 := f1.len
 simp only [List.length_append, List.length_cons, List.length_nil] at q1
 have b0 : s1[σ.length]? = some (some (Ob.row 1 [[AV.mp b 2 0 0]])) := by
  rw [f1.keep _ (by simp) fun e => by have := hlt _ e; omega]; simp [intV]
 have b1 : s1[σ.length + 1]? = some (some (Ob.row 3 [[.p (.sl 1 (encB e.k)), intV .i64 (e.p : Nat), intV .i64 (e.s : Nat)]])) := by
  rw [f1.keep _ (by simp) fun e => by have := hlt _ e; omega]; simp [intV]
 have y0 := at_lt b0
 have y1 := at_lt b1
 have hlt1 := hB1.lt
 obtain ⟨htn1, htnU⟩ := hta tn rfl
 simp only [List.length_append, List.length_cons, List.length_nil] at htn1
 have yn := at_lt htn
 have nU0 : ∀ j, σ.length ≤ j → j < σ.length + 2 → ¬ U1 j := fun j hj hj2 e => (f1.own j e).elim (fun e => by have := hlt j e; omega) fun e => by simp at e; omega
 obtain ⟨S1, hS1⟩ : ∃ S1, S1 = s1 ++ [some (Ob.row 2 [[AV.p (.v (.int .i64 3)), AV.ms tn 4 0 (its1 t).length]])] := ⟨_, rfl⟩
 have aS : Ap s1 S1 := ⟨_, hS1⟩
 have hS1l : S1.length = s1.length + 1 := by rw [hS1]; simp
 have bN : S1[s1.length]? = some (some (Ob.row 2 [[AV.p (.v (.int .i64 3)), AV.ms tn 4 0 (its1 t).length]])) := by rw [hS1]; simp
 have b0 := aS.get b0
 have b1 := aS.get b1
 have hBS := hB1.ap aS
 have htS := aS.get htn
 have hM : ItM S1 tn 0 (its1 t) := ⟨_, htS, by simp, fun j x hj => by simp [hj]⟩
 have hbl := abelow 3 hM.a (by omega) e _ hcut
 rw [← hi'] at hbl
 have y0S := at_lt b0
 have y1S := at_lt b1
 have yNS := at_lt bN
 have ynS := at_lt htS
 simp only [entA] at hbl
 repeat' first | ((with_reducible first | refine cs ?_ ?_ | refine ws ?_ ?_ | refine wd ?_ ?_ | refine wu ?_ ?_) <;> intro h <;> try simp only [h]) | simp only [↓wBA, tYj, convA, seval, pl33_11Yj, pl33_15Yj, wH, c3y, hS1.symm, b0, b1, bN, y0S, y1S, yNS, htS, ynS, hgi, hif, hi0, itC] | ((with_reducible show ACalls _ _ _ _ _); refine hbl.eq ?_) | (with_reducible refine dP pl33_11Yj 14 (some 52) (by decide) (by kernel_rfl) ?_) | (with_reducible refine dP pl33_15Yj 11 (some 68) (by decide) (by kernel_rfl) ?_)
 have hxm : ∀ q, q ∈ pgT h x.2.1 x.2.2 → q ∈ pgT (h + 1) n (l1 ++ x :: l2 : NL h) := fun q hq => by
  rw [pgT_node]; exact List.mem_cons_of_mem _ (List.mem_flatMap.2 ⟨x, by simp, hq⟩)
 have hxs : (pgT h x.2.1 x.2.2).Sublist (pgT (h + 1) n (l1 ++ x :: l2 : NL h)) := by
  rw [pgT_node, flP_app, flP_cons]
  exact List.Sublist.cons _ ((List.sublist_append_left _ _).trans (List.sublist_append_right _ _))
 refine (ih hBS (by rw [k1.pages]; exact hT) (by rw [k1.pages]; exact hnp) hT0 (hb.kp k1 (by omega)) (hTr.2 x (by simp)) (hnd.sublist hxs) (fun q hq => by rw [k1.pages]; exact htk q (hxm q hq)) (okC_child (by rw [← ht]; exact hoc)) g1 g2).mono ?_
 rintro r s2 hp
 obtain ⟨rx, ry, rfl⟩ := hp.tup
 obtain ⟨U2, P2, v2, T2, s', more', f2, hB2, k2, hs, hm, hW, hO⟩ := hp
 have q2 := f2.len
 have fS : Fr σ S1 U U1 := (a1.fr.trans f1).trans aS.fr
 have n0 : ¬ U1 σ.length := nU0 _ (Nat.le_refl _) (by omega)
 have n1 : ¬ U1 (σ.length + 1) := nU0 _ (by omega) (by omega)
 have nN : ¬ U1 s1.length := fun e => by have := hlt1 _ e; omega
 have c0 := f2.get b0 n0
 have c1 := f2.get b1 n1
 have cN := f2.get bN nN
 have cn := f2.get htS htnU
 have z0 := at_lt c0
 have z1 := at_lt c1
 have zN := at_lt cN
 have zn := at_lt cn
 rw [k1.pages] at hW hO
 have f02 := fS.trans f2
 have k02 := k1.trans k2
 have ntn : ¬ U2 tn := fun e => (f2.own tn e).elim htnU fun e => by omega
 have nN2 : ¬ U2 s1.length := fun e => (f2.own _ e).elim nN fun e => by omega
 rcases hO with ⟨hin, hex, hmo⟩ | ⟨hd1, hd2, hd3, hd4⟩ | ⟨hd1, hd3, hd4, hd2⟩
 ·rcases hmo with ⟨rfl, hr⟩ | ⟨xm, m, z, tm, rfl, hr, htm, hle, hnU⟩
  ·simp only [AV.tup.injEq, List.cons.injEq, and_true] at hr
   obtain ⟨rfl, rfl⟩ := hr
   have hsp := atSplit (n := n) (t := tn) (kd := 3) hB2 (by rw [k02.pages]; exact hW.tkk) (by rw [k02.pages]; exact hnp) hW.t0 (hb.kp k02 (by omega)) hn.1 (by rw [k02.pages]; exact hn.2.1) (hW.mono n hn.2.2) cn ntn (.inr rfl) hN.ok (by have := hN.sz; omega)
   simp only [c3y] at hsp
   repeat' first | ((with_reducible first | refine cs ?_ ?_ | refine ws ?_ ?_ | refine wd ?_ ?_ | refine wu ?_ ?_) <;> intro h <;> try simp only [h]) | simp only [↓wBA, tYj, convA, seval, pl33_11Yj, pl33_15Yj, wH, nilQ, c0, c1, cN, z0, z1, zN] | (with_reducible refine dP pl33_11Yj 14 (some 52) (by decide) (by kernel_rfl) ?_) | (with_reducible refine dP pl33_15Yj 11 (some 68) (by decide) (by kernel_rfl) ?_)
   refine hsp.mono ?_
   rintro r s3 ⟨U3, P3, v3, f3, h3, k3, hR⟩
   obtain ⟨rx, ry, rfl⟩ := hR.tup
   repeat' first | ((with_reducible first | refine cs ?_ ?_ | refine ws ?_ ?_ | refine wd ?_ ?_ | refine wu ?_ ?_) <;> intro h <;> try simp only [h]) | simp only [↓wBA, tYj, convA, seval, pl33_11Yj, pl33_15Yj, wH] | (with_reducible refine dP pl33_11Yj 14 (some 52) (by decide) (by kernel_rfl) ?_) | (with_reducible refine dP pl33_15Yj 11 (some 68) (by decide) (by kernel_rfl) ?_)
   have l3 := f3.len
   all_goals refine ret_st ?_ (by first | exact Nat.le_refl _ | (simp only [List.length_set, List.length_append]; omega) | omega)
   all_goals simp only [resA.eq_1, resL.eq_1, resL.eq_2, resV.eq_1, resV.eq_2, ↓wBA, tYj, convA, seval, wH]
   have e1 : its1 (l1 ++ (x.1, x.2.1, s') :: ((none : Option (Ent × Nat × BTr h)).toList ++ l2) : NL h) = its1 t := by rw [ht]; simp [its1]
   rw [k02.pages, ← e1] at hR
   rw [ht] at hpl
   exact node_post (len0 := s2.length) (more' := none) (f02.trans f3) h3 (k02.trans k3) (by omega) hnp hn hTr hnd htk hs trivial hW hex hin hpl (by rw [e1]; have := hN.sz; omega) hR
  ·simp only [AV.tup.injEq, List.cons.injEq, and_true] at hr
   obtain ⟨rfl, rfl⟩ := hr
   have wtm := at_lt htm
   have e1 : its1 (l1 ++ (x.1, x.2.1, s') :: ((some (xm, m, z) : Option (Ent × Nat × BTr h)).toList ++ l2) : NL h) = (its1 t).take (i + 1) ++ ⟨xm, m⟩ :: (its1 t).drop (i + 1) := by
    rw [htake, hdrop]; simp [its1]
   obtain ⟨L2, hL2⟩ : ∃ L2, L2 = its1 (l1 ++ (x.1, x.2.1, s') :: ((some (xm, m, z) : Option (Ent × Nat × BTr h)).toList ++ l2) : NL h) := ⟨_, rfl⟩
   rw [← hL2] at e1
   have hlen2 : L2.length = (its1 t).length + 1 := by rw [e1]; simp; omega
   have hok2 : ∀ y ∈ L2, y.ok := fun y hy => by
    rw [e1] at hy
    rcases List.mem_append.1 hy with hy | hy
    ·exact hN.ok y (List.mem_of_mem_take hy)
    ·rcases List.mem_cons.1 hy with rfl | hy
     ·exact hm.2
     ·exact hN.ok y (List.mem_of_mem_drop hy)
   have hsz2 : szL L2 ≤ 646 := by
    have g1 := hN.sz
    have g2 : szL (its1 t) = szL ((its1 t).take (i + 1)) + szL ((its1 t).drop (i + 1)) := by rw [← szL_app, List.take_append_drop]
    have g3 := szI_le (x := ⟨xm, m⟩) hm.2
    rw [e1, szL_app, szL_cons]; omega
   have hv1 : (s2 ++ [some (Ob.right 97 4)])[s2.length]? = some (some (Ob.right 97 4)) := by simp
   have hnd2 : NdA (s2 ++ [some (Ob.right 97 4)]) (.ms tn 4 0 (its1 t).length) (its1 t) := .inr ⟨hne', tn, rfl, by rw [List.getElem?_append_left zn]; exact cn⟩
   have hai := ainsAny (x := ⟨xm, m⟩) (k := i + 1) hnd2 (by omega) (by omega) hv1
   simp only [itP] at hai
   rw [← e1] at hai
   have tx1 : (tm = s1.length) = False := eq_false (by omega)
   have tx2 : (s1.length = tm) = False := eq_false (by omega)
   have tx3 : (tm = tn) = False := eq_false (by omega)
   have tx4 : (tn = tm) = False := eq_false (by omega)
   repeat' first | ((with_reducible first | refine cs ?_ ?_ | refine ws ?_ ?_ | refine wd ?_ ?_ | refine wu ?_ ?_) <;> intro h <;> try simp only [h]) | simp only [↓wBA, tYj, convA, seval, pl33_11Yj, pl33_15Yj, wH, nilQ, c0, c1, cN, cn, z0, z1, zN, zn, htm, wtm, itC, hiw, tx1, tx2, tx3, tx4] | (with_reducible refine dP pl33_11Yj 14 (some 52) (by decide) (by kernel_rfl) ?_) | (with_reducible refine dP pl33_15Yj 11 (some 68) (by decide) (by kernel_rfl) ?_)
   refine hai.mono ?_
   rintro _ s3 ⟨rfl, σ0, hl0, hs0, rfl⟩
   simp only [List.length_append, List.length_cons, List.length_nil] at hl0
   have hms : ∀ j, j ≠ tn → msOf' (.ms tn 4 0 (its1 t).length) ≠ some j := fun j hj e => hj (by simp only [msOf', Option.some.injEq] at e; exact e.symm)
   have hs0' : ∀ j, j < s2.length → j ≠ tn → σ0[j]? = s2[j]? := fun j hj hn => by rw [hs0 j (hms j hn), List.getElem?_append_left hj]
   have d0 := (hs0' σ.length z0 (by omega)).trans c0
   have d1 := (hs0' (σ.length + 1) z1 (by omega)).trans c1
   have dN := (hs0' s1.length zN (by omega)).trans cN
   have w0 : σ.length < σ0.length := by omega
   have w1 : σ.length + 1 < σ0.length := by omega
   have wN : s1.length < σ0.length := by omega
   have w2 : s2.length + 1 = σ0.length := by omega
   obtain ⟨X, hX⟩ : ∃ X, X = σ0.set s1.length (some (Ob.row 2 [[AV.p (PV.v (Value.int IntKind.i64 3)), AV.ms σ0.length 4 0 ((its1 t).length + 1)]])) ++ [some (Ob.row 4 (L2.map itC))] := ⟨_, rfl⟩
   have hXl : X.length = σ0.length + 1 := by rw [hX]; simp
   have hXr : X[σ0.length]? = some (some (Ob.row 4 (L2.map itC))) := by rw [hX, List.getElem?_append_right (by simp)]; simp
   have hX0 : ∀ j, j < s2.length → j ≠ tn → j ≠ s1.length → X[j]? = s2[j]? := fun j hj hn hn2 => by
    rw [hX, List.getElem?_append_left (by simp; omega), List.getElem?_set_ne (by omega)]; exact hs0' j hj hn
   have hlt2 := hB2.lt
   have hBX : Bt X b p dd l kh U2 P2 v2 := hB2.same fun j hj => hX0 j (hlt2 j hj) (fun e => ntn (e ▸ hj)) (fun e => nN2 (e ▸ hj))
   have fX : Fr σ X U U2 := by
    refine ⟨by omega, fun j hj hn => ?_, f02.own⟩
    rw [hX0 j (by omega) (by omega) (by omega)]
    exact f02.keep j hj hn
   have hsp := atSplit (n := n) (t := σ0.length) (kd := 3) hBX (by rw [k02.pages]; exact hW.tkk) (by rw [k02.pages]; exact hnp) hW.t0 (hb.kp k02 (by omega)) hn.1 (by rw [k02.pages]; exact hn.2.1) (hW.mono n hn.2.2) hXr (fun e => by have := hlt2 _ e; omega) (.inr rfl) hok2 hsz2
   rw [hlen2] at hsp
   simp only [c3y] at hsp
   rw [hX] at hsp
   repeat' first | ((with_reducible first | refine cs ?_ ?_ | refine ws ?_ ?_ | refine wd ?_ ?_ | refine wu ?_ ?_) <;> intro h <;> try simp only [h]) | simp only [↓wBA, tYj, convA, seval, pl33_11Yj, pl33_15Yj, wH, d0, d1, dN, w0, w1, wN, w2, c3y, y0, y1, hpl1] | (with_reducible refine dP pl33_11Yj 14 (some 52) (by decide) (by kernel_rfl) ?_) | (with_reducible refine dP pl33_15Yj 11 (some 68) (by decide) (by kernel_rfl) ?_)
   refine hsp.mono ?_
   rintro r s3 ⟨U3, P3, v3, f3, h3, k3, hR⟩
   obtain ⟨rx, ry, rfl⟩ := hR.tup
   repeat' first | ((with_reducible first | refine cs ?_ ?_ | refine ws ?_ ?_ | refine wd ?_ ?_ | refine wu ?_ ?_) <;> intro h <;> try simp only [h]) | simp only [↓wBA, tYj, convA, seval, pl33_11Yj, pl33_15Yj, wH] | (with_reducible refine dP pl33_11Yj 14 (some 52) (by decide) (by kernel_rfl) ?_) | (with_reducible refine dP pl33_15Yj 11 (some 68) (by decide) (by kernel_rfl) ?_)
   have l3 := f3.len
   rw [← hX] at f3 l3
   all_goals refine ret_st ?_ (by first | exact Nat.le_refl _ | (simp only [List.length_set, List.length_append]; omega) | omega)
   all_goals simp only [resA.eq_1, resL.eq_1, resL.eq_2, resV.eq_1, resV.eq_2, ↓wBA, tYj, convA, seval, wH]
   rw [k02.pages, ← hX, hL2] at hR
   rw [ht] at hpl
   exact node_post (len0 := X.length) (more' := some (xm, m, z)) (fX.trans f3) h3 (k02.trans k3) (by omega) hnp hn hTr hnd htk hs hm hW hex hin hpl (by rw [← hL2]; exact hsz2) hR
 ·simp only [AV.tup.injEq, List.cons.injEq, and_true] at hd4
  obtain ⟨rfl, rfl⟩ := hd4
  repeat' first | ((with_reducible first | refine cs ?_ ?_ | refine ws ?_ ?_ | refine wd ?_ ?_ | refine wu ?_ ?_) <;> intro h <;> try simp only [h]) | simp only [↓wBA, tYj, convA, seval, pl33_11Yj, pl33_15Yj, wH, nilQ] | (with_reducible refine dP pl33_11Yj 14 (some 52) (by decide) (by kernel_rfl) ?_) | (with_reducible refine dP pl33_15Yj 11 (some 68) (by decide) (by kernel_rfl) ?_)
  all_goals refine ret_st ?_ (by first | exact Nat.le_refl _ | (simp only [List.length_set, List.length_append]; omega) | omega)
  all_goals simp only [resA.eq_1, resL.eq_1, resL.eq_2, resV.eq_1, resV.eq_2, ↓wBA, tYj, convA, seval, wH]
  subst hd3
  rw [ht] at hpl
  exact node_not f02 hB2 k02 hTr hnd htk hs hW hpl (.inl ⟨hd1, hd2, rfl⟩)
 ·simp only [AV.tup.injEq, List.cons.injEq, and_true] at hd4
  obtain ⟨rfl, rfl⟩ := hd4
  repeat' first | ((with_reducible first | refine cs ?_ ?_ | refine ws ?_ ?_ | refine wd ?_ ?_ | refine wu ?_ ?_) <;> intro h <;> try simp only [h]) | simp only [↓wBA, tYj, convA, seval, pl33_11Yj, pl33_15Yj, wH, nilQ] | (with_reducible refine dP pl33_11Yj 14 (some 52) (by decide) (by kernel_rfl) ?_) | (with_reducible refine dP pl33_15Yj 11 (some 68) (by decide) (by kernel_rfl) ?_)
  all_goals refine ret_st ?_ (by first | exact Nat.le_refl _ | (simp only [List.length_set, List.length_append]; omega) | omega)
  all_goals simp only [resA.eq_1, resL.eq_1, resL.eq_2, resV.eq_1, resV.eq_2, ↓wBA, tYj, convA, seval, wH]
  subst hd3
  rw [ht] at hpl
  exact node_not f02 hB2 k02 hTr hnd htk hs hW hpl (.inr ⟨hd1, rfl, hd2⟩)
end Go.Proofs.YtockimhceppkbaaGreat
