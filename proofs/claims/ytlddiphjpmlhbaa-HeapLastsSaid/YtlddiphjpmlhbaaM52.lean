/- Pools are opened again. Loops: the ways out told together. -/
import Derived.Test.YtlddiphjpmlhbaaM47
import Derived.Test.YtlddiphjpmlhbaaM26
set_option linter.unusedSimpArgs false
set_option linter.unusedVariables false
set_option linter.defProp false
set_option maxRecDepth 100000
set_option maxHeartbeats 32000000
namespace Go.Proofs.Ytlddiphjpmlhbaa
open Go.RowKit
structure Rest (σ : St) (dd dl : Nat) (Fd Fl : Nat → Prop) (D DL : DiskV) (c : Nat) (v : Nat → List UInt8) (np : Nat) : Prop where
 d : DiskAt σ dd Fd D
 l : DiskAt σ dl Fl DL
 dj : ∀ t, Fd t → Fl t → False
 z : 16 ≤ D.size
 pn : np = min (D.size / 8) 3840
 s : ∀ k, (secAt D.now k).length = 64
 dw : D.wait = []
 lz : 3 ≤ DL.size
 ls : ∀ k, (secAt DL.now k).length = 64
 lw : DL.wait = []
 ex : ∃ chs, ChsOk np chs ∧ Heads DL.now c (recsB (chs.map imgsB)).length ∧ (recsB (chs.map imgsB)).length ≤ (DL.size - 2) * 64 ∧ (∀ k, k < (recsB (chs.map imgsB)).length → (secAt DL.now (2 + k / 64))[k % 64]? = (recsB (chs.map imgsB))[k]?) ∧ ∀ n, v n = ovr (fun m => pgz (diskPg D.now m)) chs.flatten n
theorem arestD {σ : St} {p dd l kh : Nat} {G : Nat → Prop} {P : PoolV} (h : PoolAt σ p dd l kh G P) (hf : P.log.wait = 0) (hw : P.data.wait.length ≤ 1000000000000) :
 ACalls Try.prog 18 [.mp dd 6 0 0, .p (.v (.slice none 0 0))] σ fun r σ' => ∃ Fd Fl D, Fr σ σ' G (fun t => Fd t ∨ Fl t) ∧ Rest σ' dd P.log.d Fd Fl D P.log.disk P.log.ctr P.view P.pages ∧ D.size = P.data.size := by
 obtain ⟨⟨hk, Fd, Gl, w, a, H, hG⟩, chs, r1, r2, r3⟩ := h
 obtain ⟨d, F, w', a', hL, hGl⟩ := H.log
 refine (adrestart H.data hw).mono ?_
 rintro r s ⟨Fd', now, hf1, hd, hn⟩
 have hld : DiskAt s d F P.log.disk := hL.disk.frame hf1 fun t h1 h2 => H.dl t h2 ((hGl t).2 (.inr (.inl h1)))
 have hdj : ∀ t, Fd' t → F t → False := fun t h1 h2 => (hf1.own t h1).elim (fun e => H.dl t e ((hGl t).2 (.inr (.inl h2)))) fun e => by have := hL.disk.lt t h2; omega
 have hkl : ∀ k, (P.data.kept k).length = 64 := by
  obtain ⟨kn, kk, w2, a2, es, hd2, _⟩ := H.data
  exact hd2.kl
 have hlen : P.log.len = P.log.str.length := hL.dr hf
 have hhd := hL.heads
 have hon := hL.on
 rw [hlen, r1] at hhd hon
 have hrm := hL.room
 rw [r1] at hrm
 refine ⟨Fd', F, _, ?_, ⟨hd, by rw [hL.id]; exact hld, hdj, hk.size, rfl, fun k => by rw [show secAt _ k = P.data.kept k from hn k]; exact hkl k, rfl, hL.big, hL.secs, hL.dry, chs, r2, hhd, hrm, hon, fun n => ?_⟩, rfl⟩
 ·refine ⟨hf1.len, fun t ht hng => hf1.keep t ht fun e => hng ((hG t).2 (.inr (.inr (.inl e)))), fun t ht => ?_⟩
  rcases ht with ht | ht
  ·exact (hf1.own t ht).imp (fun e => (hG t).2 (.inr (.inr (.inl e)))) id
  ·exact .inl ((hG t).2 (.inr (.inr (.inr (.inl ((hGl t).2 (.inr (.inl ht))))))))
 ·rw [r3]
  refine ovr_congr (fun m => ?_) n _
  show pgz (keptPg P.data.kept m) = pgz (keptPg (secAt now) m)
  rw [keptPg_congr hn]
section
variable {σ : St} {dd dl : Nat} {Fd Fl : Nat → Prop} {D DL : DiskV} {c np : Nat} {v : Nat → List UInt8}
theorem arestL (h : Rest σ dd dl Fd Fl D DL c v np) : ACalls Try.prog 18 [.mp dl 6 0 0, .p (.v (.slice none 0 0))] σ fun r σ' => Fr σ σ' Fl Fl ∧ Rest σ' dd dl Fd Fl D DL c v np := by
 refine (adrestart0 h.l h.lw).mono ?_
 rintro r s ⟨hf, hl⟩
 exact ⟨hf, ⟨h.d.frame hf h.dj, hl, h.dj, h.z, h.pn, h.s, h.dw, h.lz, h.ls, h.lw, h.ex⟩⟩
theorem areopen (h : Rest σ dd dl Fd Fl D DL c v np) (most : Nat) (hm : 1 ≤ most) (hmb : most ≤ 100000) (hc : c + 200000 < 18446744073709551616) :
 ACalls Try.prog 7 [.mp dd 6 0 0, .mp dl 6 0 0, intV .i64 (most : Nat)] σ fun r σ' => ∃ p l kh G P, r = .tup [.mp p 6 0 0, intV .i64 0] ∧ Fr σ σ' (fun t => Fd t ∨ Fl t) G ∧ PoolAt σ' p dd l kh G P ∧ P.pages = np ∧ P.most = most ∧ P.dq = 0 ∧ P.log.disk.size = DL.size ∧ P.log.d = dl ∧ P.log.wait = 0 ∧ P.ct ≤ c + 200000 ∧ P.view = v := by
 obtain ⟨chs, c1, c2, c3, c4, c5⟩ := h.ex
 have hnp := h.pn
 by_cases hne : chs = []
 ·subst hne
  refine (aopenP h.d h.l h.dj h.z h.s h.lz c c2 h.ls h.lw most hm hmb h.dw).mono ?_
  rintro r s ⟨p, l, kh, G, P, rfl, ha, hP, p1, p2, p3, p4, p5, p6⟩
  refine ⟨p, l, kh, G, P, rfl, ha.fr.to fun t ht => ?_, hP, ?_, p3, by simp [PoolV.dq, PoolV.dirt, p1, p4, h.dw], by rw [p5], by rw [p5], by rw [p5], by unfold PoolV.ct; rw [p5]; exact Nat.le_add_right _ _, funext fun n => ?_⟩
  ·rcases p6 t ht with e | e | e
   ·exact .inl (.inl e)
   ·exact .inl (.inr e)
   ·exact .inr e
  ·unfold PoolV.pages; rw [p4, hnp]
  ·rw [c5, PoolV.view, p2, p4]; rfl
 ·refine (aopenPR h.d h.l h.dj h.z h.s h.lz c chs hne (by rw [← hnp]; exact c1) c2 c3 c4 h.ls h.lw h.dw most hm hmb hc).mono ?_
  rintro r s ⟨p, l, kh, G, P, rfl, hf, hP, p1, p2, p3, p4, p5, p6, p7, p8, p9, p10⟩
  obtain ⟨hk, Fd', Gl, w, a, H, hG⟩ := id hP
  refine ⟨p, l, kh, G, P, rfl, hf, ⟨hP, rp_pt hk p6 p10 (kept_now H.data p3)⟩, ?_, p1, by unfold PoolV.dq; rw [p3, show P.dirt = 0 from List.countP_eq_zero.2 fun g hg => by rw [p10 g hg]; simp]; rfl, p4, p5, p7, p8, funext fun n => ?_⟩
  ·unfold PoolV.pages; rw [p2, hnp]
  ·rw [p9, c5]
end
end Go.Proofs.Ytlddiphjpmlhbaa
namespace Go.Proofs.Ytlddiphjpmlhbaa
open Go.RowKit
def outS {X : Type} (fr : List AV) (D : X → List (Nat × AV)) (Js : List Nat) (I : X → St → Prop) (id : Nat) (Q : Exit → List AV → St → Prop) (e : Exit) (f : List AV) (s : St) : Prop := match e with
 | .exit id' => if id' = id then ∃ x, I x s ∧ f = fS fr (D x) Js fun t => f.getD t .any else Q (.exit id') f s
 | e => Q e f s
section
variable {P : Program} {C : Ctx} {fr f : List AV} {σ s : St} {Q : Exit → List AV → St → Prop} {c : Code} {X : Type} {D : X → List (Nat × AV)} {Js : List Nat} {I : X → St → Prop} {id : Nat}
theorem outS_exit {id' : Nat} : outS fr D Js I id Q (.exit id') f s = if id' = id then ∃ x, I x s ∧ f = fS fr (D x) Js fun t => f.getD t .any else Q (.exit id') f s := nr rfl
theorem outS_ret : outS fr D Js I id Q .ret f s = Q .ret f s := nr rfl
theorem outS_normal : outS fr D Js I id Q .normal f s = Q .normal f s := nr rfl
theorem awp_outS (D : X → List (Nat × AV)) (Js : List Nat) (I : X → St → Prop) (id : Nat) {d : Array Oper → List AV → St → (List AV → St → Prop) → Prop} (hd : d = aDraw P C) (h : AWp P C d c fr σ (outS fr D Js I id Q)) (hk : ∀ x J s, I x s → Q (.exit id) (fS fr (D x) Js J) s) : AWp P C d c fr σ Q := by
 subst hd
 refine AWp_mono (fun e f s g => ?_) h
 cases e with
 | exit id' =>
   rw [outS_exit] at g
   by_cases e : id' = id
   ·rw [if_pos e] at g
    obtain ⟨x, g1, g2⟩ := g
    rw [e, g2]; exact hk x _ s g1
   ·rw [if_neg e] at g; exact g
 | _ => exact g
end
theorem wOu : (type_of% @outS_exit) ∧ (type_of% @outS_ret) ∧ (type_of% @outS_normal) := ⟨@outS_exit, @outS_ret, @outS_normal⟩
end Go.Proofs.Ytlddiphjpmlhbaa
