/- Regions that draw their order, on the abstract machine: by a plan. -/
import Derived.Test.YtpfnpinblbfjdaaAvY
import Derived.Deep.RegionHeld3
set_option linter.unusedSimpArgs false
set_option linter.unusedVariables false
namespace Go.Proofs.Ytpfnpinblbfjdaa
open Go.RowKit

/-- Some variables are put aside. -/
def maskS : List Nat → St → St
  | [], σ => σ
  | t :: L, σ => maskS L (σ.set t none)
/-- .. and taken up again. -/
def unmaskS : List Nat → St → St → St
  | [], _, σ' => σ'
  | t :: L, σ, σ' => match σ[t]? with
    | some (some (.row e ls)) => (unmaskS L (σ.set t none) σ').set t (some (.row e ls))
    | _ => (unmaskS L (σ.set t none) σ').set t none
theorem maskS_len : ∀ (L : List Nat) (σ : St), (maskS L σ).length = σ.length
  | [], σ => rfl
  | t :: L, σ => by rw [maskS, maskS_len L]; simp
theorem unmaskS_len : ∀ (L : List Nat) (σ σ' : St), (unmaskS L σ σ').length = σ'.length
  | [], σ, σ' => rfl
  | t :: L, σ, σ' => by
    rw [unmaskS]
    split <;> simp [unmaskS_len L]
theorem Match.mask {M : View} : ∀ (L : List Nat) {σ : St}, Match M σ → Match M (maskS L σ)
  | [], σ, h => h
  | t :: L, σ, h => Match.mask L (h.forget t)
theorem mask_at : ∀ (L : List Nat) {σ : St} {t : Nat} {ob : Ob}, (maskS L σ).at t ob → t ∉ L ∧ σ.at t ob
  | [], σ, t, ob, h => ⟨by simp, h⟩
  | s :: L, σ, t, ob, h => by
    obtain ⟨h1, h2⟩ := mask_at L (σ := σ.set s none) h
    obtain ⟨h3, h4⟩ := St.at_forget h2
    exact ⟨by simp [h3, h1], h4⟩
theorem restore_none {M M' : View} {σ τ : St} {t : Nat} (hE : Ext M (σ.set t none) M' τ) (hM' : Match M' τ) : Ext M σ M' (τ.set t none) ∧ Match M' (τ.set t none) := by
  refine ⟨⟨hE.mu, hE.own, hE.imm, hE.cell, fun b hb hn => hE.keep b hb fun s ob hs => hn s ob (St.at_forget hs).2, fun s ob b hs hb => ?_, hE.size, hE.os, hE.tape, hE.output⟩, hM'.forget t⟩
  rcases hE.new s ob b (St.at_forget hs).2 hb with h | ⟨t0, ob0, h1, h2⟩
  · exact .inl h
  · exact .inr ⟨t0, ob0, (St.at_forget h1).2, h2⟩
theorem restore_row {M M' : View} {σ τ : St} {t e : Nat} {ls : List (List AV)} (hM : Match M σ) (ht : σ.at t (.row e ls)) (hE : Ext M (σ.set t none) M' τ) (hM' : Match M' τ) : Ext M σ M' (τ.set t (some (.row e ls))) ∧ Match M' (τ.set t (some (.row e ls))) := by
  obtain ⟨h0, b, cur, T, hb, hh, hI, hr⟩ := hM.obj t _ ht
  obtain ⟨hb', h0'⟩ := hE.mu t b hb h0
  have hbs := hM.lt t b hb
  obtain ⟨hk1, hk2⟩ := hE.keep b hbs fun s ob hs e => (St.at_forget hs).1 (hM.inj s t _ _ b (St.at_forget hs).2 ht e hb)
  have htl : t < τ.length := by
    rcases Nat.lt_or_ge t τ.length with h | h
    · exact h
    · rw [(hM'.fresh t h).1] at hb'; simp at hb'
  have hat : ∀ s ob, St.at (τ.set t (some (.row e ls))) s ob → (s = t ∧ ob = .row e ls) ∨ (s ≠ t ∧ τ.at s ob) := fun s ob hs => by
    unfold St.at at hs
    rw [List.getElem?_set] at hs
    split at hs
    · rename_i e; subst e; simp [htl] at hs; exact .inl ⟨rfl, hs.symm⟩
    · rename_i hne; exact .inr ⟨fun e => hne e.symm, hs⟩
  have hno : ∀ s ob, s ≠ t → τ.at s ob → M'.mu s ≠ some b := fun s ob hs h1 h2 => by
    rcases hE.new s ob b h1 h2 with h | ⟨t0, ob0, h3, h4⟩
    · omega
    · exact (St.at_forget h3).1 (hM.inj t0 t _ _ b (St.at_forget h3).2 ht h4 hb)
  refine ⟨⟨hE.mu, hE.own, hE.imm, hE.cell, fun b hb hn => hE.keep b hb fun s ob hs => hn s ob (St.at_forget hs).2, fun s ob c hs hc => ?_, hE.size, hE.os, hE.tape, hE.output⟩, ⟨fun s ob hs => ?_, fun s s' ob ob' c hs hs' hc hc' => ?_, fun s hs => hM'.fresh s (by simpa using hs), hM'.lt, hM'.imm⟩⟩
  · rcases hat s ob hs with ⟨rfl, rfl⟩ | ⟨h1, h2⟩
    · rw [hb'] at hc; simp at hc; subst hc; exact .inr ⟨s, _, ht, hb⟩
    · rcases hE.new s ob c h2 hc with h | ⟨t0, ob0, h3, h4⟩
      · exact .inl h
      · exact .inr ⟨t0, ob0, (St.at_forget h3).2, h4⟩
  · rcases hat s ob hs with ⟨rfl, rfl⟩ | ⟨h1, h2⟩
    · exact ⟨h0', b, cur, T, hb', hk1.trans hh, fun o ho => hI o (hk2 o ho), hr.later hE.later⟩
    · exact hM'.obj s ob h2
  · rcases hat s ob hs with ⟨rfl, rfl⟩ | ⟨h1, h2⟩ <;> rcases hat s' ob' hs' with ⟨rfl, rfl⟩ | ⟨h3, h4⟩
    · rfl
    · rw [hb'] at hc; simp at hc; subst hc; exact (hno s' _ h3 h4 hc').elim
    · rw [hb'] at hc'; simp at hc'; subst hc'; exact (hno s _ h1 h2 hc).elim
    · exact hM'.inj s s' _ _ c h2 h4 hc hc'
theorem unmask_sound {M M' : View} {σ' : St} : ∀ (L : List Nat) {σ : St}, Match M σ → Ext M (maskS L σ) M' σ' → Match M' σ' → Ext M σ M' (unmaskS L σ σ') ∧ Match M' (unmaskS L σ σ')
  | [], σ, hM, hE, hM' => ⟨hE, hM'⟩
  | t :: L, σ, hM, hE, hM' => by
    obtain ⟨h1, h2⟩ := unmask_sound L (σ := σ.set t none) (hM.forget t) hE hM'
    rw [unmaskS]
    split
    · rename_i e ls hσ; exact restore_row hM hσ h1 h2
    · exact restore_none h1 h2
/-- A variable that was put aside is as it was. -/
theorem unmask_at {σ' : St} : ∀ (L : List Nat) {σ : St} {t e : Nat} {ls : List (List AV)}, t ∈ L → σ.at t (.row e ls) → t < σ'.length → (unmaskS L σ σ').at t (.row e ls)
  | [], σ, t, e, ls, h, _, _ => by simp at h
  | s :: L, σ, t, e, ls, h, ht, hl => by
    rw [unmaskS]
    by_cases hst : s = t
    · subst hst
      have ht' : σ[s]? = some (some (.row e ls)) := ht
      rw [ht']
      simp only [St.at]
      rw [List.getElem?_set, if_pos rfl, if_pos (by rw [unmaskS_len]; exact hl)]
    · have h1 : t ∈ L := by
        rcases List.mem_cons.1 h with h | h
        · exact (hst h.symm).elim
        · exact h
      have h2 := unmask_at (σ' := σ') L (σ := σ.set s none) h1 (by unfold St.at; rw [List.getElem?_set, if_neg hst]; exact ht) hl
      split
      · unfold St.at at *; rw [List.getElem?_set, if_neg hst]; exact h2
      · unfold St.at at *; rw [List.getElem?_set, if_neg hst]; exact h2
/-- A call that does not touch some variables. -/
theorem ACalls.frame {P : Program} {f : FuncId} {args : List AV} {σ : St} {R : AV → St → Prop} (L : List Nat) (h : ACalls P f args (maskS L σ) R) : ACalls P f args σ fun r σ' => ∃ σ1, R r σ1 ∧ σ' = unmaskS L σ σ1 :=
  ⟨h.1, fun M vs hM hv => (h.2 M vs (hM.mask L) hv).mono fun e w' ⟨v, r, s, M', h1, h2, h3, h4, h5, h6, h7⟩ => by
    obtain ⟨g1, g2⟩ := unmask_sound L hM h3 h4
    exact ⟨v, r, unmaskS L σ s, M', h1, h2, g1, g2, h5, by rw [unmaskS_len]; rw [maskS_len] at h6; exact h6, s, h7, rfl⟩⟩

/-- The order in which a region that draws is gone through: what only reads or computes first; of the others one may come up, or two. -/
inductive Plan where
  | done
  | det (i : Nat) (p : Plan)
  | act (i : Nat) (p : Plan)
  | two (i : Nat) (p : Plan) (j : Nat) (q : Plan)
def planLen : Plan → Nat
  | .done => 0
  | .det _ p => planLen p + 1
  | .act _ p => planLen p + 1
  | .two _ p _ q => max (planLen p) (planLen q) + 1
def isLoad : Op → Bool
  | .load .. => true
  | _ => false
def planOk (C : Ctx) (ops : Array Oper) : Plan → Array Bool → Bool
  | .done, listed => (Region.ready .any ops listed).isEmpty
  | .det i p, listed => (Region.ready .any ops listed).contains i && Region.free .any ops listed i && ((ops[i]?).any fun o => stillOp C o.op || isLoad o.op) && planOk C ops p (listed.setIfInBounds i true)
  | .act i p, listed => Region.ready .any ops listed == [i] && planOk C ops p (listed.setIfInBounds i true)
  | .two i p j q, listed => Region.ready .any ops listed == [i, j] && planOk C ops p (listed.setIfInBounds i true) && planOk C ops q (listed.setIfInBounds j true)
/-- The variable behind a pointer. -/
def tokOf : AV → List Nat
  | .mp t _ _ _ => [t]
  | _ => []
def loadOf : Op → Option (TypeId × Operand)
  | .load T x => some (T, x)
  | _ => none
def loadT (C : Ctx) (T : TypeId) (a : AV) (σ : St) : Option AV := match C.ty T with
  | some ti => loadA ti a σ
  | none => none
/-- What only reads or computes. -/
def aDet (C : Ctx) (o : Oper) (L : List Nat) (fr : List AV) (σ : St) (K : List Nat → AV → Prop) : Prop := match loadOf o.op with
  | some (T, x) => (match loadT C T (evA fr x) σ with
    | some v => K (tokOf (evA fr x) ++ L) v
    | none => False)
  | none => (match aop C σ.length o.op (evA fr) σ with
    | some (r, s) => s = σ ∧ K L r
    | none => False)
def aPl (P : Program) (C : Ctx) (ops : Array Oper) : Plan → List Nat → List AV → St → (List AV → St → Prop) → Prop
  | .done, L, fr, σ, K => K fr σ
  | .det i p, L, fr, σ, K => match ops[i]? with
    | none => False
    | some o => ifWanted ops o fr (aDet C o L fr σ fun L' r => aPl P C ops p L' (setA fr o.dst r) σ K) (aPl P C ops p L (setA fr o.dst (.tup [])) σ K)
  | .act i p, L, fr, σ, K => match ops[i]? with
    | none => False
    | some o => ifWanted ops o fr (aStep P C o fr (maskS L σ) fun r σ' => aPl P C ops p L (setA fr o.dst r) (unmaskS L σ σ') K) (aPl P C ops p L (setA fr o.dst (.tup [])) σ K)
  | .two i p j q, L, fr, σ, K => (match ops[i]? with
    | none => False
    | some o => ifWanted ops o fr (aStep P C o fr (maskS L σ) fun r σ' => aPl P C ops p L (setA fr o.dst r) (unmaskS L σ σ') K) (aPl P C ops p L (setA fr o.dst (.tup [])) σ K)) ∧
    (match ops[j]? with
    | none => False
    | some o => ifWanted ops o fr (aStep P C o fr (maskS L σ) fun r σ' => aPl P C ops q L (setA fr o.dst r) (unmaskS L σ σ') K) (aPl P C ops q L (setA fr o.dst (.tup [])) σ K))
def aDraw (P : Program) (C : Ctx) (ops : Array Oper) (fr : List AV) (σ : St) (K : List AV → St → Prop) : Prop :=
  ∃ pl, planLen pl ≤ ops.size ∧ Region.noSelect ops = true ∧ planOk C ops pl (Array.replicate ops.size false) = true ∧ aPl P C ops pl [] fr σ K

/-- Cells that are looked at. -/
def Facts (F : List (Nat × Nat × List Value)) (w : World) : Prop := ∀ q ∈ F, w.rangeAt q.1 q.2.1 q.2.2
def Safe (M : View) (σ : St) (L : List Nat) (q : Nat × Nat × List Value) : Prop :=
  (∀ j, j < q.2.2.length → M.I q.1 (q.2.1 + j)) ∨ ∃ t e ls, t ∈ L ∧ σ.at t (.row e ls) ∧ M.mu t = some q.1

section
variable {P : Program} {C : Ctx} {ops : Array Oper} {Q : Exit → Act → World → Prop}
theorem wpAnyH_mono {S S' : World → Prop} (hS : ∀ w, S' w → S w) : ∀ (fuel : Nat) (listed : Array Bool) (a : Act) (w : World), wpAnyH P .any ops Q S' fuel listed a w → wpAnyH P .any ops Q S fuel listed a w
  | 0, _, _, _, h => h
  | fuel + 1, _, _, _, h => ⟨h.1, fun i hi => wpOp_mono (fun a' w' h' => ⟨hS _ h'.1, wpAnyH_mono hS fuel _ a' w' h'.2⟩) (h.2 i hi)⟩

/-- A load that yields the same wherever the cells are as they are. -/
theorem load_held {M : View} {σ : St} {a : Act} {fr : List AV} {o : Oper} {T : TypeId} {x : Operand} {ti : TI} {v : AV} (hop : o.op = .load T x) (hM : Match M σ) (hF : FRep M a fr) (hC : TyOk P T ti) (h : loadA ti (evA fr x) σ = some v) :
    ∃ u q, ARep M v u ∧ M.w.rangeAt q.1 q.2.1 q.2.2 ∧ Safe M σ (tokOf (evA fr x)) q ∧ ∀ w : World, w.rangeAt q.1 q.2.1 q.2.2 → (execOp a.eval o).run P w = .ok (.value u) w := by
  have hx := hF.ev x
  have conv : ∀ (w : World) u, (Instr.loadAt T (a.eval x)).run P w = .ok u w → (execOp a.eval o).run P w = .ok (.value u) w := fun w u hr => by
    unfold execOp
    simp [hop, hr]
  unfold loadA at h
  split at h
  · rename_i t e i o' hev
    rw [hev] at hx
    simp only [ARep] at hx
    obtain ⟨b, hb, hbl, hx⟩ := hx
    split at h
    · rename_i e' ls hσ
      split at h
      · rename_i he; subst he
        split at h
        · rename_i c hc
          obtain ⟨_, b', cur, T', hb', hh, hI, hr⟩ := hM.obj t _ hσ
          have : b' = b := by rw [hb] at hb'; simpa using hb'.symm
          subst this
          obtain ⟨us, h1, h2, h3⟩ := rangeAt_row hh hr hc
          obtain ⟨u, h4, h5⟩ := load_all hC h2 h1 h
          exact ⟨u, (b', i * e', us), h4, h3, .inr ⟨t, e', ls, by simp [hev, tokOf], hσ, hb⟩, fun w hw => conv w u (by rw [hx]; exact h5 w b' (i * e') hw)⟩
        · simp at h
      · simp at h
    · simp at h
  · rename_i c o' hev
    rw [hev] at hx
    simp only [ARep] at hx
    obtain ⟨b, off, hx, hc⟩ := hx
    obtain ⟨us, h1, h2, h3⟩ := rangeAt_imm hc
    obtain ⟨u, h4, h5⟩ := load_all hC h2 h1 h
    refine ⟨u, (b, off, us), h4, h3, .inl fun j hj => ?_, fun w hw => conv w u (by rw [hx]; exact h5 w b off hw)⟩
    have hlen := h1.len
    simp only [List.length_map] at hlen
    obtain ⟨_, _, h6, _⟩ := hc.get (List.getElem?_eq_getElem (show j < c.length by simp only at hj; omega))
    exact h6
  · simp at h

theorem still_held {M : View} {σ : St} {a : Act} {fr : List AV} {o : Oper} {r : AV} {σ' : St} {tk : Nat} (hC : C.ok P) (hF : FRep M a fr) (hs : stillOp C o.op = true) (h : aop C tk o.op (evA fr) σ = some (r, σ')) : ∃ u, ARep M r u ∧ ∀ w : World, (execOp a.eval o).run P w = .ok (.value u) w := by
  obtain ⟨_, v, h1, h2⟩ := aop_still hC hF hs h
  exact ⟨v, h2, h1⟩

theorem Safe.next {M M' : View} {σ σ' : St} {L : List Nat} {q : Nat × Nat × List Value} (h : Safe M σ L q) (hM : Match M σ) (hM' : Match M' σ') (hE : Ext M (maskS L σ) M' σ') (hr : M.w.rangeAt q.1 q.2.1 q.2.2) : Safe M' (unmaskS L σ σ') L q ∧ M'.w.rangeAt q.1 q.2.1 q.2.2 := by
  rcases h with h | ⟨t, e, ls, ht, hσ, hb⟩
  · refine ⟨.inl fun j hj => hE.imm _ _ (h j hj), fun j v hj => ?_⟩
    rw [hE.cell _ _ (h j (List.getElem?_eq_some_iff.1 hj).1)]
    exact hr j v hj
  · obtain ⟨h0, _⟩ := hM.obj t _ hσ
    obtain ⟨hb', h0'⟩ := hE.mu t _ hb h0
    have htl : t < σ'.length := by
      rcases Nat.lt_or_ge t σ'.length with h | h
      · exact h
      · rw [(hM'.fresh t h).1] at hb'; simp at hb'
    refine ⟨.inr ⟨t, e, ls, ht, unmask_at L ht hσ htl, hb'⟩, fun j v hj => ?_⟩
    have hk := (hE.keep q.1 (hM.lt t _ hb) fun s ob hs e => (mask_at L hs).1 (by
      have := hM.inj s t _ _ q.1 (mask_at L hs).2 hσ e hb
      rw [this]; exact ht)).1
    rw [World.cell?_of_block (a := ⟨q.1, q.2.1 + j, none⟩) hk]
    exact hr j v hj
theorem Safe.more {M : View} {σ : St} {L L' : List Nat} {q : Nat × Nat × List Value} (h : Safe M σ L q) (hL : ∀ t, t ∈ L → t ∈ L') : Safe M σ L' q :=
  h.imp id fun ⟨t, e, ls, h1, h2, h3⟩ => ⟨t, e, ls, hL t h1, h2, h3⟩

/-- One that may come up, and changes things. -/
theorem act_step {K : List AV → St → Prop} {M : View} {σ : St} {a : Act} {fr : List AV} {L : List Nat} {F : List (Nat × Nat × List Value)} {i : Nat} {pl : Plan} {fuel : Nat} {listed : Array Bool} (hC : C.ok P) (hM : Match M σ) (hF : FRep M a fr) (hfa : Facts F M.w) (hsf : ∀ q ∈ F, Safe M σ L q)
    (ih : ∀ (M' : View) (σ' : St) (a' : Act) (fr' : List AV), Ext M σ M' σ' → σ.length ≤ σ'.length → Match M' σ' → FRep M' a' fr' → Facts F M'.w → (∀ q ∈ F, Safe M' σ' L q) → aPl P C ops pl L fr' σ' K → wpAnyH P .any ops (NoPanic Q) (Facts F) fuel (listed.setIfInBounds i true) a' M'.w)
    (h : match ops[i]? with
    | none => False
    | some o => ifWanted ops o fr (aStep P C o fr (maskS L σ) fun r σ' => aPl P C ops pl L (setA fr o.dst r) (unmaskS L σ σ') K) (aPl P C ops pl L (setA fr o.dst (.tup [])) σ K)) :
    wpOp P ops (NoPanic Q) i (fun a' w' => Facts F w' ∧ wpAnyH P .any ops (NoPanic Q) (Facts F) fuel (listed.setIfInBounds i true) a' w') a M.w := by
  unfold wpOp
  split at h
  · exact h.elim
  · rename_i o ho
    simp only [ho]
    rcases wanted_rep hF h with ⟨hw, h⟩ | ⟨hw, h⟩
    · rw [if_pos hw]
      refine .inl (aStep_wp hC (hM.mask L) hF h fun v r σ' M' h1 h2 h3 hlen h4 => ?_)
      obtain ⟨g1, g2⟩ := unmask_sound L hM h1 h2
      have hn : ∀ q ∈ F, Safe M' (unmaskS L σ σ') L q ∧ M'.w.rangeAt q.1 q.2.1 q.2.2 := fun q hq => (hsf q hq).next hM h2 h1 (hfa q hq)
      have hfa' : Facts F M'.w := fun q hq => (hn q hq).2
      exact ⟨hfa', ih M' _ _ _ g1 (by rw [unmaskS_len]; rw [maskS_len] at hlen; exact hlen) g2 (setA_rep (hF.later h1.later) h3 o.dst) hfa' (fun q hq => (hn q hq).1) h4⟩
    · rw [if_neg (by simp [hw])]
      exact ⟨hfa, ih M σ _ _ (Ext.refl M σ) (Nat.le_refl _) hM (setA_rep hF undef_rep o.dst) hfa hsf h⟩

theorem aPl_sound {K : List AV → St → Prop} (hC : C.ok P) (hns : Region.noSelect ops = true) : ∀ (pl : Plan) (fuel : Nat) (listed : Array Bool) (L : List Nat) (a : Act) (fr : List AV) (M : View) (σ : St) (F : List (Nat × Nat × List Value)), planLen pl ≤ fuel → planOk C ops pl listed = true → Match M σ → FRep M a fr →
    Facts F M.w → (∀ q ∈ F, Safe M σ L q) → aPl P C ops pl L fr σ K → (∀ M' a' fr' σ', Ext M σ M' σ' → Match M' σ' → FRep M' a' fr' → σ.length ≤ σ'.length → K fr' σ' → Q .normal a' M'.w) → wpAnyH P .any ops (NoPanic Q) (Facts F) fuel listed a M.w
  | .done, fuel, listed, L, a, fr, M, σ, F, hl, hok, hM, hF, hfa, hsf, h, hQ =>
    wpAnyH_done (Q := NoPanic Q) (by simpa [planOk] using hok) (NoPanic.normal (hQ M a fr σ (Ext.refl M σ) hM hF (Nat.le_refl _) h)) fuel
  | .det i p, 0, listed, L, a, fr, M, σ, F, hl, hok, hM, hF, hfa, hsf, h, hQ => by simp [planLen] at hl
  | .act i p, 0, listed, L, a, fr, M, σ, F, hl, hok, hM, hF, hfa, hsf, h, hQ => by simp [planLen] at hl
  | .two i p j q, 0, listed, L, a, fr, M, σ, F, hl, hok, hM, hF, hfa, hsf, h, hQ => by simp [planLen] at hl
  | .det i p, fuel + 1, listed, L, a, fr, M, σ, F, hl, hok, hM, hF, hfa, hsf, h, hQ => by
    simp only [planLen] at hl
    simp only [planOk, Bool.and_eq_true] at hok
    obtain ⟨⟨⟨hr, hf⟩, hst⟩, hok⟩ := hok
    simp only [aPl] at h
    split at h
    · exact h.elim
    · rename_i o ho
      simp only [ho, Option.any_some, Bool.or_eq_true] at hst
      rcases wanted_rep hF h with ⟨hw, h⟩ | ⟨hw, h⟩
      · unfold aDet at h
        split at h
        · rename_i T x hlo
          have hop : o.op = .load T x := by
            unfold loadOf at hlo
            split at hlo
            · rename_i hop; simp at hlo; obtain ⟨rfl, rfl⟩ := hlo; exact hop
            · simp at hlo
          split at h
          case h_2 => exact h.elim
          rename_i v hvt
          obtain ⟨ti, hti, hv⟩ : ∃ ti, C.ty T = some ti ∧ loadA ti (evA fr x) σ = some v := by
            unfold loadT at hvt
            split at hvt
            · rename_i ti hti; exact ⟨ti, hti, hvt⟩
            · simp at hvt
          obtain ⟨u, q, h1, h2, h3, h4⟩ := load_held (P := P) hop hM hF (hC T ti hti) hv
          have hfa' : Facts (q :: F) M.w := fun q' hq' => by
            rcases List.mem_cons.1 hq' with rfl | hq'
            · exact h2
            · exact hfa q' hq'
          refine wpAnyH_mono (S' := Facts (q :: F)) (fun w hw q' hq' => hw q' (by simp [hq'])) _ _ _ _ ?_
          refine wpAnyH_take ho hns hf hr (fun _ _ _ h => h) (v := u) (.inl ⟨hw, fun w hS => h4 w (hS q (by simp))⟩) hfa' ?_
          refine aPl_sound hC hns p fuel _ _ _ _ M σ (q :: F) (by omega) hok hM (setA_rep hF h1 o.dst) hfa' (fun q' hq' => ?_) h hQ
          rcases List.mem_cons.1 hq' with rfl | hq'
          · exact h3.more fun t ht => by simp [ht]
          · exact (hsf q' hq').more fun t ht => by simp [ht]
        · rename_i hlo
          split at h
          case h_2 => exact h.elim
          rename_i r s hr'
          obtain ⟨hsσ, h⟩ := h
          rw [hsσ] at hr'
          have hstill : stillOp C o.op = true := by
            rcases hst with h | h
            · exact h
            · cases hop : o.op <;> simp_all [isLoad, loadOf]
          obtain ⟨u, h1, h2⟩ := still_held (P := P) hC hF hstill hr'
          refine wpAnyH_take ho hns hf hr (fun _ _ _ h => h) (v := u) (.inl ⟨hw, fun w _ => h2 w⟩) hfa ?_
          exact aPl_sound hC hns p fuel _ _ _ _ M σ F (by omega) hok hM (setA_rep hF h1 o.dst) hfa hsf h hQ
      · refine wpAnyH_take ho hns hf hr (fun _ _ _ h => h) (v := undef) (.inr ⟨hw, rfl⟩) hfa ?_
        exact aPl_sound hC hns p fuel _ _ _ _ M σ F (by omega) hok hM (setA_rep hF undef_rep o.dst) hfa hsf h hQ
  | .act i p, fuel + 1, listed, L, a, fr, M, σ, F, hl, hok, hM, hF, hfa, hsf, h, hQ => by
    simp only [planLen] at hl
    simp only [planOk, Bool.and_eq_true, beq_iff_eq] at hok
    refine wpAnyH_all hok.1 (by simp) fun j hj => ?_
    simp at hj; subst hj
    exact act_step hC hM hF hfa hsf (fun M' σ' a' fr' g1 gl g2 g3 g4 g5 g6 => aPl_sound hC hns p fuel _ _ _ _ M' σ' F (by omega) hok.2 g2 g3 g4 g5 g6 fun M'' a'' fr'' σ'' k1 k2 k3 k4 k5 => hQ M'' a'' fr'' σ'' (g1.trans k1) k2 k3 (Nat.le_trans gl k4) k5) h
  | .two i p j q, fuel + 1, listed, L, a, fr, M, σ, F, hl, hok, hM, hF, hfa, hsf, h, hQ => by
    simp only [planLen] at hl
    simp only [planOk, Bool.and_eq_true, beq_iff_eq] at hok
    refine wpAnyH_all hok.1.1 (by simp) fun k hk => ?_
    simp at hk
    rcases hk with rfl | rfl
    · exact act_step hC hM hF hfa hsf (fun M' σ' a' fr' g1 gl g2 g3 g4 g5 g6 => aPl_sound hC hns p fuel _ _ _ _ M' σ' F (by omega) hok.1.2 g2 g3 g4 g5 g6 fun M'' a'' fr'' σ'' k1 k2 k3 k4 k5 => hQ M'' a'' fr'' σ'' (g1.trans k1) k2 k3 (Nat.le_trans gl k4) k5) h.1
    · exact act_step hC hM hF hfa hsf (fun M' σ' a' fr' g1 gl g2 g3 g4 g5 g6 => aPl_sound hC hns q fuel _ _ _ _ M' σ' F (by omega) hok.2 g2 g3 g4 g5 g6 fun M'' a'' fr'' σ'' k1 k2 k3 k4 k5 => hQ M'' a'' fr'' σ'' (g1.trans k1) k2 k3 (Nat.le_trans gl k4) k5) h.2

theorem aDraw_ok (hC : C.ok P) (hm : P.follows .mixedOrders = true) : DrawOk P (aDraw P C) := by
  intro id ops fr σ K M a Q h hM hF hQ
  obtain ⟨pl, h1, h2, h3, h4⟩ := h
  refine wp_mono (Q := NoPanic Q) ?_ NoPanic.imp
  refine wp_region_held (S := Facts []) hm ?_
  exact aPl_sound (Q := Q) hC h2 pl ops.size _ [] a fr M.drew σ [] h1 h3 hM.drew (hF.later (Later.drew M)) (fun q hq => by simp at hq) (fun q hq => by simp at hq) h4 fun M' a' fr' σ' k1 k2 k3 k4 k5 => hQ M' a' fr' σ' ((Ext.drew M σ).trans k1) k2 k3 k4 k5
end
end Go.Proofs.Ytpfnpinblbfjdaa
