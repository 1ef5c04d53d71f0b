/- A contract at a small state, used at a great one: the objects get other numbers. Answers that hold rows with a right to append, given as data. Expressions as trees, and their cells. The reference's lexer on the abstract machine: it ends, and answers tokens. The reference's lexer, on: numbers. The reference's lexer, on: signs, quoted texts. The reference's lexer, on: words. -/
import Derived.Test.YtcnkmandddfdmaaM07
import Derived.Test.YtcnkmandddfdmaaM08
set_option linter.unusedSimpArgs false
set_option linter.unusedVariables false
namespace Go.Proofs.Ytcnkmandddfdmaa
open Go.RowKit

mutual
def renA (g : Nat → Nat) : AV → AV
  | .any => .any
  | .p x => .p x
  | .own t e ls => .own (g t) e ls
  | .nown t e ls => .nown (g t) e ls
  | .ip c o => .ip c o
  | .mp t e i o => .mp (g t) e i o
  | .ms t e i n => .ms (g t) e i n
  | .fn f us vs => .fn f (renL g us) (renL g vs)
  | .agg l => .agg (renL g l)
  | .tup l => .tup (renL g l)
def renL (g : Nat → Nat) : List AV → List AV
  | [] => []
  | a :: l => renA g a :: renL g l
end
def renOb (g : Nat → Nat) : Ob → Ob
  | .row e ls => .row e (ls.map (renL g))
  | .right E n => .right E n
  | .nright E n => .nright E n
def tokOb (n : Nat) : Ob → Bool
  | .row _ ls => ls.all (tokLtL n)
  | _ => true
theorem renL_get (g : Nat → Nat) : ∀ (l : List AV) (i : Nat), (renL g l)[i]? = l[i]?.map (renA g)
  | [], i => by simp [renL]
  | a :: l, 0 => by simp [renL]
  | a :: l, i + 1 => by simpa [renL] using renL_get g l i
theorem renL_len (g : Nat → Nat) : ∀ l : List AV, (renL g l).length = l.length
  | [] => rfl
  | a :: l => by simp [renL, renL_len g l]
theorem leaf_ren (g : Nat → Nat) (a : AV) : leaf (renA g a) = leaf a := by cases a <;> rfl
theorem leaf_renL (g : Nat → Nat) : ∀ l : List AV, (renL g l).all leaf = l.all leaf
  | [] => rfl
  | a :: l => by simp [renL, leaf_ren, leaf_renL g l]
theorem tokLtL_get {n : Nat} : ∀ {l : List AV} {i : Nat} {a : AV}, tokLtL n l = true → l[i]? = some a → tokLt n a = true
  | [], i, a, _, h => by simp at h
  | b :: l, 0, a, ht, h => by simp at h; subst h; simp only [tokLtL, Bool.and_eq_true] at ht; exact ht.1
  | b :: l, i + 1, a, ht, h => by simp only [tokLtL, Bool.and_eq_true] at ht; exact tokLtL_get ht.2 (by simpa using h)

/-- One view sees the first n objects of the other one under other numbers. -/
structure Ren (g : Nat → Nat) (n : Nat) (M0 M : View) : Prop where
  w : M.w = M0.w
  I : M.I = M0.I
  mu : ∀ t, t < n → M.mu (g t) = M0.mu t
  len : ∀ t, t < n → M.len (g t) = M0.len t
  cap : ∀ t, t < n → M.cap (g t) = M0.cap t
section
variable {g : Nat → Nat} {n : Nat} {M0 M : View}
mutual
theorem ARep.ren (h : Ren g n M0 M) : ∀ (a : AV) (u : Value), tokLt n a = true → (ARep M (renA g a) u ↔ ARep M0 a u)
  | .any, u, ht => by simp [ARep, renA]
  | .p x, u, ht => by simp only [renA, ARep]; rw [h.w, h.I]
  | .own t e ls, u, ht => by
    simp only [tokLt, decide_eq_true_eq] at ht
    simp only [renA, ARep]
    rw [h.w, h.I, h.mu t ht, h.len t ht, h.cap t ht]
  | .nown t e ls, u, ht => by
    simp only [tokLt, decide_eq_true_eq] at ht
    simp only [renA, ARep]
    rw [h.w, h.I, h.mu t ht, h.len t ht, h.cap t ht]
  | .ip c o, u, ht => by simp only [renA, ARep]; rw [h.w, h.I]
  | .mp t e i o, u, ht => by
    simp only [tokLt, decide_eq_true_eq] at ht
    simp only [renA, ARep]
    rw [h.mu t ht, h.len t ht]
  | .ms t e i m, u, ht => by
    simp only [tokLt, decide_eq_true_eq] at ht
    simp only [renA, ARep]
    rw [h.mu t ht, h.len t ht]
  | .fn f us vs, u, ht => by
    simp only [tokLt, Bool.and_eq_true] at ht
    simp only [renA, ARep]
    constructor
    · rintro ⟨a, b, h1, h2, h3⟩; exact ⟨a, b, h1, (ARepL.ren h us a ht.1).1 h2, (ARepL.ren h vs b ht.2).1 h3⟩
    · rintro ⟨a, b, h1, h2, h3⟩; exact ⟨a, b, h1, (ARepL.ren h us a ht.1).2 h2, (ARepL.ren h vs b ht.2).2 h3⟩
  | .agg l, u, ht => by
    simp only [tokLt] at ht
    simp only [renA, ARep, leaf_renL]
    constructor
    · rintro ⟨h0, a, h1, h2⟩; exact ⟨h0, a, h1, (ARepL.ren h l a ht).1 h2⟩
    · rintro ⟨h0, a, h1, h2⟩; exact ⟨h0, a, h1, (ARepL.ren h l a ht).2 h2⟩
  | .tup l, u, ht => by
    simp only [tokLt] at ht
    simp only [renA, ARep]
    constructor
    · rintro ⟨a, h1, h2⟩; exact ⟨a, h1, (ARepL.ren h l a ht).1 h2⟩
    · rintro ⟨a, h1, h2⟩; exact ⟨a, h1, (ARepL.ren h l a ht).2 h2⟩
theorem ARepL.ren (h : Ren g n M0 M) : ∀ (l : List AV) (us : List Value), tokLtL n l = true → (ARepL M (renL g l) us ↔ ARepL M0 l us)
  | [], us, ht => by simp [ARepL, renL]
  | a :: l, us, ht => by
    simp only [tokLtL, Bool.and_eq_true] at ht
    simp only [renL, ARepL]
    constructor
    · rintro ⟨u, us', h1, h2, h3⟩; exact ⟨u, us', h1, (ARep.ren h a u ht.1).1 h2, (ARepL.ren h l us' ht.2).1 h3⟩
    · rintro ⟨u, us', h1, h2, h3⟩; exact ⟨u, us', h1, (ARep.ren h a u ht.1).2 h2, (ARepL.ren h l us' ht.2).2 h3⟩
end
theorem RowRep.ren (h : Ren g n M0 M) {cur : Array Value} {e : Nat} {ls : List (List AV)} (ht : ls.all (tokLtL n) = true) : RowRep M cur e (ls.map (renL g)) ↔ RowRep M0 cur e ls := by
  have htc : ∀ i c, ls[i]? = some c → tokLtL n c = true := fun i c hc => List.all_eq_true.1 ht c (List.mem_of_getElem? hc)
  constructor
  · intro hr i c hc
    obtain ⟨h1, h2⟩ := hr i (renL g c) (by simp [hc])
    refine ⟨by rw [renL_len] at h1; exact h1, fun j a ha => ?_⟩
    obtain ⟨h3, u, h4, h5⟩ := h2 j (renA g a) (by rw [renL_get, ha]; rfl)
    exact ⟨by rw [leaf_ren] at h3; exact h3, u, h4, (ARep.ren h a u (tokLtL_get (htc i c hc) ha)).1 h5⟩
  · intro hr i c hc
    rw [List.getElem?_map] at hc
    cases hi : ls[i]? with
    | none => rw [hi] at hc; simp at hc
    | some c0 =>
      rw [hi] at hc; simp at hc; subst hc
      obtain ⟨h1, h2⟩ := hr i c0 hi
      refine ⟨by rw [renL_len]; exact h1, fun j a ha => ?_⟩
      rw [renL_get] at ha
      cases hj : c0[j]? with
      | none => rw [hj] at ha; simp at ha
      | some a0 =>
        rw [hj] at ha; simp at ha; subst ha
        obtain ⟨h3, u, h4, h5⟩ := h2 j a0 hj
        exact ⟨by rw [leaf_ren]; exact h3, u, h4, (ARep.ren h a0 u (tokLtL_get (htc i c0 hi) hj)).2 h5⟩
theorem ObRep.ren (h : Ren g n M0 M) {t : Nat} (htn : t < n) {ob : Ob} (ht : tokOb n ob = true) : ObRep M (g t) (renOb g ob) ↔ ObRep M0 t ob := by
  cases ob with
  | row e ls =>
    simp only [renOb, ObRep, tokOb] at ht ⊢
    rw [h.len t htn, h.mu t htn, h.w, h.I]
    constructor
    · rintro ⟨h1, b, cur, T, h2, h3, h4, h5⟩; exact ⟨h1, b, cur, T, h2, h3, h4, (RowRep.ren h ht).1 h5⟩
    · rintro ⟨h1, b, cur, T, h2, h3, h4, h5⟩; exact ⟨h1, b, cur, T, h2, h3, h4, (RowRep.ren h ht).2 h5⟩
  | right E m =>
    simp only [renOb, ObRep, OwnRep]
    rw [h.len t htn, h.mu t htn, h.w, h.I, h.cap t htn]
  | nright E m =>
    simp only [renOb, ObRep, OwnRep]
    rw [h.len t htn, h.mu t htn, h.w, h.I, h.cap t htn]
end

/-- A state with some objects turned. -/
def setsS (g : Nat → Nat) : List Nat → St → St → St
  | s :: ts, σ, o :: σ0 => setsS g ts (σ.set s (o.map (renOb g))) σ0
  | _, σ, _ => σ
theorem setsS_len (g : Nat → Nat) : ∀ (ts : List Nat) (σ σ0 : St), (setsS g ts σ σ0).length = σ.length
  | [], σ, σ0 => rfl
  | s :: ts, σ, [] => rfl
  | s :: ts, σ, o :: σ0 => by rw [setsS, setsS_len g ts]; simp
theorem setsS_other (g : Nat → Nat) : ∀ (ts : List Nat) (σ σ0 : St) (s : Nat), s ∉ ts → (setsS g ts σ σ0)[s]? = σ[s]?
  | [], σ, σ0, s, h => rfl
  | s' :: ts, σ, [], s, h => rfl
  | s' :: ts, σ, o :: σ0, s, h => by
    simp only [List.mem_cons, not_or] at h
    rw [setsS, setsS_other g ts _ _ s h.2, List.getElem?_set, if_neg (fun e => h.1 e.symm)]
theorem setsS_get (g : Nat → Nat) : ∀ (ts : List Nat) (σ σ0 : St) (t s : Nat), ts.Nodup → (∀ s ∈ ts, s < σ.length) → ts[t]? = some s → t < σ0.length → (setsS g ts σ σ0)[s]? = σ0[t]?.map (·.map (renOb g))
  | [], σ, σ0, t, s, hn, hl, ht, _ => by simp at ht
  | s' :: ts, σ, [], t, s, hn, hl, ht, h0 => by simp at h0
  | s' :: ts, σ, o :: σ0, 0, s, hn, hl, ht, h0 => by
    simp at ht; subst ht
    rw [List.nodup_cons] at hn
    rw [setsS, setsS_other g ts _ _ s' hn.1, List.getElem?_set, if_pos rfl, if_pos (hl s' (by simp))]
    simp
  | s' :: ts, σ, o :: σ0, t + 1, s, hn, hl, ht, h0 => by
    rw [List.nodup_cons] at hn
    rw [setsS, setsS_get g ts _ σ0 t s hn.2 (fun s hs => by simpa using hl s (by simp [hs])) (by simpa using ht) (by simpa using h0)]
    simp

open Classical in
/-- A contract at a state of n objects, where they have the numbers ts among others. New objects are forgotten. -/
theorem ACalls.at {P : Program} {f : FuncId} {args0 : List AV} {σ0 : St} {R0 : AV → St → Prop} (h0 : ACalls P f args0 σ0 R0) (ts : List Nat) (σ : St) (hn : ts.Nodup) (hl : ts.length = σ0.length)
    (hσ : ∀ t s, ts[t]? = some s → ∃ ob, σ0.at t ob ∧ tokOb σ0.length ob = true ∧ σ.at s (renOb (fun t => ts.getD t 0) ob)) (ha : tokLtL σ0.length args0 = true)
    (hR : ∀ r s, R0 r s → tokLt σ0.length r = true ∧ ∀ t ob, t < σ0.length → s.at t ob → tokOb σ0.length ob = true) :
    ACalls P f (renL (fun t => ts.getD t 0) args0) σ fun r σ' => ∃ r0 σ0', R0 r0 σ0' ∧ r = renA (fun t => ts.getD t 0) r0 ∧ σ' = setsS (fun t => ts.getD t 0) ts σ σ0' := by
  refine ⟨h0.1, fun M vs hM hv => ?_⟩
  generalize hgd : (fun t => ts.getD t 0) = g at *
  generalize hnd : σ0.length = n at *
  have hgt : ∀ t, t < n → ts[t]? = some (g t) := fun t ht => by
    rw [← hgd]
    have : t < ts.length := by omega
    simp [this]
  have hinj : ∀ t t', t < n → t' < n → g t = g t' → t = t' := fun t t' ht ht' e => by
    have h1 := hgt t ht
    have h2 := hgt t' ht'
    rw [e] at h1
    exact (List.getElem?_inj (by omega) hn).1 (h1.trans h2.symm)
  have hob : ∀ t, t < n → ∃ ob, σ0.at t ob ∧ tokOb n ob = true ∧ σ.at (g t) (renOb g ob) := fun t ht => hσ t (g t) (hgt t ht)
  have hat : ∀ t ob, σ0.at t ob → t < n ∧ tokOb n ob = true ∧ σ.at (g t) (renOb g ob) := fun t ob h => by
    have ht : t < n := by rw [← hnd]; exact (List.getElem?_eq_some_iff.1 h).1
    obtain ⟨ob', h1, h2, h3⟩ := hob t ht
    have : ob' = ob := by unfold St.at at h h1; rw [h] at h1; simpa using h1.symm
    subst this
    exact ⟨ht, h2, h3⟩
  have hgl : ∀ t, t < n → g t < σ.length := fun t ht => by
    obtain ⟨ob, _, _, h⟩ := hob t ht
    exact (List.getElem?_eq_some_iff.1 h).1
  let M0 : View := { w := M.w, I := M.I, mu := fun t => if t < n then M.mu (g t) else none, len := fun t => if t < n then M.len (g t) else none, cap := fun t => M.cap (g t) }
  have hren : Ren g n M0 M := ⟨rfl, rfl, fun t ht => by simp [M0, ht], fun t ht => by simp [M0, ht], fun t ht => rfl⟩
  have hmu0 : ∀ t, t < n → M0.mu t = M.mu (g t) := fun t ht => by simp [M0, ht]
  have hM0 : Match M0 σ0 := by
    refine ⟨fun t ob ht => ?_, fun t t' ob ob' b h1 h2 h3 h4 => ?_, fun t ht => ?_, fun t b hb => ?_, hM.imm⟩
    · obtain ⟨h1, h2, h3⟩ := hat t ob ht
      exact (ObRep.ren hren h1 h2).1 (hM.obj _ _ h3)
    · obtain ⟨g1, _, g2⟩ := hat t ob h1
      obtain ⟨g3, _, g4⟩ := hat t' ob' h2
      rw [hmu0 t g1] at h3
      rw [hmu0 t' g3] at h4
      exact hinj t t' g1 g3 (hM.inj _ _ _ _ b g2 g4 h3 h4)
    · have : ¬ t < n := by omega
      simp [M0, this]
    · by_cases ht : t < n
      · rw [hmu0 t ht] at hb; exact hM.lt _ b hb
      · simp [M0, ht] at hb
  refine (h0.2 M0 vs hM0 ((ARepL.ren hren _ _ ha).1 hv)).mono ?_
  rintro e w' ⟨v, r0, σ1, M1, rfl, rfl, hE, hM1, hr, hlen, hR0⟩
  obtain ⟨hrt, hot⟩ := hR r0 σ1 hR0
  have hmem : ∀ s, s ∈ ts ↔ ∃ t, t < n ∧ g t = s := fun s => by
    constructor
    · intro h
      obtain ⟨t, ht⟩ := List.mem_iff_getElem?.1 h
      have htn : t < n := by have := (List.getElem?_eq_some_iff.1 ht).1; omega
      have := hgt t htn
      rw [ht] at this
      exact ⟨t, htn, by simpa using this.symm⟩
    · rintro ⟨t, ht, rfl⟩
      exact List.mem_of_getElem? (hgt t ht)
  let pick : Nat → Nat := fun s => if h : ∃ t, t < n ∧ g t = s then Classical.choose h else 0
  have hpick : ∀ t, t < n → pick (g t) = t := fun t ht => by
    have h : ∃ t', t' < n ∧ g t' = g t := ⟨t, ht, rfl⟩
    have h2 := Classical.choose_spec h
    simp only [pick, h, dif_pos]
    exact hinj _ _ h2.1 ht h2.2
  let M' : View := { w := M1.w, I := M1.I, mu := fun s => if s ∈ ts then M1.mu (pick s) else M.mu s, len := fun s => if s ∈ ts then M1.len (pick s) else M.len s, cap := fun s => if s ∈ ts then M1.cap (pick s) else M.cap s }
  have hin : ∀ t, t < n → g t ∈ ts := fun t ht => (hmem _).2 ⟨t, ht, rfl⟩
  have hren' : Ren g n M1 M' := ⟨rfl, rfl, fun t ht => by simp only [M', hin t ht, if_true, hpick t ht], fun t ht => by simp only [M', hin t ht, if_true, hpick t ht], fun t ht => by simp only [M', hin t ht, if_true, hpick t ht]⟩
  have hmu' : ∀ s, s ∉ ts → M'.mu s = M.mu s ∧ M'.len s = M.len s ∧ M'.cap s = M.cap s := fun s hs => by simp [M', hs]
  have hL : Later M M' := by
    refine ⟨fun s b h1 h2 => ?_, fun s m h1 => ?_, hE.imm, hE.cell⟩
    · by_cases hs : s ∈ ts
      · obtain ⟨t, ht, rfl⟩ := (hmem s).1 hs
        rw [hren'.mu t ht, hren'.len t ht]
        exact hE.mu t b (by rw [hmu0 t ht]; exact h1) (by rw [← hren.len t ht]; exact h2)
      · rw [(hmu' s hs).1, (hmu' s hs).2.1]; exact ⟨h1, h2⟩
    · by_cases hs : s ∈ ts
      · obtain ⟨t, ht, rfl⟩ := (hmem s).1 hs
        obtain ⟨m', h3, h4, h5⟩ := hE.own t m (by rw [← hren.len t ht]; exact h1)
        refine ⟨m', by rw [hren'.len t ht]; exact h3, h4, fun e => ?_⟩
        rw [hren'.mu t ht, hren'.cap t ht, hren.mu t ht, hren.cap t ht]
        exact h5 e
      · exact ⟨m, by rw [(hmu' s hs).2.1]; exact h1, Nat.le_refl _, fun _ => ⟨(hmu' s hs).1, (hmu' s hs).2.2⟩⟩
  have hkeep : ∀ b, b < M.w.heap.size → (∀ t ob, σ0.at t ob → M0.mu t ≠ some b) → M1.w.heap[b]? = M.w.heap[b]? ∧ ∀ o, M1.I b o → M.I b o := fun b hb hk => hE.keep b hb hk
  have hnew : ∀ t ob b, σ1.at t ob → M1.mu t = some b → M.w.heap.size ≤ b ∨ ∃ t0 ob0, σ0.at t0 ob0 ∧ M0.mu t0 = some b := fun t ob b h1 h2 => hE.new t ob b h1 h2
  have hatS : ∀ s ob, (setsS g ts σ σ1).at s ob → (∃ t ob0, t < n ∧ g t = s ∧ σ1.at t ob0 ∧ ob = renOb g ob0) ∨ (s ∉ ts ∧ σ.at s ob) := fun s ob h => by
    by_cases hs : s ∈ ts
    · obtain ⟨t, ht, rfl⟩ := (hmem s).1 hs
      left
      have := setsS_get g ts σ σ1 t (g t) hn (fun s hs => by obtain ⟨t, ht, rfl⟩ := (hmem s).1 hs; exact hgl t ht) (hgt t ht) (by omega)
      unfold St.at at h
      rw [this] at h
      cases h1 : σ1[t]? with
      | none => rw [h1] at h; simp at h
      | some o =>
        rw [h1] at h
        cases o with
        | none => simp at h
        | some ob0 => simp at h; exact ⟨t, ob0, ht, rfl, h1, h.symm⟩
    · right
      unfold St.at at h
      rw [setsS_other g ts σ σ1 s hs] at h
      exact ⟨hs, h⟩
  have hblk : ∀ s ob b, s ∉ ts → σ.at s ob → M.mu s = some b → ∀ t ob, σ0.at t ob → M0.mu t ≠ some b := fun s ob b hs hso hb t ob' ht hb' => by
    obtain ⟨g1, _, g2⟩ := hat t ob' ht
    rw [hmu0 t g1] at hb'
    exact hs ((hmem s).2 ⟨t, g1, hM.inj _ _ _ _ b g2 hso hb' hb⟩)
  refine ⟨v, renA g r0, setsS g ts σ σ1, M', rfl, rfl, ⟨hL.mu, hL.own, hL.imm, hL.cell, fun b hb hk => hkeep b hb fun t ob ht => ?_, fun s ob b h1 h2 => ?_, hE.size, hE.os, hE.tape, hE.output⟩, ⟨fun s ob h => ?_, fun s s' ob ob' b h1 h2 h3 h4 => ?_, fun s hs => ?_, fun s b hb => ?_, hM1.imm⟩, (ARep.ren hren' _ _ hrt).2 hr, Nat.le_of_eq (setsS_len g ts σ σ1).symm, r0, σ1, hR0, rfl, rfl⟩
  · obtain ⟨g1, _, g2⟩ := hat t ob ht
    rw [hmu0 t g1]; exact hk _ _ g2
  · rcases hatS s ob h1 with ⟨t, ob0, ht, rfl, h3, _⟩ | ⟨hs, h3⟩
    · rw [hren'.mu t ht] at h2
      rcases hnew t ob0 b h3 h2 with h4 | ⟨t0, ob1, h4, h5⟩
      · exact .inl h4
      · obtain ⟨g1, _, g2⟩ := hat t0 ob1 h4
        rw [hmu0 t0 g1] at h5
        exact .inr ⟨_, _, g2, h5⟩
    · rw [(hmu' s hs).1] at h2
      exact .inr ⟨s, ob, h3, h2⟩
  · rcases hatS s ob h with ⟨t, ob0, ht, rfl, h3, rfl⟩ | ⟨hs, h3⟩
    · exact (ObRep.ren hren' ht (hot t ob0 ht h3)).2 (hM1.obj t ob0 h3)
    · exact (hM.obj s ob h3).later hL (hmu' s hs).1 (hmu' s hs).2.1 (hmu' s hs).2.2 fun b hb => hkeep b (hM.lt s b hb) (hblk s ob b hs h3 hb)
  · rcases hatS s ob h1 with ⟨t, ob0, ht, rfl, g1, _⟩ | ⟨hs, g1⟩
    · rw [hren'.mu t ht] at h3
      rcases hatS s' ob' h2 with ⟨t', ob0', ht', rfl, g2, _⟩ | ⟨hs', g2⟩
      · rw [hren'.mu t' ht'] at h4
        rw [hM1.inj t t' ob0 ob0' b g1 g2 h3 h4]
      · rw [(hmu' s' hs').1] at h4
        rcases hnew t ob0 b g1 h3 with h5 | ⟨t0, ob1, h5, h6⟩
        · have := hM.lt s' b h4; omega
        · exact absurd h6 (hblk s' ob' b hs' g2 h4 t0 ob1 h5)
    · rw [(hmu' s hs).1] at h3
      rcases hatS s' ob' h2 with ⟨t', ob0', ht', rfl, g2, _⟩ | ⟨hs', g2⟩
      · rw [hren'.mu t' ht'] at h4
        rcases hnew t' ob0' b g2 h4 with h5 | ⟨t0, ob1, h5, h6⟩
        · have := hM.lt s b h3; omega
        · exact absurd h6 (hblk s ob b hs g1 h3 t0 ob1 h5)
      · rw [(hmu' s' hs').1] at h4
        exact hM.inj s s' ob ob' b g1 g2 h3 h4
  · rw [setsS_len] at hs
    have hs' : s ∉ ts := fun h => by obtain ⟨t, ht, rfl⟩ := (hmem s).1 h; have := hgl t ht; omega
    rw [(hmu' s hs').1, (hmu' s hs').2.1]; exact hM.fresh s hs
  · by_cases hs : s ∈ ts
    · obtain ⟨t, ht, rfl⟩ := (hmem s).1 hs
      rw [hren'.mu t ht] at hb; exact hM1.lt t b hb
    · rw [(hmu' s hs).1] at hb; exact Nat.lt_of_lt_of_le (hM.lt s b hb) hE.size
end Go.Proofs.Ytcnkmandddfdmaa
namespace Go.Proofs.Ytcnkmandddfdmaa
open Go.RowKit

mutual
def frzA : AV → AV
  | .own t e ls => .p (.sl e ls)
  | .nown t e ls => .p (nilSl e ls)
  | .agg l => .agg (frzL l)
  | .tup l => .tup (frzL l)
  | a => a
def frzL : List AV → List AV
  | [] => []
  | a :: l => frzA a :: frzL l
end
theorem leaf_frz (a : AV) : leaf (frzA a) = leaf a := by cases a <;> simp [frzA, leaf]
theorem leaf_frzL : ∀ l : List AV, (frzL l).all leaf = l.all leaf
  | [] => rfl
  | a :: l => by simp [frzL, leaf_frz, leaf_frzL l]
mutual
theorem ARep.frz {M : View} : ∀ (a : AV) (u : Value), ARep M a u → ARep M (frzA a) u
  | .own t e ls, u, h => by simp only [frzA, ARep]; exact toP_rep (M := M) (x := .own t e ls) rfl h
  | .nown t e ls, u, h => by simp only [frzA, ARep]; exact toP_rep (M := M) (x := .nown t e ls) rfl h
  | .agg l, u, h => by
    simp only [frzA, ARep, leaf_frzL] at h ⊢
    obtain ⟨h0, us, h1, h2⟩ := h
    exact ⟨h0, us, h1, ARepL.frz l us h2⟩
  | .tup l, u, h => by
    simp only [frzA, ARep] at h ⊢
    obtain ⟨us, h1, h2⟩ := h
    exact ⟨us, h1, ARepL.frz l us h2⟩
  | .any, u, h => h
  | .p x, u, h => h
  | .ip c o, u, h => h
  | .mp t e i o, u, h => h
  | .ms t e i n, u, h => h
  | .fn f us vs, u, h => h
theorem ARepL.frz {M : View} : ∀ (l : List AV) (us : List Value), ARepL M l us → ARepL M (frzL l) us
  | [], us, h => by simpa [frzL, ARepL] using h
  | a :: l, us, h => by
    simp only [frzL, ARepL] at h ⊢
    obtain ⟨u, us', h1, h2, h3⟩ := h
    exact ⟨u, us', h1, ARep.frz a u h2, ARepL.frz l us' h3⟩
end
theorem ACalls.frz {P : Program} {f : FuncId} {args : List AV} {σ : St} {R : AV → St → Prop} (h : ACalls P f args σ fun r s => R (frzA r) s) : ACalls P f args σ R :=
  ⟨h.1, fun M vs hM hv => (h.2 M vs hM hv).mono fun e w' ⟨v, r, s, M', h1, h2, h3, h4, h5, h6, h7⟩ => ⟨v, frzA r, s, M', h1, h2, h3, h4, ARep.frz r v h5, h6, h7⟩⟩
theorem leS_none (σ0 : St) (n : Nat) (τ : St) : ∀ σ : St, leS σ0 n τ σ (List.replicate σ.length none)
  | [] => by simp [leS]
  | s :: σ => by
    simp only [List.length_cons, List.replicate_succ, leS]
    exact ⟨by cases s <;> simp [leO], leS_none σ0 n τ σ⟩
/-- The end of a function whose answer holds rows of its own. -/
theorem ret_own {C : Ctx} {fr : List AV} {σ : St} {rs : List ResultVar} {R : AV → Prop} {r0 : AV} (h1 : resA C rs fr σ = some r0) (h2 : tokLt σ.length r0 = true) (h3 : tokLt 0 (frzA r0) = true) (h4 : R (frzA r0)) :
    retA C rs 0 (fun r _ => tokLt 0 (frzA r) = true ∧ R (frzA r)) .ret fr σ :=
  ⟨.inl rfl, r0, r0, List.replicate σ.length none, h1, .inr ⟨⟨.inl (.inl (.inr (.inl ⟨rfl, by simpa using h2⟩))), trivial⟩, leS_none _ _ _ σ⟩, Nat.zero_le _, h3, h4⟩
/-- A function without objects of the caller's. -/
theorem ACalls.pureF {P : Program} {f : FuncId} {args : List AV} {R : AV → Prop} (h : ACalls P f args [] fun r _ => tokLt 0 (frzA r) = true ∧ R (frzA r)) (ha : tokLtL 0 args = true) (σ : St) : ACalls P f args σ fun r σ' => σ' = σ ∧ R r :=
  ACalls.pure (R := R) (ACalls.frz (R := fun r _ => tokLt 0 r = true ∧ R r) h) ha σ
end Go.Proofs.Ytcnkmandddfdmaa
namespace Go.Proofs.Ytcnkmandddfdmaa
open Go.RowKit

/-- A loop whose state stays. -/
theorem awp_loopS {P : Program} {C : Ctx} {fr : List AV} {σ : St} {Q : Exit → List AV → St → Prop} {c : Code} {X : Type} (F : X → List AV) (m : X → Nat) (x0 : X) (h2 : WeakE fr σ (F x0) σ)
    (h3 : ∀ x, AWp P C (aDraw P C) c (F x) σ (roundA (fun x => (F x, σ)) m x Q)) : AWp P C (aDraw P C) (.loop c) fr σ Q :=
  awp_loop' (fun x => (F x, σ)) m x0 (fun _ => Nat.le_refl _) h2 h3

/-- An expression. -/
inductive Ex where
  | mk (kind vk vn : Int) (vs tb nm : ByteArray) (slot : Int) (kids : List Ex)
mutual
def exC : Ex → List PV
  | .mk kind vk vn vs tb nm slot kids => [.v (.int .i64 kind), .v (.int .i64 vk), .v (.int .i64 vn), .v (.string vs), .v (.string tb), .v (.string nm), .v (.int .i64 slot), .sl 8 (exL kids)]
def exL : List Ex → List (List PV)
  | [] => []
  | x :: l => exC x :: exL l
end
def exA (x : Ex) : AV := .agg ((exC x).map .p)
def emp : ByteArray := ⟨#[]⟩
def ex0 : Ex := .mk 0 0 0 emp emp emp 0 []
theorem exL_len : ∀ l : List Ex, (exL l).length = l.length
  | [] => rfl
  | x :: l => by simp [exL, exL_len l]
theorem exL_app : ∀ (l m : List Ex), exL (l ++ m) = exL l ++ exL m
  | [], m => rfl
  | x :: l, m => by simp [exL, exL_app l m]
mutual
/-- No node has more kids than memory holds. -/
def okE : Ex → Prop
  | .mk _ _ _ _ _ _ _ kids => kids.length ≤ 140737488351232 ∧ okEL kids
def okEL : List Ex → Prop
  | [] => True
  | x :: l => okE x ∧ okEL l
end
theorem okEL_iff : ∀ {l : List Ex}, okEL l ↔ ∀ x ∈ l, okE x
  | [] => by simp [okEL]
  | x :: l => by simp [okEL, okEL_iff (l := l)]
theorem okE_mk0 {a b c g : Int} {d e f : ByteArray} : okE (.mk a b c d e f g []) := by simp [okE, okEL]
theorem okE_mk1 {a b c g : Int} {d e f : ByteArray} {x : Ex} (h : okE x) : okE (.mk a b c d e f g [x]) := by simp [okE, okEL, h]
theorem okE_mk2 {a b c g : Int} {d e f : ByteArray} {x y : Ex} (h : okE x) (h' : okE y) : okE (.mk a b c d e f g [x, y]) := by simp [okE, okEL, h, h']
theorem okE_ex0 : okE ex0 := okE_mk0
theorem okEL_nil : okEL [] := trivial
theorem okEL_one {x : Ex} (h : okE x) : okEL [x] := ⟨h, trivial⟩
theorem okEL_snoc {l : List Ex} {x : Ex} (h : okEL l) (hx : okE x) : okEL (l ++ [x]) := okEL_iff.2 fun y hy => by
  rcases List.mem_append.1 hy with hy | hy
  · exact okEL_iff.1 h y hy
  · simp at hy; subst hy; exact hx
theorem mem_snoc {α : Type} {p : α → Prop} {l : List α} {x : α} (h : ∀ y ∈ l, p y) (hx : p x) : ∀ y ∈ l ++ [x], p y := fun y hy => by
  rcases List.mem_append.1 hy with hy | hy
  · exact h y hy
  · simp at hy; subst hy; exact hx
theorem exC_len (x : Ex) : (exC x).length = 8 := by cases x; rfl
end Go.Proofs.Ytcnkmandddfdmaa
namespace Go.Proofs.Ytcnkmandddfdmaa
open Go.RowKit
open Nat (reducePow reduceAdd reduceSub reduceMul reduceEqDiff reduceLeDiff)
theorem ty43_XLx : (type_of% ck_5) ∧ (type_of% cx_5) := ⟨ck_5, cx_5⟩
theorem ty67_XLx : (type_of% ck_3) ∧ (type_of% cx_3) ∧ (type_of% ck_5) ∧ (type_of% cx_5) ∧ (type_of% ck_9) ∧ (type_of% cx_9) ∧ (type_of% ck_139) ∧ (type_of% cx_139) ∧ (type_of% @ks_139) ∧ (type_of% @ko_139) ∧ (type_of% @kn_139) ∧ (type_of% kz_139) := ⟨ck_3, cx_3, ck_5, cx_5, ck_9, cx_9, ck_139, cx_139, @ks_139, @ko_139, @kn_139, kz_139⟩

theorem ba_get (s : ByteArray) (k : Nat) (h : k < s.size) : ∃ b, s[k]? = some b := ⟨s[k], by simp [h]⟩
/-- The class of a byte. -/
def classL (n : Int) : Int := if (n ≥ 97 ∧ n ≤ 122) ∨ (n ≥ 65 ∧ n ≤ 90) ∨ n = 95 then 1 else if n ≥ 48 ∧ n ≤ 57 then 2 else if n = 32 ∨ n = 9 ∨ n = 10 ∨ n = 13 then 3 else 0

set_option maxRecDepth 100000 in
set_option maxHeartbeats 4000000 in
theorem aclass (c : UInt8) (σ : St) : ACalls Try.prog 43 [intV .u8 (c.toNat : Int)] σ fun r σ' => σ' = σ ∧ r = intV .i64 (classL (c.toNat : Int)) := by
  refine ACalls.pure ?_ rfl σ
  refine acalls_of cx_ok dr_ok Try.func43 (by kernel_rfl) rfl (nt := 43) (rs := [.tmp 2]) rfl rfl ?_
  simp only [↓wBA, wBB, wBC, cx_muts, cx_arr, wBD, convA, Nat.reduceBEq, reduceIte, reduceCtorEq, reducePow, reduceAdd, reduceSub, reduceMul, reduceEqDiff, reduceLeDiff, Nat.reduceLT, Int.reduceLT, Int.reduceLE, Int.reduceToNat, ty43_XLx]
  generalize (c.toNat : Int) = n
  repeat' (first
    | refine ret_pure rfl rfl ?_
    | refine want_split ?_ ?_
    | refine cond_split ?_ ?_
    | (intro hb
       try simp only [hb]
       simp only [↓wBA, wBB, wBC, cx_muts, cx_arr, wBD, convA, Nat.reduceBEq, reduceIte, reduceCtorEq, reducePow, reduceAdd, reduceSub, reduceMul, reduceEqDiff, reduceLeDiff, Nat.reduceLT, Int.reduceLT, Int.reduceLE, Int.reduceToNat, ty43_XLx, hb]
       ))
  all_goals
    simp only [decide_eq_true_eq, decide_eq_false_iff_not, beq_iff_eq, beq_eq_false_iff_ne, ne_eq, Bool.not_true, Bool.not_false] at *
    refine congrArg (intV .i64) (Eq.symm ?_)
    unfold classL
    repeat' split
    all_goals omega

def byteP (b : UInt8) : PV := .v (.int .u8 b.toNat)
def encB (r : List UInt8) : List (List PV) := r.map fun b => [byteP b]
theorem byteOf_byteP (b : UInt8) : byteOfV (.int .u8 b.toNat) = some b := by
  have h : (b.toNat : Int) < 256 := by have := b.toNat_lt; omega
  simp [byteOfV, h]
theorem bytesOf_enc : ∀ r : List UInt8, bytesOfR (encB r) = some r
  | [] => rfl
  | b :: r => by
    have := bytesOf_enc r
    simp only [encB, byteP] at this
    simp only [encB, List.map_cons, bytesOfR, byteP, byteOf_byteP, this]
theorem wrap_u8 (n : Int) : ∃ c : UInt8, IntKind.u8.wrap n = (c.toNat : Int) := by
  refine ⟨UInt8.ofNat (n % 256).toNat, ?_⟩
  rw [UInt8.toNat_ofNat']
  simp [IntKind.wrap, IntKind.signed, IntKind.bits]
  omega

set_option maxRecDepth 100000 in
set_option maxHeartbeats 4000000 in
theorem aupper (s : ByteArray) (x y : UInt8) (by_ : Int) (hs : s.size ≤ 140737488351232) (σ : St) : ACalls Try.prog 67 [.p (.v (.string s)), intV .u8 (x.toNat : Int), intV .u8 (y.toNat : Int), intV .i64 by_] σ fun r σ' => σ' = σ ∧ ∃ s' : ByteArray, s'.size = s.size ∧ r = .p (.v (.string s')) := by
  refine ACalls.pure ?_ rfl σ
  refine acalls_of cx_ok dr_ok Try.func67 (by kernel_rfl) rfl (nt := 36) (rs := [.tmp 8]) rfl rfl ?_
  simp only [↓wBA, wBB, wBC, cx_muts, cx_arr, wBD, convA, Nat.reduceBEq, reduceIte, reduceCtorEq, reducePow, reduceAdd, reduceSub, reduceMul, reduceEqDiff, reduceLeDiff, Nat.reduceLT, Int.reduceLT, Int.reduceLE, Int.reduceToNat, ty67_XLx]
  refine awp_loop' (X := { bs : List UInt8 // bs.length ≤ s.size }) (fun bs => ([.p (.v (.string s)), intV .u8 (x.toNat : Int), intV .u8 (y.toNat : Int), intV .i64 by_, .any, .any, .any, .any, .any, .nown 0 1 (encB bs.1), intV .i64 (bs.1.length : Nat), .any, .any, .any, .any, .any, .any, .any, .any, .any, .any, .any, .any, .any, .any, .any, .any, .any, .any, .any, .any, .any, .any, .any, .any, .any, .any, .any, .any, .any], [some (.nright 5 (bs.1.length * 1))])) (fun bs => s.size - bs.1.length) ⟨[], by simp⟩ (fun _ => by simp) ?_ ?_
  · simp [WeakE, Weak, leL, leT, leM, leG, leA, leC, leS, leO, tokLt, tokLtL, intV, nilA, encB]
  · rintro ⟨bs, hbs⟩
    have hen : (encB bs).length = bs.length := by simp [encB]
    by_cases hlt : bs.length < s.size
    · have hdec : decide ((bs.length : Int) < (s.size : Int)) = true := by simp; omega
      obtain ⟨b, hb⟩ : ∃ b, s[bs.length]? = some b := ⟨s[bs.length], by simp [hlt]⟩
      simp only [↓wBA, wBB, wBC, cx_muts, cx_arr, wBD, convA, Nat.reduceBEq, reduceIte, reduceCtorEq, reducePow, reduceAdd, reduceSub, reduceMul, reduceEqDiff, reduceLeDiff, Nat.reduceLT, Int.reduceLT, Int.reduceLE, Int.reduceToNat, ty67_XLx, hdec, hb]
      have hlim1 : ((bs.length + 1) * 1 ≤ 140737488355328) = True := eq_true (by omega)
      have hlim2 : (bs.length + 1 ≤ maxLen) = True := eq_true (by unfold maxLen; omega)
      refine want_split (fun h1 => ?_) (fun h1 => ?_)
      · skip
        simp only [↓wBA, wBB, wBC, cx_muts, cx_arr, wBD, convA, Nat.reduceBEq, reduceIte, reduceCtorEq, reducePow, reduceAdd, reduceSub, reduceMul, reduceEqDiff, reduceLeDiff, Nat.reduceLT, Int.reduceLT, Int.reduceLE, Int.reduceToNat, ty67_XLx, h1, hb]
        refine cond_split (fun h2 => ?_) (fun h2 => ?_)
        · obtain ⟨c, hc⟩ := wrap_u8 (IntKind.i64.wrap (IntKind.i64.wrap (b.toNat : Int) + by_))
          simp only [↓wBA, wBB, wBC, cx_muts, cx_arr, wBD, convA, Nat.reduceBEq, reduceIte, reduceCtorEq, reducePow, reduceAdd, reduceSub, reduceMul, reduceEqDiff, reduceLeDiff, Nat.reduceLT, Int.reduceLT, Int.reduceLE, Int.reduceToNat, ty67_XLx, h2, hc, appendA, srcA, hen, hlim1, hlim2, toPss, toPs, toP, fillS, Nat.reducePow]
          rw [wrap_i64 (n := (bs.length : Int) + 1) (by omega) (by omega)]
          refine ⟨⟨bs ++ [c], by simp; omega⟩, by simp; omega, ?_⟩
          simp [WeakE, Weak, leL, leT, leM, leG, leA, leC, leS, leO, tokLt, tokLtL, intV, encB, byteP]
        · skip
          simp only [↓wBA, wBB, wBC, cx_muts, cx_arr, wBD, convA, Nat.reduceBEq, reduceIte, reduceCtorEq, reducePow, reduceAdd, reduceSub, reduceMul, reduceEqDiff, reduceLeDiff, Nat.reduceLT, Int.reduceLT, Int.reduceLE, Int.reduceToNat, ty67_XLx, h2, appendA, srcA, hen, hlim1, hlim2, toPss, toPs, toP, fillS, Nat.reducePow]
          rw [wrap_i64 (n := (bs.length : Int) + 1) (by omega) (by omega)]
          refine ⟨⟨bs ++ [b], by simp; omega⟩, by simp; omega, ?_⟩
          simp [WeakE, Weak, leL, leT, leM, leG, leA, leC, leS, leO, tokLt, tokLtL, intV, encB, byteP]
      · simp only [Bool.not_true] at h1
        simp only [↓wBA, wBB, wBC, cx_muts, cx_arr, wBD, convA, Nat.reduceBEq, reduceIte, reduceCtorEq, reducePow, reduceAdd, reduceSub, reduceMul, reduceEqDiff, reduceLeDiff, Nat.reduceLT, Int.reduceLT, Int.reduceLE, Int.reduceToNat, ty67_XLx, h1, appendA, srcA, hen, hlim1, hlim2, toPss, toPs, toP, fillS, Nat.reducePow]
        rw [wrap_i64 (n := (bs.length : Int) + 1) (by omega) (by omega)]
        refine ⟨⟨bs ++ [b], by simp; omega⟩, by simp; omega, ?_⟩
        simp [WeakE, Weak, leL, leT, leM, leG, leA, leC, leS, leO, tokLt, tokLtL, intV, encB, byteP]
    · have hdec : decide ((bs.length : Int) < (s.size : Int)) = false := by simp; omega
      have hbo := bytesOf_enc bs
      simp only [↓wBA, wBB, wBC, cx_muts, cx_arr, wBD, convA, Nat.reduceBEq, reduceIte, reduceCtorEq, reducePow, reduceAdd, reduceSub, reduceMul, reduceEqDiff, reduceLeDiff, Nat.reduceLT, Int.reduceLT, Int.reduceLE, Int.reduceToNat, ty67_XLx, hdec, convB, hbo]
      exact ret_pure rfl rfl ⟨⟨bs.toArray⟩, by show bs.toArray.size = s.size; rw [List.size_toArray]; omega, rfl⟩
end Go.Proofs.Ytcnkmandddfdmaa
namespace Go.Proofs.Ytcnkmandddfdmaa
open Go.RowKit
open Nat (reducePow reduceAdd reduceSub reduceMul reduceEqDiff reduceLeDiff)
theorem ty45_XLy : (type_of% ck_2) ∧ (type_of% cx_2) ∧ (type_of% ck_3) ∧ (type_of% cx_3) ∧ (type_of% ck_5) ∧ (type_of% cx_5) ∧ (type_of% ck_9) ∧ (type_of% cx_9) ∧ (type_of% ck_144) ∧ (type_of% cx_144) := ⟨ck_2, cx_2, ck_3, cx_3, ck_5, cx_5, ck_9, cx_9, ck_144, cx_144⟩

set_option maxRecDepth 100000 in
set_option maxHeartbeats 4000000 in
theorem anumber (s : ByteArray) (hs : s.size ≤ 140737488351232) (σ : St) : ACalls Try.prog 45 [.p (.v (.string s))] σ fun r σ' => σ' = σ ∧ ∃ (n : Int) (b : Bool), r = .tup [intV .i64 n, boolV b] := by
  refine ACalls.pure ?_ rfl σ
  refine acalls_of cx_ok dr_ok Try.func45 (by kernel_rfl) rfl (nt := 33) (rs := [.tmp 2, .tmp 3]) rfl rfl ?_
  simp only [↓wBA, wBB, wBC, cx_muts, cx_arr, wBD, convA, Nat.reduceBEq, reduceIte, reduceCtorEq, reducePow, reduceAdd, reduceSub, reduceMul, reduceEqDiff, reduceLeDiff, Nat.reduceLT, Int.reduceLT, Int.reduceLE, Int.reduceToNat, ty45_XLy]
  refine awp_loop' (X := { q : Nat × Int // q.1 ≤ s.size }) (fun q => ([.p (.v (.string s)), .any, .any, .any, intV .u64 q.1.2, intV .i64 (q.1.1 : Nat), .any, .any, .any, .any, .any, .any, .any, .any, .any, .any, .any, .any, .any, .any, .any, .any, .any, .any, .any, .any, .any, .any, .any, .any, .any, .any, .any, .any], [])) (fun q => s.size - q.1.1) ⟨(0, 0), by simp⟩ (fun _ => by simp) ?_ ?_
  · simp [WeakE, Weak, leL, leT, leM, leG, leA, leC, leS, leO, tokLt, tokLtL, intV]
  · rintro ⟨⟨k, u⟩, hk⟩
    simp only at hk
    by_cases hlt : k < s.size
    · have hdec : decide ((k : Int) < (s.size : Int)) = true := by simp; omega
      obtain ⟨b, hb⟩ : ∃ b, s[k]? = some b := ⟨s[k], by simp [hlt]⟩
      have hw : IntKind.i64.wrap ((k : Int) + 1) = (k : Int) + 1 := wrap_i64 (by omega) (by omega)
      simp only [↓wBA, wBB, wBC, cx_muts, cx_arr, wBD, convA, Nat.reduceBEq, reduceIte, reduceCtorEq, reducePow, reduceAdd, reduceSub, reduceMul, reduceEqDiff, reduceLeDiff, Nat.reduceLT, Int.reduceLT, Int.reduceLE, Int.reduceToNat, ty45_XLy, hdec, hb]
      repeat' (first
        | exact ret_pure rfl rfl ⟨_, _, rfl⟩
        | refine want_split ?_ ?_
        | refine cond_split ?_ ?_
        | (refine ⟨⟨(k + 1, IntKind.u64.wrap (IntKind.u64.wrap (10 * u) + IntKind.u64.wrap (IntKind.u8.wrap ((b.toNat : Int) - 48)))), by show k + 1 ≤ s.size; omega⟩, by show s.size - (k + 1) < s.size - k; omega, ?_⟩
           simp [WeakE, Weak, leL, leT, leM, leG, leA, leC, leS, leO, tokLt, tokLtL, intV, hw]
           done)
        | (intro h1
           try simp only [h1]
           simp only [↓wBA, wBB, wBC, cx_muts, cx_arr, wBD, convA, Nat.reduceBEq, reduceIte, reduceCtorEq, reducePow, reduceAdd, reduceSub, reduceMul, reduceEqDiff, reduceLeDiff, Nat.reduceLT, Int.reduceLT, Int.reduceLE, Int.reduceToNat, ty45_XLy, h1, hdec, hb]
           ))
    · have hdec : decide ((k : Int) < (s.size : Int)) = false := by simp; omega
      simp only [↓wBA, wBB, wBC, cx_muts, cx_arr, wBD, convA, Nat.reduceBEq, reduceIte, reduceCtorEq, reducePow, reduceAdd, reduceSub, reduceMul, reduceEqDiff, reduceLeDiff, Nat.reduceLT, Int.reduceLT, Int.reduceLE, Int.reduceToNat, ty45_XLy, hdec]
      exact ret_pure rfl rfl ⟨_, _, rfl⟩
end Go.Proofs.Ytcnkmandddfdmaa
namespace Go.Proofs.Ytcnkmandddfdmaa
open Go.RowKit
open Nat (reducePow reduceAdd reduceSub reduceMul reduceEqDiff reduceLeDiff)
theorem ty47_XLz : (type_of% ck_3) ∧ (type_of% cx_3) ∧ (type_of% ck_5) ∧ (type_of% cx_5) ∧ (type_of% ck_9) ∧ (type_of% cx_9) := ⟨ck_3, cx_3, ck_5, cx_5, ck_9, cx_9⟩
theorem ty46_XLz : (type_of% ck_3) ∧ (type_of% cx_3) ∧ (type_of% ck_5) ∧ (type_of% cx_5) ∧ (type_of% ck_9) ∧ (type_of% cx_9) ∧ (type_of% ck_139) ∧ (type_of% cx_139) ∧ (type_of% @ks_139) ∧ (type_of% @ko_139) ∧ (type_of% @kn_139) ∧ (type_of% kz_139) := ⟨ck_3, cx_3, ck_5, cx_5, ck_9, cx_9, ck_139, cx_139, @ks_139, @ko_139, @kn_139, kz_139⟩

def oneS : ByteArray := ⟨#[40, 41, 44, 59, 42, 43, 45, 47, 37, 61, 60, 62, 46]⟩
set_option maxRecDepth 100000 in
set_option maxHeartbeats 4000000 in
theorem asign (s : ByteArray) (h0 : 0 < s.size) (σ : St) : ACalls Try.prog 47 [.p (.v (.string s))] σ fun r σ' => σ' = σ ∧ ∃ n : Nat, n ≤ 2 ∧ n ≤ s.size ∧ r = intV .i64 (n : Nat) := by
  refine ACalls.pure ?_ rfl σ
  obtain ⟨b0, hb0⟩ : ∃ b, s[0]? = some b := ⟨s[0], by simp [h0]⟩
  obtain ⟨d, hd, hd2⟩ : ∃ d, decide ((s.size : Int) ≥ 2) = d ∧ (d = true → ((2 : Int) ≤ (s.size : Int)) = True) := ⟨_, rfl, fun h => eq_true (of_decide_eq_true h)⟩
  have h22 : (d = true → 2 ≤ s.size) := fun h => by have := of_eq_true (hd2 h); omega
  refine acalls_of cx_ok dr_ok Try.func47 (by kernel_rfl) rfl (nt := 34) (rs := [.tmp 2]) rfl rfl ?_
  simp only [↓wBA, wBB, wBC, cx_muts, cx_arr, wBD, convA, Nat.reduceBEq, reduceIte, reduceCtorEq, reducePow, reduceAdd, reduceSub, reduceMul, reduceEqDiff, reduceLeDiff, Nat.reduceLT, Int.reduceLT, Int.reduceLE, Int.reduceToNat, ty47_XLz, hd]
  cases d
  case' false =>
    simp only [↓wBA, wBB, wBC, cx_muts, cx_arr, wBD, convA, Nat.reduceBEq, reduceIte, reduceCtorEq, reducePow, reduceAdd, reduceSub, reduceMul, reduceEqDiff, reduceLeDiff, Nat.reduceLT, Int.reduceLT, Int.reduceLE, Int.reduceToNat, ty47_XLz]
  case' true =>
    have hd3 := hd2 rfl
    have h23 := h22 rfl
    simp only [↓wBA, wBB, wBC, cx_muts, cx_arr, wBD, convA, Nat.reduceBEq, reduceIte, reduceCtorEq, reducePow, reduceAdd, reduceSub, reduceMul, reduceEqDiff, reduceLeDiff, Nat.reduceLT, Int.reduceLT, Int.reduceLE, Int.reduceToNat, ty47_XLz, hd3, sliceA, boundA, intA, binStr, Option.map_none, Int.le_refl, Int.reduceLE, Int.toNat_zero]
    repeat' (first
      | exact ret_pure rfl rfl ⟨2, by omega, h23, rfl⟩
      | refine want_split ?_ ?_
      | refine cond_split ?_ ?_
      | (intro h1
         try simp only [h1]
         simp only [↓wBA, wBB, wBC, cx_muts, cx_arr, wBD, convA, Nat.reduceBEq, reduceIte, reduceCtorEq, reducePow, reduceAdd, reduceSub, reduceMul, reduceEqDiff, reduceLeDiff, Nat.reduceLT, Int.reduceLT, Int.reduceLE, Int.reduceToNat, ty47_XLz, h1, hd3, sliceA, boundA, intA, binStr, Option.map_none, Int.le_refl, Int.reduceLE, Int.toNat_zero]
         ))
  all_goals
    refine awp_loop' (X := { k : Nat // k ≤ 13 }) (fun k => ([.p (.v (.string s)), .any, .any, .p (.v (.string oneS)), intV .i64 (k.1 : Nat), .any, .any, .any, .any, .any, .any, .any, .any, .any, .any, .any, .any, .any, .any, .any, .any, .any, .any, .any, .any, .any, .any, .any, .any, .any, .any, .any, .any, .any, .any], [])) (fun k => 13 - k.1) ⟨0, by omega⟩ (fun _ => by simp) ?_ ?_
    · simp [WeakE, Weak, leL, leT, leM, leG, leA, leC, leS, leO, tokLt, tokLtL, intV, oneS]
    · rintro ⟨k, hk⟩
      try simp only at hk
      have hsz : oneS.size = 13 := rfl
      have hi0 : (Int.toNat 0) = 0 := rfl
      by_cases hlt : k < 13
      · have hdec : decide ((k : Int) < ((13 : Nat) : Int)) = true := by simp; omega
        obtain ⟨c, hc⟩ : ∃ b, oneS[k]? = some b := ba_get oneS k (by omega)
        have hw1 : IntKind.i64.wrap ((k : Int) + 1) = ((k + 1 : Nat) : Int) := by rw [wrap_i64 (by omega) (by omega)]; simp
        simp only [↓wBA, wBB, wBC, cx_muts, cx_arr, wBD, convA, Nat.reduceBEq, reduceIte, reduceCtorEq, reducePow, reduceAdd, reduceSub, reduceMul, reduceEqDiff, reduceLeDiff, Nat.reduceLT, Int.reduceLT, Int.reduceLE, Int.reduceToNat, ty47_XLz, hsz, hdec]
        refine ⟨(.det 0 (.det 1 (.det 2 (.det 3 (.det 4 (.det 5 .done)))))), by decide, by kernel_rfl, by kernel_rfl, ?_⟩
        simp only [↓wBA, wBB, wBC, cx_muts, cx_arr, wBD, convA, Nat.reduceBEq, reduceIte, reduceCtorEq, reducePow, reduceAdd, reduceSub, reduceMul, reduceEqDiff, reduceLeDiff, Nat.reduceLT, Int.reduceLT, Int.reduceLE, Int.reduceToNat, ty47_XLz, Int.le_refl, Int.reduceLE, hi0, hb0, hc]
        refine cond_split (fun h1 => ?_) (fun h1 => ?_)
        · skip
          simp only [↓wBA, wBB, wBC, cx_muts, cx_arr, wBD, convA, Nat.reduceBEq, reduceIte, reduceCtorEq, reducePow, reduceAdd, reduceSub, reduceMul, reduceEqDiff, reduceLeDiff, Nat.reduceLT, Int.reduceLT, Int.reduceLE, Int.reduceToNat, ty47_XLz]
          exact ret_pure rfl rfl ⟨1, by omega, by omega, rfl⟩
        · skip
          simp only [↓wBA, wBB, wBC, cx_muts, cx_arr, wBD, convA, Nat.reduceBEq, reduceIte, reduceCtorEq, reducePow, reduceAdd, reduceSub, reduceMul, reduceEqDiff, reduceLeDiff, Nat.reduceLT, Int.reduceLT, Int.reduceLE, Int.reduceToNat, ty47_XLz, hw1]
          refine ⟨⟨k + 1, by omega⟩, by show 13 - (k + 1) < 13 - k; omega, ?_⟩
          simp [WeakE, Weak, leL, leT, leM, leG, leA, leC, leS, leO, tokLt, tokLtL, intV]
      · have hdec : decide ((k : Int) < ((13 : Nat) : Int)) = false := by simp; omega
        simp only [↓wBA, wBB, wBC, cx_muts, cx_arr, wBD, convA, Nat.reduceBEq, reduceIte, reduceCtorEq, reducePow, reduceAdd, reduceSub, reduceMul, reduceEqDiff, reduceLeDiff, Nat.reduceLT, Int.reduceLT, Int.reduceLE, Int.reduceToNat, ty47_XLz, hsz, hdec]
        exact ret_pure rfl rfl ⟨0, by omega, by omega, rfl⟩

set_option maxRecDepth 100000 in
set_option maxHeartbeats 4000000 in
theorem aquoted (s : ByteArray) (at_ : Nat) (hs : s.size ≤ 140737488351232) (h0 : at_ < s.size) (σ : St) : ACalls Try.prog 46 [.p (.v (.string s)), intV .i64 (at_ : Nat)] σ fun r σ' => σ' = σ ∧ ∃ (s' : ByteArray) (k : Int), (k = -1 ∨ ∃ j : Nat, k = (j : Nat) ∧ at_ < j ∧ j ≤ s.size) ∧ r = .tup [.p (.v (.string s')), intV .i64 k] := by
  refine ACalls.pure ?_ rfl σ
  have hw0 : IntKind.i64.wrap ((at_ : Int) + 1) = ((at_ + 1 : Nat) : Int) := by rw [wrap_i64 (by omega) (by omega)]; simp
  refine acalls_of cx_ok dr_ok Try.func46 (by kernel_rfl) rfl (nt := 45) (rs := [.tmp 4, .tmp 5]) rfl rfl ?_
  simp only [↓wBA, wBB, wBC, cx_muts, cx_arr, wBD, convA, Nat.reduceBEq, reduceIte, reduceCtorEq, reducePow, reduceAdd, reduceSub, reduceMul, reduceEqDiff, reduceLeDiff, Nat.reduceLT, Int.reduceLT, Int.reduceLE, Int.reduceToNat, ty46_XLz, hw0]
  refine awp_loop' (X := { q : List UInt8 × Nat // q.1.length ≤ q.2 ∧ at_ < q.2 ∧ q.2 ≤ s.size + 1 }) (fun q => ([.p (.v (.string s)), .any, .any, .any, .any, .any, .nown 0 1 (encB q.1.1), intV .i64 (q.1.2 : Nat), .any, .any, .any, .any, .any, .any, .any, .any, .any, .any, .any, .any, .any, .any, .any, .any, .any, .any, .any, .any, .any, .any, .any, .any, .any, .any, .any, .any, .any, .any, .any, .any, .any, .any, .any, .any, .any, .any, .any], [some (.nright 5 (q.1.1.length * 1))])) (fun q => s.size + 1 - q.1.2) ⟨([], at_ + 1), by simp; omega⟩ (fun _ => by simp) ?_ ?_
  · simp [WeakE, Weak, leL, leT, leM, leG, leA, leC, leS, leO, tokLt, tokLtL, intV, nilA, encB]
  · rintro ⟨⟨bs, k⟩, hbs, hk, hk2⟩
    simp only at hbs hk hk2
    have hen : (encB bs).length = bs.length := by simp [encB]
    by_cases hlt : k < s.size
    · have hdec : decide ((k : Int) < (s.size : Int)) = true := by simp; omega
      obtain ⟨b, hb⟩ : ∃ b, s[k]? = some b := ⟨s[k], by simp [hlt]⟩
      have hw1 : IntKind.i64.wrap ((k : Int) + 1) = ((k + 1 : Nat) : Int) := by rw [wrap_i64 (by omega) (by omega)]; simp
      have hw2 : IntKind.i64.wrap (((k + 1 : Nat) : Int) + 1) = ((k + 1 + 1 : Nat) : Int) := by rw [wrap_i64 (by omega) (by omega)]; simp
      have hlim1 : ((bs.length + 1) * 1 ≤ 140737488355328) = True := eq_true (by omega)
      have hlim2 : (bs.length + 1 ≤ maxLen) = True := eq_true (by unfold maxLen; omega)
      have hbo := bytesOf_enc bs
      simp only [↓wBA, wBB, wBC, cx_muts, cx_arr, wBD, convA, Nat.reduceBEq, reduceIte, reduceCtorEq, reducePow, reduceAdd, reduceSub, reduceMul, reduceEqDiff, reduceLeDiff, Nat.reduceLT, Int.reduceLT, Int.reduceLE, Int.reduceToNat, ty46_XLz, hdec, hb]
      refine cond_split (fun h1 => ?_) (fun h1 => ?_)
      · skip
        simp only [↓wBA, wBB, wBC, cx_muts, cx_arr, wBD, convA, Nat.reduceBEq, reduceIte, reduceCtorEq, reducePow, reduceAdd, reduceSub, reduceMul, reduceEqDiff, reduceLeDiff, Nat.reduceLT, Int.reduceLT, Int.reduceLE, Int.reduceToNat, ty46_XLz, hb, appendA, srcA, hen, hlim1, hlim2, toPss, toPs, toP, fillS, Nat.reducePow, hw1]
        refine ⟨⟨(bs ++ [b], k + 1), by simp; omega⟩, by show s.size + 1 - (k + 1) < s.size + 1 - k; omega, ?_⟩
        simp [WeakE, Weak, leL, leT, leM, leG, leA, leC, leS, leO, tokLt, tokLtL, intV, encB, byteP]
      · by_cases hlt2 : k + 1 < s.size
        · have hdec2 : decide (((k + 1 : Nat) : Int) < (s.size : Int)) = true := by simp; omega
          obtain ⟨b2, hb2⟩ : ∃ b, s[k + 1]? = some b := ⟨s[k + 1], by simp [hlt2]⟩
          simp only [↓wBA, wBB, wBC, cx_muts, cx_arr, wBD, convA, Nat.reduceBEq, reduceIte, reduceCtorEq, reducePow, reduceAdd, reduceSub, reduceMul, reduceEqDiff, reduceLeDiff, Nat.reduceLT, Int.reduceLT, Int.reduceLE, Int.reduceToNat, ty46_XLz, hb, hw1, hdec2, hb2]
          refine cond_split (fun h2 => ?_) (fun h2 => ?_)
          · skip
            simp only [↓wBA, wBB, wBC, cx_muts, cx_arr, wBD, convA, Nat.reduceBEq, reduceIte, reduceCtorEq, reducePow, reduceAdd, reduceSub, reduceMul, reduceEqDiff, reduceLeDiff, Nat.reduceLT, Int.reduceLT, Int.reduceLE, Int.reduceToNat, ty46_XLz, hb, appendA, srcA, hen, hlim1, hlim2, toPss, toPs, toP, fillS, Nat.reducePow, hw1, hw2]
            refine ⟨⟨(bs ++ [39], k + 1 + 1), by simp; omega⟩, by show s.size + 1 - (k + 1 + 1) < s.size + 1 - k; omega, ?_⟩
            simp [WeakE, Weak, leL, leT, leM, leG, leA, leC, leS, leO, tokLt, tokLtL, intV, encB, byteP]
          · skip
            simp only [↓wBA, wBB, wBC, cx_muts, cx_arr, wBD, convA, Nat.reduceBEq, reduceIte, reduceCtorEq, reducePow, reduceAdd, reduceSub, reduceMul, reduceEqDiff, reduceLeDiff, Nat.reduceLT, Int.reduceLT, Int.reduceLE, Int.reduceToNat, ty46_XLz, hw1, convB, hbo]
            exact ret_pure rfl rfl ⟨_, _, .inr ⟨k + 1, rfl, by omega, by omega⟩, rfl⟩
        · have hdec2 : decide (((k + 1 : Nat) : Int) < (s.size : Int)) = false := by simp; omega
          simp only [↓wBA, wBB, wBC, cx_muts, cx_arr, wBD, convA, Nat.reduceBEq, reduceIte, reduceCtorEq, reducePow, reduceAdd, reduceSub, reduceMul, reduceEqDiff, reduceLeDiff, Nat.reduceLT, Int.reduceLT, Int.reduceLE, Int.reduceToNat, ty46_XLz, hb, hw1, hdec2, convB, hbo]
          exact ret_pure rfl rfl ⟨_, _, .inr ⟨k + 1, rfl, by omega, by omega⟩, rfl⟩
    · have hdec : decide ((k : Int) < (s.size : Int)) = false := by simp; omega
      simp only [↓wBA, wBB, wBC, cx_muts, cx_arr, wBD, convA, Nat.reduceBEq, reduceIte, reduceCtorEq, reducePow, reduceAdd, reduceSub, reduceMul, reduceEqDiff, reduceLeDiff, Nat.reduceLT, Int.reduceLT, Int.reduceLE, Int.reduceToNat, ty46_XLz, hdec]
      exact ret_pure rfl rfl ⟨_, _, .inl rfl, rfl⟩
end Go.Proofs.Ytcnkmandddfdmaa
namespace Go.Proofs.Ytcnkmandddfdmaa
open Go.RowKit
open Nat (reducePow reduceAdd reduceSub reduceMul reduceEqDiff reduceLeDiff)
theorem ty68_XLw : (type_of% ck_29) ∧ (type_of% cx_29) ∧ (type_of% @ks_29) ∧ (type_of% @ko_29) ∧ (type_of% @kn_29) ∧ (type_of% kz_29) := ⟨ck_29, cx_29, @ks_29, @ko_29, @kn_29, kz_29⟩
theorem ty44_XLw : (type_of% ck_3) ∧ (type_of% cx_3) ∧ (type_of% ck_5) ∧ (type_of% cx_5) ∧ (type_of% ck_9) ∧ (type_of% cx_9) ∧ (type_of% ck_29) ∧ (type_of% cx_29) ∧ (type_of% @ks_29) ∧ (type_of% @ko_29) ∧ (type_of% @kn_29) ∧ (type_of% kz_29) ∧ (type_of% ck_102) ∧ (type_of% cx_102) ∧ (type_of% ce_102) := ⟨ck_3, cx_3, ck_5, cx_5, ck_9, cx_9, ck_29, cx_29, @ks_29, @ko_29, @kn_29, kz_29, ck_102, cx_102, ce_102⟩

def encS (l : List ByteArray) : List (List PV) := l.map fun w => [.v (.string w)]
/-- A token. -/
def tokC (k : Int) (s : ByteArray) (n : Int) : List PV := [.v (.int .i64 k), .v (.string s), .v (.int .i64 n)]
def tokA (k : Int) (s : ByteArray) (n : Int) : AV := .agg [intV .i64 k, .p (.v (.string s)), intV .i64 n]

def WordsR (r : AV) : Prop := ∃ ws : List ByteArray, ws.length = 44 ∧ r = .p (.sl 1 (encS ws))
set_option maxRecDepth 100000 in
set_option maxHeartbeats 4000000 in
theorem awords (σ : St) : ACalls Try.prog 68 [] σ fun r σ' => σ' = σ ∧ WordsR r := by
  refine ACalls.pureF ?_ rfl σ
  refine acalls_of cx_ok dr_ok Try.func68 (by kernel_rfl) rfl (nt := 2) (rs := [.tmp 0]) rfl rfl ?_
  simp only [↓wBA, wBB, wBC, cx_muts, cx_arr, wBD, convA, Nat.reduceBEq, reduceIte, reduceCtorEq, reducePow, reduceAdd, reduceSub, reduceMul, reduceEqDiff, reduceLeDiff, Nat.reduceLT, Int.reduceLT, Int.reduceLE, Int.reduceToNat, ty68_XLw, toPss, toPs, toP, fillS, Nat.reducePow]
  refine ret_own (R := WordsR) rfl rfl rfl ⟨[_, _, _, _, _, _, _, _, _, _, _, _, _, _, _, _, _, _, _, _, _, _, _, _, _, _, _, _, _, _, _, _, _, _, _, _, _, _, _, _, _, _, _, _], rfl, rfl⟩

set_option maxRecDepth 100000 in
set_option maxHeartbeats 4000000 in
theorem aword (s : ByteArray) (hs : s.size ≤ 140737488351232) (σ : St) : ACalls Try.prog 44 [.p (.v (.string s))] σ fun r σ' => σ' = σ ∧ ∃ (k : Int) (t : ByteArray) (e : Int), r = .tup [tokA k t 0, intV .i64 e] := by
  refine ACalls.pure ?_ rfl σ
  refine acalls_of cx_ok dr_ok Try.func44 (by kernel_rfl) rfl (nt := 30) (rs := [.cell 2 102, .tmp 3]) rfl rfl ?_
  simp only [↓wBA, wBB, wBC, cx_muts, cx_arr, wBD, convA, Nat.reduceBEq, reduceIte, reduceCtorEq, reducePow, reduceAdd, reduceSub, reduceMul, reduceEqDiff, reduceLeDiff, Nat.reduceLT, Int.reduceLT, Int.reduceLE, Int.reduceToNat, ty44_XLw]
  refine (aupper s 97 122 (-32) hs _).mono ?_
  rintro _ _ ⟨rfl, up, hup, rfl⟩
  simp only [↓wBA, wBB, wBC, cx_muts, cx_arr, wBD, convA, Nat.reduceBEq, reduceIte, reduceCtorEq, reducePow, reduceAdd, reduceSub, reduceMul, reduceEqDiff, reduceLeDiff, Nat.reduceLT, Int.reduceLT, Int.reduceLE, Int.reduceToNat, ty44_XLw]
  refine (awords _).mono ?_
  rintro _ _ ⟨rfl, ws, hws, rfl⟩
  simp only [↓wBA, wBB, wBC, cx_muts, cx_arr, wBD, convA, Nat.reduceBEq, reduceIte, reduceCtorEq, reducePow, reduceAdd, reduceSub, reduceMul, reduceEqDiff, reduceLeDiff, Nat.reduceLT, Int.reduceLT, Int.reduceLE, Int.reduceToNat, ty44_XLw]
  have hen : (encS ws).length = 44 := by simp [encS, hws]
  refine awp_loop' (X := { k : Nat // k ≤ 44 }) (fun k => ([.p (.v (.string s)), .any, .mp 0 3 0 0, .any, .p (.v (.string up)), .p (.sl 1 (encS ws)), intV .i64 (k.1 : Nat), .any, .any, .any, .any, .any, .any, .any, .any, .any, .any, .any, .any, .any, .any, .any, .any, .any, .any, .any, .any, .any, .any, .any, .any], [some (.row 3 [[intV .i64 0, .p (.v (.string ⟨#[]⟩)), intV .i64 0]])])) (fun k => 44 - k.1) ⟨0, by omega⟩ (fun _ => by simp) ?_ ?_
  · simp [WeakE, Weak, leL, leT, leM, leG, leA, leC, leS, leO, tokLt, tokLtL, intV]
  · rintro ⟨k, hk⟩
    try simp only at hk
    by_cases hlt : k < 44
    · have hdec : decide ((k : Int) < ((44 : Nat) : Int)) = true := by simp; omega
      obtain ⟨w, hw⟩ : ∃ w, (encS ws)[k]? = some [.v (.string w)] := ⟨ws[k], by simp [encS, hws, hlt]⟩
      have hw1 : IntKind.i64.wrap ((k : Int) + 1) = ((k + 1 : Nat) : Int) := by rw [wrap_i64 (by omega) (by omega)]; simp
      simp only [↓wBA, wBB, wBC, cx_muts, cx_arr, wBD, convA, Nat.reduceBEq, reduceIte, reduceCtorEq, reducePow, reduceAdd, reduceSub, reduceMul, reduceEqDiff, reduceLeDiff, Nat.reduceLT, Int.reduceLT, Int.reduceLE, Int.reduceToNat, ty44_XLw, hen, hdec, hw, binStr]
      refine cond_split (fun h1 => ?_) (fun h1 => ?_)
      · skip
        simp only [↓wBA, wBB, wBC, cx_muts, cx_arr, wBD, convA, Nat.reduceBEq, reduceIte, reduceCtorEq, reducePow, reduceAdd, reduceSub, reduceMul, reduceEqDiff, reduceLeDiff, Nat.reduceLT, Int.reduceLT, Int.reduceLE, Int.reduceToNat, ty44_XLw]
        exact ret_pure rfl rfl ⟨_, _, _, rfl⟩
      · skip
        simp only [↓wBA, wBB, wBC, cx_muts, cx_arr, wBD, convA, Nat.reduceBEq, reduceIte, reduceCtorEq, reducePow, reduceAdd, reduceSub, reduceMul, reduceEqDiff, reduceLeDiff, Nat.reduceLT, Int.reduceLT, Int.reduceLE, Int.reduceToNat, ty44_XLw, hw1]
        refine ⟨⟨k + 1, by omega⟩, by show 44 - (k + 1) < 44 - k; omega, ?_⟩
        simp [WeakE, Weak, leL, leT, leM, leG, leA, leC, leS, leO, tokLt, tokLtL, intV]
    · have hdec : decide ((k : Int) < ((44 : Nat) : Int)) = false := by simp; omega
      simp only [↓wBA, wBB, wBC, cx_muts, cx_arr, wBD, convA, Nat.reduceBEq, reduceIte, reduceCtorEq, reducePow, reduceAdd, reduceSub, reduceMul, reduceEqDiff, reduceLeDiff, Nat.reduceLT, Int.reduceLT, Int.reduceLE, Int.reduceToNat, ty44_XLw, hen, hdec]
      refine cond_split (fun h1 => ?_) (fun h1 => ?_)
      · skip
        simp only [↓wBA, wBB, wBC, cx_muts, cx_arr, wBD, convA, Nat.reduceBEq, reduceIte, reduceCtorEq, reducePow, reduceAdd, reduceSub, reduceMul, reduceEqDiff, reduceLeDiff, Nat.reduceLT, Int.reduceLT, Int.reduceLE, Int.reduceToNat, ty44_XLw]
        exact ret_pure rfl rfl ⟨_, _, _, rfl⟩
      · skip
        simp only [↓wBA, wBB, wBC, cx_muts, cx_arr, wBD, convA, Nat.reduceBEq, reduceIte, reduceCtorEq, reducePow, reduceAdd, reduceSub, reduceMul, reduceEqDiff, reduceLeDiff, Nat.reduceLT, Int.reduceLT, Int.reduceLE, Int.reduceToNat, ty44_XLw]
        refine (aupper s 65 90 32 hs _).mono ?_
        rintro _ _ ⟨rfl, lo, hlo, rfl⟩
        simp only [↓wBA, wBB, wBC, cx_muts, cx_arr, wBD, convA, Nat.reduceBEq, reduceIte, reduceCtorEq, reducePow, reduceAdd, reduceSub, reduceMul, reduceEqDiff, reduceLeDiff, Nat.reduceLT, Int.reduceLT, Int.reduceLE, Int.reduceToNat, ty44_XLw]
        exact ret_pure rfl rfl ⟨_, _, _, rfl⟩
end Go.Proofs.Ytcnkmandddfdmaa
