/- Of a state less is known: objects are forgotten, slots too; nil is a row to append to. -/
import Derived.Test.YtpfnpinblbfjdaaAvW
set_option linter.unusedSimpArgs false
set_option linter.unusedVariables false
namespace Go.Proofs.Ytpfnpinblbfjdaa
open Go.RowKit

mutual
/-- All objects that a value names are among the first n. -/
def tokLt (n : Nat) : AV → Bool
  | .any | .p _ | .ip _ _ => true
  | .own t _ _ | .nown t _ _ | .mp t _ _ _ | .ms t _ _ _ => decide (t < n)
  | .fn _ f c => tokLtL n f && tokLtL n c
  | .agg l | .tup l => tokLtL n l
def tokLtL (n : Nat) : List AV → Bool
  | [] => true
  | a :: l => tokLt n a && tokLtL n l
end

/-- Two views that see the same of the first n objects. -/
structure Alike (n : Nat) (M M' : View) : Prop where
  w : M'.w = M.w
  I : M'.I = M.I
  mu : ∀ t, t < n → M'.mu t = M.mu t
  len : ∀ t, t < n → M'.len t = M.len t
  cap : ∀ t, t < n → M'.cap t = M.cap t

mutual
theorem ARep.alike {n : Nat} {M M' : View} (h : Alike n M M') : ∀ (a : AV) (u : Value), tokLt n a = true → ARep M a u → ARep M' a u
  | .any, u, ht, hr => by simp [ARep]
  | .p x, u, ht, hr => by simp only [ARep] at hr ⊢; rw [h.w, h.I]; exact hr
  | .own t e ls, u, ht, hr => by
    simp only [tokLt, decide_eq_true_eq] at ht
    simp only [ARep] at hr ⊢
    rw [h.w, h.I, h.mu t ht, h.len t ht, h.cap t ht]; exact hr
  | .nown t e ls, u, ht, hr => by
    simp only [tokLt, decide_eq_true_eq] at ht
    simp only [ARep] at hr ⊢
    rw [h.w, h.I, h.mu t ht, h.len t ht, h.cap t ht]; exact hr
  | .ip c o, u, ht, hr => by simp only [ARep] at hr ⊢; rw [h.w, h.I]; exact hr
  | .mp t e i o, u, ht, hr => by
    simp only [tokLt, decide_eq_true_eq] at ht
    simp only [ARep] at hr ⊢
    rw [h.mu t ht, h.len t ht]; exact hr
  | .ms t e i n', u, ht, hr => by
    simp only [tokLt, decide_eq_true_eq] at ht
    simp only [ARep] at hr ⊢
    rw [h.mu t ht, h.len t ht]; exact hr
  | .fn f first cap, u, ht, hr => by
    simp only [tokLt, Bool.and_eq_true] at ht
    simp only [ARep] at hr ⊢
    obtain ⟨us, vs, h1, h2, h3⟩ := hr
    exact ⟨us, vs, h1, ARepL.alike h first us ht.1 h2, ARepL.alike h cap vs ht.2 h3⟩
  | .agg l, u, ht, hr => by
    simp only [tokLt] at ht
    simp only [ARep] at hr ⊢
    obtain ⟨h0, us, h1, h2⟩ := hr
    exact ⟨h0, us, h1, ARepL.alike h l us ht h2⟩
  | .tup l, u, ht, hr => by
    simp only [tokLt] at ht
    simp only [ARep] at hr ⊢
    obtain ⟨us, h1, h2⟩ := hr
    exact ⟨us, h1, ARepL.alike h l us ht h2⟩
theorem ARepL.alike {n : Nat} {M M' : View} (h : Alike n M M') : ∀ (l : List AV) (us : List Value), tokLtL n l = true → ARepL M l us → ARepL M' l us
  | [], us, ht, hr => by simpa [ARepL] using hr
  | a :: l, us, ht, hr => by
    simp only [tokLtL, Bool.and_eq_true] at ht
    simp only [ARepL] at hr ⊢
    obtain ⟨u, us', h1, h2, h3⟩ := hr
    exact ⟨u, us', h1, ARep.alike h a u ht.1 h2, ARepL.alike h l us' ht.2 h3⟩
end

/-- Of a value less is known (n: how many objects are kept; τ: the objects behind). -/
def leA (n : Nat) (τ : St) (x y : AV) : Prop :=
  y = .any ∨ (x = y ∧ tokLt n y = true) ∨ (∃ t e ls, x = .own t e ls ∧ y = .p (.sl e ls)) ∨ (∃ t e ls, x = .nown t e ls ∧ y = .p (nilSl e ls)) ∨ (∃ t e E, x = nilA ∧ y = .nown t e [] ∧ n ≤ t ∧ τ[t]? = some (some (.nright E 0)))
def leL (n : Nat) (τ : St) : List AV → List AV → Prop
  | [], [] => True
  | x :: xs, y :: ys => leA n τ x y ∧ leL n τ xs ys
  | _, _ => False
def leC (n : Nat) (τ : St) : List AV → List AV → Prop
  | [], [] => True
  | x :: xs, y :: ys => leA n τ x y ∧ leaf y = true ∧ leC n τ xs ys
  | _, _ => False
def leR (n : Nat) (τ : St) : List (List AV) → List (List AV) → Prop
  | [], [] => True
  | x :: xs, y :: ys => leC n τ x y ∧ leR n τ xs ys
  | _, _ => False
def leO (n : Nat) (τ : St) : Option Ob → Option Ob → Prop
  | _, none => True
  | some (.row e ls), some (.row e' ls') => e = e' ∧ (ls = ls' ∧ ls.all (tokLtL n) = true ∨ leR n τ ls ls')
  | some (.right E m), some (.right E' m') => E = E' ∧ m = m'
  | some (.nright E m), some (.nright E' m') => E = E' ∧ m = m'
  | _, _ => False
def leS (n : Nat) (τ : St) : St → St → Prop
  | _, [] => True
  | [], none :: σ' => leS n τ [] σ'
  | [], some (.nright _ 0) :: σ' => leS n τ [] σ'
  | s :: σ, s' :: σ' => leO n τ s s' ∧ leS n τ σ σ'
  | _, _ => False
/-- Of a state less is known. -/
def Weak (fr : List AV) (σ : St) (fr' : List AV) (σ' : St) : Prop := leL (min σ.length σ'.length) σ' fr fr' ∧ leS (min σ.length σ'.length) σ' σ σ'

/-- The view that is left. -/
def View.cut (M : View) (n : Nat) (τ : St) : View :=
  { M with mu := fun t => if t < n then M.mu t else none, len := fun t => if t < n then M.len t else match τ[t]? with | some (some (.nright _ 0)) => some 0 | _ => none }
theorem View.cut_alike (M : View) (n : Nat) (τ : St) : Alike n M (M.cut n τ) :=
  ⟨rfl, rfl, fun t ht => by simp [View.cut, ht], fun t ht => by simp [View.cut, ht], fun t ht => rfl⟩
theorem leA.rep {n : Nat} {τ : St} {x y : AV} {M : View} {u : Value} (h : leA n τ x y) (hx : ARep M x u) : ARep (M.cut n τ) y u := by
  rcases h with rfl | ⟨rfl, ht⟩ | ⟨t, e, ls, rfl, rfl⟩ | ⟨t, e, ls, rfl, rfl⟩ | ⟨t, e, E, rfl, rfl, hn, hτ⟩
  · simp [ARep]
  · exact ARep.alike (M.cut_alike n τ) _ _ ht hx
  · simp only [ARep]; exact toP_rep (M := M) (x := .own t e ls) rfl hx
  · simp only [ARep]; exact toP_rep (M := M) (x := .nown t e ls) rfl hx
  · have := (rep_v hx).2; subst this
    simp only [ARep]
    exact ⟨0, by simp [View.cut, Nat.not_lt.2 hn, hτ], by simp, .inl ⟨trivial, trivial⟩⟩
theorem leL.rep {n : Nat} {τ : St} {M : View} : ∀ {xs ys : List AV} {us : List Value}, leL n τ xs ys → ARepL M xs us → ARepL (M.cut n τ) ys us
  | [], [], us, h, hx => by simpa [ARepL] using hx
  | x :: xs, y :: ys, us, h, hx => by
    simp only [ARepL] at hx ⊢
    obtain ⟨u, us', rfl, h1, h2⟩ := hx
    exact ⟨u, us', rfl, h.1.rep h1, leL.rep h.2 h2⟩
  | [], y :: ys, us, h, hx => h.elim
  | x :: xs, [], us, h, hx => h.elim
theorem leC.get {n : Nat} {τ : St} : ∀ {xs ys : List AV}, leC n τ xs ys → xs.length = ys.length ∧ ∀ (j : Nat) (y : AV), ys[j]? = some y → ∃ x, xs[j]? = some x ∧ leA n τ x y ∧ leaf y = true
  | [], [], h => by simp
  | x :: xs, y :: ys, h => by
    obtain ⟨h1, h2, h3⟩ := h
    obtain ⟨h4, h5⟩ := leC.get h3
    refine ⟨by simp [h4], fun j z hz => ?_⟩
    cases j with
    | zero => simp at hz; subst hz; exact ⟨x, rfl, h1, h2⟩
    | succ j => simpa using h5 j z (by simpa using hz)
  | [], y :: ys, h => h.elim
  | x :: xs, [], h => h.elim
theorem leR.get {n : Nat} {τ : St} : ∀ {xs ys : List (List AV)}, leR n τ xs ys → ∀ (j : Nat) (y : List AV), ys[j]? = some y → ∃ x, xs[j]? = some x ∧ leC n τ x y
  | [], [], h => by simp
  | x :: xs, y :: ys, h => by
    intro j z hz
    cases j with
    | zero => simp at hz; subst hz; exact ⟨x, rfl, h.1⟩
    | succ j => simpa using leR.get h.2 j z (by simpa using hz)
  | [], y :: ys, h => h.elim
  | x :: xs, [], h => h.elim
theorem leS.get {n : Nat} {τ : St} : ∀ {σ σ' : St}, leS n τ σ σ' → ∀ (t : Nat) (ob : Ob), σ'.at t ob → (t < σ.length ∧ ∃ s, σ[t]? = some s ∧ leO n τ s (some ob)) ∨ (σ.length ≤ t ∧ ∃ E, ob = .nright E 0)
  | σ, [], h, t, ob, ht => by simp [St.at] at ht
  | [], none :: σ', h, t, ob, ht => by
    cases t with
    | zero => simp [St.at] at ht
    | succ t =>
      rcases leS.get (σ := []) (σ' := σ') (by simpa [leS] using h) t ob (by simpa [St.at] using ht) with ⟨h1, _⟩ | ⟨_, h2⟩
      · simp at h1
      · exact .inr ⟨by simp, h2⟩
  | [], some (.nright E m) :: σ', h, t, ob, ht => by
    cases m with
    | succ m => simp [leS] at h
    | zero =>
      cases t with
      | zero => simp [St.at] at ht; exact .inr ⟨by simp, E, ht.symm⟩
      | succ t =>
        rcases leS.get (σ := []) (σ' := σ') (by simpa [leS] using h) t ob (by simpa [St.at] using ht) with ⟨h1, _⟩ | ⟨_, h2⟩
        · simp at h1
        · exact .inr ⟨by simp, h2⟩
  | [], some (.row e ls) :: σ', h, t, ob, ht => by simp [leS] at h
  | [], some (.right E m) :: σ', h, t, ob, ht => by simp [leS] at h
  | s :: σ, s' :: σ', h, t, ob, ht => by
    have h' : leO n τ s s' ∧ leS n τ σ σ' := by simpa [leS] using h
    cases t with
    | zero => simp [St.at] at ht; subst ht; exact .inl ⟨by simp, s, rfl, h'.1⟩
    | succ t =>
      rcases leS.get h'.2 t ob (by simpa [St.at] using ht) with ⟨h1, s0, h2, h3⟩ | ⟨h1, h2⟩
      · exact .inl ⟨by simpa using h1, s0, by simpa using h2, h3⟩
      · exact .inr ⟨by simpa using h1, h2⟩

/-- What is left stands for less. -/
theorem weak_sound {M0 M : View} {σ0 σ σ' : St} {fr fr' : List AV} {a : Act} (h0 : Match M0 σ0) (hE : Ext M0 σ0 M σ) (hM : Match M σ) (hF : FRep M a fr) (hw : Weak fr σ fr' σ') (h1 : σ0.length ≤ σ.length) (h2 : σ0.length ≤ σ'.length) :
    ∃ M', M'.w = M.w ∧ Ext M0 σ0 M' σ' ∧ Match M' σ' ∧ FRep M' a fr' := by
  obtain ⟨hl, hs⟩ := hw
  generalize hn : min σ.length σ'.length = n at *
  have hn1 : n ≤ σ.length := by omega
  have hn2 : n ≤ σ'.length := by omega
  have hn0 : σ0.length ≤ n := by omega
  have hA := M.cut_alike n σ'
  have hlow : ∀ t b, M0.mu t = some b → t < n := fun t b ht => by
    rcases Nat.lt_or_ge t σ0.length with h | h
    · omega
    · rw [(h0.fresh t h).1] at ht; simp at ht
  have hlow' : ∀ t m, M0.len t = some m → t < n := fun t m ht => by
    rcases Nat.lt_or_ge t σ0.length with h | h
    · omega
    · rw [(h0.fresh t h).2] at ht; simp at ht
  have hmu : ∀ t, n ≤ t → (M.cut n σ').mu t = none := fun t ht => by simp [View.cut, Nat.not_lt.2 ht]
  have hat : ∀ t ob, σ'.at t ob → (t < n ∧ ∃ ob0, σ.at t ob0 ∧ leO n σ' (some ob0) (some ob)) ∨ (n ≤ t ∧ ∃ E, ob = .nright E 0) := fun t ob ht => by
    have htl := (List.getElem?_eq_some_iff.1 ht).1
    rcases hs.get t ob ht with ⟨h3, s, h4, h5⟩ | ⟨h3, h4⟩
    · cases s with
      | none => simp [leO] at h5
      | some ob0 => exact .inl ⟨by omega, ob0, h4, h5⟩
    · exact .inr ⟨by omega, h4⟩
  refine ⟨M.cut n σ', rfl, ?_, ?_, ⟨hl.rep hF.tmps, hF.defers⟩⟩
  · refine ⟨fun t b ht hl0 => ?_, fun t m ht => ?_, hE.imm, hE.cell, hE.keep, fun t ob b ht hb => ?_, hE.size, hE.os, hE.tape, hE.output⟩
    · have := hlow t b ht
      rw [hA.mu t this, hA.len t this]; exact hE.mu t b ht hl0
    · have := hlow' t m ht
      rw [hA.mu t this, hA.len t this, hA.cap t this]; exact hE.own t m ht
    · rcases hat t ob ht with ⟨h3, ob0, h4, _⟩ | ⟨h3, _⟩
      · rw [hA.mu t h3] at hb; exact hE.new t ob0 b h4 hb
      · rw [hmu t h3] at hb; simp at hb
  · refine ⟨fun t ob ht => ?_, fun t t' ob ob' b ht ht' hb hb' => ?_, fun t ht => ?_, fun t b hb => ?_, hM.imm⟩
    · rcases hat t ob ht with ⟨h3, ob0, h4, h5⟩ | ⟨h3, E, rfl⟩
      · have hob := hM.obj t ob0 h4
        have hown : ∀ b E m, OwnRep M t b E m → OwnRep (M.cut n σ') t b E m := fun b E m ⟨cur, g1, g2, g3, g4⟩ =>
          ⟨cur, by rw [hA.mu t h3]; exact g1, g2, by rw [hA.cap t h3]; exact g3, g4⟩
        cases ob0 <;> cases ob <;> simp only [leO] at h5
        · obtain ⟨rfl, h5⟩ := h5
          obtain ⟨g0, b, cur, T, g1, g2, g3, g4⟩ := hob
          refine ⟨by rw [hA.len t h3]; exact g0, b, cur, T, by rw [hA.mu t h3]; exact g1, g2, g3, ?_⟩
          rcases h5 with ⟨rfl, h5⟩ | h5
          · intro i c hc
            refine ⟨(g4 i c hc).1, fun j x hx => ?_⟩
            obtain ⟨k1, u, k2, k3⟩ := (g4 i c hc).2 j x hx
            have k4 := List.all_eq_true.1 h5 c (List.mem_of_getElem? hc)
            have k5 : tokLt n x = true := by
              have : ∀ (l : List AV), tokLtL n l = true → ∀ y ∈ l, tokLt n y = true := fun l => by
                induction l with
                | nil => simp
                | cons z l ih =>
                  intro hz y hy
                  simp only [tokLtL, Bool.and_eq_true] at hz
                  rcases List.mem_cons.1 hy with rfl | hy
                  · exact hz.1
                  · exact ih hz.2 y hy
              exact this c k4 x (List.mem_of_getElem? hx)
            exact ⟨k1, u, k2, ARep.alike hA _ _ k5 k3⟩
          · intro i c hc
            obtain ⟨c0, k1, k2⟩ := h5.get i c hc
            obtain ⟨k3, k4⟩ := k2.get
            refine ⟨by rw [← k3]; exact (g4 i c0 k1).1, fun j x hx => ?_⟩
            obtain ⟨x0, k5, k6, k7⟩ := k4 j x hx
            obtain ⟨_, u, k8, k9⟩ := (g4 i c0 k1).2 j x0 k5
            exact ⟨k7, u, k8, k6.rep k9⟩
        · obtain ⟨rfl, rfl⟩ := h5
          obtain ⟨g0, b, g1⟩ := hob
          exact ⟨by rw [hA.len t h3]; exact g0, b, hown _ _ _ g1⟩
        · obtain ⟨rfl, rfl⟩ := h5
          obtain ⟨g0, g1⟩ := hob
          exact ⟨by rw [hA.len t h3]; exact g0, g1.imp (fun ⟨q1, q2⟩ => ⟨q1, by rw [hA.mu t h3]; exact q2⟩) fun ⟨q1, b, q2⟩ => ⟨q1, b, hown _ _ _ q2⟩⟩
      · have ht' : σ'[t]? = some (some (.nright E 0)) := ht
        exact ⟨by simp [View.cut, Nat.not_lt.2 h3, ht'], .inl ⟨rfl, hmu t h3⟩⟩
    · rcases hat t ob ht with ⟨h3, ob0, h4, _⟩ | ⟨h3, _⟩
      · rcases hat t' ob' ht' with ⟨h6, ob1, h7, _⟩ | ⟨h6, _⟩
        · rw [hA.mu t h3] at hb; rw [hA.mu t' h6] at hb'
          exact hM.inj t t' ob0 ob1 b h4 h7 hb hb'
        · rw [hmu t' h6] at hb'; simp at hb'
      · rw [hmu t h3] at hb; simp at hb
    · have : σ'[t]? = none := List.getElem?_eq_none ht
      exact ⟨hmu t (by omega), by simp [View.cut, Nat.not_lt.2 (show n ≤ t by omega), this]⟩
    · rcases Nat.lt_or_ge t n with h3 | h3
      · rw [hA.mu t h3] at hb; exact hM.lt t b hb
      · rw [hmu t h3] at hb; simp at hb
end Go.Proofs.Ytpfnpinblbfjdaa
