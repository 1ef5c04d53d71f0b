/- The abstract machine's values and what they stand for in a world. Variables of the package that the walks read: their numbers, and what they hold. -/
import Derived.Below
import Derived.ProofKit
import Derived.Lib.ItoaMem
import Derived.Lib.ItoaWalk
set_option linter.unusedSimpArgs false
set_option linter.unusedVariables false
set_option linter.defProp false
set_option maxRecDepth 100000
set_option maxHeartbeats 32000000
namespace Go.Proofs.Ytlddiphjpmlhbaa
open Go.RowKit
inductive PV where
 | v (x : Value)
 | sl (e : Nat) (ls : List (List PV))
inductive AV where
 | any
 | p (x : PV)
 | own (t e : Nat) (ls : List (List PV))
 | nown (t e : Nat) (ls : List (List PV))
 | ip (c : List PV) (o : Nat)
 | mp (t e i o : Nat)
 | ms (t e i n : Nat)
 | mmap (t : Nat)
 | raw (t e k : Nat)
 | fn (f : FuncId) (first cap : List AV)
 | agg (l : List AV)
 | tup (l : List AV)
 | dyn (T : TypeId) (a : AV)
 | bs (t e i o n : Nat)
def plain : Value → Bool
 | .bool _ | .int _ _ | .float _ _ | .complex _ _ _ | .string _ | .pointer none | .slice none 0 0 | .map none | .chan none | .nilFunc | .nilIface => true
 | .slice (some _) 0 _ => true
 | _ => false
mutual
def PRep (w : World) (I : Nat → Nat → Prop) : PV → Value → Prop
 | .v x, u => plain x = true ∧ u = x
 | .sl e ls, u => (ls = [] ∧ ∃ ad cap, u = .slice ad 0 cap ∧ (ad = none → cap = 0)) ∨ ∃ b off cap, u = .slice (some ⟨b, off, none⟩) ls.length cap ∧ ls.length ≤ cap ∧ PRepR w I b off e ls
def PRepR (w : World) (I : Nat → Nat → Prop) (b off e : Nat) : List (List PV) → Prop
 | [] => True
 | c :: ls => c.length = e ∧ PRepC w I b off c ∧ PRepR w I b (off + e) e ls
def PRepC (w : World) (I : Nat → Nat → Prop) (b off : Nat) : List PV → Prop
 | [] => True
 | a :: c => (∃ u, w.cell? ⟨b, off, none⟩ = some u ∧ I b off ∧ PRep w I a u) ∧ PRepC w I b (off + 1) c
end
structure View where
 w : World
 I : Nat → Nat → Prop
 mu : Nat → Option Nat
 len : Nat → Option Nat
 cap : Nat → Nat
def leaf : AV → Bool
 | .p _ | .own .. | .nown .. | .ip .. | .mp .. | .ms .. | .mmap _ | .raw .. | .fn .. | .dyn .. | .bs .. => true
 | _ => false
mutual
def ARep (M : View) : AV → Value → Prop
 | .any, _ => True
 | .p x, u => PRep M.w M.I x u
 | .own t e ls, u => ∃ b cap n, u = .slice (some ⟨b, 0, none⟩) ls.length cap ∧ ls.length ≤ cap ∧ cap ≤ maxLen ∧ PRepR M.w M.I b 0 e ls ∧ M.len t = some n ∧ ls.length * e ≤ n ∧ (ls.length * e = n → M.mu t = some b ∧ M.cap t = cap * e)
 | .nown t e ls, u => ∃ n, M.len t = some n ∧ ls.length * e ≤ n ∧ ((ls = [] ∧ u = .slice none 0 0) ∨ (ls ≠ [] ∧ ∃ b cap, u = .slice (some ⟨b, 0, none⟩) ls.length cap ∧ ls.length ≤ cap ∧ cap ≤ maxLen ∧ PRepR M.w M.I b 0 e ls ∧ (ls.length * e = n → M.mu t = some b ∧ M.cap t = cap * e)))
 | .ip c o, u => ∃ b off, u = .pointer (some ⟨b, off + o, none⟩) ∧ PRepC M.w M.I b off c
 | .mp t e i o, u => ∃ b, M.mu t = some b ∧ M.len t = none ∧ u = .pointer (some ⟨b, i * e + o, none⟩)
 | .ms t e i n, u => ∃ b cap, M.mu t = some b ∧ M.len t = none ∧ u = .slice (some ⟨b, i * e, none⟩) n cap ∧ n ≤ cap ∧ i * e + cap * e ≤ M.cap t
 | .mmap t, u => ∃ b, M.mu t = some b ∧ M.len t = none ∧ u = .map (some b)
 | .raw t e k, u => ∃ b cap n, u = .slice (some ⟨b, 0, none⟩) k cap ∧ k ≤ cap ∧ cap ≤ maxLen ∧ M.len t = some n ∧ (n = 0 → M.mu t = some b ∧ M.cap t = cap * e)
 | .fn f first cap, u => ∃ us vs, u = .func (.func f) us.toArray vs.toArray ∧ ARepL M first us ∧ ARepL M cap vs
 | .agg l, u => l.all leaf = true ∧ ∃ us, u = .agg us.toArray ∧ ARepL M l us
 | .tup l, u => ∃ us, u = .tuple us.toArray ∧ ARepL M l us
 | .dyn T a, u => ∃ v, u = .iface T v ∧ ARep M a v
 | .bs t e i o n, u => ∃ b cap, M.mu t = some b ∧ M.len t = none ∧ u = .slice (some ⟨b, i * e + o, none⟩) n cap ∧ n ≤ cap
def ARepL (M : View) : List AV → List Value → Prop
 | [], us => us = []
 | a :: l, us => ∃ u us', us = u :: us' ∧ ARep M a u ∧ ARepL M l us'
end
structure Later (M M' : View) : Prop where
 mu : ∀ t b, M.mu t = some b → M.len t = none → M'.mu t = some b ∧ M'.len t = none ∧ M'.cap t = M.cap t
 own : ∀ t n, M.len t = some n → ∃ n', M'.len t = some n' ∧ n ≤ n' ∧ (n' = n → M'.mu t = M.mu t ∧ M'.cap t = M.cap t)
 imm : ∀ b o, M.I b o → M'.I b o
 cell : ∀ b o, M.I b o → M'.w.cell? ⟨b, o, none⟩ = M.w.cell? ⟨b, o, none⟩
mutual
theorem PRep.later {w w' : World} {I I' : Nat → Nat → Prop} (hi : ∀ b o, I b o → I' b o) (hc : ∀ b o, I b o → w'.cell? ⟨b, o, none⟩ = w.cell? ⟨b, o, none⟩) :
 ∀ (x : PV) (u : Value), PRep w I x u → PRep w' I' x u
 | .v x, u, h => by simpa [PRep] using h
 | .sl e ls, u, h => by
   simp only [PRep] at h ⊢
   rcases h with h | ⟨b, off, cap, h1, h2, h3⟩
   ·exact .inl h
   ·exact .inr ⟨b, off, cap, h1, h2, PRepR.later hi hc b e ls off h3⟩
theorem PRepR.later {w w' : World} {I I' : Nat → Nat → Prop} (hi : ∀ b o, I b o → I' b o) (hc : ∀ b o, I b o → w'.cell? ⟨b, o, none⟩ = w.cell? ⟨b, o, none⟩) (b e : Nat) :
 ∀ (ls : List (List PV)) (off : Nat), PRepR w I b off e ls → PRepR w' I' b off e ls
 | [], off, h => by simp [PRepR]
 | c :: ls, off, h => by
   simp only [PRepR] at h ⊢
   exact ⟨h.1, PRepC.later hi hc b c off h.2.1, PRepR.later hi hc b e ls (off + e) h.2.2⟩
theorem PRepC.later {w w' : World} {I I' : Nat → Nat → Prop} (hi : ∀ b o, I b o → I' b o) (hc : ∀ b o, I b o → w'.cell? ⟨b, o, none⟩ = w.cell? ⟨b, o, none⟩) (b : Nat) :
 ∀ (c : List PV) (off : Nat), PRepC w I b off c → PRepC w' I' b off c
 | [], off, h => by simp [PRepC]
 | a :: c, off, h => by
   simp only [PRepC] at h ⊢
   obtain ⟨⟨u, h1, h2, h3⟩, h4⟩ := h
   exact ⟨⟨u, by rw [hc b off h2]; exact h1, hi b off h2, PRep.later hi hc a u h3⟩, PRepC.later hi hc b c (off + 1) h4⟩
end
mutual
theorem ARep.later {M M' : View} (hL : Later M M') : ∀ (a : AV) (u : Value), ARep M a u → ARep M' a u
 | .any, u, h => by simp [ARep]
 | .p x, u, h => by
   simp only [ARep] at h ⊢
   exact PRep.later hL.imm hL.cell x u h
 | .own t e ls, u, h => by
   simp only [ARep] at h ⊢
   obtain ⟨b, cap, n, h1, h2, h3, h4, h5, h6, h7⟩ := h
   obtain ⟨n', g1, g2, g3⟩ := hL.own t n h5
   refine ⟨b, cap, n', h1, h2, h3, PRepR.later hL.imm hL.cell b e ls 0 h4, g1, by omega, fun he => ?_⟩
   have : n' = n := by omega
   rw [(g3 this).1, (g3 this).2]; exact h7 (by omega)
 | .nown t e ls, u, h => by
   simp only [ARep] at h ⊢
   obtain ⟨n, h5, h6, h⟩ := h
   obtain ⟨n', g1, g2, g3⟩ := hL.own t n h5
   refine ⟨n', g1, by omega, h.imp id fun ⟨h0, b, cap, h1, h2, h3, h4, h7⟩ => ⟨h0, b, cap, h1, h2, h3, PRepR.later hL.imm hL.cell b e ls 0 h4, fun he => ?_⟩⟩
   have : n' = n := by omega
   rw [(g3 this).1, (g3 this).2]; exact h7 (by omega)
 | .ip c o, u, h => by
   simp only [ARep] at h ⊢
   obtain ⟨b, off, h1, h2⟩ := h
   exact ⟨b, off, h1, PRepC.later hL.imm hL.cell b c off h2⟩
 | .mp t e i o, u, h => by
   simp only [ARep] at h ⊢
   obtain ⟨b, h1, h0, h2⟩ := h
   exact ⟨b, (hL.mu t b h1 h0).1, (hL.mu t b h1 h0).2.1, h2⟩
 | .ms t e i n, u, h => by
   simp only [ARep] at h ⊢
   obtain ⟨b, cap, h1, h0, h2⟩ := h
   exact ⟨b, cap, (hL.mu t b h1 h0).1, (hL.mu t b h1 h0).2.1, h2.1, h2.2.1, by rw [(hL.mu t b h1 h0).2.2]; exact h2.2.2⟩
 | .mmap t, u, h => by
   simp only [ARep] at h ⊢
   obtain ⟨b, h1, h0, h2⟩ := h
   exact ⟨b, (hL.mu t b h1 h0).1, (hL.mu t b h1 h0).2.1, h2⟩
 | .raw t e k, u, h => by
   simp only [ARep] at h ⊢
   obtain ⟨b, cap, n, h1, h2, h3, h5, h7⟩ := h
   obtain ⟨n', g1, g2, g3⟩ := hL.own t n h5
   refine ⟨b, cap, n', h1, h2, h3, g1, fun he => ?_⟩
   have : n' = n := by omega
   rw [(g3 this).1, (g3 this).2]; exact h7 (by omega)
 | .fn f first cap, u, h => by
   simp only [ARep] at h ⊢
   obtain ⟨us, vs, h1, h2, h3⟩ := h
   exact ⟨us, vs, h1, ARepL.later hL first us h2, ARepL.later hL cap vs h3⟩
 | .agg l, u, h => by
   simp only [ARep] at h ⊢
   obtain ⟨h0, us, h1, h2⟩ := h
   exact ⟨h0, us, h1, ARepL.later hL l us h2⟩
 | .tup l, u, h => by
   simp only [ARep] at h ⊢
   obtain ⟨us, h1, h2⟩ := h
   exact ⟨us, h1, ARepL.later hL l us h2⟩
 | .dyn T a, u, h => by
   simp only [ARep] at h ⊢
   obtain ⟨v, h1, h2⟩ := h
   exact ⟨v, h1, ARep.later hL a v h2⟩
 | .bs t e i o n, u, h => by
   simp only [ARep] at h ⊢
   obtain ⟨b, cap, h1, h0, h2⟩ := h
   exact ⟨b, cap, (hL.mu t b h1 h0).1, (hL.mu t b h1 h0).2.1, h2⟩
theorem ARepL.later {M M' : View} (hL : Later M M') : ∀ (l : List AV) (us : List Value), ARepL M l us → ARepL M' l us
 | [], us, h => by simpa [ARepL] using h
 | a :: l, us, h => by
   simp only [ARepL] at h ⊢
   obtain ⟨u, us', h1, h2, h3⟩ := h
   exact ⟨u, us', h1, ARep.later hL a u h2, ARepL.later hL l us' h3⟩
end
theorem ARepL.len {M : View} : ∀ {l : List AV} {us : List Value}, ARepL M l us → us.length = l.length
 | [], us, h => by simp only [ARepL] at h; simp [h]
 | a :: l, us, h => by
   simp only [ARepL] at h
   obtain ⟨u, us', h1, h2, h3⟩ := h
   simp [h1, ARepL.len h3]
theorem ARepL_iff {M : View} : ∀ {l : List AV} {us : List Value}, ARepL M l us ↔ us.length = l.length ∧ ∀ (i : Nat) (a : AV) (u : Value), l[i]? = some a → us[i]? = some u → ARep M a u
 | [], us => by simp [ARepL]
 | a :: l, us => by
   simp only [ARepL]
   constructor
   ·rintro ⟨u, us', rfl, h2, h3⟩
    obtain ⟨h4, h5⟩ := ARepL_iff.1 h3
    refine ⟨by simp [h4], fun i b v hb hv => ?_⟩
    cases i with
    | zero => simp at hb hv; subst hb hv; exact h2
    | succ i => simp at hb hv; exact h5 i b v hb hv
   ·rintro ⟨h1, h2⟩
    cases us with
    | nil => simp at h1
    | cons u us' => exact ⟨u, us', rfl, h2 0 a u rfl rfl, ARepL_iff.2 ⟨by simpa using h1, fun i b v hb hv => h2 (i + 1) b v (by simpa using hb) (by simpa using hv)⟩⟩
theorem ARepL.get {M : View} {l : List AV} {us : List Value} (h : ARepL M l us) {i : Nat} {a : AV} (ha : l[i]? = some a) : ∃ u, us[i]? = some u ∧ ARep M a u := by
 obtain ⟨h1, h2⟩ := ARepL_iff.1 h
 have hi := (List.getElem?_eq_some_iff.1 ha).1
 obtain ⟨u, hu⟩ : ∃ u, us[i]? = some u := ⟨us[i]'(by omega), List.getElem?_eq_getElem _⟩
 exact ⟨u, hu, h2 i a u ha hu⟩
theorem ARepL.append {M : View} : ∀ {l l' : List AV} {us us' : List Value}, ARepL M l us → ARepL M l' us' → ARepL M (l ++ l') (us ++ us')
 | [], l', us, us', h, h' => by simp only [ARepL] at h; subst h; simpa using h'
 | a :: l, l', us, us', h, h' => by
   simp only [ARepL] at h
   obtain ⟨u, us1, rfl, h2, h3⟩ := h
   simp only [List.cons_append, ARepL]
   exact ⟨u, _, rfl, h2, ARepL.append h3 h'⟩
theorem ARepL.set {M : View} {l : List AV} {us : List Value} (h : ARepL M l us) {a : AV} {u : Value} (hu : ARep M a u) (i : Nat) : ARepL M (l.set i a) (us.set i u) := by
 obtain ⟨h1, h2⟩ := ARepL_iff.1 h
 refine ARepL_iff.2 ⟨by simp [h1], fun j b v hb hv => ?_⟩
 rw [List.getElem?_set] at hb hv
 by_cases e : i = j
 ·subst e
  rw [if_pos rfl] at hb hv
  by_cases hi : i < l.length
  ·rw [if_pos hi] at hb; rw [if_pos (by omega)] at hv
   simp only [Option.some.injEq] at hb hv
   subst hb hv
   exact hu
  ·rw [if_neg hi] at hb; simp at hb
 ·rw [if_neg e] at hb hv
  exact h2 j b v hb hv
theorem ARepL.take {M : View} {l : List AV} {us : List Value} (h : ARepL M l us) (n : Nat) : ARepL M (l.take n) (us.take n) := by
 obtain ⟨h1, h2⟩ := ARepL_iff.1 h
 refine ARepL_iff.2 ⟨by simp [h1], fun j b v hb hv => ?_⟩
 rw [List.getElem?_take] at hb hv
 by_cases e : j < n
 ·rw [if_pos e] at hb hv; exact h2 j b v hb hv
 ·rw [if_neg e] at hb; simp at hb
theorem ARepL.drop {M : View} {l : List AV} {us : List Value} (h : ARepL M l us) (n : Nat) : ARepL M (l.drop n) (us.drop n) := by
 obtain ⟨h1, h2⟩ := ARepL_iff.1 h
 refine ARepL_iff.2 ⟨by simp [h1], fun j b v hb hv => ?_⟩
 rw [List.getElem?_drop] at hb hv
 exact h2 _ b v hb hv
theorem PRepR.get {w : World} {I : Nat → Nat → Prop} {b e : Nat} : ∀ {ls : List (List PV)} {off : Nat}, PRepR w I b off e ls → ∀ {i : Nat} {c : List PV}, ls[i]? = some c → c.length = e ∧ PRepC w I b (off + i * e) c
 | [], off, h, i, c, hc => by simp at hc
 | d :: ls, off, h, i, c, hc => by
   simp only [PRepR] at h
   cases i with
   | zero => simp at hc; subst hc; simpa using ⟨h.1, h.2.1⟩
   | succ i =>
     simp at hc
     have := PRepR.get h.2.2 hc
     rw [show off + (i + 1) * e = off + e + i * e by rw [Nat.succ_mul]; omega]
     exact this
theorem PRepR.of_get {w : World} {I : Nat → Nat → Prop} {b e : Nat} : ∀ {ls : List (List PV)} {off : Nat}, (∀ (i : Nat) (c : List PV), ls[i]? = some c → c.length = e ∧ PRepC w I b (off + i * e) c) → PRepR w I b off e ls
 | [], off, h => by simp [PRepR]
 | d :: ls, off, h => by
   simp only [PRepR]
   have h0 := h 0 d rfl
   simp only [Nat.zero_mul, Nat.add_zero] at h0
   refine ⟨h0.1, h0.2, PRepR.of_get fun i c hc => ?_⟩
   have := h (i + 1) c (by simpa using hc)
   rw [show off + e + i * e = off + (i + 1) * e by rw [Nat.succ_mul]; omega]
   exact this
theorem PRepC.get {w : World} {I : Nat → Nat → Prop} {b : Nat} : ∀ {c : List PV} {off : Nat}, PRepC w I b off c → ∀ {j : Nat} {a : PV}, c[j]? = some a → ∃ u, w.cell? ⟨b, off + j, none⟩ = some u ∧ I b (off + j) ∧ PRep w I a u
 | [], off, h, j, a, ha => by simp at ha
 | d :: c, off, h, j, a, ha => by
   simp only [PRepC] at h
   cases j with
   | zero => simp at ha; subst ha; simpa using h.1
   | succ j =>
     simp at ha
     have := PRepC.get h.2 ha
     rw [show off + (j + 1) = off + 1 + j by omega]
     exact this
theorem PRepC.of_get {w : World} {I : Nat → Nat → Prop} {b : Nat} : ∀ {c : List PV} {off : Nat}, (∀ (j : Nat) (a : PV), c[j]? = some a → ∃ u, w.cell? ⟨b, off + j, none⟩ = some u ∧ I b (off + j) ∧ PRep w I a u) → PRepC w I b off c
 | [], off, h => by simp [PRepC]
 | d :: c, off, h => by
   simp only [PRepC]
   have h0 := h 0 d rfl
   simp only [Nat.add_zero] at h0
   refine ⟨h0, PRepC.of_get fun j a ha => ?_⟩
   have := h (j + 1) a (by simpa using ha)
   rw [show off + 1 + j = off + (j + 1) by omega]
   exact this
theorem plain_one {x : Value} (h : plain x = true) : x.oneCell' = true := by
 cases x <;> simp_all [plain, Value.oneCell']
theorem PRep.one {w : World} {I : Nat → Nat → Prop} : ∀ {x : PV} {u : Value}, PRep w I x u → u.oneCell' = true
 | .v x, u, h => by simp only [PRep] at h; obtain ⟨h1, rfl⟩ := h; exact plain_one h1
 | .sl e ls, u, h => by simp only [PRep] at h; obtain ⟨_, ad, cap, rfl, _⟩ | ⟨b, off, cap, rfl, _⟩ := h <;> rfl
theorem ARep.one {M : View} {a : AV} {u : Value} (hl : leaf a = true) (h : ARep M a u) : u.oneCell' = true := by
 cases a <;> simp only [leaf, Bool.false_eq_true] at hl <;> simp only [ARep] at h
 ·exact PRep.one h
 ·obtain ⟨b, cap, n, rfl, _⟩ := h; rfl
 ·obtain ⟨n, _, _, ⟨_, rfl⟩ | ⟨_, b, cap, rfl, _⟩⟩ := h <;> rfl
 ·obtain ⟨b, off, rfl, _⟩ := h; rfl
 ·obtain ⟨b, _, _, rfl⟩ := h; rfl
 ·obtain ⟨b, cap, _, _, rfl, _⟩ := h; rfl
 ·obtain ⟨b, _, _, rfl⟩ := h; rfl
 ·obtain ⟨b, cap, n, rfl, _⟩ := h; rfl
 ·obtain ⟨us, vs, rfl, _⟩ := h; rfl
 ·obtain ⟨v, rfl, _⟩ := h; rfl
 ·obtain ⟨b, cap, _, _, rfl, _⟩ := h; rfl
end Go.Proofs.Ytlddiphjpmlhbaa
namespace Go.Proofs.Ytlddiphjpmlhbaa
open Go.RowKit
def globTab : List (Nat × (Array Value → Prop)) := []
end Go.Proofs.Ytlddiphjpmlhbaa
