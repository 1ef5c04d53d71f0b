/- The page's contracts on the abstract machine. -/
import Derived.Test.YtpfnpinblbfjdaaRcost
import Derived.Test.YtpfnpinblbfjdaaWith
import Derived.Test.YtpfnpinblbfjdaaAwake
set_option linter.unusedSimpArgs false
set_option linter.unusedVariables false
namespace Go.Proofs.Ytpfnpinblbfjdaa
open Go.RowKit

/-- A function that leaves all that is there as it is, and answers with new memory at most. -/
theorem ACalls.of_calls {P : Program} {f : FuncId} {args : List AV} {σ : St} {R : AV → Prop} (hen : Enters P f)
    (h : ∀ (M : View) (vs : List Value), Match M σ → ARepL M args vs → Calls P f vs.toArray M.w fun e w' => ∃ (v : Value) (r : AV) (J : Nat → Nat → Prop), e = .returned v ∧ Below M.w.heap.size M.w w' ∧ (∀ b o, J b o → M.w.heap.size ≤ b ∧ b < w'.heap.size) ∧ ARep { M with w := w', I := fun b o => M.I b o ∨ J b o } r v ∧ R r) :
    ACalls P f args σ fun r σ' => σ' = σ ∧ R r := by
  refine ⟨hen, fun M vs hM hv => (h M vs hM hv).mono ?_⟩
  rintro e w' ⟨v, r, J, rfl, hb, hJ, hr, hR⟩
  let M' : View := { M with w := w', I := fun b o => M.I b o ∨ J b o }
  have hcell : ∀ b o, M.I b o → M'.w.cell? ⟨b, o, none⟩ = M.w.cell? ⟨b, o, none⟩ := fun b o ho => hb.cell (p := ⟨b, o, none⟩) (hM.imm b o ho)
  have hL : Later M M' := ⟨fun _ _ h h' => ⟨h, h'⟩, own_same (fun _ => rfl) (fun _ => rfl) (fun _ => rfl), fun _ _ h => .inl h, hcell⟩
  have hI : ∀ b o, b < M.w.heap.size → M'.I b o → M.I b o := fun b o hlt ho => by
    rcases ho with ho | ho
    · exact ho
    · have := (hJ b o ho).1; omega
  refine ⟨v, r, σ, M', rfl, rfl, ⟨hL.mu, hL.own, hL.imm, hcell, fun b hlt _ => ⟨hb.block b hlt, fun o => hI b o hlt⟩, fun t ob b h1 h2 => .inr ⟨t, ob, h1, h2⟩, hb.size, hb.os, hb.tape, hb.output⟩, ?_, hr, Nat.le_refl _, rfl, hR⟩
  refine ⟨fun t ob ht => (hM.obj t ob ht).later hL rfl rfl rfl fun b hbb => ⟨hb.block b (hM.lt t b hbb), fun o => hI b o (hM.lt t b hbb)⟩, hM.inj, hM.fresh, fun t b hbb => Nat.lt_of_lt_of_le (hM.lt t b hbb) hb.size, fun b o ho => ?_⟩
  rcases ho with ho | ho
  · exact Nat.lt_of_lt_of_le (hM.imm b o ho) hb.size
  · exact (hJ b o ho).2

def byteP (b : UInt8) : PV := .v (.int .u8 b.toNat)
def encB (r : List UInt8) : List (List PV) := r.map fun b => [byteP b]
/-- A []byte. -/
def BX (x : PV) (r : List UInt8) : Prop := x = .sl 1 (encB r) ∨ (x = .v (.slice none 0 0) ∧ r = [])
def pageC (l : List UInt8) : List AV := l.map fun b => .p (byteP b)
/-- A page, as a value. -/
def pageA (l : List UInt8) : AV := .agg (pageC l)
theorem pageC_len (l : List UInt8) : (pageC l).length = l.length := by simp [pageC]
theorem pageC_leaf (l : List UInt8) : (pageC l).all leaf = true := by simp [pageC, leaf]
theorem byteOf_byteP (b : UInt8) : byteOfV (.int .u8 b.toNat) = some b := by
  have h : (b.toNat : Int) < 256 := by have := b.toNat_lt; omega
  simp [byteOfV, h]
theorem bytesOf_page : ∀ l : List UInt8, bytesOfA (pageC l) = some l
  | [] => rfl
  | b :: l => by
    have := bytesOf_page l
    simp only [pageC, byteP] at this
    simp only [pageC, List.map_cons, bytesOfA, byteOfA, byteP, byteOf_byteP, this]
theorem bytesOf_enc : ∀ r : List UInt8, bytesOfR (encB r) = some r
  | [] => rfl
  | b :: r => by
    have := bytesOf_enc r
    simp only [encB, byteP] at this
    simp only [encB, List.map_cons, bytesOfR, byteP, byteOf_byteP, this]
/-- A record that was answered. -/
def recP : Option (List UInt8) → PV
  | none => .v (.slice none 0 0)
  | some r => .sl 1 (encB r)
section
variable {M : View}
theorem pageC_rep {l : List UInt8} {us : List Value} (h : ARepL M (pageC l) us) : us = bytesL l := by
  rw [bytesOfA_rep (bytesOf_page l) h]
  rfl
theorem page_rep {l : List UInt8} {u : Value} (h : ARep M (pageA l) u) : u = .agg (bytesA l) := by
  simp only [pageA, ARep] at h
  obtain ⟨_, us, rfl, h⟩ := h
  rw [pageC_rep h]
theorem page_mk (l : List UInt8) : ARep M (pageA l) (.agg (bytesA l)) := by
  simp only [pageA, ARep]
  refine ⟨pageC_leaf l, bytesL l, rfl, ARepL_iff.2 ⟨by simp [pageC, bytesL], fun i x u hx hu => ?_⟩⟩
  simp only [pageC, bytesL, List.getElem?_map] at hx hu
  cases hl : l[i]? with
  | none => rw [hl] at hx; simp at hx
  | some b =>
    rw [hl] at hx hu
    simp at hx hu
    subst hx hu
    exact rep_mk rfl
theorem rep1 {a : AV} {vs : List Value} (h : ARepL M [a] vs) : ∃ u, vs = [u] ∧ ARep M a u := by
  simp only [ARepL] at h
  obtain ⟨u, us, rfl, h1, rfl⟩ := h
  exact ⟨u, rfl, h1⟩
theorem rep2 {a b : AV} {vs : List Value} (h : ARepL M [a, b] vs) : ∃ u v, vs = [u, v] ∧ ARep M a u ∧ ARep M b v := by
  simp only [ARepL] at h
  obtain ⟨u, us, rfl, h1, v, us', rfl, h2, rfl⟩ := h
  exact ⟨u, v, rfl, h1, h2⟩
theorem rep3 {a b c : AV} {vs : List Value} (h : ARepL M [a, b, c] vs) : ∃ u v w, vs = [u, v, w] ∧ ARep M a u ∧ ARep M b v ∧ ARep M c w := by
  simp only [ARepL] at h
  obtain ⟨u, us, rfl, h1, v, us', rfl, h2, w, us'', rfl, h3, rfl⟩ := h
  exact ⟨u, v, w, rfl, h1, h2, h3⟩
theorem tup2 {a b : AV} {u v : Value} (h1 : ARep M a u) (h2 : ARep M b v) : ARep M (.tup [a, b]) (.tuple #[u, v]) := by
  simp only [ARep, ARepL]; exact ⟨[u, v], rfl, u, [v], rfl, h1, v, [], rfl, h2, rfl⟩
theorem tup3 {a b c : AV} {u v w : Value} (h1 : ARep M a u) (h2 : ARep M b v) (h3 : ARep M c w) : ARep M (.tup [a, b, c]) (.tuple #[u, v, w]) := by
  simp only [ARep, ARepL]; exact ⟨[u, v, w], rfl, u, [v, w], rfl, h1, v, [w], rfl, h2, w, [], rfl, h3, rfl⟩
/-- Bytes that lie in a row, as the walks of the page want them. -/
theorem bytes_of_cells {w : World} {b off cap : Nat} {r : List UInt8} (h : ∀ (j : Nat) (c : UInt8), r[j]? = some c → w.cell? ⟨b, off + j, none⟩ = some (.int .u8 c.toNat)) : ByteS w (.slice (some ⟨b, off, none⟩) r.length cap) r := by
  refine ⟨some ⟨b, off, none⟩, cap, rfl, .inr ⟨_, rfl, fun j u hj => ?_⟩⟩
  rw [Addr.add_mid]
  simp only [bytesL, List.getElem?_map] at hj
  cases hc : r[j]? with
  | none => rw [hc] at hj; simp at hj
  | some c => rw [hc] at hj; simp at hj; subst hj; exact h j c hc
theorem BX.bytes {x : PV} {r : List UInt8} {u : Value} (h : BX x r) (hu : ARep M (.p x) u) : ByteS M.w u r := by
  rcases h with rfl | ⟨rfl, rfl⟩
  · simp only [ARep, PRep] at hu
    obtain ⟨h0, ad, cap, rfl⟩ | ⟨b, off, cap, rfl, hcap, hr⟩ := hu
    · have hr0 : r = [] := by simpa [encB] using h0
      subst hr0
      exact ⟨some ad, cap, rfl, .inr ⟨_, rfl, fun j u hj => by simp [bytesL] at hj⟩⟩
    rw [show (encB r).length = r.length by simp [encB]]
    refine bytes_of_cells fun j c hc => ?_
    obtain ⟨_, h2⟩ := hr.get (i := j) (c := [byteP c]) (by simp [encB, hc])
    obtain ⟨v, h3, _, h4⟩ := h2.get (j := 0) rfl
    simp only [byteP, PRep] at h4
    rw [h4.2] at h3
    simpa using h3
  · have := (rep_v hu).2; subst this
    exact ⟨none, 0, rfl, .inl ⟨rfl, rfl, rfl⟩⟩
/-- New bytes. -/
theorem rec_rep {w' : World} {base : Nat} {v : Value} {o : Option (List UInt8)} (h : Rec w' base v o) : ∃ J : Nat → Nat → Prop, (∀ b q, J b q → base ≤ b ∧ b < w'.heap.size) ∧ ARep { M with w := w', I := fun b q => M.I b q ∨ J b q } (.p (recP o)) v := by
  cases o with
  | none =>
    simp only [Rec] at h; subst h
    exact ⟨fun _ _ => False, fun _ _ h => h.elim, rep_mk rfl⟩
  | some r =>
    obtain ⟨ho, g, cap, rfl⟩ := h
    rcases ho.2 with ⟨h1, _⟩ | ⟨g', cap', cur, h1, hg, hh, hnc, hcm, hcs, ht⟩
    · simp at h1
    · simp only [Value.slice.injEq, Option.some.injEq, Addr.mk.injEq, and_true, true_and] at h1
      obtain ⟨rfl, rfl⟩ := h1
      refine ⟨fun b q => b = g ∧ q < r.length, fun b q h => ⟨by omega, by rw [h.1]; exact (Array.getElem?_eq_some_iff.1 hh).1⟩, ?_⟩
      simp only [recP, ARep, PRep]
      refine .inr ⟨g, 0, cap, by simp [encB], by simpa [encB] using hnc, PRepR.of_get fun i c hc => ?_⟩
      simp only [encB, List.getElem?_map] at hc
      cases hr : r[i]? with
      | none => rw [hr] at hc; simp at hc
      | some b =>
        rw [hr] at hc; simp at hc; subst hc
        have hi := (List.getElem?_eq_some_iff.1 hr).1
        refine ⟨rfl, PRepC.of_get fun j x hx => ?_⟩
        cases j with
        | succ j => simp at hx
        | zero =>
          simp at hx; subst hx
          refine ⟨.int .u8 b.toNat, ?_, .inr ⟨rfl, by omega⟩, by simp only [byteP, PRep]; exact ⟨rfl, trivial⟩⟩
          have := ho.cells (g := g) rfl i (.int .u8 b.toNat) (by simp [bytesL, byteV, hr])
          rw [Addr.add_mid] at this
          simpa using this
end

theorem en (f : FuncId) (h : (Try.prog.funcs[f]?).any (fun fn => !(fn.name == "runtime.NumGoroutine") && fn.body.isSome) = true) : Enters Try.prog f := by
  cases hf : Try.prog.funcs[f]? with
  | none => rw [hf] at h; simp at h
  | some fn =>
    rw [hf] at h
    simp only [Option.any_some, Bool.and_eq_true, Bool.not_eq_true'] at h
    exact ⟨fn, hf, h.1, by cases hb : fn.body <;> simp_all⟩
theorem aawake (σ : St) : ACalls Try.prog 8 [] σ fun r σ' => σ' = σ ∧ r = boolV true :=
  ACalls.of_calls (en _ (by kernel_rfl)) fun M vs hM hv => by
    simp only [ARepL] at hv; subst hv
    exact (awake_any _).mono fun e w' ⟨h1, h2⟩ => ⟨_, _, fun _ _ => False, h1, h2, fun _ _ h => h.elim, rep_mk rfl, rfl⟩
theorem anew (k : Int) (σ : St) : ACalls Try.prog 9 [intV .i64 k] σ fun r σ' => σ' = σ ∧ r = pageA (newL k) :=
  ACalls.of_calls (en _ (by kernel_rfl)) fun M vs hM hv => by
    obtain ⟨u, rfl, h1⟩ := rep1 hv
    rw [rep_int h1]
    exact (new_any k _).mono fun e w' ⟨h1, h2⟩ => ⟨_, _, fun _ _ => False, h1, h2, fun _ _ h => h.elim, page_mk _, rfl⟩
theorem akind (l : List UInt8) (hl : l.length = 512) (σ : St) : ACalls Try.prog 16 [pageA l] σ fun r σ' => σ' = σ ∧ r = intV .i64 (kindL l) :=
  ACalls.of_calls (en _ (by kernel_rfl)) fun M vs hM hv => by
    obtain ⟨u, rfl, h1⟩ := rep1 hv
    rw [page_rep h1]
    exact (kind_any l _ hl).mono fun e w' ⟨h1, h2⟩ => ⟨_, _, fun _ _ => False, h1, h2, fun _ _ h => h.elim, rep_mk rfl, rfl⟩
theorem anslots (l : List UInt8) (hl : l.length = 512) (σ : St) : ACalls Try.prog 12 [pageA l] σ fun r σ' => σ' = σ ∧ r = intV .i64 ((slotsL l).length : Nat) :=
  ACalls.of_calls (en _ (by kernel_rfl)) fun M vs hM hv => by
    obtain ⟨u, rfl, h1⟩ := rep1 hv
    rw [page_rep h1]
    exact (nslots_any l _ hl).mono fun e w' ⟨h1, h2⟩ => ⟨_, _, fun _ _ => False, h1, h2, fun _ _ h => h.elim, rep_mk rfl, rfl⟩
theorem aright (l : List UInt8) (hl : l.length = 512) (σ : St) : ACalls Try.prog 15 [pageA l] σ fun r σ' => σ' = σ ∧ r = boolV (rightL l) :=
  ACalls.of_calls (en _ (by kernel_rfl)) fun M vs hM hv => by
    obtain ⟨u, rfl, h1⟩ := rep1 hv
    rw [page_rep h1]
    exact (right_any l _ hl).mono fun e w' ⟨h1, h2⟩ => ⟨_, _, fun _ _ => False, h1, h2, fun _ _ h => h.elim, rep_mk rfl, rfl⟩
theorem aseal (l : List UInt8) (hl : l.length = 512) (σ : St) : ACalls Try.prog 29 [pageA l] σ fun r σ' => σ' = σ ∧ r = pageA (sealL l) :=
  ACalls.of_calls (en _ (by kernel_rfl)) fun M vs hM hv => by
    obtain ⟨u, rfl, h1⟩ := rep1 hv
    rw [page_rep h1]
    exact (seal_any l _ hl).mono fun e w' ⟨h1, h2⟩ => ⟨_, _, fun _ _ => False, h1, h2, fun _ _ h => h.elim, page_mk _, rfl⟩
theorem aroom (l : List UInt8) (hl : l.length = 512) (σ : St) : ACalls Try.prog 10 [pageA l] σ fun r σ' => σ' = σ ∧ r = intV .i64 (roomL (slotsL l)) :=
  ACalls.of_calls (en _ (by kernel_rfl)) fun M vs hM hv => by
    obtain ⟨u, rfl, h1⟩ := rep1 hv
    rw [page_rep h1]
    exact (room_any l _ hl).mono fun e w' ⟨h1, h2⟩ => ⟨_, _, fun _ _ => False, h1, h2, fun _ _ h => h.elim, rep_mk rfl, rfl⟩
theorem aget (l : List UInt8) (k : Int) (hl : l.length = 512) (σ : St) : ACalls Try.prog 14 [pageA l, intV .i64 k] σ fun r σ' => σ' = σ ∧ r = .tup [.p (recP (getL l k)), boolV (getL l k).isSome] :=
  ACalls.of_calls (en _ (by kernel_rfl)) fun M vs hM hv => by
    obtain ⟨u, v, rfl, h1, h2⟩ := rep2 hv
    rw [page_rep h1, rep_int h2]
    refine (get_any l k _ hl).mono ?_
    rintro e w' ⟨v, rfl, hr, hb⟩
    obtain ⟨J, h3, h5⟩ := rec_rep (M := M) hr
    exact ⟨_, _, J, rfl, hb, h3, tup2 h5 (rep_mk rfl), rfl⟩
theorem adrop (l : List UInt8) (k : Int) (hl : l.length = 512) (σ : St) : ACalls Try.prog 13 [pageA l, intV .i64 k] σ fun r σ' => σ' = σ ∧ r = .tup [pageA (dropL l k).1, boolV (dropL l k).2] :=
  ACalls.of_calls (en _ (by kernel_rfl)) fun M vs hM hv => by
    obtain ⟨u, v, rfl, h1, h2⟩ := rep2 hv
    rw [page_rep h1, rep_int h2]
    exact (drop_any l k _ hl).mono fun e w' ⟨h1, h2⟩ => ⟨_, _, fun _ _ => False, h1, h2, fun _ _ h => h.elim, tup2 (page_mk _) (rep_mk rfl), rfl⟩
theorem aset (l : List UInt8) (k : Int) (r : List UInt8) (x : PV) (hl : l.length = 512) (hx : BX x r) (hrl : r.length ≤ 140737488351232) (σ : St) : ACalls Try.prog 19 [pageA l, intV .i64 k, .p x] σ fun r' σ' => σ' = σ ∧ r' = .tup [pageA (setL l k r).1, boolV (setL l k r).2] :=
  ACalls.of_calls (en _ (by kernel_rfl)) fun M vs hM hv => by
    obtain ⟨u, v, w, rfl, h1, h2, h3⟩ := rep3 hv
    rw [page_rep h1, rep_int h2]
    exact (set_any l k r w _ hl (hx.bytes h3) hrl).mono fun e w' ⟨h1, h2⟩ => ⟨_, _, fun _ _ => False, h1, h2, fun _ _ h => h.elim, tup2 (page_mk _) (rep_mk rfl), rfl⟩
/-- Add, of bytes in a row that may be written. -/
theorem aadd (l r : List UInt8) (t : Nat) (hl : l.length = 512) (hrl : r.length ≤ 140737488351232) (σ : St) (ht : σ.at t (.row 1 (r.map fun b => [.p (byteP b)]))) : ACalls Try.prog 11 [pageA l, .ms t 1 0 r.length] σ fun r' σ' => σ' = σ ∧ r' = .tup [pageA (addL l r).1, intV .i64 (addL l r).2.1, boolV (addL l r).2.2] :=
  ACalls.of_calls (en _ (by kernel_rfl)) fun M vs hM hv => by
    obtain ⟨u, v, rfl, h1, h2⟩ := rep2 hv
    rw [page_rep h1]
    have hby : ByteS M.w v r := by
      simp only [ARep] at h2
      obtain ⟨b, cap, hb, hbl, rfl, hcap⟩ := h2
      obtain ⟨_, b', cur, T, hb', hh, hI, hr⟩ := hM.obj t _ ht
      have : b' = b := by rw [hb] at hb'; simpa using hb'.symm
      subst this
      rw [Nat.zero_mul]
      refine bytes_of_cells fun j c hc => ?_
      obtain ⟨_, h4⟩ := hr j [.p (byteP c)] (by simp [hc])
      obtain ⟨_, x, h5, h6⟩ := h4 0 (.p (byteP c)) rfl
      rw [Nat.zero_add, cell_of_row _ _ _ _ _ _ hh]
      simp only [Nat.mul_one, Nat.add_zero] at h5
      rw [h5, (rep_v h6).2]
    exact (add_any l r v _ hl hby hrl).mono fun e w' ⟨h1, h2⟩ => ⟨_, _, fun _ _ => False, h1, h2, fun _ _ h => h.elim, tup3 (page_mk _) (rep_mk rfl) (rep_mk rfl), rfl⟩
end Go.Proofs.Ytpfnpinblbfjdaa
