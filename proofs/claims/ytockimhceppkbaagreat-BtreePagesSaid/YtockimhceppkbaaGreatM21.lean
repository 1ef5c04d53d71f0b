/- The page's contracts on the abstract machine, for programs that use pages. Values without objects under other numbers. Objects that name no others: contracts of their methods at any state. States that name objects by number: looking up, writing, what a call leaves as it is. Rows that hold pages and sectors, with their length unspelled: waiting writes, changes, frames. -/
import Derived.Test.YtockimhceppkbaaGreatM20
import Derived.Test.YtockimhceppkbaaGreatM19
import Derived.Test.YtockimhceppkbaaGreatM15
set_option linter.unusedSimpArgs false
set_option linter.unusedVariables false
set_option linter.defProp false
set_option maxRecDepth 100000
set_option maxHeartbeats 32000000
namespace Go.Proofs.YtockimhceppkbaaGreat
open Go.RowKit
theorem ACalls.of_calls {P : Program} {f : FuncId} {args : List AV} {σ : St} {R : AV → Prop} (hen : Enters P f)
 (h : ∀ (M : View) (vs : List Value), Match M σ → ARepL M args vs → Calls P f vs.toArray M.w fun e w' => ∃ (v : Value) (r : AV) (J : Nat → Nat → Prop), e = .returned v ∧ Below M.w.heap.size M.w w' ∧ (∀ b o, J b o → M.w.heap.size ≤ b ∧ b < w'.heap.size) ∧ ARep { M with w := w', I := fun b o => M.I b o ∨ J b o } r v ∧ R r) :
 ACalls P f args σ fun r σ' => σ' = σ ∧ R r := by
 refine ⟨hen, fun M vs hM hv => (h M vs hM hv).mono ?_⟩
 rintro e w' ⟨v, r, J, rfl, hb, hJ, hr, hR⟩
 let M' : View := { M with w := w', I := fun b o => M.I b o ∨ J b o }
 have hcell : ∀ b o, M.I b o → M'.w.cell? ⟨b, o, none⟩ = M.w.cell? ⟨b, o, none⟩ := fun b o ho => hb.cell (p := ⟨b, o, none⟩) (hM.imm b o ho)
 have hL : Later M M' := ⟨fun _ _ h h' => ⟨h, h', rfl⟩, own_same (fun _ => rfl) (fun _ => rfl) (fun _ => rfl), fun _ _ h => .inl h, hcell⟩
 have hI : ∀ b o, b < M.w.heap.size → M'.I b o → M.I b o := fun b o hlt ho => by
  rcases ho with ho | ho
  ·exact ho
  ·have := (hJ b o ho).1; omega
 have hE : Ext M σ M' σ := ⟨hL.mu, hL.own, hL.imm, hcell, fun b hlt _ => ⟨hb.block b hlt, fun o => hI b o hlt⟩, fun t ob b h1 h2 => .inr ⟨t, ob, h1, h2⟩, hb.size, hb.os, hb.tape, hb.output⟩
 refine ⟨v, r, σ, M', rfl, rfl, hE, ?_, hr, Nat.le_refl _, rfl, hR⟩
 refine ⟨fun t ob ht => (hM.obj t ob ht).later hL rfl rfl rfl fun b hbb => ⟨hb.block b (hM.lt t b hbb), fun o => hI b o (hM.lt t b hbb)⟩, hM.inj, hM.fresh, fun t b hbb => Nat.lt_of_lt_of_le (hM.lt t b hbb) hb.size, fun b o ho => ?_, hM.glob.ext hE⟩
 rcases ho with ho | ho
 ·exact Nat.lt_of_lt_of_le (hM.imm b o ho) hb.size
 ·exact (hJ b o ho).2
def byteP (b : UInt8) : PV := .v (.int .u8 b.toNat)
def encB (r : List UInt8) : List (List PV) := r.map fun b => [byteP b]
def BX (x : PV) (r : List UInt8) : Prop := x = .sl 1 (encB r) ∨ (x = .v (.slice none 0 0) ∧ r = [])
def pageC (l : List UInt8) : List AV := l.map fun b => .p (byteP b)
def pageA (l : List UInt8) : AV := .agg (pageC l)
theorem pageC_len (l : List UInt8) : (pageC l).length = l.length := by simp [pageC]
theorem pageC_leaf (l : List UInt8) : (pageC l).all leaf = true := by simp [pageC, leaf]
theorem byteOf_byteP (b : UInt8) : byteOfV (.int .u8 b.toNat) = some b := by
 have h : (b.toNat : Int) < 256 := by have := b.toNat_lt; omega
 simp [byteOfV, h]
theorem bytesOf_page : ∀ l : List UInt8, bytesOfA (pageC l) = some l
 | [] => rfl
 | b :: l => by
   have := bytesOf_page l
   simp only [pageC, byteP] at this
   simp only [pageC, List.map_cons, bytesOfA, byteOfA, byteP, byteOf_byteP, this]
def recP : Option (List UInt8) → PV
 | none => .v (.slice none 0 0)
 | some r => .sl 1 (encB r)
section
variable {M : View}
theorem pageC_rep {l : List UInt8} {us : List Value} (h : ARepL M (pageC l) us) : us = bytesL l := by
 rw [bytesOfA_rep (bytesOf_page l) h]
 rfl
theorem page_rep {l : List UInt8} {u : Value} (h : ARep M (pageA l) u) : u = .agg (bytesA l) := by
 simp only [pageA, ARep] at h
 obtain ⟨_, us, rfl, h⟩ := h
 rw [pageC_rep h]
theorem page_mk (l : List UInt8) : ARep M (pageA l) (.agg (bytesA l)) := by
 simp only [pageA, ARep]
 refine ⟨pageC_leaf l, bytesL l, rfl, ARepL_iff.2 ⟨by simp [pageC, bytesL], fun i x u hx hu => ?_⟩⟩
 simp only [pageC, bytesL, List.getElem?_map] at hx hu
 cases hl : l[i]? with
 | none => rw [hl] at hx; simp at hx
 | some b =>
   rw [hl] at hx hu
   simp at hx hu
   subst hx hu
   exact rep_mk rfl
theorem rep1 {a : AV} {vs : List Value} (h : ARepL M [a] vs) : ∃ u, vs = [u] ∧ ARep M a u := by
 simp only [ARepL] at h
 obtain ⟨u, us, rfl, h1, rfl⟩ := h
 exact ⟨u, rfl, h1⟩
theorem rep2 {a b : AV} {vs : List Value} (h : ARepL M [a, b] vs) : ∃ u v, vs = [u, v] ∧ ARep M a u ∧ ARep M b v := by
 simp only [ARepL] at h
 obtain ⟨u, us, rfl, h1, v, us', rfl, h2, rfl⟩ := h
 exact ⟨u, v, rfl, h1, h2⟩
theorem tup2 {a b : AV} {u v : Value} (h1 : ARep M a u) (h2 : ARep M b v) : ARep M (.tup [a, b]) (.tuple #[u, v]) := by
 simp only [ARep, ARepL]; exact ⟨[u, v], rfl, u, [v], rfl, h1, v, [], rfl, h2, rfl⟩
theorem tup3 {a b c : AV} {u v w : Value} (h1 : ARep M a u) (h2 : ARep M b v) (h3 : ARep M c w) : ARep M (.tup [a, b, c]) (.tuple #[u, v, w]) := by
 simp only [ARep, ARepL]; exact ⟨[u, v, w], rfl, u, [v, w], rfl, h1, v, [w], rfl, h2, w, [], rfl, h3, rfl⟩
theorem bytes_of_cells {w : World} {b off cap : Nat} {r : List UInt8} (h : ∀ (j : Nat) (c : UInt8), r[j]? = some c → w.cell? ⟨b, off + j, none⟩ = some (.int .u8 c.toNat)) : ByteS w (.slice (some ⟨b, off, none⟩) r.length cap) r := by
 refine ⟨some ⟨b, off, none⟩, cap, rfl, .inr ⟨_, rfl, fun j u hj => ?_⟩⟩
 rw [Addr.add_mid]
 simp only [bytesL, List.getElem?_map] at hj
 cases hc : r[j]? with
 | none => rw [hc] at hj; simp at hj
 | some c => rw [hc] at hj; simp at hj; subst hj; exact h j c hc
theorem BX.bytes {x : PV} {r : List UInt8} {u : Value} (h : BX x r) (hu : ARep M (.p x) u) : ByteS M.w u r := by
 rcases h with rfl | ⟨rfl, rfl⟩
 ·simp only [ARep, PRep] at hu
  obtain ⟨h0, ad, cap, rfl, hn⟩ | ⟨b, off, cap, rfl, hcap, hr⟩ := hu
  ·have hr0 : r = [] := by simpa [encB] using h0
   subst hr0
   cases ad with
   | none => exact ⟨none, cap, rfl, .inl ⟨rfl, rfl, hn rfl⟩⟩
   | some ad => exact ⟨some ad, cap, rfl, .inr ⟨_, rfl, fun j u hj => by simp [bytesL] at hj⟩⟩
  rw [show (encB r).length = r.length by simp [encB]]
  refine bytes_of_cells fun j c hc => ?_
  obtain ⟨_, h2⟩ := hr.get (i := j) (c := [byteP c]) (by simp [encB, hc])
  obtain ⟨v, h3, _, h4⟩ := h2.get (j := 0) rfl
  simp only [byteP, PRep] at h4
  rw [h4.2] at h3
  simpa using h3
 ·have := (rep_v hu).2; subst this
  exact ⟨none, 0, rfl, .inl ⟨rfl, rfl, rfl⟩⟩
theorem rec_rep {w' : World} {base : Nat} {v : Value} {o : Option (List UInt8)} (h : Rec w' base v o) : ∃ J : Nat → Nat → Prop, (∀ b q, J b q → base ≤ b ∧ b < w'.heap.size) ∧ ARep { M with w := w', I := fun b q => M.I b q ∨ J b q } (.p (recP o)) v := by
 cases o with
 | none =>
   simp only [Rec] at h; subst h
   exact ⟨fun _ _ => False, fun _ _ h => h.elim, rep_mk rfl⟩
 | some r =>
   obtain ⟨ho, g, cap, rfl⟩ := h
   rcases ho.2 with ⟨h1, _⟩ | ⟨g', cap', cur, h1, hg, hh, hnc, hcm, hcs, ht⟩
   ·simp at h1
   ·simp only [Value.slice.injEq, Option.some.injEq, Addr.mk.injEq, and_true, true_and] at h1
    obtain ⟨rfl, rfl⟩ := h1
    refine ⟨fun b q => b = g ∧ q < r.length, fun b q h => ⟨by omega, by rw [h.1]; exact (Array.getElem?_eq_some_iff.1 hh).1⟩, ?_⟩
    simp only [recP, ARep, PRep]
    refine .inr ⟨g, 0, cap, by simp [encB], by simpa [encB] using hnc, PRepR.of_get fun i c hc => ?_⟩
    simp only [encB, List.getElem?_map] at hc
    cases hr : r[i]? with
    | none => rw [hr] at hc; simp at hc
    | some b =>
      rw [hr] at hc; simp at hc; subst hc
      have hi := (List.getElem?_eq_some_iff.1 hr).1
      refine ⟨rfl, PRepC.of_get fun j x hx => ?_⟩
      cases j with
      | succ j => simp at hx
      | zero =>
        simp at hx; subst hx
        refine ⟨.int .u8 b.toNat, ?_, .inr ⟨rfl, by omega⟩, by simp only [byteP, PRep]; exact ⟨rfl, trivial⟩⟩
        have := ho.cells (g := g) rfl i (.int .u8 b.toNat) (by simp [bytesL, byteV, hr])
        rw [Addr.add_mid] at this
        simpa using this
end
theorem en (f : FuncId) (h : (Tryz.prog.funcs[f]?).any (fun fn => !(fn.name == "runtime.NumGoroutine") && fn.body.isSome) = true) : Enters Tryz.prog f := by
 cases hf : Tryz.prog.funcs[f]? with
 | none => rw [hf] at h; simp at h
 | some fn =>
   rw [hf] at h
   simp only [Option.any_some, Bool.and_eq_true, Bool.not_eq_true'] at h
   exact ⟨fn, hf, h.1, by cases hb : fn.body <;> simp_all⟩
theorem anew (k : Int) (σ : St) : ACalls Tryz.prog 42 [intV .i64 k] σ fun r σ' => σ' = σ ∧ r = pageA (newL k) :=
 ACalls.of_calls (en _ (by kernel_rfl)) fun M vs hM hv => by
  obtain ⟨u, rfl, h1⟩ := rep1 hv
  rw [rep_int h1]
  exact (new_any k _).mono fun e w' ⟨h1, h2⟩ => ⟨_, _, fun _ _ => False, h1, h2, fun _ _ h => h.elim, page_mk _, rfl⟩
theorem anslots (l : List UInt8) (hl : l.length = 512) (σ : St) : ACalls Tryz.prog 72 [pageA l] σ fun r σ' => σ' = σ ∧ r = intV .i64 ((slotsL l).length : Nat) :=
 ACalls.of_calls (en _ (by kernel_rfl)) fun M vs hM hv => by
  obtain ⟨u, rfl, h1⟩ := rep1 hv
  rw [page_rep h1]
  exact (nslots_any l _ hl).mono fun e w' ⟨h1, h2⟩ => ⟨_, _, fun _ _ => False, h1, h2, fun _ _ h => h.elim, rep_mk rfl, rfl⟩
theorem aget (l : List UInt8) (k : Int) (hl : l.length = 512) (σ : St) : ACalls Tryz.prog 73 [pageA l, intV .i64 k] σ fun r σ' => σ' = σ ∧ r = .tup [.p (recP (getL l k)), boolV (getL l k).isSome] :=
 ACalls.of_calls (en _ (by kernel_rfl)) fun M vs hM hv => by
  obtain ⟨u, v, rfl, h1, h2⟩ := rep2 hv
  rw [page_rep h1, rep_int h2]
  refine (get_any l k _ hl).mono ?_
  rintro e w' ⟨v, rfl, hr, hb⟩
  obtain ⟨J, h3, h5⟩ := rec_rep (M := M) hr
  exact ⟨_, _, J, rfl, hb, h3, tup2 h5 (rep_mk rfl), rfl⟩
theorem aaddP (l r : List UInt8) (x : PV) (hl : l.length = 512) (hx : BX x r) (hrl : r.length ≤ 140737488351232) (σ : St) : ACalls Tryz.prog 78 [pageA l, .p x] σ fun r' σ' => σ' = σ ∧ r' = .tup [pageA (addL l r).1, intV .i64 (addL l r).2.1, boolV (addL l r).2.2] :=
 ACalls.of_calls (en _ (by kernel_rfl)) fun M vs hM hv => by
  obtain ⟨u, v, rfl, h1, h2⟩ := rep2 hv
  rw [page_rep h1]
  exact (add_any l r v _ hl (hx.bytes h2) hrl).mono fun e w' ⟨h1, h2⟩ => ⟨_, _, fun _ _ => False, h1, h2, fun _ _ h => h.elim, tup3 (page_mk _) (rep_mk rfl) (rep_mk rfl), rfl⟩
end Go.Proofs.YtockimhceppkbaaGreat
namespace Go.Proofs.YtockimhceppkbaaGreat
open Go.RowKit
theorem bu_len {C : Ctx} {tk : Nat} {T : TypeId} {x : AV} {σ : St} : builtinA C tk .len [T] [x] σ = (lenA C T x).map fun (n : Nat) => (intV .i64 (n : Int), σ) := nr rfl
end Go.Proofs.YtockimhceppkbaaGreat
namespace Go.Proofs.YtockimhceppkbaaGreat
open Go.RowKit
def OCalls {S : Type} (obj : S → Ob) (f : FuncId) (args : Nat → List AV) (s : S) (R : AV → S → Prop) : Prop :=
 ∀ (σ : St) (t : Nat), σ[t]? = some (some (obj s)) → ACalls Tryz.prog f (args t) σ fun r σ' => ∃ s', R r s' ∧ σ' = σ.set t (some (obj s'))
theorem OCalls.mono {S : Type} {obj : S → Ob} {f : FuncId} {args : Nat → List AV} {s : S} {R R' : AV → S → Prop} (h : OCalls obj f args s R) (hR : ∀ r s, R r s → R' r s) : OCalls obj f args s R' := fun σ t ht =>
 (h σ t ht).mono fun r σ' ⟨s', h1, h2⟩ => ⟨s', hR _ _ h1, h2⟩
theorem ACalls.nilSplit {P : Program} {f : FuncId} {rest : List AV} {σ : St} {R : AV → St → Prop} {e : Nat} (h1 : ACalls P f (.p (.v (.slice none 0 0)) :: rest) σ R) (h2 : ∀ ad c, ACalls P f (.p (.v (.slice (some ad) 0 c)) :: rest) σ R) : ACalls P f (.p (.sl e []) :: rest) σ R :=
 ⟨h1.1, fun M vs hM hv => by
  simp only [ARepL, ARep, PRep] at hv
  obtain ⟨u, us, rfl, hu, hr⟩ := hv
  have key : u = .slice none 0 0 ∨ ∃ ad c, u = .slice (some ad) 0 c := by
   rcases hu with ⟨_, ad, c, rfl, h⟩ | ⟨b, off, c, rfl, _⟩
   ·cases ad with
    | none => rw [h rfl]; exact .inl rfl
    | some ad => exact .inr ⟨ad, c, rfl⟩
   ·exact .inr ⟨_, c, rfl⟩
  rcases key with rfl | ⟨ad, c, rfl⟩
  ·exact h1.2 M _ hM (by simp only [ARepL, ARep, PRep]; exact ⟨_, _, rfl, ⟨rfl, rfl⟩, hr⟩)
  ·exact (h2 ad c).2 M _ hM (by simp only [ARepL, ARep, PRep]; exact ⟨_, _, rfl, ⟨rfl, rfl⟩, hr⟩)⟩
theorem bu_min {C : Ctx} {tk : Nat} {ts : List TypeId} {k k' : IntKind} {n m : Int} {σ : St} : builtinA C tk .min ts [.p (.v (.int k n)), .p (.v (.int k' m))] σ = some (intV k (if m < n then m else n), σ) := nr rfl
theorem bu_max {C : Ctx} {tk : Nat} {ts : List TypeId} {k k' : IntKind} {n m : Int} {σ : St} : builtinA C tk .max ts [.p (.v (.int k n)), .p (.v (.int k' m))] σ = some (intV k (if m > n then m else n), σ) := nr rfl
theorem wantD_split {P : Program} {C : Ctx} {ops : Array Oper} {b want : Bool} {o : Oper} {p : Plan} {L : List Nat} {fr : List AV} {σ : St} {K : List AV → St → Prop} (h1 : b = want → detO P C ops o p L fr σ K) (h2 : b = !want → aPl P C ops p L (setA fr o.dst (.tup [])) σ K) : wantD P C ops (some (some b)) want o p L fr σ K := ⟨h1, h2⟩
theorem wantU_split {P : Program} {C : Ctx} {ops : Array Oper} {b want : Bool} {o : Oper} {p : Plan} {L : List Nat} {fr : List AV} {σ : St} {K : List AV → St → Prop} (h1 : b = want → aStep P C o fr (maskS L σ) (kontU P C ops p L o.dst fr σ K)) (h2 : b = !want → aPl P C ops p L (setA fr o.dst (.tup [])) σ K) : wantU P C ops (some (some b)) want o p L fr σ K := ⟨h1, h2⟩
theorem ret_is {C : Ctx} {fr : List AV} {σ : St} {rs : List ResultVar} {a : AV} {e : Exit} (h2 : match resA C rs fr σ with | some r0 => leT σ 0 [] r0 a | none => False) (h3 : tokLt 0 a = true) (h4 : frzA a = a) (he : e = .ret ∨ e = .normal := by first | exact .inl rfl | exact .inr rfl) :
 retA C rs 0 (fun r _ => tokLt 0 (frzA r) = true ∧ frzA r = a) e fr σ := by
 split at h2
 ·rename_i r0 h1
  refine ⟨he, r0, a, [], h1, .inr ⟨?_, by simp [leS]⟩, Nat.zero_le _, by rw [h4]; exact h3, h4⟩
  have : min σ.length ([] : St).length = 0 := by simp
  rw [this]; exact ⟨h2, trivial⟩
 ·exact h2.elim
theorem wbu : type_of% @bu_len ∧ type_of% @bu_max ∧ type_of% @bu_min := ⟨@bu_len, @bu_max, @bu_min⟩
theorem wW : type_of% @WeakE.eq_1 ∧ type_of% @Weak.eq_1 ∧ type_of% @setsF.eq_1 ∧ type_of% @setsF.eq_2 ∧ type_of% @setsO.eq_1 ∧ type_of% @setsO.eq_2 ∧ type_of% @St.put.eq_1 ∧ type_of% @leL.eq_1 ∧ type_of% @leL.eq_2 ∧ type_of% @leL.eq_3 ∧ type_of% @leT.eq_1 ∧ type_of% @leM.eq_1 ∧ type_of% @leM.eq_2 ∧ type_of% @leM.eq_3 ∧ type_of% @leG.eq_1 ∧ type_of% @leA.eq_1 ∧ type_of% @leC.eq_1 ∧ type_of% @leC.eq_2 ∧ type_of% @leC.eq_3 ∧ type_of% @leR.eq_1 ∧ type_of% @leR.eq_2 ∧ type_of% @leR.eq_3 ∧ type_of% @leS.eq_1 ∧ type_of% @leS.eq_2 ∧ type_of% @leS.eq_3 ∧ type_of% @leS.eq_4 ∧ type_of% @leS.eq_5 ∧ type_of% @leO.eq_1 ∧ type_of% @leO.eq_2 ∧ type_of% @leO.eq_3 ∧ type_of% @leO.eq_4 ∧ type_of% @leO.eq_5 ∧ type_of% @tokLt.eq_1 ∧ type_of% @tokLt.eq_2 ∧ type_of% @tokLt.eq_3 ∧ type_of% @tokLt.eq_4 ∧ type_of% @tokLt.eq_5 ∧ type_of% @tokLt.eq_6 ∧ type_of% @tokLt.eq_7 ∧ type_of% @tokLt.eq_8 ∧ type_of% @tokLt.eq_9 ∧ type_of% @tokLt.eq_10 ∧ type_of% @tokLtL.eq_1 ∧ type_of% @tokLtL.eq_2 ∧ type_of% @intV.eq_1 ∧ type_of% @boolV.eq_1 ∧ type_of% @leaf.eq_1 ∧ type_of% @leaf.eq_2 ∧ type_of% @leaf.eq_3 ∧ type_of% @leaf.eq_4 ∧ type_of% @leaf.eq_5 ∧ type_of% @leaf.eq_6 ∧ type_of% @leaf.eq_7 ∧ type_of% @leaf.eq_8 ∧ type_of% @nilA.eq_1 ∧ type_of% @nilSl.eq_1 := ⟨@WeakE.eq_1, @Weak.eq_1, @setsF.eq_1, @setsF.eq_2, @setsO.eq_1, @setsO.eq_2, @St.put.eq_1, @leL.eq_1, @leL.eq_2, @leL.eq_3, @leT.eq_1, @leM.eq_1, @leM.eq_2, @leM.eq_3, @leG.eq_1, @leA.eq_1, @leC.eq_1, @leC.eq_2, @leC.eq_3, @leR.eq_1, @leR.eq_2, @leR.eq_3, @leS.eq_1, @leS.eq_2, @leS.eq_3, @leS.eq_4, @leS.eq_5, @leO.eq_1, @leO.eq_2, @leO.eq_3, @leO.eq_4, @leO.eq_5, @tokLt.eq_1, @tokLt.eq_2, @tokLt.eq_3, @tokLt.eq_4, @tokLt.eq_5, @tokLt.eq_6, @tokLt.eq_7, @tokLt.eq_8, @tokLt.eq_9, @tokLt.eq_10, @tokLtL.eq_1, @tokLtL.eq_2, @intV.eq_1, @boolV.eq_1, @leaf.eq_1, @leaf.eq_2, @leaf.eq_3, @leaf.eq_4, @leaf.eq_5, @leaf.eq_6, @leaf.eq_7, @leaf.eq_8, @nilA.eq_1, @nilSl.eq_1⟩
theorem wS : type_of% @resA.eq_1 ∧ type_of% @resL.eq_1 ∧ type_of% @resL.eq_2 ∧ type_of% @resV.eq_1 ∧ type_of% @resV.eq_2 ∧ type_of% @leT.eq_1 ∧ type_of% @leG.eq_1 ∧ type_of% @leA.eq_1 ∧ type_of% @leC.eq_1 ∧ type_of% @leC.eq_2 ∧ type_of% @leC.eq_3 ∧ type_of% @leM.eq_1 ∧ type_of% @leM.eq_2 ∧ type_of% @leM.eq_3 ∧ type_of% @leaf.eq_1 ∧ type_of% @leaf.eq_2 ∧ type_of% @leaf.eq_3 ∧ type_of% @leaf.eq_4 ∧ type_of% @leaf.eq_5 ∧ type_of% @leaf.eq_6 ∧ type_of% @leaf.eq_7 ∧ type_of% @leaf.eq_8 ∧ type_of% @tokLt.eq_1 ∧ type_of% @tokLt.eq_2 ∧ type_of% @tokLt.eq_3 ∧ type_of% @tokLt.eq_4 ∧ type_of% @tokLt.eq_5 ∧ type_of% @tokLt.eq_6 ∧ type_of% @tokLt.eq_7 ∧ type_of% @tokLt.eq_8 ∧ type_of% @tokLt.eq_9 ∧ type_of% @tokLt.eq_10 ∧ type_of% @tokLtL.eq_1 ∧ type_of% @tokLtL.eq_2 ∧ type_of% @intV.eq_1 ∧ type_of% @boolV.eq_1 ∧ type_of% @nilA.eq_1 ∧ type_of% @nilSl.eq_1 := ⟨@resA.eq_1, @resL.eq_1, @resL.eq_2, @resV.eq_1, @resV.eq_2, @leT.eq_1, @leG.eq_1, @leA.eq_1, @leC.eq_1, @leC.eq_2, @leC.eq_3, @leM.eq_1, @leM.eq_2, @leM.eq_3, @leaf.eq_1, @leaf.eq_2, @leaf.eq_3, @leaf.eq_4, @leaf.eq_5, @leaf.eq_6, @leaf.eq_7, @leaf.eq_8, @tokLt.eq_1, @tokLt.eq_2, @tokLt.eq_3, @tokLt.eq_4, @tokLt.eq_5, @tokLt.eq_6, @tokLt.eq_7, @tokLt.eq_8, @tokLt.eq_9, @tokLt.eq_10, @tokLtL.eq_1, @tokLtL.eq_2, @intV.eq_1, @boolV.eq_1, @nilA.eq_1, @nilSl.eq_1⟩
theorem wR : type_of% @setsF_cons ∧ type_of% @setsF_nil ∧ type_of% @setsO_cons ∧ type_of% @setsO_nil ∧ type_of% @List.set_cons_zero.{0} ∧ type_of% @List.set_cons_succ.{0} ∧ type_of% @List.length_cons.{0} ∧ type_of% @List.length_nil.{0} ∧ type_of% @St.put.eq_1 ∧ type_of% @Nat.zero_add ∧ type_of% @Nat.lt_irrefl ∧ type_of% @List.cons_append.{0} ∧ type_of% @List.nil_append.{0} := ⟨@setsF_cons, @setsF_nil, @setsO_cons, @setsO_nil, @List.set_cons_zero.{0}, @List.set_cons_succ.{0}, @List.length_cons.{0}, @List.length_nil.{0}, @St.put.eq_1, @Nat.zero_add, @Nat.lt_irrefl, @List.cons_append.{0}, @List.nil_append.{0}⟩
theorem cs : type_of% @cond_split := @cond_split
theorem ws : type_of% @want_split := @want_split
theorem wd : type_of% @wantD_split := @wantD_split
theorem wu : type_of% @wantU_split := @wantU_split
theorem dP {P : Program} {C : Ctx} {ops : Array Oper} {fr : List AV} {σ : St} {K : List AV → St → Prop} (pl : Plan) (n : Nat) (t : Option Tmp) (h0 : ops.size = n ∧ (ops[0]?.bind fun o => o.dst) = t) (h1 : (decide (planLen pl ≤ ops.size) && Region.noSelect ops && planOk C ops pl (Array.replicate ops.size false)) = true) (h4 : aPl P C ops pl [] fr σ K) : aDraw P C ops fr σ K := by
 simp only [Bool.and_eq_true, decide_eq_true_eq] at h1
 exact ⟨pl, h1.1.1, h1.1.2, h1.2, h4⟩
end Go.Proofs.YtockimhceppkbaaGreat
namespace Go.Proofs.YtockimhceppkbaaGreat
open Go.RowKit
theorem gS {σ : St} {t t' : Nat} {x : Option Ob} (h : (t = t') = False) : (σ.set t x)[t']? = σ[t']? := List.getElem?_set_ne (fun e => by simp [e] at h)
theorem gE {σ : St} {t : Nat} {x : Option Ob} (h : (t < σ.length) = True) : (σ.set t x)[t]? = some x := by
 have : t < σ.length := of_eq_true h
 simp [this]
theorem gA {σ τ : St} {t : Nat} (h : (t < σ.length) = True) : (σ ++ τ)[t]? = σ[t]? := by
 have : t < σ.length := of_eq_true h
 rw [List.getElem?_append_left this]
theorem gN' {σ τ : St} {x : Option Ob} {n : Nat} (h : (n = σ.length) = True) : (σ ++ x :: τ)[n]? = some x := by
 have : n = σ.length := of_eq_true h
 subst this; simp
theorem at_lt {σ : St} {t : Nat} {x : Option Ob} (h : σ[t]? = some x) : t < σ.length := (List.getElem?_eq_some_iff.1 h).1
theorem set_back {σ : St} {t : Nat} {x : Option Ob} (h : σ[t]? = some x) : σ.set t x = σ := by
 apply List.ext_getElem?
 intro i
 rw [List.getElem?_set]
 split
 ·rename_i e; subst e; rw [if_pos (at_lt h), h]
 ·rfl
theorem put_new {σ : St} {ob : Ob} {n : Nat} (h : n = σ.length) : σ.put n ob = σ ++ [some ob] := by
 subst h; unfold St.put; rw [if_neg (Nat.lt_irrefl _)]
theorem app_set {σ τ : St} {t : Nat} {x : Option Ob} (h : (t < σ.length) = True) : (σ ++ τ).set t x = σ.set t x ++ τ := by
 have : t < σ.length := of_eq_true h
 rw [List.set_append_left _ _ this]
theorem ne_of_ob {σ : St} {t t' : Nat} {x y : Option Ob} (h : σ[t]? = some x) (h' : σ[t']? = some y) (hn : x ≠ y) : t ≠ t' := fun e => by
 subst e; rw [h] at h'; exact hn (by simpa using h')
theorem hA {n m k : Nat} (h : (n < m) = True) : (n < m + k) = True := eq_true (Nat.lt_of_lt_of_le (of_eq_true h) (Nat.le_add_right _ _))
theorem hB {n k : Nat} : (n < n + k) = (0 < k) := propext ⟨fun h => by omega, fun h => by omega⟩
theorem hC {n m k : Nat} : (n + k < n + m) = (k < m) := propext ⟨fun h => by omega, fun h => by omega⟩
theorem hD {d n k : Nat} (h : (d < n) = True) : (d = n + k) = False := eq_false (by have := of_eq_true h; omega)
theorem hD1 {d n k : Nat} (h : (d < n) = True) : (n + k = d) = False := eq_false (by have := of_eq_true h; omega)
theorem hD2 {d n : Nat} (h : (d < n) = True) : (d = n) = False := eq_false (by have := of_eq_true h; omega)
theorem hD3 {d n : Nat} (h : (d < n) = True) : (n = d) = False := eq_false (by have := of_eq_true h; omega)
theorem hE {n k : Nat} : (n = n + k) = (0 = k) := propext ⟨fun h => by omega, fun h => by omega⟩
theorem hE1 {n k : Nat} : (n + k = n) = (k = 0) := propext ⟨fun h => by omega, fun h => by omega⟩
theorem hE2 {n k m : Nat} : (n + k = n + m) = (k = m) := propext ⟨fun h => by omega, fun h => by omega⟩
theorem gP {σ : St} {ob : Ob} {n : Nat} (h : (n = σ.length) = True) : σ.put n ob = σ ++ [some ob] := put_new (of_eq_true h)
theorem gQ {σ : St} {x y : Option Ob} {n : Nat} (h : (n = σ.length) = True) : (σ ++ [x]).set n y = σ ++ [y] := by
 have : n = σ.length := of_eq_true h
 subst this; simp
theorem gB {σ : St} {t : Nat} {x : Option Ob} (h : (σ[t]? = some x) = True) : σ.set t x = σ := set_back (of_eq_true h)
theorem gT {σ τ : St} {n : Nat} (h : (σ.length ≤ n) = True) : (σ ++ τ)[n]? = τ[n - σ.length]? := List.getElem?_append_right (of_eq_true h)
theorem hF {n k m : Nat} : (n + k) - (n + m) = k - m := by omega
theorem hF1 {n k : Nat} : (n + k) - n = k := by omega
theorem hG {n k m : Nat} : (n + k ≤ n + m) = (k ≤ m) := propext ⟨fun h => by omega, fun h => by omega⟩
theorem hG1 {n m : Nat} : (n ≤ n + m) = True := eq_true (by omega)
theorem wHt : (type_of% @gT) ∧ (type_of% @hF) ∧ (type_of% @hF1) ∧ (type_of% @hG) ∧ (type_of% @hG1) := ⟨@gT, @hF, @hF1, @hG, @hG1⟩
theorem wH : (type_of% @Nat.add_assoc) ∧ (type_of% @gB) ∧ (type_of% @List.set_set.{0}) ∧ (type_of% @gQ) ∧ (type_of% @app_set) ∧ (type_of% @gS) ∧ (type_of% @gE) ∧ (type_of% @gA) ∧ (type_of% @gN') ∧ (type_of% @gP) ∧ (type_of% @hA) ∧ (type_of% @hB) ∧ (type_of% @hC) ∧ (type_of% @hD) ∧ (type_of% @hD1) ∧ (type_of% @hD2) ∧ (type_of% @hD3) ∧ (type_of% @hE) ∧ (type_of% @hE1) ∧ (type_of% @hE2) ∧ (type_of% @List.length_set.{0}) ∧ (type_of% @List.length_append.{0}) :=
 ⟨@Nat.add_assoc, @gB, @List.set_set.{0}, @gQ, @app_set, @gS, @gE, @gA, @gN', @gP, @hA, @hB, @hC, @hD, @hD1, @hD2, @hD3, @hE, @hE1, @hE2, @List.length_set.{0}, @List.length_append.{0}⟩
theorem nf {a b : Nat} (h : a ≠ b) : (a = b) = False := eq_false h
theorem lf {a b : Nat} (h : a < b) : (a < b) = True := eq_true h
structure Fr (σ σ' : St) (F F' : Nat → Prop) : Prop where
 len : σ.length ≤ σ'.length
 keep : ∀ t, t < σ.length → ¬ F t → σ'[t]? = σ[t]?
 own : ∀ t, F' t → F t ∨ σ.length ≤ t
theorem Fr.refl (σ : St) (F : Nat → Prop) : Fr σ σ F F := ⟨Nat.le_refl _, fun _ _ _ => rfl, fun _ h => .inl h⟩
theorem Fr.trans {σ σ' σ'' : St} {F F' F'' : Nat → Prop} (h : Fr σ σ' F F') (k : Fr σ' σ'' F' F'') : Fr σ σ'' F F'' :=
 ⟨Nat.le_trans h.len k.len, fun t ht hn => (k.keep t (Nat.lt_of_lt_of_le ht h.len) (fun hF => (h.own t hF).elim hn (fun hl => Nat.lt_irrefl _ (Nat.lt_of_lt_of_le ht hl)))).trans (h.keep t ht hn), fun t ht => (k.own t ht).elim (h.own t) fun hl => .inr (Nat.le_trans h.len hl)⟩
theorem Fr.more {σ σ' : St} {F F' G : Nat → Prop} (h : Fr σ σ' F F') (hG : ∀ t, F t → G t) : Fr σ σ' G fun t => F' t ∨ (G t ∧ ¬ F t) :=
 ⟨h.len, fun t ht hn => h.keep t ht fun hF => hn (hG t hF), fun t ht => ht.elim (fun hF => (h.own t hF).imp (hG t) id) fun hg => .inl hg.1⟩
theorem Fr.get {σ σ' : St} {F F' : Nat → Prop} (h : Fr σ σ' F F') {t : Nat} {x : Option Ob} (ht : σ[t]? = some x) (hn : ¬ F t) : σ'[t]? = some x := (h.keep t (at_lt ht) hn).trans ht
theorem Fr.ofSet {σ : St} {t : Nat} {x : Option Ob} {F : Nat → Prop} (h : F t) : Fr σ (σ.set t x) F F :=
 ⟨by simp, fun s _ hn => List.getElem?_set_ne fun e => by subst e; exact hn h, fun _ h => .inl h⟩
theorem Fr.ofApp {σ τ : St} {F F' : Nat → Prop} (h : ∀ t, F' t → F t ∨ σ.length ≤ t) : Fr σ (σ ++ τ) F F' :=
 ⟨by simp, fun s hs _ => List.getElem?_append_left hs, h⟩
theorem Fr.none {σ σ' : St} {F : Nat → Prop} (h : Fr σ σ' (fun _ => False) (fun _ => False)) : Fr σ σ' F F := ⟨h.len, fun t ht _ => h.keep t ht id, fun t ht => .inl ht⟩
theorem Fr.set {σ σ' : St} {F F' : Nat → Prop} (h : Fr σ σ' F F') {t : Nat} (x : Option Ob) (ht : F t) : Fr σ (σ'.set t x) F F' :=
 ⟨by simpa using h.len, fun s hs hn => by rw [List.getElem?_set_ne (fun e => by subst e; exact hn ht)]; exact h.keep s hs hn, h.own⟩
theorem Fr.app {σ σ' : St} {F F' : Nat → Prop} (h : Fr σ σ' F F') (τ : St) : Fr σ (σ' ++ τ) F F' :=
 ⟨by have := h.len; simp; omega, fun s hs hn => by rw [List.getElem?_append_left (Nat.lt_of_lt_of_le hs h.len)]; exact h.keep s hs hn, h.own⟩
theorem Fr.to {σ σ' : St} {F F' G : Nat → Prop} (h : Fr σ σ' F F') (hG : ∀ t, G t → F t ∨ σ.length ≤ t) : Fr σ σ' F G := ⟨h.len, h.keep, hG⟩
theorem ACalls.eq' {P : Program} {f : FuncId} {args : List AV} {σ s0 : St} {a : AV} {R : AV → St → Prop} (h : ACalls P f args σ fun r s => s = s0 ∧ r = a) (hk : R a s0) : ACalls P f args σ R := h.mono fun r s e => by
 obtain ⟨rfl, rfl⟩ := e
 exact hk
def Ap (σ σ' : St) : Prop := ∃ τ, σ' = σ ++ τ
theorem Ap.fr {σ σ' : St} (h : Ap σ σ') {F : Nat → Prop} : Fr σ σ' F F := by
 obtain ⟨τ, rfl⟩ := h
 exact Fr.ofApp fun t h => .inl h
theorem Ap.refl (σ : St) : Ap σ σ := ⟨[], by simp⟩
theorem Ap.app (σ τ : St) : Ap σ (σ ++ τ) := ⟨τ, rfl⟩
theorem Ap.trans {σ σ' σ'' : St} (h : Ap σ σ') (k : Ap σ' σ'') : Ap σ σ'' := by
 obtain ⟨τ, rfl⟩ := h; obtain ⟨τ', rfl⟩ := k
 exact ⟨τ ++ τ', by simp⟩
theorem Ap.set {σ s : St} (h : Ap σ s) {t : Nat} (ht : σ.length ≤ t) (x : Option Ob) : Ap σ (s.set t x) := by
 obtain ⟨τ, rfl⟩ := h
 exact ⟨τ.set (t - σ.length) x, by rw [List.set_append_right _ _ ht]⟩
theorem Ap.more {σ s : St} (h : Ap σ s) (τ : St) : Ap σ (s ++ τ) := h.trans (Ap.app _ _)
theorem Ap.len {σ s : St} (h : Ap σ s) : σ.length ≤ s.length := by obtain ⟨τ, rfl⟩ := h; simp
theorem Ap.get {σ s : St} (h : Ap σ s) {t : Nat} {x : Option Ob} (ht : σ[t]? = some x) : s[t]? = some x := by obtain ⟨τ, rfl⟩ := h; rw [List.getElem?_append_left (at_lt ht)]; exact ht
theorem ret_st {C : Ctx} {fr : List AV} {σ : St} {rs : List ResultVar} {n : Nat} {R : AV → St → Prop} {e : Exit} (h : match resA C rs fr σ with | some r => R r σ | none => False) (hn : n ≤ σ.length) (he : e = .ret ∨ e = .normal := by first | exact .inl rfl | exact .inr rfl) : retA C rs n R e fr σ := by
 split at h
 ·rename_i r hr
  exact ⟨he, r, r, σ, hr, .inl ⟨rfl, rfl⟩, hn, h⟩
 ·exact h.elim
def fS (fr : List AV) (D : List (Nat × AV)) (Js : List Nat) (J : Nat → AV) : List AV := setsF fr (D ++ Js.map fun t => (t, J t))
def roundS {X : Type} (fr : List AV) (D : X → List (Nat × AV)) (Js : List Nat) (m : X → Nat) (I : X → St → Prop) (x : X) (Q : Exit → List AV → St → Prop) (e : Exit) (fr' : List AV) (σ' : St) : Prop := match e with
 | .normal => ∃ x', m x' < m x ∧ I x' σ' ∧ fr' = fS fr (D x') Js fun t => fr'.getD t .any
 | e => Q e fr' σ'
section
variable {P : Program} {C : Ctx} {fr fr' : List AV} {σ σ' : St} {Q : Exit → List AV → St → Prop} {c : Code} {X : Type} {D : X → List (Nat × AV)} {Js : List Nat} {m : X → Nat} {I : X → St → Prop} {x : X}
theorem roundS_normal : roundS fr D Js m I x Q .normal fr' σ' = ∃ x', m x' < m x ∧ I x' σ' ∧ fr' = fS fr (D x') Js fun t => fr'.getD t .any := nr rfl
theorem roundS_exit {id : Nat} : roundS fr D Js m I x Q (.exit id) fr' σ' = Q (.exit id) fr' σ' := nr rfl
theorem roundS_ret : roundS fr D Js m I x Q .ret fr' σ' = Q .ret fr' σ' := nr rfl
theorem awp_loopS (m : X → Nat) (D : X → List (Nat × AV)) (Js : List Nat) (I : X → St → Prop) (x0 : X) (hf : fr = fS fr (D x0) Js fun t => fr.getD t .any) (h0 : I x0 σ) (hl : ∀ x s, I x s → σ.length ≤ s.length)
 (h3 : ∀ x J s, I x s → AWp P C (aDraw P C) c (fS fr (D x) Js J) s (roundS fr D Js m I x Q)) : AWp P C (aDraw P C) (.loop c) fr σ Q := by
 refine awp_loop' (X := { q : X × (Nat → AV) × St // I q.1 q.2.2 }) (fun q => (fS fr (D q.1.1) Js q.1.2.1, q.1.2.2)) (fun q => m q.1.1) ⟨(x0, fun t => fr.getD t .any, σ), h0⟩ (fun q => hl _ _ q.2) (.inl ⟨hf.symm, rfl⟩) ?_
 rintro ⟨⟨x, J, s⟩, hI⟩
 refine AWp_mono (fun e f s' h => ?_) (h3 x J s hI)
 cases e with
 | normal =>
   obtain ⟨x', h1, h2, h4⟩ := h
   exact ⟨⟨(x', fun t => f.getD t .any, s'), h2⟩, h1, .inl ⟨h4.symm, rfl⟩⟩
 | _ => exact h
end
theorem wHe : (type_of% @List.length_cons.{0}) ∧ (type_of% @List.length_nil.{0}) ∧ (type_of% @Nat.zero_add) ∧ (type_of% @intV.eq_1) ∧ (type_of% @boolV.eq_1) := ⟨@List.length_cons.{0}, @List.length_nil.{0}, @Nat.zero_add, @intV.eq_1, @boolV.eq_1⟩
theorem cz : ((0 : Nat) : Int) = 0 := nr rfl
theorem wHf : (type_of% @List.getD_cons_zero.{0}) ∧ (type_of% @List.getD_cons_succ.{0}) ∧ (type_of% @intV.eq_1) ∧ (type_of% @boolV.eq_1) ∧ (type_of% @cz) := ⟨@List.getD_cons_zero.{0}, @List.getD_cons_succ.{0}, @intV.eq_1, @boolV.eq_1, @cz⟩
theorem wHl : (type_of% @roundS_exit) ∧ (type_of% @roundS_ret) ∧ (type_of% @roundS_normal) ∧ (type_of% @fS.eq_1) ∧ (type_of% @List.cons_append.{0}) ∧ (type_of% @List.nil_append.{0}) ∧ (type_of% @List.map_cons.{0, 0}) ∧ (type_of% @List.map_nil.{0, 0}) ∧ (type_of% @setsF_cons) ∧ (type_of% @setsF_nil) ∧ (type_of% @List.set_cons_zero.{0}) ∧ (type_of% @List.set_cons_succ.{0}) :=
 ⟨@roundS_exit, @roundS_ret, @roundS_normal, @fS.eq_1, @List.cons_append.{0}, @List.nil_append.{0}, @List.map_cons.{0, 0}, @List.map_nil.{0, 0}, @setsF_cons, @setsF_nil, @List.set_cons_zero.{0}, @List.set_cons_succ.{0}⟩
end Go.Proofs.YtockimhceppkbaaGreat
namespace Go.Proofs.YtockimhceppkbaaGreat
open Go.RowKit
theorem pageC_n {l : List UInt8} {n : Nat} (h : l.length = n) : (pageC l).length = n := by simp [pageC, h]
theorem take_page {l : List UInt8} {n : Nat} (h : l.length = n) : List.take n (pageC l) = pageC l := by rw [← pageC_n h, List.take_length]
theorem zT65_l : zT65.length = 65 := by have := zT65_len; simpa [zeroA] using this
theorem zT513_l : zT513.length = 513 := by have := zT513_len; simpa [zeroA] using this
theorem zT516_l : zT516.length = 516 := by have := zT516_len; simpa [zeroA] using this
theorem zT65_d {x : AV} : List.drop 65 (x :: List.drop 1 (List.map (fun x => AV.p (PV.v x)) zT65)) = [] := List.drop_eq_nil_of_le (by simp [zT65_l])
theorem zT513_d {x : AV} : List.drop 513 (x :: List.drop 1 (List.map (fun x => AV.p (PV.v x)) zT513)) = [] := List.drop_eq_nil_of_le (by simp [zT513_l])
theorem zT516_d {x : AV} : List.drop 513 (x :: List.drop 1 (List.map (fun x => AV.p (PV.v x)) zT516)) = [.p (.v (.bool false)), .p (.v (.int .i64 0)), .p (.v (.int .i64 0))] := by
 have : zT516 = [.int .i64 0] ++ (zB 512 ++ [.bool false, .int .i64 0, .int .i64 0]) := by simp only [zT516, List.append_assoc, List.cons_append, List.nil_append]
 rw [this]
 simp only [List.map_append, List.map_cons, List.map_nil, List.cons_append, List.nil_append, List.drop_succ_cons, List.drop_zero]
 rw [List.drop_left' (by simp only [zB, List.length_map, List.length_replicate])]
theorem zT65_e : List.drop 64 (List.drop 1 (List.map (fun x => AV.p (PV.v x)) zT65)) = [] := by have := zT65_d (x := .any); simpa only [List.drop_succ_cons] using this
theorem zT513_e : List.drop 512 (List.drop 1 (List.map (fun x => AV.p (PV.v x)) zT513)) = [] := by have := zT513_d (x := .any); simpa only [List.drop_succ_cons] using this
theorem zT516_e : List.drop 512 (List.drop 1 (List.map (fun x => AV.p (PV.v x)) zT516)) = [.p (.v (.bool false)), .p (.v (.int .i64 0)), .p (.v (.int .i64 0))] := by have := zT516_d (x := .any); simpa only [List.drop_succ_cons] using this
theorem drop_page {l : List UInt8} {n : Nat} (h : l.length = n) : List.drop n (pageC l) = [] := List.drop_eq_nil_of_le (by simp [pageC_n h])
theorem drop_513 {x : AV} {l : List UInt8} (h : l.length = 512) : List.drop 513 (x :: pageC l) = [] := List.drop_eq_nil_of_le (by simp [pageC_n h])
theorem map_byteP {l : List UInt8} : List.map AV.p (List.map byteP l) = pageC l := by simp [pageC]
theorem toPs_page : ∀ l : List UInt8, toPs (pageC l) = some (l.map byteP)
 | [] => rfl
 | b :: l => by
   have := toPs_page l
   simp only [pageC] at this
   simp only [pageC, List.map_cons, toPs, toP, this]
theorem toPs_row {x : PV} {l : List UInt8} : toPs (.p x :: pageC l) = some (x :: l.map byteP) := by simp only [toPs, toP, toPs_page]
def frR (n : Int) (l : List UInt8) (f : Bool) (u a : Int) : List AV := .p (.v (.int .i64 n)) :: (pageC l ++ [.p (.v (.bool f)), .p (.v (.int .i64 u)), .p (.v (.int .i64 a))])
section
variable {n u a : Int} {l : List UInt8} {f : Bool} {x : AV}
theorem frR_len (h : l.length = 512) : (frR n l f u a).length = 516 := by simp [frR, pageC_n h]
theorem frR_0 : (frR n l f u a)[0]? = some (.p (.v (.int .i64 n))) := rfl
theorem frR_513 (h : l.length = 512) : (frR n l f u a)[513]? = some (.p (.v (.bool f))) := by
 simp only [frR, List.getElem?_cons_succ]
 rw [List.getElem?_append_right (by rw [pageC_n h]; omega), pageC_n h]; rfl
theorem frR_514 (h : l.length = 512) : (frR n l f u a)[514]? = some (.p (.v (.int .i64 u))) := by
 simp only [frR, List.getElem?_cons_succ]
 rw [List.getElem?_append_right (by rw [pageC_n h]; omega), pageC_n h]; rfl
theorem frR_515 (h : l.length = 512) : (frR n l f u a)[515]? = some (.p (.v (.int .i64 a))) := by
 simp only [frR, List.getElem?_cons_succ]
 rw [List.getElem?_append_right (by rw [pageC_n h]; omega), pageC_n h]; rfl
theorem frR_p (h : l.length = 512) : List.take 512 (List.drop 1 (frR n l f u a)) = pageC l := by
 simp only [frR, List.drop_succ_cons, List.drop_zero]
 exact List.take_left' (pageC_n h)
theorem frR_sec (h : l.length = 512) {i : Nat} (hi : i < 8) : List.take 64 (List.drop (1 + 64 * i) (frR n l f u a)) = pageC ((l.drop (64 * i)).take 64) := by
 rw [show 1 + 64 * i = 64 * i + 1 by omega]
 simp only [frR, List.drop_succ_cons]
 rw [List.drop_append_of_le_length (by rw [pageC_n h]; omega), List.take_append_of_le_length (by simp [pageC_n h]; omega)]
 simp only [pageC, List.map_take, List.map_drop]
theorem frR_s1 {l' : List UInt8} (h : l.length = 512) (h' : l'.length = 512) : List.take 1 (frR n l f u a) ++ pageC l' ++ List.drop 513 (frR n l f u a) = frR n l' f u a := by
 simp only [frR, List.take_succ_cons, List.take_zero, List.drop_succ_cons]
 rw [List.drop_left' (pageC_n h)]
 simp
theorem frR_s513 {f' : Bool} (h : l.length = 512) : List.take 513 (frR n l f u a) ++ [.p (.v (.bool f'))] ++ List.drop 514 (frR n l f u a) = frR n l f' u a := by
 simp only [frR, List.take_succ_cons, List.drop_succ_cons]
 rw [List.take_left' (pageC_n h), show (513 : Nat) = (pageC l).length + 1 by rw [pageC_n h], List.drop_append]
 simp
theorem frR_s514 {u' : Int} (h : l.length = 512) : List.take 514 (frR n l f u a) ++ [.p (.v (.int .i64 u'))] ++ List.drop 515 (frR n l f u a) = frR n l f u' a := by
 simp only [frR, List.take_succ_cons, List.drop_succ_cons]
 rw [show (513 : Nat) = (pageC l).length + 1 by rw [pageC_n h], show (514 : Nat) = (pageC l).length + 2 by rw [pageC_n h], List.drop_append, List.take_append]
 simp [List.take_of_length_le, List.drop_eq_nil_of_le]
theorem frR_s515 {a' : Int} (h : l.length = 512) : List.take 515 (frR n l f u a) ++ [.p (.v (.int .i64 a'))] ++ List.drop 516 (frR n l f u a) = frR n l f u a' := by
 simp only [frR, List.take_succ_cons, List.drop_succ_cons]
 rw [show (514 : Nat) = (pageC l).length + 2 by rw [pageC_n h], show (515 : Nat) = (pageC l).length + 3 by rw [pageC_n h], List.drop_append, List.take_append]
 simp [List.take_of_length_le, List.drop_eq_nil_of_le]
theorem frR_mk : AV.p (.v (.int .i64 n)) :: (pageC l ++ [.p (.v (.bool f)), .p (.v (.int .i64 u)), .p (.v (.int .i64 a))]) = frR n l f u a := rfl
end
theorem wFr : (type_of% @frR_len) ∧ (type_of% @frR_0) ∧ (type_of% @frR_513) ∧ (type_of% @frR_514) ∧ (type_of% @frR_515) ∧ (type_of% @frR_p) ∧ (type_of% @frR_s1) ∧ (type_of% @frR_s513) ∧ (type_of% @frR_s514) ∧ (type_of% @frR_s515) ∧ (type_of% @frR_mk) :=
 ⟨@frR_len, @frR_0, @frR_513, @frR_514, @frR_515, @frR_p, @frR_s1, @frR_s513, @frR_s514, @frR_s515, @frR_mk⟩
theorem wZt : (type_of% @take_page) ∧ (type_of% @map_byteP) ∧ (type_of% @zT65_e) ∧ (type_of% @zT513_e) ∧ (type_of% @zT516_e) ∧ (type_of% @drop_page) ∧ (type_of% @zT65_l) ∧ (type_of% @zT513_l) ∧ (type_of% @zT516_l) ∧ (type_of% @zT65_d) ∧ (type_of% @zT513_d) ∧ (type_of% @zT516_d) ∧ (type_of% @drop_513) ∧ (type_of% @toPs_row) ∧ (type_of% @toPs_page) ∧ (type_of% @List.take_succ_cons.{0}) ∧ (type_of% @List.take_zero.{0}) ∧ (type_of% @List.length_drop.{0}) :=
 ⟨@take_page, @map_byteP, @zT65_e, @zT513_e, @zT516_e, @drop_page, @zT65_l, @zT513_l, @zT516_l, @zT65_d, @zT513_d, @zT516_d, @drop_513, @toPs_row, @toPs_page, @List.take_succ_cons.{0}, @List.take_zero.{0}, @List.length_drop.{0}⟩
end Go.Proofs.YtockimhceppkbaaGreat
