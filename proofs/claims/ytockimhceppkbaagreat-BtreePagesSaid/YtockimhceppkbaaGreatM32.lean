/- Batches: mark, what goes ahead of its loop. Bits in bytes; the first page. -/
import Derived.Test.YtockimhceppkbaaGreatM31
set_option linter.unusedSimpArgs false
set_option linter.unusedVariables false
set_option linter.defProp false
set_option maxRecDepth 100000
set_option maxHeartbeats 32000000
namespace Go.Proofs.YtockimhceppkbaaGreat
open Go.RowKit
def pl40_0Ma : Plan := (.det 0 (.det 1 (.det 2 (.det 3 (.det 4 (.det 5 (.det 6 (.det 7 (.det 8 (.det 9 (.fin 10 .done)))))))))))
def pl40_2Ma : Plan := (.det 0 (.det 1 (.det 2 (.det 3 (.det 4 (.det 5 (.det 6 (.det 7 (.det 8 (.det 9 (.fin 10 .done)))))))))))
def tMa := aa wX <| aa wbu <| aa T3 <| aa T5 <| aa T30 <| aa T35 T106
theorem seqW {P : Program} {C : Ctx} {D : Array Oper → List AV → St → (List AV → St → Prop) → Prop} {x y rest : Code} {fr : List AV} {σ : St} {QA : Exit → List AV → St → Prop} (hC : C.ok P) (hD : DrawOk P D) (hn : ∀ e fr σ, QA e fr σ → e = .normal) (h : AWp P C D (.seq x y) fr σ QA) {M : View} {a : Act} (hM : Match M σ) (hF : FRep M a fr) {Q : Exit → Act → World → Prop}
 (k : ∀ M' a' fr' σ', Ext M σ M' σ' → Match M' σ' → FRep M' a' fr' → AWp P C D y fr' σ' QA → rest.wp P Q a' M'.w) : (Code.seq x rest).wp P Q a M.w :=
 wp_seq (AWp_sound hC hD x a fr M σ _ _ hM hF h fun e M' a' fr' σ' h1 h2 h3 h4 h5 => by
  cases e with
  | normal => exact k M' a' fr' σ' h1 h2 h3 h5
  | _ => exact absurd (hn _ _ _ h5) (by simp))
theorem fr_start {M : View} {args : List AV} {vs : List Value} {nt nn : Nat} (hv : ARepL M args vs) (hnt : nn - args.length = nt) : FRep M { tmps := vs.toArray ++ Array.replicate (nn - vs.toArray.size) undef, defers := [] } (args ++ List.replicate nt (.tup [])) := by
 subst hnt
 have hlen := hv.len
 refine ⟨?_, rfl⟩
 have : (vs.toArray ++ Array.replicate (nn - vs.toArray.size) undef).toList = vs ++ List.replicate (nn - args.length) undef := by simp [hlen]
 rw [this]
 refine hv.append (ARepL_iff.2 ⟨by simp, fun i x u hx hu => ?_⟩)
 rw [List.getElem?_replicate] at hx hu
 split at hx
 ·simp at hx; subst hx
  rename_i hi
  rw [if_pos hi] at hu; simp at hu; subst hu
  exact undef_rep
 ·simp at hx
def markQ (P : Program) (fn : Func) (M : View) (σ : St) (R : AV → St → Prop) : Exit → Act → World → Prop :=
 bodyPostM Fence.wide 10 P fn fun e w' => ∃ v r σ' M', e = .returned v ∧ M'.w = w' ∧ Ext M σ M' σ' ∧ Match M' σ' ∧ ARep M' r v ∧ σ.length ≤ σ'.length ∧ R r σ'
theorem mark_of {P : Program} {C : Ctx} {D : Array Oper → List AV → St → (List AV → St → Prop) → Prop} {f : FuncId} {fn : Func} {r0 r1 c rest : Code} {args : List AV} {σ : St} {R : AV → St → Prop} {nt : Nat} {QA : Exit → List AV → St → Prop} (hC : C.ok P) (hD : DrawOk P D) (hf : P.funcs[f]? = some fn) (hname : (fn.name == "runtime.NumGoroutine") = false)
 (hb : fn.body = some (.seq r0 (.seq (.seq r1 c) rest))) (hnt : fn.ntmps - args.length = nt) (hn : ∀ e fr σ, QA e fr σ → e = .normal)
 (h : AWp P C D (.seq r0 (.seq (.seq r1 c) .skip)) (args ++ List.replicate nt (.tup [])) σ QA)
 (k : ∀ M M' a' fr' σ', Match M σ → Ext M σ M' σ' → Match M' σ' → FRep M' a' fr' → QA .normal fr' σ' → rest.wpIn Fence.wide 10 P (markQ P fn M σ R) a' M'.w) :
 ACalls P f args σ R := by
 refine ⟨⟨fn, hf, hname, by simp [hb]⟩, fun M vs hM hv => callsIn_wide.1 (callsIn_of_wp_marks (n := 10) hf hb trivial (wpIn_wide.2 ?_) rfl)⟩
 have hF := fr_start (nn := fn.ntmps) hv hnt
 refine seqW hC hD hn h hM hF fun M1 a1 fr1 σ1 e1 m1 f1 h1 => ?_
 refine seqW hC hD hn h1 m1 f1 fun M2 a2 fr2 σ2 e2 m2 f2 h2 => ?_
 exact wpIn_wide.1 (k M M2 a2 fr2 σ2 hM (e1.trans e2) m2 f2 (by simpa [AWp] using h2))
def bitU (k : Nat) : UInt8 := UInt8.ofBitVec (1#8 <<< k)
theorem bit_at {k : Nat} (h : k < 8) : IntKind.u8.wrap (1 * 2 ^ k) = ((bitU k).toNat : Int) := by
 rcases k with _ | _ | _ | _ | _ | _ | _ | _ | k
 all_goals first | rfl | omega
def clrU (c : UInt8) (k : Nat) : UInt8 := UInt8.ofBitVec (c.toBitVec &&& ~~~(bitU k).toBitVec)
def setU (c : UInt8) (k : Nat) : UInt8 := UInt8.ofBitVec (c.toBitVec ||| (bitU k).toBitVec)
theorem clr_ok (c : UInt8) (k : Nat) : IntKind.u8.wrap ((BitVec.ofInt IntKind.u8.bits (c.toNat : Int) &&& ~~~BitVec.ofInt IntKind.u8.bits ((bitU k).toNat : Int)).toNat : Int) = ((clrU c k).toNat : Int) := by
 rw [bv_u8, bv_u8]; exact wrap_bv _
theorem set_ok (c : UInt8) (k : Nat) : IntKind.u8.wrap ((BitVec.ofInt IntKind.u8.bits (c.toNat : Int) ||| BitVec.ofInt IntKind.u8.bits ((bitU k).toNat : Int)).toNat : Int) = ((setU c k).toNat : Int) := by
 rw [bv_u8, bv_u8]; exact wrap_bv _
theorem bRows_set (l : List UInt8) (i : Nat) (c : UInt8) : (bRows l).set i [.p (.v (.int .u8 (c.toNat : Int)))] = bRows (l.set i c) := by simp only [bRows, List.map_set]; rfl
def mkU (c : UInt8) (k : Nat) (v : Bool) : UInt8 := if v then setU (clrU c k) k else clrU c k
def mkBits (l : List UInt8) (n : Nat) (v : Bool) : List UInt8 := l.set (n / 8) (mkU (l.getD (n / 8) 0) (n % 8) v)
def MkQ (σ : St) (b t nb : Nat) (bits : List UInt8) (fr : List AV) (s : St) : Prop := fr.length = 45 ∧ fr[0]? = some (.mp b 2 0 0) ∧ fr[1]? = some (.ms t 1 0 nb) ∧ s = σ.set t (some (.row 1 (bRows bits)))
theorem Match.below {N : View} {σ : St} {w1 : World} (hM : Match N σ) (hb : Below N.w.heap.size N.w w1) : Match { N with w := w1 } σ ∧ Ext N σ { N with w := w1 } σ := by
 have hcell : ∀ b o, N.I b o → w1.cell? ⟨b, o, none⟩ = N.w.cell? ⟨b, o, none⟩ := fun b o ho => hb.cell (p := ⟨b, o, none⟩) (hM.imm b o ho)
 have hL : Later N { N with w := w1 } := ⟨fun _ _ h h' => ⟨h, h', rfl⟩, own_same (fun _ => rfl) (fun _ => rfl) (fun _ => rfl), fun _ _ h => h, hcell⟩
 have hE : Ext N σ { N with w := w1 } σ := ⟨hL.mu, hL.own, hL.imm, hcell, fun b hlt _ => ⟨hb.block b hlt, fun _ h => h⟩, fun t ob b h1 h2 => .inr ⟨t, ob, h1, h2⟩, hb.size, hb.os, hb.tape, hb.output⟩
 exact ⟨⟨fun t ob ht => (hM.obj t ob ht).later hL rfl rfl rfl fun b hbb => ⟨hb.block b (hM.lt t b hbb), fun _ h => h⟩, hM.inj, hM.fresh, fun t b hbb => Nat.lt_of_lt_of_le (hM.lt t b hbb) hb.size, fun b o ho => Nat.lt_of_lt_of_le (hM.imm b o ho) hb.size, hM.glob.ext hE⟩, hE⟩
theorem Ext.putD {N M2 : View} {σ σ2 : St} {D : Nat} {o : Obj} (h : Ext N σ M2 σ2) (hI : ∀ b q, N.I b q → b < N.w.heap.size) (hD : N.w.heap.size ≤ D) : Ext N σ { M2 with w := M2.w.putObj D o } σ2 :=
 ⟨h.mu, h.own, h.imm, fun b q hq => (World.cell?_of_block (World.putObj_heap_other (by show b ≠ D; have := hI b q hq; omega))).trans (h.cell b q hq), fun b hlt hn => ⟨(World.putObj_heap_other (by omega)).trans (h.keep b hlt hn).1, (h.keep b hlt hn).2⟩, h.new, by simpa using h.size, h.os, h.tape, h.output⟩
theorem Match.putD {M2 : View} {σ2 : St} {D : Nat} {o : Obj} (hM : Match M2 σ2) (h1 : ∀ t ob, σ2.at t ob → M2.mu t ≠ some D) (h2 : ∀ q, ¬ M2.I D q) (h3 : Glob { M2 with w := M2.w.putObj D o } σ2) : Match { M2 with w := M2.w.putObj D o } σ2 := by
 have hcell : ∀ b q, M2.I b q → (M2.w.putObj D o).cell? ⟨b, q, none⟩ = M2.w.cell? ⟨b, q, none⟩ := fun b q hq => World.cell?_of_block (World.putObj_heap_other (by show b ≠ D; intro e; subst e; exact h2 q hq))
 have hL : Later M2 { M2 with w := M2.w.putObj D o } := ⟨fun _ _ h h' => ⟨h, h', rfl⟩, own_same (fun _ => rfl) (fun _ => rfl) (fun _ => rfl), fun _ _ h => h, hcell⟩
 exact ⟨fun t ob ht => (hM.obj t ob ht).later hL rfl rfl rfl fun b hbb => ⟨World.putObj_heap_other (fun e => h1 t ob ht (e ▸ hbb)), fun _ h => h⟩, hM.inj, hM.fresh, fun t b hbb => by simpa using hM.lt t b hbb, fun b q hq => by simpa using hM.imm b q hq, h3⟩
def mkP (bits : List UInt8) : List UInt8 := (addL (newL 255) bits).1
theorem amark0 {σ : St} {b t n nb : Nat} {bits : List UInt8} {v : Bool} {T : St → Prop} (ht : σ[t]? = some (some (.row 1 (bRows bits)))) (hnb : bits.length = nb) (hn : n < 8 * nb) (hnb1 : nb ≤ 400)
 (hw : ACalls Tryz.prog 41 [.mp b 2 0 0, intV .i64 0, pageA (mkP (mkBits bits n v))] (σ.set t (some (.row 1 (bRows (mkBits bits n v))))) fun r s => r = .tup [] ∧ T s) :
 ACalls Tryz.prog 40 [.mp b 2 0 0, .ms t 1 0 nb, intV .i64 (n : Nat), boolV v] σ fun r s => r = .tup [] ∧ T s := by
 have lt := at_lt ht
 have w1 : IntKind.i64.wrap ((n : Int).tdiv 8) = ((n / 8 : Nat) : Int) := by
  rw [Int.tdiv_eq_ediv_of_nonneg (by omega), wrap_i64 (by omega) (by omega)]; omega
 have w2 : (n : Int).tmod 8 = ((n % 8 : Nat) : Int) := by rw [Int.tmod_eq_emod_of_nonneg (by omega)]; omega
 have b1 : (((n / 8 : Nat) : Int) < (nb : Int)) = True := eq_true (by omega)
 have b2 := nnI (n / 8)
 obtain ⟨c, hc⟩ : ∃ c, bits[n / 8]? = some c := ⟨bits[n / 8]'(by omega), by simp⟩
 have hmk : mkBits bits n v = bits.set (n / 8) (mkU c (n % 8) v) := by simp [mkBits, List.getD_eq_getElem?_getD, hc]
 have hlt : n / 8 < bits.length := by omega
 have hk8 : n % 8 < 8 := Nat.mod_lt _ (by omega)
 generalize hk : n % 8 = k at *
 have w3 : ((k : Int) < 0) = False := eq_false (by omega)
 have w4 : min k IntKind.u8.bits = k := Nat.min_eq_left (by show k ≤ 8; omega)
 have w5 := bit_at hk8
 have g1 : (bRows bits)[n / 8]? = some [.p (.v (.int .u8 (c.toNat : Nat)))] := by simp [bRows, hc, byteP]
 have g2 : (bRows (bits.set (n / 8) (clrU c k)))[n / 8]? = some [.p (.v (.int .u8 ((clrU c k).toNat : Nat)))] := by simp [bRows, byteP, hlt]
 have g3 : (bits.set (n / 8) (clrU c k)).set (n / 8) (setU (clrU c k) k) = bits.set (n / 8) (setU (clrU c k) k) := List.set_set ..
 refine mark_of (QA := fun e fr s => e = .normal ∧ MkQ σ b t nb (mkBits bits n v) fr s) cx_ok dr_ok Tryz.func40 (by kernel_rfl) rfl (nt := 41) rfl (fun e fr s h => h.1) ?_ ?_
 ·cases v
  all_goals
   repeat' first | ((with_reducible first | refine cs ?_ ?_ | refine ws ?_ ?_ | refine wd ?_ ?_ | refine wu ?_ ?_) <;> intro h <;> try simp only [h]) | simp only [↓wBA, tMa, convA, seval, pl40_0Ma, pl40_2Ma, wH, lt, ht, w1, w2, w3, w4, w5, Int.toNat_natCast, b1, b2, g1, g2, g3, clr_ok, set_ok, bRows_set] | (with_reducible refine dP pl40_0Ma 11 (some 10) (by decide) (by kernel_rfl) ?_) | (with_reducible refine dP pl40_2Ma 11 (some 21) (by decide) (by kernel_rfl) ?_)
   exact ⟨rfl, rfl, rfl, by rw [hmk]; rfl⟩
 ·rintro M N a' fr' σ' hM hE hM' hF ⟨_, hq1, hq2, hq3, rfl⟩
  obtain ⟨⟨l⟩, ds⟩ := a'
  obtain rfl : ds = [] := hF.defers
  have hlen : l.length = 45 := by have := hF.tmps.len; simp only at this; omega
  have hrep := (ARepL_iff.1 hF.tmps).2
  rcases l with _ | ⟨u0, l⟩
  ·simp at hlen
  rcases l with _ | ⟨u1, l⟩
  ·simp at hlen
  rcases l with _ | ⟨u2, l⟩
  ·simp at hlen
  rcases l with _ | ⟨u3, l⟩
  ·simp at hlen
  rcases l with _ | ⟨u4, l⟩
  ·simp at hlen
  rcases l with _ | ⟨u5, l⟩
  ·simp at hlen
  rcases l with _ | ⟨u6, l⟩
  ·simp at hlen
  rcases l with _ | ⟨u7, l⟩
  ·simp at hlen
  rcases l with _ | ⟨u8, l⟩
  ·simp at hlen
  rcases l with _ | ⟨u9, l⟩
  ·simp at hlen
  rcases l with _ | ⟨u10, l⟩
  ·simp at hlen
  rcases l with _ | ⟨u11, l⟩
  ·simp at hlen
  rcases l with _ | ⟨u12, l⟩
  ·simp at hlen
  rcases l with _ | ⟨u13, l⟩
  ·simp at hlen
  rcases l with _ | ⟨u14, l⟩
  ·simp at hlen
  rcases l with _ | ⟨u15, l⟩
  ·simp at hlen
  rcases l with _ | ⟨u16, l⟩
  ·simp at hlen
  rcases l with _ | ⟨u17, l⟩
  ·simp at hlen
  rcases l with _ | ⟨u18, l⟩
  ·simp at hlen
  rcases l with _ | ⟨u19, l⟩
  ·simp at hlen
  rcases l with _ | ⟨u20, l⟩
  ·simp at hlen
  rcases l with _ | ⟨u21, l⟩
  ·simp at hlen
  rcases l with _ | ⟨u22, l⟩
  ·simp at hlen
  rcases l with _ | ⟨u23, l⟩
  ·simp at hlen
  rcases l with _ | ⟨u24, l⟩
  ·simp at hlen
  rcases l with _ | ⟨u25, l⟩
  ·simp at hlen
  rcases l with _ | ⟨u26, l⟩
  ·simp at hlen
  rcases l with _ | ⟨u27, l⟩
  ·simp at hlen
  rcases l with _ | ⟨u28, l⟩
  ·simp at hlen
  rcases l with _ | ⟨u29, l⟩
  ·simp at hlen
  rcases l with _ | ⟨u30, l⟩
  ·simp at hlen
  rcases l with _ | ⟨u31, l⟩
  ·simp at hlen
  rcases l with _ | ⟨u32, l⟩
  ·simp at hlen
  rcases l with _ | ⟨u33, l⟩
  ·simp at hlen
  rcases l with _ | ⟨u34, l⟩
  ·simp at hlen
  rcases l with _ | ⟨u35, l⟩
  ·simp at hlen
  rcases l with _ | ⟨u36, l⟩
  ·simp at hlen
  rcases l with _ | ⟨u37, l⟩
  ·simp at hlen
  rcases l with _ | ⟨u38, l⟩
  ·simp at hlen
  rcases l with _ | ⟨u39, l⟩
  ·simp at hlen
  rcases l with _ | ⟨u40, l⟩
  ·simp at hlen
  rcases l with _ | ⟨u41, l⟩
  ·simp at hlen
  rcases l with _ | ⟨u42, l⟩
  ·simp at hlen
  rcases l with _ | ⟨u43, l⟩
  ·simp at hlen
  rcases l with _ | ⟨u44, l⟩
  ·simp at hlen
  rcases l with _ | ⟨x, l⟩
  rotate_left
  ·simp at hlen
  have r0 := hrep 0 _ u0 hq2 rfl
  have r1 := hrep 1 _ u1 hq3 rfl
  simp only [ARep] at r1
  obtain ⟨bt, cap, hbm, hbl, rfl, hcap, hc2⟩ := r1
  have htl : St.at (σ.set t (some (.row 1 (bRows (mkBits bits n v))))) t (.row 1 (bRows (mkBits bits n v))) := by unfold St.at; simp [lt]
  obtain ⟨_, bt', cur, Tc, hb', hh, hIc, hr, hcs⟩ := hM'.obj t _ htl
  have : bt' = bt := by rw [hbm] at hb'; simpa using hb'.symm
  subst this
  have hltb := hM'.lt t bt' hbm
  have hby : ∀ j c, (mkBits bits n v)[j]? = some c → N.w.cell? ⟨bt', 0 + j, none⟩ = some (.int .u8 c.toNat) := fun j c hc => by
   obtain ⟨_, h4⟩ := hr j [.p (byteP c)] (by simp [bRows, hc])
   obtain ⟨_, x, h5, h6⟩ := h4 0 (.p (byteP c)) rfl
   have hx : x = .int .u8 c.toNat := by simp only [byteP] at h6; exact rep_int h6
   subst hx
   simp only [Nat.mul_one, Nat.add_zero] at h5
   simp [World.cell?, hh, h5]
  have hnb' : (mkBits bits n v).length = nb := by simp [mkBits, hnb]
  refine mark_tail (bits := mkBits bits n v) hnb' (by omega) hnb1 hcap hltb hby u0 u2 u3 u4 u5 u6 u7 u8 u9 u10 u11 u12 u13 u14 u15 u16 u17 u18 u19 u20 u21 u22 u23 u24 u25 u26 u27 u28 u29 u30 u31 u32 u33 u34 u35 u36 u37 u38 u39 u40 u41 u42 u43 u44 ?_
  intro w1 hb1
  obtain ⟨hm1, he1⟩ := hM'.below hb1
  refine (hw.2 { N with w := w1 } [u0, .int .i64 0, .agg (bytesA (mkP (mkBits bits n v)))] hm1 ?_).mono ?_
  ·refine ARepL_iff.2 ⟨rfl, fun i x u hx hu => ?_⟩
   rcases i with _ | _ | _ | i
   ·simp at hx hu; subst hx; subst hu; exact r0.later he1.later
   ·simp at hx hu; subst hx; subst hu; exact rep_mk rfl
   ·simp at hx hu; subst hx; subst hu; exact page_mk _
   ·simp at hx
  ·rintro e w' ⟨v', r, σ2, M2, rfl, rfl, e2, m2, rr, hl2, rfl, hT⟩
   refine ⟨v', rfl, fun D hD hK => ?_⟩
   have hDl : D < w1.heap.size := (Array.getElem?_eq_some_iff.1 hK).1
   have hno : ∀ q ob, St.at (σ.set t (some (.row 1 (bRows (mkBits bits n v))))) q ob → N.mu q ≠ some D := fun q ob h e => by have := hM'.lt q D e; omega
   refine ⟨(e2.keep D hDl hno).1.trans hK, fun o => ⟨_, .tup [], σ2, { M2 with w := M2.w.putObj D o }, rfl, rfl, hE.trans ((he1.trans e2).putD hM'.imm hD), ?_, undef_rep, ?_, rfl, hT⟩⟩
   ·refine m2.putD (fun t ob h e => ?_) (fun q hq => ?_) ?_
    ·rcases e2.new t ob D h e with h | ⟨t0, ob0, h1, h2⟩
     ·have : w1.heap.size ≤ D := h; omega
     ·exact hno t0 ob0 h1 h2
    ·have := hM'.imm D q ((e2.keep D hDl hno).2 q hq); omega
    ·exact hM'.glob.ext ((he1.trans e2).putD hM'.imm hD)
   ·simpa using hl2
end Go.Proofs.YtockimhceppkbaaGreat
namespace Go.Proofs.YtockimhceppkbaaGreat
open Go.RowKit
def tb (c : UInt8) (k : Nat) : Bool := c.toBitVec.getLsbD k
theorem tb_mkU (c : UInt8) {k j : Nat} (hk : k < 8) (hj : j < 8) (v : Bool) : tb (mkU c k v) j = if j = k then v else tb c j := by
 have h1 : ∀ x : BitVec 8, (UInt8.ofBitVec x).toBitVec = x := fun _ => rfl
 have h2 : (1#8 <<< k).getLsbD j = decide (j = k) := by
  rw [BitVec.getLsbD_shiftLeft]
  by_cases h : j = k
  ·subst h; simp [hj]
  ·by_cases h3 : j < k
   ·simp [h, h3]
   ·have : ¬ j - k = 0 := by omega
    simp [h, h3, hj, BitVec.getLsbD_one, this]
 cases v
 ·simp only [mkU, clrU, bitU, tb, h1, Bool.false_eq_true, if_false, BitVec.getLsbD_and, BitVec.getLsbD_not, h2, hj, decide_true, Bool.true_and]
  by_cases h : j = k <;> simp [h]
 ·simp only [mkU, setU, clrU, bitU, tb, h1, if_true, BitVec.getLsbD_and, BitVec.getLsbD_or, BitVec.getLsbD_not, h2, hj, decide_true, Bool.true_and]
  by_cases h : j = k <;> simp [h]
def bitL (l : List UInt8) (n : Nat) : Bool := tb (l.getD (n / 8) 0) (n % 8)
theorem bit_mk {l : List UInt8} {n m : Nat} (hn : n < 8 * l.length) (v : Bool) : bitL (mkBits l n v) m = if m = n then v else bitL l m := by
 unfold bitL mkBits
 have hl : n / 8 < l.length := by omega
 by_cases h : m / 8 = n / 8
 ·rw [h]
  have : (l.set (n / 8) (mkU (l.getD (n / 8) 0) (n % 8) v)).getD (n / 8) 0 = mkU (l.getD (n / 8) 0) (n % 8) v := by simp [List.getD_eq_getElem?_getD, hl]
  rw [this, tb_mkU _ (Nat.mod_lt _ (by omega)) (Nat.mod_lt _ (by omega))]
  by_cases h2 : m = n
  ·subst h2; simp
  ·have : ¬ m % 8 = n % 8 := fun e => h2 (by omega)
   rw [if_neg this, if_neg h2]
 ·have : ¬ m = n := fun e => h (by rw [e])
  rw [if_neg this]
  have h3 : ¬ n / 8 = m / 8 := fun e => h e.symm
  simp [List.getD_eq_getElem?_getD, h3]
theorem tb_or_one (c : UInt8) {j : Nat} (hj : j < 8) : tb (c ||| 1) j = (tb c j || decide (j = 0)) := by
 have : (c ||| 1).toBitVec = c.toBitVec ||| 1#8 := rfl
 simp only [tb, this, BitVec.getLsbD_or, BitVec.getLsbD_one]
 by_cases h : j = 0 <;> simp [h]
theorem or_one_of {c : UInt8} (h : tb c 0 = true) : c ||| 1 = c := by
 have : (c ||| 1).toBitVec = c.toBitVec := by
  apply BitVec.eq_of_getLsbD_eq
  intro i hi
  have := tb_or_one c hi
  simp only [tb] at this h
  rw [this]
  by_cases h0 : i = 0
  ·subst h0; simp [h]
  ·simp [h0]
 exact UInt8.toBitVec_inj.1 this
structure Tk (pg : List UInt8) (np : Nat) (T : Nat → Bool) : Prop where
 len : pg.length = 512
 hk : ∀ k, k ≤ (slotsL pg).length → (haveK pg k).length ≤ 1000000
 raw : ∃ c l, rawB pg ((np + 7) / 8) = c :: l ∧ ∀ n, n < np → bitL ((c ||| 1) :: l) n = T n
theorem have_one {pg bits : List UInt8} (h : slotsL pg = [some bits]) : haveL pg = bits ∧ ∀ k, k ≤ (slotsL pg).length → (haveK pg k).length ≤ bits.length := by
 have h0 : getL pg (0 : Nat) = some bits := by simp [getL, h]
 have e1 : haveK pg 1 = bits := by simp only [haveK, h0]; rfl
 refine ⟨by unfold haveL; rw [h]; exact e1, fun k hk => ?_⟩
 rw [h] at hk
 rcases k with _ | _ | k
 ·simp [haveK]
 ·rw [e1]; exact Nat.le_refl _
 ·simp at hk
theorem mkP_pg {bits : List UInt8} (h : bits.length ≤ 400) : Pg (mkP bits) 255 [some bits] := by
 have hp := Pg.new 255
 have hc : costL (putL [] (freeL []) bits) ≤ 496 := by
  have : freeL [] = 0 := rfl
  rw [this]
  simp [putL, costL, lens, recLen]; omega
 exact (hp.add bits h hc).2.2
theorem tk_new {np : Nat} (h : 1 ≤ np) : Tk (newL 0) np fun n => n == 0 := by
 have hp := Pg.new 0
 have hh : haveL (newL 0) = [] := by unfold haveL; rw [hp.slots]; rfl
 refine ⟨hp.len, fun k hk => ?_, 0, List.replicate ((np + 7) / 8 - 1) 0, ?_, fun n hn => ?_⟩
 ·rw [hp.slots] at hk; simp at hk; subst hk; simp [haveK]
 ·unfold rawB
  rw [hh]
  obtain ⟨q, hq⟩ : ∃ q, (np + 7) / 8 = q + 1 := ⟨(np + 7) / 8 - 1, by omega⟩
  rw [hq]
  simp [List.replicate_succ]
 ·unfold bitL
  by_cases hd : n / 8 = 0
  ·rw [hd]
   simp only [List.getD_cons_zero]
   rw [tb_or_one _ (Nat.mod_lt _ (by omega))]
   have : tb 0 (n % 8) = false := by simp [tb]
   rw [this]
   by_cases h0 : n = 0
   ·subst h0; rfl
   ·have : ¬ n % 8 = 0 := by omega
    simp [this, h0]
  ·have h0 : ¬ n = 0 := fun e => by subst e; simp at hd
   obtain ⟨q, hq⟩ : ∃ q, n / 8 = q + 1 := ⟨n / 8 - 1, by omega⟩
   rw [hq, List.getD_cons_succ]
   have : (List.replicate ((np + 7) / 8 - 1) (0 : UInt8)).getD q 0 = 0 := by
    rw [List.getD_eq_getElem?_getD, List.getElem?_replicate]
    split <;> rfl
   rw [this]
   simp [tb, h0]
theorem tk_mark {pg : List UInt8} {np n : Nat} {T : Nat → Bool} {c : UInt8} {l : List UInt8} (h : rawB pg ((np + 7) / 8) = c :: l) (hT : ∀ n, n < np → bitL ((c ||| 1) :: l) n = T n) (hn1 : 1 ≤ n) (hn : n < np) (hnp : np ≤ 3200) (v : Bool) :
 Tk (mkP (mkBits ((c ||| 1) :: l) n v)) np fun m => if m = n then v else T m := by
 have hlen : ((c ||| 1) :: l).length = (np + 7) / 8 := by
  have := rawB_len pg ((np + 7) / 8)
  rw [h] at this
  simpa using this
 have hml : (mkBits ((c ||| 1) :: l) n v).length = (np + 7) / 8 := by simp only [mkBits, List.length_set]; exact hlen
 have hp := mkP_pg (bits := mkBits ((c ||| 1) :: l) n v) (by omega)
 obtain ⟨h1, h2⟩ := have_one hp.slots
 have h0 : bitL (mkBits ((c ||| 1) :: l) n v) 0 = true := by
  rw [bit_mk (by omega), if_neg (by omega)]
  unfold bitL
  show tb (c ||| 1) 0 = true
  rw [tb_or_one _ (by omega)]; simp
 obtain ⟨c', l', hc'⟩ : ∃ c' l', mkBits ((c ||| 1) :: l) n v = c' :: l' := by
  cases hq : mkBits ((c ||| 1) :: l) n v with
  | nil => rw [hq] at hml; simp at hml; omega
  | cons a b => exact ⟨a, b, rfl⟩
 have hone : c' ||| 1 = c' := or_one_of (by
  rw [hc'] at h0
  exact h0)
 refine ⟨hp.len, fun k hk => Nat.le_trans (h2 k hk) (by omega), c', l', ?_, fun m hm => ?_⟩
 ·unfold rawB
  rw [h1, List.take_of_length_le (by omega), hml, Nat.sub_self]
  simpa using hc'
 ·rw [hone, ← hc', bit_mk (by omega), hT m hm]
theorem nz_of {l : List UInt8} (h : l ≠ zero512) : pgz l = l := if_neg h
theorem mkP_nz {bits : List UInt8} (h : bits.length ≤ 400) : pgz (mkP bits) = mkP bits := nz_of fun e => by
 have := (mkP_pg h).kind
 rw [e] at this
 exact absurd this (by decide)
theorem newL_nz (k : Int) : pgz (newL k) = newL k := by
 by_cases h : newL k = zero512
 ·have hk := (Pg.new k).kind
  rw [h] at hk
  have : kindL zero512 = 0 := by decide
  rw [this] at hk
  have e : newL k = newL 0 := by unfold newL; rw [← hk]; rfl
  unfold pgz
  rw [if_pos h, e]
 ·exact nz_of h
end Go.Proofs.YtockimhceppkbaaGreat
