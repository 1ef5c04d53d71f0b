/- A batch on a pool, told by what it sees. More of the page's contracts on the machine: Set, Drop, Kind, a record that may be written. Heaps, told by their pages: the plain part. -/
import Derived.Test.YtlddiphjpmlhbaaM41
import Derived.Test.YtlddiphjpmlhbaaM26
set_option linter.unusedSimpArgs false
set_option linter.unusedVariables false
set_option linter.defProp false
set_option maxRecDepth 100000
set_option maxHeartbeats 32000000
namespace Go.Proofs.Ytlddiphjpmlhbaa
open Go.RowKit
structure Bud (P : PoolV) (k : Nat) : Prop where
 c : P.log.ctr + k < 18446744073709551616
 w : P.data.wait.length + 8 * k ≤ 1000000000000
 l : P.log.wait + k ≤ 1000000000000
theorem Bud.mono {P : PoolV} {k k' : Nat} (h : Bud P k) (hk : k' ≤ k) : Bud P k' := ⟨by have := h.c; omega, by have := h.w; omega, by have := h.l; omega⟩
theorem Bud.kp {P P' : PoolV} {k j m : Nat} (h : Bud P m) (hk : Kp P P' j) (hm : j + k ≤ m) : Bud P' k := ⟨by have := h.c; have := hk.ctr; omega, by have := h.w; have := hk.dw; omega, by have := h.l; have := hk.wait; omega⟩
theorem Bud.kb {P P' : PoolV} {k j m : Nat} {v : Nat → List UInt8} (h : Bud P m) (hk : Kb P P' j v) (hm : j + k ≤ m) : Bud P' k := ⟨by have := h.c; have := hk.ctr; omega, by have := h.w; have := hk.dw; omega, by have := h.l; have := hk.wait; omega⟩
def upV (v : Nat → List UInt8) (n : Nat) (pg : List UInt8) (m : Nat) : List UInt8 := if m = n then pg else v m
structure BtIn (σ : St) (b p dd l kh : Nat) (B G : Nat → Prop) (ch : List (Nat × List UInt8)) (P : PoolV) (v : Nat → List UInt8) : Prop where
 bt : BatchAt σ b p B ch
 pl : PoolAt σ p dd l kh G P
 dj : ∀ t, B t → G t → False
 ok : ∀ q ∈ ch, q.1 < P.pages ∧ pgz q.2 = q.2
 vw : ∀ n, bview P.view ch n = v n
def Bt (σ : St) (b p dd l kh : Nat) (U : Nat → Prop) (P : PoolV) (v : Nat → List UInt8) : Prop := ∃ B G ch, BtIn σ b p dd l kh B G ch P v ∧ ∀ t, U t ↔ B t ∨ G t
section
variable {σ s : St} {b p dd l kh : Nat} {U : Nat → Prop} {P : PoolV} {v : Nat → List UInt8}
theorem Bt.lt (h : Bt σ b p dd l kh U P v) : ∀ t, U t → t < σ.length := by
 obtain ⟨B, G, ch, h, hU⟩ := h
 exact fun t ht => ((hU t).1 ht).elim (h.bt.lt t) (h.pl.lt t)
theorem Bt.same (h : Bt σ b p dd l kh U P v) (hs : ∀ t, U t → s[t]? = σ[t]?) : Bt s b p dd l kh U P v := by
 obtain ⟨B, G, ch, h, hU⟩ := h
 exact ⟨B, G, ch, ⟨h.bt.same fun t ht => hs t ((hU t).2 (.inl ht)), h.pl.same fun t ht => hs t ((hU t).2 (.inr ht)), h.dj, h.ok, h.vw⟩, hU⟩
theorem Bt.ap (h : Bt σ b p dd l kh U P v) (ha : Ap σ s) : Bt s b p dd l kh U P v := h.same fun t ht => by
 have := h.lt t ht
 obtain ⟨τ, rfl⟩ := ha
 exact List.getElem?_append_left this
theorem Bt.frame {K K' : Nat → Prop} (h : Bt σ b p dd l kh U P v) (hf : Fr σ s K K') (hd : ∀ t, U t → K t → False) : Bt s b p dd l kh U P v := h.same fun t ht => hf.keep t (h.lt t ht) fun e => hd t ht e
theorem Bt.set (h : Bt σ b p dd l kh U P v) {t : Nat} (ht : ¬ U t) (x : Option Ob) : Bt (σ.set t x) b p dd l kh U P v := h.same fun t' ht' => List.getElem?_set_ne fun e => ht (by subst e; exact ht')
theorem Bt.len (h : Bt σ b p dd l kh U P v) (n : Nat) : (v n).length = 512 ∧ pgz (v n) = v n := by
 obtain ⟨B, G, ch, h, hU⟩ := h
 rw [← h.vw n]
 unfold bview
 cases hl : lkM ch n with
 | none => exact h.pl.vlen n
 | some pg =>
   have hm : (n, pg) ∈ ch := by
    have : ∀ ch : List (Nat × List UInt8), lkM ch n = some pg → (n, pg) ∈ ch := by
     intro ch
     induction ch with
     | nil => intro h; simp [lkM] at h
     | cons r ch ih =>
       intro h
       simp only [lkM] at h
       split at h
       ·rename_i e; simp only [Option.some.injEq] at h; subst e; subst h; simp
       ·exact List.mem_cons_of_mem _ (ih h)
    exact this ch hl
   exact ⟨h.bt.kn.2 _ hm, (h.ok _ hm).2⟩
theorem Bt.big (h : Bt σ b p dd l kh U P v) : P.pages ≤ 3840 := Nat.min_le_right _ _
theorem BtIn.chl {B G : Nat → Prop} {ch : List (Nat × List UInt8)} (h : BtIn σ b p dd l kh B G ch P v) : ch.length ≤ P.pages := by
 have := len_le_of_lt P.pages (ch.map Prod.fst) h.bt.kn.1 fun x hx => by
  obtain ⟨q, hq, rfl⟩ := List.mem_map.1 hx
  exact (h.ok q hq).1
 simpa using this
end
section
variable {σ : St} {b p dd l kh n : Nat} {U : Nat → Prop} {P : PoolV} {v : Nat → List UInt8}
theorem fr_or {σ s : St} {B G G' : Nat → Prop} (h : Fr σ s G G') : Fr σ s (fun t => B t ∨ G t) (fun t => B t ∨ G' t) := h.sub (fun t ht => .inr ht) fun t ht => ht.elim (fun e => .inl (.inl e)) fun e => (h.own t e).imp .inr id
theorem fr_or' {σ s : St} {B B' G : Nat → Prop} (h : Fr σ s B B') : Fr σ s (fun t => B t ∨ G t) (fun t => B' t ∨ G t) := h.sub (fun t ht => .inl ht) fun t ht => ht.elim (fun e => (h.own t e).imp .inl id) fun e => .inl (.inr e)
theorem fr_iff {σ s : St} {U V U' V' : Nat → Prop} (h : Fr σ s U V) (h1 : ∀ t, U' t ↔ U t) (h2 : ∀ t, V' t ↔ V t) : Fr σ s U' V' := by
 have e1 : U' = U := funext fun t => propext (h1 t)
 have e2 : V' = V := funext fun t => propext (h2 t)
 rw [e1, e2]; exact h
theorem abRead (h : Bt σ b p dd l kh U P v) (hn : n < P.pages) (hb : Bud P 1) :
 ACalls Try.prog 61 [.mp b 2 0 0, intV .i64 (n : Nat)] σ fun r σ' => r = .tup [pageA (v n), intV .i64 0] ∧ ∃ U' P', Fr σ σ' U U' ∧ Bt σ' b p dd l kh U' P' v ∧ Kp P P' 1 := by
 obtain ⟨B, G, ch, h, hU⟩ := h
 refine (abreadU h.bt h.pl h.dj hn hb.c hb.w).mono ?_
 rintro _ s ⟨rfl, G', P', hf, hP, hk, _⟩
 rw [h.vw]
 have hB := h.bt.frame hf fun t h1 h2 => h.dj t h1 h2
 have hd : ∀ t, B t → G' t → False := fun t h1 h2 => (hf.own t h2).elim (h.dj t h1) fun e => by have := h.bt.lt t h1; omega
 exact ⟨rfl, fun t => B t ∨ G' t, P', fr_iff (fr_or (B := B) hf) hU fun t => Iff.rfl, ⟨B, G', ch, ⟨hB, hP, hd, fun q hq => by rw [hk.pages]; exact h.ok q hq, fun m => by rw [bview_congr hk.view]; exact h.vw m⟩, fun t => Iff.rfl⟩, hk.mono (kbt_le ch n)⟩
theorem abWrt (h : Bt σ b p dd l kh U P v) (hn0 : 1 ≤ n) (hn : n < P.pages) (pg : List UInt8) (hp : pg.length = 512) (hz : pgz pg = pg) :
 ACalls Try.prog 31 [.mp b 2 0 0, intV .i64 (n : Nat), pageA pg] σ fun r σ' => r = intV .i64 0 ∧ ∃ U', Fr σ σ' U U' ∧ Bt σ' b p dd l kh U' P (upV v n pg) := by
 have hbg := h.big
 obtain ⟨B, G, ch, h, hU⟩ := h
 have := h.chl
 refine (abWrite h.bt h.pl hn0 hn pg hp (by omega)).mono ?_
 rintro _ s ⟨rfl, B', hf, hB⟩
 have hP := h.pl.frame hf fun t h1 h2 => h.dj t h2 h1
 have hd : ∀ t, B' t → G t → False := fun t h1 h2 => (hf.own t h1).elim (fun e => h.dj t e h2) fun e => by have := h.pl.lt t h2; omega
 refine ⟨rfl, fun t => B' t ∨ G t, fr_iff (fr_or' (G := G) hf) hU fun t => Iff.rfl, ⟨B', G, _, ⟨hB, hP, hd, fun q hq => ?_, fun m => ?_⟩, fun t => Iff.rfl⟩⟩
 ·rcases mem_set q hq with rfl | hq
  ·exact ⟨hn, hz⟩
  ·exact h.ok q hq
 ·rw [bview_set]; unfold upV; rw [h.vw]
theorem abAlloc {kind : Int} {T : Nat → Bool} (h : Bt σ b p dd l kh U P v) (hT : Tk (v 0) P.pages T) (hnp : P.pages ≤ 3200) (hnp1 : 1 ≤ P.pages) (hT0 : T 0 = true) (hb : Bud P 1) :
 ACalls Try.prog 27 [.mp b 2 0 0, intV .i64 kind] σ fun r σ' => ∃ U' P' v', Fr σ σ' U U' ∧ Bt σ' b p dd l kh U' P' v' ∧ Kp P P' 1 ∧
  ((∃ n, 1 ≤ n ∧ n < P.pages ∧ T n = false ∧ r = .tup [intV .i64 (n : Nat), intV .i64 0] ∧ v' n = newL kind ∧ (∀ m, m ≠ n → m ≠ 0 → v' m = v m) ∧ Tk (v' 0) P.pages (updT T n true)) ∨ ((∀ n, n < P.pages → T n = true) ∧ r = .tup [intV .i64 0, intV .i64 20] ∧ v' = v)) := by
 obtain ⟨B, G, ch, h, hU⟩ := h
 have := h.chl
 refine (aalloc (kind := kind) h.bt h.pl h.dj (by rw [h.vw]; exact hT) hnp hnp1 hT0 (by omega) hb.c hb.w).mono ?_
 rintro r s ⟨B', G', P', ch', hf, hB, hP, hd, hk, _, hc⟩
 refine ⟨fun t => B' t ∨ G' t, P', bview P'.view ch', fr_iff hf hU fun t => Iff.rfl, ?_⟩
 rcases hc with ⟨n, pg, n1, n2, hTn, rfl, rfl, hz, hT'⟩ | ⟨hall, rfl, rfl⟩
 ·refine ⟨⟨B', G', _, ⟨hB, hP, hd, fun q hq => ?_, fun m => rfl⟩, fun t => Iff.rfl⟩, hk.mono (kbt_le ch 0), .inl ⟨n, n1, n2, hTn, rfl, ?_, fun m hm hm0 => ?_, ?_⟩⟩
  ·rw [hk.pages]
   rcases mem_set q hq with rfl | hq
   ·exact ⟨n2, newL_nz _⟩
   ·rcases mem_set q hq with rfl | hq
    ·exact ⟨by show 0 < _; omega, hz⟩
    ·exact h.ok q hq
  ·rw [bview_set, if_pos rfl]
  ·rw [bview_set, if_neg hm, bview_set, if_neg hm0, bview_congr hk.view]; exact h.vw m
  ·rw [bview_set, if_neg (by omega), bview_set, if_pos rfl]; exact hT'
 ·exact ⟨⟨B', G', _, ⟨hB, hP, hd, fun q hq => by rw [hk.pages]; exact h.ok q hq, fun m => rfl⟩, fun t => Iff.rfl⟩, hk.mono (kbt_le _ 0), .inr ⟨hall, rfl, funext fun m => by rw [bview_congr hk.view]; exact h.vw m⟩⟩
theorem abBatch {G : Nat → Prop} (hP : PoolAt σ p dd l kh G P) : ACalls Try.prog 9 [.mp p 6 0 0] σ fun r σ' => r = .mp σ.length 2 0 0 ∧ Ap σ σ' ∧ Bt σ' σ.length p dd l kh (fun t => t = σ.length ∨ G t) P P.view := by
 refine abatch.mono ?_
 rintro _ s ⟨rfl, ha, hB⟩
 exact ⟨rfl, ha, _, G, [], ⟨hB, hP.ap ha, fun t h1 h2 => by have := hP.lt t h2; omega, by simp, fun m => rfl⟩, fun t => Iff.rfl⟩
end
end Go.Proofs.Ytlddiphjpmlhbaa
namespace Go.Proofs.Ytlddiphjpmlhbaa
open Go.RowKit
theorem ACalls.of_callsRow {P : Program} {f : FuncId} {args : List AV} {σ : St} {R : AV → St → Prop} (hen : Enters P f)
 (h : ∀ (M : View) (vs : List Value), Match M σ → ARepL M args vs → Calls P f vs.toArray M.w fun e w' => ∃ (v : Value) (r : AV) (g : Nat) (cur : Array Value) (T : TypeId) (en : Nat) (ls : List (List AV)), e = .returned v ∧ Below M.w.heap.size M.w w' ∧ M.w.heap.size ≤ g ∧ w'.heap[g]? = some (.cells cur T (0, 0)) ∧ (∀ N : View, RowRep N cur en ls) ∧ (∀ N : View, N.w = w' → N.mu σ.length = some g → N.len σ.length = none → N.cap σ.length = cur.size → ARep N r v) ∧ R r (σ ++ [some (.row en ls)])) :
 ACalls P f args σ R := by
 refine ⟨hen, fun M vs hM hv => (h M vs hM hv).mono ?_⟩
 rintro e w' ⟨v, r, g, cur, T, en, ls, rfl, hb, hg, hh, hrow, hrep, hR⟩
 obtain ⟨t, ht⟩ : ∃ t, t = σ.length := ⟨_, rfl⟩
 rw [← ht] at hrep
 obtain ⟨hm, hl⟩ := hM.fresh t (by omega)
 let M' : View := { w := w', I := M.I, mu := fun s => if s = t then some g else M.mu s, len := M.len, cap := fun s => if s = t then cur.size else M.cap s }
 have hcell : ∀ b o, M.I b o → M'.w.cell? ⟨b, o, none⟩ = M.w.cell? ⟨b, o, none⟩ := fun b o ho => hb.cell (p := ⟨b, o, none⟩) (hM.imm b o ho)
 have hmt : M'.mu t = some g := by simp [M']
 have hms : ∀ s, s ≠ t → M'.mu s = M.mu s := fun s hs => by simp [M', hs]
 have hct : M'.cap t = cur.size := by simp [M']
 have hcs : ∀ s, s ≠ t → M'.cap s = M.cap s := fun s hs => by simp [M', hs]
 have hL : Later M M' := ⟨fun s c hs h0 => ⟨by rw [hms s (fun e => by subst e; rw [hm] at hs; simp at hs)]; exact hs, h0, hcs s (fun e => by subst e; rw [hm] at hs; simp at hs)⟩, fun s n hs => ⟨n, hs, Nat.le_refl _, fun _ => ⟨hms s (fun e => by subst e; rw [hl] at hs; simp at hs), hcs s (fun e => by subst e; rw [hl] at hs; simp at hs)⟩⟩, fun _ _ h => h, hcell⟩
 have hsz : M.w.heap.size ≤ M'.w.heap.size := hb.size
 have hgw : g < w'.heap.size := (Array.getElem?_eq_some_iff.1 hh).1
 have hne : ∀ s c, M.mu s = some c → c ≠ g := fun s c hs => by have := hM.lt s c hs; omega
 have hput : σ ++ [some (Ob.row en ls)] = σ.put t (.row en ls) := (put_new ht).symm
 have hat : ∀ s ob, (σ ++ [some (Ob.row en ls)]).at s ob → (s = t ∧ ob = .row en ls) ∨ (s ≠ t ∧ σ.at s ob) := fun s ob hs => by rw [hput] at hs; exact St.at_put (by omega) hs
 have hE : Ext M σ M' (σ ++ [some (.row en ls)]) := by
  refine ⟨hL.mu, hL.own, hL.imm, hcell, fun b hbb _ => ⟨hb.block b hbb, fun _ h => h⟩, fun s ob b hs hbb => ?_, hsz, hb.os, hb.tape, hb.output⟩
  rcases hat s ob hs with ⟨rfl, rfl⟩ | ⟨h1, h2⟩
  ·rw [hmt] at hbb; simp at hbb; left; omega
  ·rw [hms s h1] at hbb; exact .inr ⟨s, ob, h2, hbb⟩
 refine ⟨v, r, σ ++ [some (.row en ls)], M', rfl, rfl, hE, ?_, hrep M' rfl hmt hl hct, by simp, hR⟩
 refine ⟨fun s ob hs => ?_, fun s s' ob ob' b hs hs' hbb hb' => ?_, fun s hs => ?_, fun s c hs => ?_, fun b o ho => Nat.lt_of_lt_of_le (hM.imm b o ho) hsz, hM.glob.ext hE⟩
 ·rcases hat s ob hs with ⟨rfl, rfl⟩ | ⟨h1, h2⟩
  ·refine ⟨hl, g, cur, T, hmt, hh, fun o ho => ?_, hrow M', hct.symm⟩
   have := hM.imm _ o ho; omega
  ·exact (hM.obj s ob h2).later hL (hms s h1) rfl (hcs s h1) fun b hbb => ⟨hb.block b (hM.lt s b hbb), fun _ h => h⟩
 ·rcases hat s ob hs with ⟨rfl, rfl⟩ | ⟨h1, h2⟩ <;> rcases hat s' ob' hs' with ⟨rfl, rfl⟩ | ⟨h3, h4⟩
  ·rfl
  ·rw [hmt] at hbb; rw [hms s' h3] at hb'; simp at hbb; exact (hne s' b hb' hbb.symm).elim
  ·rw [hmt] at hb'; rw [hms s h1] at hbb; simp at hb'; exact (hne s b hbb hb'.symm).elim
  ·rw [hms s h1] at hbb; rw [hms s' h3] at hb'; exact hM.inj s s' ob ob' b h2 h4 hbb hb'
 ·simp only [List.length_append, List.length_cons, List.length_nil] at hs
  rw [hms s (by omega)]; exact hM.fresh s (by omega)
 ·by_cases he : s = t
  ·subst he; rw [hmt] at hs; simp at hs; subst hs; exact hgw
  ·rw [hms s he] at hs; have := hM.lt s c hs; exact Nat.lt_of_lt_of_le this hsz
def bRow (r : List UInt8) : List (List AV) := r.map fun b => [.p (byteP b)]
theorem agetW (l r : List UInt8) (k : Int) (hl : l.length = 512) (hr : getL l k = some r) (σ : St) : ACalls Try.prog 39 [pageA l, intV .i64 k] σ fun a σ' => σ' = σ ++ [some (.row 1 (bRow r))] ∧ a = .tup [.ms σ.length 1 0 r.length, boolV true] :=
 ACalls.of_callsRow (en _ (by kernel_rfl)) fun M vs hM hv => by
  obtain ⟨u, v, rfl, h1, h2⟩ := rep2 hv
  rw [page_rep h1, rep_int h2]
  refine (get_any l k _ hl).mono ?_
  rintro e w' ⟨v, rfl, hrc, hb⟩
  rw [hr] at hrc
  obtain ⟨ho, g, cap, rfl⟩ := hrc
  rcases ho.2 with ⟨h1, _⟩ | ⟨g', cap', cur, h1, hg, hh, hnc, hcm, hcs, ht⟩
  ·simp at h1
  ·simp only [Value.slice.injEq, Option.some.injEq, Addr.mk.injEq, and_true, true_and] at h1
   obtain ⟨rfl, rfl⟩ := h1
   refine ⟨_, .tup [.ms σ.length 1 0 r.length, boolV true], g, cur, _, 1, bRow r, rfl, hb, hg, hh, fun N i c hc => ?_, fun N h3 h4 h5 h6 => ?_, rfl, rfl⟩
   ·simp only [bRow, List.getElem?_map] at hc
    cases hri : r[i]? with
    | none => rw [hri] at hc; simp at hc
    | some b =>
      rw [hri] at hc; simp at hc; subst hc
      refine ⟨rfl, fun j a ha => ?_⟩
      cases j with
      | succ j => simp at ha
      | zero =>
        simp at ha; subst ha
        refine ⟨rfl, .int .u8 b.toNat, ?_, by simp only [ARep, byteP, PRep]; exact ⟨rfl, trivial⟩⟩
        have hi := (List.getElem?_eq_some_iff.1 hri).1
        have h7 : (cur.toList.take (r.length * 1))[i]? = some (.int .u8 b.toNat) := by
         rw [ht]; simp [bytesL, byteV, hri]
        rw [List.getElem?_take, if_pos (by omega)] at h7
        rw [Nat.mul_one, Nat.add_zero, ← Array.getElem?_toList]; exact h7
   ·rw [hr]
    refine tup2 ?_ (rep_mk rfl)
    simp only [ARep]
    exact ⟨g, cap, h4, h5, by simp, hnc, by rw [h6, hcs]; simp⟩
theorem asetP (l r : List UInt8) (k : Int) (x : PV) (hl : l.length = 512) (hx : BX x r) (hrl : r.length ≤ 140737488351232) (σ : St) : ACalls Try.prog 33 [pageA l, intV .i64 k, .p x] σ fun r' σ' => σ' = σ ∧ r' = .tup [pageA (setL l k r).1, boolV (setL l k r).2] :=
 ACalls.of_calls (en _ (by kernel_rfl)) fun M vs hM hv => by
  obtain ⟨u, v, z, rfl, h1, h2, h3⟩ := rep3 hv
  rw [page_rep h1, rep_int h2]
  exact (set_any l k r z _ hl (hx.bytes h3) hrl).mono fun e w' ⟨h1, h2⟩ => ⟨_, _, fun _ _ => False, h1, h2, fun _ _ h => h.elim, tup2 (page_mk _) (rep_mk rfl), rfl⟩
theorem akind (l : List UInt8) (hl : l.length = 512) (σ : St) : ACalls Try.prog 62 [pageA l] σ fun r σ' => σ' = σ ∧ r = intV .i64 (kindL l) :=
 ACalls.of_calls (en _ (by kernel_rfl)) fun M vs hM hv => by
  obtain ⟨u, rfl, h1⟩ := rep1 hv
  rw [page_rep h1]
  exact (kind_any l _ hl).mono fun e w' ⟨h1, h2⟩ => ⟨_, _, fun _ _ => False, h1, h2, fun _ _ h => h.elim, rep_mk rfl, rfl⟩
end Go.Proofs.Ytlddiphjpmlhbaa
namespace Go.Proofs.Ytlddiphjpmlhbaa
open Go.RowKit
def num2 (k : Nat) : List UInt8 := [UInt8.ofNat k, UInt8.ofNat (k / 256)]
theorem num2_len (k : Nat) : (num2 k).length = 2 := rfl
theorem num2_dec {k : Nat} (h : k < 65536) : (UInt8.ofNat k).toNat + 256 * (UInt8.ofNat (k / 256)).toNat = k := by
 rw [UInt8.toNat_ofNat', UInt8.toNat_ofNat']; omega
theorem putL_getD (ss : List (Option (List UInt8))) (k : Nat) (hk : k ≤ ss.length) (r : List UInt8) (j : Nat) : (putL ss k r).getD j none = if j = k then some r else ss.getD j none := by
 unfold putL
 by_cases h : k = ss.length
 ·rw [if_pos h]
  subst h
  by_cases e : j = ss.length
  ·subst e; simp
  ·rw [if_neg e]
   by_cases hlt : j < ss.length
   ·have : ¬ ss.length = j := fun e' => e e'.symm
    simp [List.getD_eq_getElem?_getD, List.getElem?_set, this, List.getElem?_append_left hlt]
   ·have : ¬ ss.length = j := fun e' => e e'.symm
    simp only [List.getD_eq_getElem?_getD, List.getElem?_set, if_neg this]
    rw [List.getElem?_eq_none (by simp; omega), List.getElem?_eq_none (by omega)]
 ·rw [if_neg h]
  by_cases e : j = k
  ·subst e
   have : j < ss.length := by omega
   simp [List.getD_eq_getElem?_getD, List.getElem?_set, this]
  ·have : ¬ k = j := fun e' => e e'.symm
   simp [List.getD_eq_getElem?_getD, List.getElem?_set, this, e]
theorem freeL_cons (x : List UInt8) (ss : List (Option (List UInt8))) : freeL (some x :: ss) = freeL ss + 1 := by
 unfold freeL
 rw [List.findIdx_cons]
 rfl
theorem putL_cons (x : Option (List UInt8)) (ss : List (Option (List UInt8))) (k : Nat) (r : List UInt8) : putL (x :: ss) (k + 1) r = x :: putL ss k r := by
 unfold putL
 by_cases h : k = ss.length
 ·subst h; simp
 ·have : ¬ k + 1 = (x :: ss).length := fun e => h (by simpa using e)
  rw [if_neg this, if_neg h]; rfl
theorem freeL_get (ss : List (Option (List UInt8))) : ss.getD (freeL ss) none = none := by
 unfold freeL
 by_cases h : ss.findIdx (·.isNone) < ss.length
 ·have h1 := List.findIdx_getElem (p := fun x : Option (List UInt8) => x.isNone) (w := h)
  rw [List.getD_eq_getElem?_getD, List.getElem?_eq_getElem h]
  simpa using h1
 ·rw [List.getD_eq_getElem?_getD, List.getElem?_eq_none (by omega)]; rfl
theorem lens_set_none : ∀ (ss : List (Option (List UInt8))) (k : Nat), lens (ss.set k none) ≤ lens ss
 | [], k => by simp
 | x :: ss, 0 => by simp [lens, recLen]
 | x :: ss, k + 1 => by
   have := lens_set_none ss k
   simp only [lens, List.set_cons_succ, List.map_cons, List.sum_cons] at this ⊢
   omega
theorem lens_set_rec : ∀ (ss : List (Option (List UInt8))) (k : Nat) (o r : List UInt8), ss.getD k none = some o → r.length ≤ o.length → lens (ss.set k (some r)) ≤ lens ss
 | [], k, o, r, h, _ => by simp at h
 | x :: ss, 0, o, r, h, hl => by
   simp at h; subst h
   simp [lens, recLen]; omega
 | x :: ss, k + 1, o, r, h, hl => by
   have := lens_set_rec ss k o r (by simpa using h) hl
   simp only [lens, List.set_cons_succ, List.map_cons, List.sum_cons] at this ⊢
   omega
theorem trimL_getD' : ∀ (ss : List (Option (List UInt8))) (i : Nat), (trimL ss).getD i none = ss.getD i none
 | [], i => rfl
 | none :: r, i => by
   rw [show trimL (none :: r) = if trimL r = [] then [] else none :: trimL r from rfl]
   split
   ·rename_i h
    cases i with
    | zero => rfl
    | succ i =>
      have := trimL_getD' r i
      rw [h] at this
      simpa using this
   ·cases i with
    | zero => rfl
    | succ i => simpa using trimL_getD' r i
 | some x :: r, i => by
   cases i with
   | zero => rfl
   | succ i => simpa [trimL] using trimL_getD' r i
structure HPg (l : List UInt8) (nx : Nat) (ss : List (Option (List UInt8))) : Prop where
 pg : Pg l 1 (some (num2 nx) :: ss)
 le : ∀ r, some r ∈ ss → r.length ≤ 400
 nx : nx < 65536
theorem HPg.at {l : List UInt8} {nx : Nat} {ss : List (Option (List UInt8))} (h : HPg l nx ss) (k : Nat) : getL l ((k + 1 : Nat) : Int) = ss.getD k none := by
 rw [h.pg.get, if_neg (by omega)]
 simp
theorem HPg.zero {l : List UInt8} {nx : Nat} {ss : List (Option (List UInt8))} (h : HPg l nx ss) : getL l 0 = some (num2 nx) := by
 rw [h.pg.get, if_neg (by omega)]; rfl
theorem mem_of_getD {ss : List (Option (List UInt8))} {k : Nat} {r : List UInt8} (h : ss.getD k none = some r) : some r ∈ ss := by
 rw [List.getD_eq_getElem?_getD] at h
 cases hk : ss[k]? with
 | none => rw [hk] at h; simp at h
 | some x => rw [hk] at h; simp at h; subst h; exact List.mem_of_getElem? hk
theorem mem_getD {ss : List (Option (List UInt8))} {r : List UInt8} (h : some r ∈ ss) : ∃ k, ss.getD k none = some r := by
 obtain ⟨k, hk⟩ := List.getElem?_of_mem h
 exact ⟨k, by rw [List.getD_eq_getElem?_getD, hk]; rfl⟩
theorem HPg.add {l : List UInt8} {nx : Nat} {ss : List (Option (List UInt8))} (h : HPg l nx ss) (r : List UInt8) (hr : r.length ≤ 400) :
 (addL l r = (zeroPage, 0, false)) ∨ ((addL l r).2 = (((freeL ss + 1 : Nat) : Int), true) ∧ HPg (addL l r).1 nx (putL ss (freeL ss) r)) := by
 by_cases hc : costL (putL (some (num2 nx) :: ss) (freeL (some (num2 nx) :: ss)) r) ≤ 496
 ·obtain ⟨h1, h2, h3⟩ := h.pg.add r hr hc
  rw [freeL_cons] at h1
  rw [freeL_cons, putL_cons] at h3
  refine .inr ⟨Prod.ext h1 h2, ⟨h3, fun x hx => ?_, h.nx⟩⟩
  obtain ⟨k, hk⟩ := mem_getD hx
  rw [putL_getD _ _ (freeL_le ss)] at hk
  split at hk
  ·simp only [Option.some.injEq] at hk; subst hk; exact hr
  ·exact h.le x (mem_of_getD hk)
 ·exact .inl (h.pg.add_not r (.inr (by omega)))
theorem HPg.room {l : List UInt8} {nx : Nat} (h : HPg l nx []) (r : List UInt8) (hr : r.length ≤ 400) : addL l r ≠ (zeroPage, 0, false) := fun e => by
 have hc : costL (putL (some (num2 nx) :: []) (freeL (some (num2 nx) :: [])) r) ≤ 496 := by
  rw [freeL_cons, putL_cons]
  simp [freeL, putL, costL, lens, recLen, num2]; omega
 have := (h.pg.add r hr hc).2.1
 rw [e] at this; cases this
theorem HPg.set {l : List UInt8} {nx : Nat} {ss : List (Option (List UInt8))} (h : HPg l nx ss) {k : Nat} {o : List UInt8} (hk : ss.getD k none = some o) (r : List UInt8) (hr : r.length ≤ o.length) :
 (setL l ((k + 1 : Nat) : Int) r).2 = true ∧ HPg (setL l ((k + 1 : Nat) : Int) r).1 nx (ss.set k (some r)) := by
 have ho := h.le o (mem_of_getD hk)
 have hkl : k < ss.length := by
  rcases Nat.lt_or_ge k ss.length with h | h
  ·exact h
  ·rw [List.getD_eq_getElem?_getD, List.getElem?_eq_none h] at hk; simp at hk
 have hp : putL (some (num2 nx) :: ss) (k + 1) r = some (num2 nx) :: ss.set k (some r) := by
  rw [putL_cons]; unfold putL; rw [if_neg (by omega)]
 have hc : costL (putL (some (num2 nx) :: ss) (k + 1) r) ≤ 496 := by
  rw [hp]
  have h1 := lens_set_rec ss k o r hk hr
  have h2 := h.pg.cost
  simp only [costL, List.length_cons, List.length_set, lens, List.map_cons, List.sum_cons] at h1 h2 ⊢
  omega
 have hpp := h.pg.put (k + 1) (by simp; omega) r (by omega) hc
 rw [hp] at hpp
 have he : setL l ((k + 1 : Nat) : Int) r = putPage (kindL l) (slotsL l) (k + 1) r := by
  unfold setL
  rw [if_neg (by rw [h.at k, hk]; simp), Int.toNat_natCast]
 rw [he]
 refine ⟨hpp.1, hpp.2, fun x hx => ?_, h.nx⟩
 obtain ⟨j, hj⟩ := mem_getD hx
 by_cases e : k = j
 ·subst e
  rw [List.getD_eq_getElem?_getD, List.getElem?_set, if_pos rfl, if_pos hkl] at hj
  simp at hj; subst hj; omega
 ·rw [List.getD_eq_getElem?_getD, List.getElem?_set, if_neg e, ← List.getD_eq_getElem?_getD] at hj
  exact h.le x (mem_of_getD hj)
theorem HPg.link {l : List UInt8} {nx : Nat} {ss : List (Option (List UInt8))} (h : HPg l nx ss) {m : Nat} (hm : m < 65536) : HPg (setL l 0 (num2 m)).1 m ss := by
 have hp : putL (some (num2 nx) :: ss) 0 (num2 m) = some (num2 m) :: ss := by
  unfold putL; rw [if_neg (by simp)]; rfl
 have hc : costL (putL (some (num2 nx) :: ss) 0 (num2 m)) ≤ 496 := by
  rw [hp]
  have h2 := h.pg.cost
  simp only [costL, List.length_cons, lens, List.map_cons, List.sum_cons, recLen, num2_len] at h2 ⊢
  omega
 have hpp := h.pg.put 0 (by simp) (num2 m) (by simp [num2]) hc
 rw [hp] at hpp
 have he : setL l 0 (num2 m) = putPage (kindL l) (slotsL l) 0 (num2 m) := by
  unfold setL
  rw [if_neg (by rw [h.zero]; simp)]; rfl
 rw [he]
 exact ⟨hpp.2, h.le, hm⟩
theorem HPg.made {m : Nat} : HPg (addL (newL 1) (num2 0)).1 0 [] := by
 have hc : costL (putL [] (freeL []) (num2 0)) ≤ 496 := by simp [freeL, putL, costL, lens, recLen, num2]
 obtain ⟨_, _, h3⟩ := (Pg.new 1).add (num2 0) (by simp [num2]) hc
 exact ⟨h3, by simp, by omega⟩
theorem HPg.drop {l : List UInt8} {nx : Nat} {ss : List (Option (List UInt8))} (h : HPg l nx ss) {k : Nat} {o : List UInt8} (hk : ss.getD k none = some o) :
 (dropL l ((k + 1 : Nat) : Int)).2 = true ∧ HPg (dropL l ((k + 1 : Nat) : Int)).1 nx (trimL (ss.set k none)) := by
 have hc : costL ((some (num2 nx) :: ss).set (k + 1) none) ≤ 496 := by
  have h1 := lens_set_none ss k
  have h2 := h.pg.cost
  simp only [costL, List.length_cons, List.length_set, lens, List.map_cons, List.sum_cons, List.set_cons_succ] at h1 h2 ⊢
  omega
 have he : dropL l ((k + 1 : Nat) : Int) = (madeL 1 ((some (num2 nx) :: ss).set (k + 1) none), true) := by
  unfold dropL
  rw [h.pg.slots, h.pg.kind, Int.toNat_natCast, if_neg]
  rw [h.at k, hk]; simp; simpa using hc
 rw [he]
 have hp := Pg.made 1 (by omega) (by omega) ((some (num2 nx) :: ss).set (k + 1) none) hc
 have ht : trimL ((some (num2 nx) :: ss).set (k + 1) none) = some (num2 nx) :: trimL (ss.set k none) := rfl
 rw [ht] at hp
 refine ⟨rfl, hp, fun x hx => ?_, h.nx⟩
 obtain ⟨j, hj⟩ := mem_getD hx
 rw [trimL_getD'] at hj
 by_cases e : k = j
 ·subst e
  rw [List.getD_eq_getElem?_getD, List.getElem?_set, if_pos rfl] at hj
  split at hj <;> simp at hj
 ·rw [List.getD_eq_getElem?_getD, List.getElem?_set, if_neg e, ← List.getD_eq_getElem?_getD] at hj
  exact h.le x (mem_of_getD hj)
theorem HPg.len {l : List UInt8} {nx : Nat} {ss : List (Option (List UInt8))} (h : HPg l nx ss) : l.length = 512 ∧ pgz l = l := ⟨h.pg.len, slots_nz (by rw [h.pg.slots]; simp)⟩
end Go.Proofs.Ytlddiphjpmlhbaa
