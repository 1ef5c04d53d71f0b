/- Pools: Pages, touch, fetch. Pools: fetch. Pools: clean. -/
import Derived.Test.YtockimhceppkbaaGreatM26
set_option linter.unusedSimpArgs false
set_option linter.unusedVariables false
set_option linter.defProp false
set_option maxRecDepth 100000
set_option maxHeartbeats 32000000
namespace Go.Proofs.YtockimhceppkbaaGreat
open Go.RowKit
def pl90_2Pla : Plan := (.det 0 (.det 1 (.det 2 (.det 4 (.det 5 (.det 6 (.det 7 (.act 3 (.fin 8 .done)))))))))
def tPla := aa wX <| aa wbu <| aa T3 <| aa T24 <| aa T28 <| aa T73 <| aa T134 T167
theorem Fr.sub {σ s : St} {K K' G G' : Nat → Prop} (h : Fr σ s K K') (hG : ∀ t, K t → G t) (hG' : ∀ t, G' t → G t ∨ σ.length ≤ t) : Fr σ s G G' := ⟨h.len, fun t ht hn => h.keep t ht fun hk => hn (hG t hk), hG'⟩
theorem DiskAt.big {σ : St} {d : Nat} {F : Nat → Prop} {D : DiskV} (h : DiskAt σ d F D) : D.size ≤ 65536 := by
 obtain ⟨kn, kk, w, a, es, h, hF⟩ := h
 exact h.big
theorem apagesIs {σ : St} {p dd l kh : Nat} {G : Nat → Prop} {P : PoolV} (h : PoolIs σ p dd l kh G P) : ACalls Tryz.prog 29 [.mp p 6 0 0] σ fun r σ' => σ' = σ ∧ r = intV .i64 (P.pages : Nat) := by
 obtain ⟨_, Fd, Gl, w, a, h, hG⟩ := h
 have h0 := h.o
 have l0 := at_lt h0
 have hb := h.data.big
 have e1 : IntKind.i64.wrap ((P.data.size : Int).tdiv 8) = ((P.data.size / 8 : Nat) : Int) := by
  rw [Int.tdiv_eq_ediv_of_nonneg (by omega), wrap_i64 (by omega) (by omega)]; omega
 refine acalls_of cx_ok dr_ok Tryz.func29 (by kernel_rfl) rfl (nt := 11) (rs := [.tmp 2]) rfl rfl ?_
 repeat' first | ((with_reducible first | refine cs ?_ ?_ | refine ws ?_ ?_) <;> intro h <;> try simp only [h]) | simp only [↓wBA, tPla, convA, seval, wH, h0, l0, e1] | ((with_reducible show ACalls _ _ _ _ _); refine (adsize h.data).eq ?_)
 all_goals refine ret_st ?_ (by first | exact Nat.le_refl _ | (simp only [List.length_set, List.length_append]; omega) | omega)
 all_goals simp only [resA.eq_1, resL.eq_1, resL.eq_2, resV.eq_1, resV.eq_2, ↓wBA, tPla, convA, seval, wH, PoolV.pages]
 congr 3
 split <;> omega
def updV (V : Nat → FrameV) (f : Nat) (v : FrameV) (g : Nat) : FrameV := if g = f then v else V g
theorem HpIn.upd {σ s : St} {o i f : Nat} {fs : List Nat} {V : Nat → FrameV} (h : HpIn σ o fs V) (hi : fs[i]? = some f) (v : FrameV) (hv : v.pg.length = 512) (hs : s[f]? = some (frOb v i)) (ho : ∀ t, oF o fs t → t ≠ f → s[t]? = σ[t]?) : HpIn s o fs (updV V f v) := by
 obtain ⟨ls, h1, h2, h3⟩ := h.o
 have hf := h.f i f hi
 refine ⟨⟨ls, by rw [ho o (.inl rfl) (ne_of_ob h1 hf (by simp [frOb]))]; exact h1, h2, h3⟩, fun j g hj => ?_, h.nd, fun g hg => ?_, h.big⟩
 ·by_cases e : g = f
  ·subst e
   have : i = j := (List.getElem?_inj (List.getElem?_eq_some_iff.1 hi).1 h.nd).1 (hi.trans hj.symm)
   subst this
   simp only [updV, if_true]; exact hs
  ·simp only [updV, if_neg e]
   rw [ho g (.inr (List.mem_of_getElem? hj)) e]
   exact h.f j g hj
 ·unfold updV
  split
  ·exact hv
  ·exact h.pg g hg
theorem PoolH.re {σ s : St} {p dd l kh : Nat} {Fd Gl : Nat → Prop} {w w' : Option Nat} {a a' : AV} {P P' : PoolV} (h : PoolH σ p dd l kh Fd Gl w a P)
 (ho : s[p]? = some (some (.row 6 [[.mp dd 6 0 0, .mp l 5 0 0, intV .i64 (P'.most : Nat), a', .mmap kh, intV .i64 P'.tick]]))) (hd : P'.data = P.data) (hl : P'.log = P.log) (hm : s[kh]? = some (some (.map (encM (fun f => .mp f 516 0 0) P'.hm)))) (hs : ∀ t, Fd t ∨ Gl t → s[t]? = σ[t]?)
 (hord : Ord s P'.V a' w' P'.fs) (hw : ∀ t, oG w' P'.fs t → ¬ Fd t ∧ ¬ Gl t) : PoolH s p dd l kh Fd Gl w' a' P' := by
 refine ⟨ho, by rw [hd]; exact h.data.same fun t ht => hs t (.inl ht), by rw [hl]; exact h.log.same fun t ht => hs t (.inr ht), hord, hm, h.dl, fun t ht hF => ?_, fun t ht hF => ?_, h.pd, h.pl, h.kd, h.kl⟩
 ·exact (hw t ht).1 hF
 ·exact (hw t ht).2 hF
theorem PoolH.no {σ : St} {p dd l kh : Nat} {Fd Gl : Nat → Prop} {w : Option Nat} {a : AV} {P : PoolV} (h : PoolH σ p dd l kh Fd Gl w a P) {t : Nat} (ht : oG w P.fs t ∨ σ.length ≤ t) : ¬ Fd t ∧ ¬ Gl t :=
 ⟨fun hF => ht.elim (fun e => h.od t e hF) fun e => Nat.lt_irrefl _ (Nat.lt_of_lt_of_le (h.data.lt t hF) e), fun hF => ht.elim (fun e => h.ol t e hF) fun e => Nat.lt_irrefl _ (Nat.lt_of_lt_of_le (h.log.lt t hF) e)⟩
theorem PoolOk.re {P P' : PoolV} (h : PoolOk P) (hm : P'.hm = P.hm) (hd : P'.data = P.data) (ho : P'.most = P.most) (hl : P'.log = P.log) (hf : ∀ g, g ∈ P'.fs ↔ g ∈ P.fs) (hn : P'.fs.length ≤ P.most) (hV : ∀ g, (P'.V g).n = (P.V g).n ∧ (P'.V g).pg = (P.V g).pg ∧ (P'.V g).dirty = (P.V g).dirty) : PoolOk P' := by
 have hp : P'.pages = P.pages := by unfold PoolV.pages; rw [hd]
 refine ⟨fun n f => ?_, by rw [hm]; exact h.kn, by rw [ho]; exact h.m1, by rw [ho]; exact h.mb, by rw [ho]; exact hn, fun f hg => ?_, fun f hg => ?_, fun f hg => ?_, by rw [hd]; exact h.secs, by rw [hd]; exact h.size⟩
 ·rw [hm, h.keys, hf, (hV f).1]
 ·rw [(hV f).1, hp]; exact h.fn f ((hf f).1 hg)
 ·rw [(hV f).2.1]; exact h.nz f ((hf f).1 hg)
 ·rw [(hV f).2.1, (hV f).1, (hV f).2.2, hd]; exact h.cl f ((hf f).1 hg)
theorem atouch {σ : St} {p dd l kh f : Nat} {G : Nat → Prop} {P : PoolV} (h : PoolIs σ p dd l kh G P) (hf : f ∈ P.fs) :
 ACalls Tryz.prog 90 [.mp p 6 0 0, .mp f 516 0 0] σ fun r σ' => r = .tup [] ∧ ∃ G' P', Fr σ σ' G G' ∧ PoolIs σ' p dd l kh G' P' ∧ Kp P P' 0 ∧ P'.hm = P.hm := by
 obtain ⟨hk, Fd, Gl, w, a, h, hG⟩ := h
 have h0 := h.o
 have l0 := at_lt h0
 have hord := h.ord
 have hnp := h.np
 obtain ⟨i, hi⟩ := List.getElem?_of_mem hf
 generalize hV : P.V = V at *
 generalize hfs : P.fs = fs at *
 cases hord with
 | nil => simp at hi
 | hp hh =>
   rename_i o
   have f1 := hh.f i f hi
   have q1 := at_lt f1
   have p1 := hh.pg f (List.mem_of_getElem? hi)
   have n1 : (p = f) = False := nf (ne_of_ob h0 f1 (by simp [frOb]))
   have n2 : (f = p) = False := nf (ne_of_ob f1 h0 (by simp [frOb]))
   simp only [frOb] at f1
   refine acalls_of cx_ok dr_ok Tryz.func90 (by kernel_rfl) rfl (nt := 25) (rs := []) rfl rfl ?_
   repeat' first | ((with_reducible first | refine cs ?_ ?_ | refine ws ?_ ?_ | refine wd ?_ ?_ | refine wu ?_ ?_) <;> intro h <;> try simp only [h]) | simp only [↓wBA, tPla, convA, seval, pl90_2Pla, wH, wFr, h0, l0, f1, q1, n1, n2, p1] | (with_reducible refine dP pl90_2Pla 9 (some 18) (by decide) (by kernel_rfl) ?_)
   generalize IntKind.i64.wrap (P.tick + 1) = tk
   refine ACalls.gen (fun s => s[p]? = some (some (.row 6 [[.mp dd 6 0 0, .mp l 5 0 0, intV .i64 (P.most : Nat), .ms o 1 0 fs.length, .mmap kh, intV .i64 tk]])) ∧ s[f]? = some (frOb { V f with used := tk } i) ∧ (∀ t, t ≠ p → t ≠ f → s[t]? = σ[t]?) ∧ Fr σ s (fun t => t = p ∨ oF o fs t) (fun t => t = p ∨ oF o fs t)) ⟨?_, ?_, ?_, ?_⟩ fun s ⟨s0, s1, s2, s3⟩ => ?_
   ·simp only [wH, l0, q1, n1, n2, intV]
   ·simp only [wH, l0, q1, n1, n2, frOb]
   ·intro t t1 t2
    simp only [wH, nf (Ne.symm t1), nf (Ne.symm t2)]
   ·exact ((Fr.refl σ _).set _ (.inl rfl)).set _ (.inr (.inr hf))
   have hgo : ∀ t, oG (some o) fs t ↔ oF o fs t := fun t => by unfold oG oF; simp [eq_comm]
   have hp2 := hh.upd (s := s) hi { V f with used := tk } p1 s1 fun t ht hn => s2 t (fun e => hnp (e ▸ (hgo t).2 ht)) hn
   have il := (List.getElem?_eq_some_iff.1 hi).1
   refine (afix hp2 s0 il).mono ?_
   rintro _ s4 ⟨rfl, fs', hP, h4, hf4⟩
   have hlen := Nat.le_trans s3.len hf4.len
   repeat' first | ((with_reducible first | refine cs ?_ ?_ | refine ws ?_ ?_ | refine wd ?_ ?_ | refine wu ?_ ?_) <;> intro h <;> try simp only [h]) | simp only [↓wBA, tPla, convA, seval, pl90_2Pla, wH] | (with_reducible refine dP pl90_2Pla 9 (some 18) (by decide) (by kernel_rfl) ?_)
   all_goals refine ret_st ?_ (by first | exact Nat.le_refl _ | (simp only [List.length_set, List.length_append]; omega) | omega)
   all_goals simp only [resA.eq_1, resL.eq_1, resL.eq_2, resV.eq_1, resV.eq_2, ↓wBA, tPla, convA, seval, wH]
   have hpp : ¬ oF o fs p := fun e => hnp ((hgo p).2 e)
   have hF := s3.trans (hf4.sub (G := fun t => t = p ∨ oF o fs t) (G' := fun t => t = p ∨ oF o fs t) (fun t ht => .inr ht) fun t ht => .inl ht)
   have hKG : ∀ t, (t = p ∨ oF o fs t) → G t := fun t ht => (hG t).2 (ht.imp id fun e => .inr (.inr (.inr ((hgo t).2 e))))
   have k0 := hf4.get s0 hpp
   rw [← hP.length_eq] at k0
   have hu : ∀ g, (updV V f { V f with used := tk } g).n = (V g).n ∧ (updV V f { V f with used := tk } g).pg = (V g).pg ∧ (updV V f { V f with used := tk } g).dirty = (V g).dirty := fun g => by
    unfold updV
    split
    ·rename_i e; subst e; exact ⟨rfl, rfl, rfl⟩
    ·exact ⟨rfl, rfl, rfl⟩
   have hm : ∀ g, oG (some o) fs' g ↔ oG (some o) fs g := fun g => or_congr Iff.rfl hP.mem_iff
   subst hV
   refine ⟨G, { P with tick := tk, fs := fs', V := updV P.V f { P.V f with used := tk } }, hF.sub hKG fun t ht => .inl ht, ⟨hk.re rfl rfl rfl rfl (fun g => by show g ∈ fs' ↔ _; rw [hfs]; exact hP.mem_iff) (by show fs'.length ≤ _; rw [hP.length_eq, ← hfs]; exact hk.len) hu, Fd, Gl, some o, _, h.re k0 rfl rfl ?_ (fun t ht => hF.keep t ?_ ?_) (.hp h4) (fun t ht => h.no (.inl (by rw [hfs]; exact (hm t).1 ht))), fun t => ?_⟩, ⟨rfl, rfl, rfl, rfl, rfl, Nat.le_refl _, ct_le rfl _, ?_, fun n => ?_, rfl⟩, rfl⟩
   ·exact hF.get h.has fun e => e.elim (fun e => h.pk e.symm) fun e => h.nk (by rw [hfs]; exact (hgo _).2 e)
   ·exact ht.elim (h.data.lt t) (h.log.lt t)
   ·rintro (rfl | e)
    ·exact ht.elim h.pd h.pl
    ·exact ht.elim (h.od t (by rw [hfs]; exact (hgo t).2 e)) (h.ol t (by rw [hfs]; exact (hgo t).2 e))
   ·rw [hG t, hm t]
   ·apply dq_le (P := P)
    ·rfl
    ·show fs'.Perm P.fs
     rw [hfs]; exact hP
    ·exact fun g _ => (hu g).2.2
   ·unfold PoolV.view
    cases lkM P.hm n with
    | none => rfl
    | some g => exact (hu g).2.1
end Go.Proofs.YtockimhceppkbaaGreat
namespace Go.Proofs.YtockimhceppkbaaGreat
open Go.RowKit
def pl91_8Plb : Plan := (.det 0 (.det 1 (.det 2 (.det 3 (.fin 4 .done)))))
def tPlb := aa wX <| aa wbu <| aa T3 <| aa T25 <| aa T28 <| aa T35 <| aa T73 <| aa T106 T122
theorem zB_512 : (List.map (fun x => AV.p (PV.v x)) (zB 512)) = pageC zero512 := by
 simp only [pageC, zero512, zB, byteP, List.map_replicate]; rfl
theorem len_zero512 : zero512.length = 512 := List.length_replicate ..
def pgI (m : List (Nat × List UInt8)) (n i : Nat) : List UInt8 := secs m n i ++ List.replicate (512 - 64 * i) 0
theorem pgI_0 (m : List (Nat × List UInt8)) (n : Nat) : pgI m n 0 = zero512 := rfl
theorem pgI_8 (m : List (Nat × List UInt8)) (n : Nat) : pgI m n 8 = diskPg m n := by simp [pgI, diskPg]
theorem pgI_len {m : List (Nat × List UInt8)} (h : ∀ k, (secAt m k).length = 64) (n : Nat) {i : Nat} (hi : i ≤ 8) : (pgI m n i).length = 512 := by simp [pgI, secs_len h]; omega
theorem pgI_next {m : List (Nat × List UInt8)} (h : ∀ k, (secAt m k).length = 64) (n : Nat) {i : Nat} (hi : i < 8) : List.take (64 * i) (pageC (pgI m n i)) ++ pageC (secAt m (8 * n + i)) ++ List.drop (64 * i + 64) (pageC (pgI m n i)) = pageC (pgI m n (i + 1)) := by
 simp only [pageC, pgI, secs_succ, ← List.map_take, ← List.map_drop, ← List.map_append]
 congr 1
 rw [List.take_left' (secs_len h n i), List.drop_append, secs_len h n i, List.drop_eq_nil_of_le (by rw [secs_len h]; omega), List.drop_replicate]
 rw [List.nil_append, show 512 - 64 * i - (64 * i + 64 - 64 * i) = 512 - 64 * (i + 1) by omega]
theorem afetch {σ : St} {p dd l kh n : Nat} {G : Nat → Prop} {P : PoolV} (h : PoolIs σ p dd l kh G P) (hn : n < P.pages) :
 ACalls Tryz.prog 91 [.mp p 6 0 0, intV .i64 (n : Nat)] σ fun r σ' => Ap σ σ' ∧ r = .tup [pageA (pgz (diskPg P.data.now n)), intV .i64 0] := by
 obtain ⟨hk, Fd, Gl, w, a, h, hG⟩ := h
 have h0 := h.o
 have l0 := at_lt h0
 refine acalls_of cx_ok dr_ok Tryz.func91 (by kernel_rfl) rfl (nt := 38) (rs := [.cell 4 106, .tmp 5]) rfl rfl ?_
 repeat' first | ((with_reducible first | refine cs ?_ ?_ | refine ws ?_ ?_ | refine wd ?_ ?_ | refine wu ?_ ?_) <;> intro h <;> try simp only [h]) | simp only [↓wBA, tPlb, convA, seval, pl91_8Plb, wH, h0, l0] | (with_reducible refine dP pl91_8Plb 5 (some 29) (by decide) (by kernel_rfl) ?_)
 refine awp_loopS (X := { i : Nat // i ≤ 8 }) (fun i => 8 - i.1) (fun i => [(10, intV .i64 (i.1 : Nat))]) [5, 7, 8, 9, 11, 12, 13, 14, 15, 16, 17, 18, 19, 20, 21, 22, 23, 24, 25, 26, 27, 28, 29, 30, 31, 32, 33, 34] (fun i s => Ap σ s ∧ s[σ.length]? = some (some (.row 512 [pageC zero512])) ∧ s[σ.length + 1]? = some (some (.row 512 [pageC (pgI P.data.now n i.1)]))) (⟨0, by omega⟩) ?_ ?_ ?_ ?_
 ·simp only [wHl, wHf]
 ·refine ⟨(Ap.app _ _).more _, ?_, ?_⟩
  ·skip
   simp only [wH, wHe, Nat.reduceAdd, Nat.reduceLT, Nat.reduceEqDiff, Nat.reduceMul, reduceCtorEq, Nat.lt_irrefl, zB_512]
  ·skip
   simp only [wH, wHe, Nat.reduceAdd, Nat.reduceLT, Nat.reduceEqDiff, Nat.reduceMul, reduceCtorEq, Nat.lt_irrefl, zB_512, pgI_0]
 ·rintro _ _ ⟨_, _, hl⟩; have := at_lt hl; simp; omega
 ·intro x J s hI
  simp only [wHl]
  obtain ⟨i, hi⟩ := x
  obtain ⟨ha, hl, hl2⟩ := hI
  dsimp only at *
  have k0 := ha.get h0
  have q0 := at_lt k0
  have l1 := at_lt hl
  have l2 := at_lt hl2
  have hb := h.data.big
  unfold PoolV.pages at hn
  have e64 := pageC_64 len_zero64
  have pl := pageC_512 (pgI_len hk.secs n hi)
  by_cases hlt : i < 8
  ·have hdec : decide ((i : Int) < 8) = true := by simp; omega
   have hw1 := wI i (by omega)
   have w1 : IntKind.i64.wrap ((n : Int) * 8) = ((8 * n : Nat) : Int) := by rw [wrap_i64 (by omega) (by omega)]; omega
   have w2 : IntKind.i64.wrap (((8 * n : Nat) : Int) + (i : Int)) = ((8 * n + i : Nat) : Int) := by rw [wrap_i64 (by omega) (by omega)]; omega
   have w3 : IntKind.i64.wrap ((i : Int) * 64) = ((64 * i : Nat) : Int) := by rw [wrap_i64 (by omega) (by omega)]; omega
   repeat' first | ((with_reducible first | refine cs ?_ ?_ | refine ws ?_ ?_ | refine wd ?_ ?_ | refine wu ?_ ?_) <;> intro h <;> try simp only [h]) | simp only [↓wBA, tPlb, convA, seval, pl91_8Plb, wH, wHl, k0, q0, hdec, w1, w2] | (with_reducible refine dP pl91_8Plb 5 (some 29) (by decide) (by kernel_rfl) ?_)
   refine (adread (h.data.ap ha) (8 * n + i) (by omega) (hk.secs _)).mono ?_
   rintro _ s1 ⟨ha1, rfl⟩
   have k1 := ha1.get hl
   have k2 := ha1.get hl2
   have l3 := at_lt k1
   have l4 := at_lt k2
   have ha2 := ha.trans ha1
   have q64 := pageC_64 (hk.secs (8 * n + i))
   have n0 : (σ.length + 1 = s1.length) = False := nf (by omega)
   have n1 : (s1.length = σ.length + 1) = False := nf (by omega)
   have i64 : (((64 * i : Nat) : Int) < 512) = True := eq_true (by omega)
   have i512 : (64 * i + (512 - 64 * i) ≤ 512) = True := eq_true (by omega)
   have t64 := take_page (hk.secs (8 * n + i))
   have pn := pgI_next hk.secs n hlt
   have tk : List.take (512 - 64 * i) (pageC (secAt P.data.now (8 * n + i))) = pageC (secAt P.data.now (8 * n + i)) := List.take_of_length_le (by rw [q64]; omega)
   repeat' first | ((with_reducible first | refine cs ?_ ?_ | refine ws ?_ ?_ | refine wd ?_ ?_ | refine wu ?_ ?_) <;> intro h <;> try simp only [h]) | simp only [↓wBA, tPlb, convA, seval, pl91_8Plb, wH, wHl, k1, k2, l3, l4, q64, n0, n1, w3, boundA, copyA, srcC, sliceA, elemsA, pageA, hw1, pl, zB_64, e64, i64, tk, i512, t64, pn, and_false, pageC_n (hk.secs (8 * n + i))] | (with_reducible refine dP pl91_8Plb 5 (some 29) (by decide) (by kernel_rfl) ?_)
   refine ⟨⟨i + 1, by omega⟩, by show 8 - (i + 1) < 8 - i; omega, ⟨(ha2.set (by omega) _).more _, ?_⟩, ?_⟩
   ·skip
    simp only [wH, wHe, Nat.reduceAdd, Nat.reduceLT, Nat.reduceEqDiff, Nat.reduceMul, reduceCtorEq, Nat.lt_irrefl, l4]
   ·simp only [wHl, wHf]
  ·have he : i = 8 := by omega
   subst he
   rw [pgI_8] at hl2
   have dl := diskPg_len hk.secs n
   have pd := pageC_512 dl
   have b1 := bytesOf_page (diskPg P.data.now n)
   by_cases hz : diskPg P.data.now n = zero512
   ·have hg : pgz (diskPg P.data.now n) = newL 0 := if_pos hz
    have dn := length_newL 0
    have pz := pageC_512 dn
    have eB : eqBytes .eql 512 (pageC (diskPg P.data.now n)) (pageC zero512) = some (boolV true) := by simp [eqBytes, bytesOf_page, dl, len_zero512, hz]
    repeat' first | ((with_reducible first | refine cs ?_ ?_ | refine ws ?_ ?_ | refine wd ?_ ?_ | refine wu ?_ ?_) <;> intro h <;> try simp only [h]) | simp only [↓wBA, tPlb, convA, seval, pl91_8Plb, wH, wHl, hl, hl2, l1, l2, pd, zB_512, len_zero512, pageC_len, dl, eB, pageA, pz, dn] | ((with_reducible show ACalls _ _ _ _ _); refine (anew 0 _).eq ?_) | (with_reducible refine dP pl91_8Plb 5 (some 29) (by decide) (by kernel_rfl) ?_)
    have hs := (ha.set (t := σ.length + 1) (by omega) (some (.row 512 [pageC (newL 0)]))).set (t := σ.length) (by omega) (some (.row 512 [pageC (newL 0)]))
    have hlen := hs.len
    all_goals refine ret_st ?_ (by first | exact Nat.le_refl _ | (simp only [List.length_set, List.length_append]; omega) | omega)
    all_goals simp only [resA.eq_1, resL.eq_1, resL.eq_2, resV.eq_1, resV.eq_2, ↓wBA, tPlb, convA, seval, wH, l1, l2, pz]
    exact ⟨hs, by rw [hg]⟩
   ·have hg : pgz (diskPg P.data.now n) = diskPg P.data.now n := if_neg hz
    have eB : eqBytes .eql 512 (pageC (diskPg P.data.now n)) (pageC zero512) = some (boolV false) := by simp [eqBytes, bytesOf_page, dl, len_zero512, beq_false_of_ne hz]
    repeat' first | ((with_reducible first | refine cs ?_ ?_ | refine ws ?_ ?_ | refine wd ?_ ?_ | refine wu ?_ ?_) <;> intro h <;> try simp only [h]) | simp only [↓wBA, tPlb, convA, seval, pl91_8Plb, wH, wHl, hl, hl2, l1, l2, pd, zB_512, len_zero512, pageC_len, dl, eB, pageA] | ((with_reducible show ACalls _ _ _ _ _); refine (anew 0 _).eq ?_) | (with_reducible refine dP pl91_8Plb 5 (some 29) (by decide) (by kernel_rfl) ?_)
    have hs := ha.set (t := σ.length) (by omega) (some (.row 512 [pageC (diskPg P.data.now n)]))
    have hlen := hs.len
    all_goals refine ret_st ?_ (by first | exact Nat.le_refl _ | (simp only [List.length_set, List.length_append]; omega) | omega)
    all_goals simp only [resA.eq_1, resL.eq_1, resL.eq_2, resV.eq_1, resV.eq_2, ↓wBA, tPlb, convA, seval, wH, l1, l2, pd, pageA]
    exact ⟨hs, by rw [hg]⟩
end Go.Proofs.YtockimhceppkbaaGreat
namespace Go.Proofs.YtockimhceppkbaaGreat
open Go.RowKit
def pl62_10Plc : Plan := (.det 0 (.det 1 (.det 2 (.det 3 (.det 4 (.det 5 (.det 6 (.det 7 (.det 8 (.det 9 (.det 10 (.det 11 (.fin 12 (.det 13 .done))))))))))))))
def tPlc := aa wX <| aa wbu <| aa T3 <| aa T4 <| aa T25 <| aa T28 <| aa T66 <| aa T73 <| aa T106 <| aa T122 T134
theorem Ord.at {σ : St} {V : Nat → FrameV} {a : AV} {w : Option Nat} {fs : List Nat} (h : Ord σ V a w fs) {f : Nat} (hf : f ∈ fs) : ∃ i, fs[i]? = some f ∧ σ[f]? = some (frOb (V f) i) ∧ (V f).pg.length = 512 := by
 cases h with
 | nil => simp at hf
 | hp h =>
   obtain ⟨i, hi⟩ := List.getElem?_of_mem hf
   exact ⟨i, hi, h.f i f hi, h.pg f hf⟩
theorem Ord.upd {σ s : St} {V : Nat → FrameV} {a : AV} {w : Option Nat} {fs : List Nat} (h : Ord σ V a w fs) {i f : Nat} (hi : fs[i]? = some f) (v : FrameV) (hv : v.pg.length = 512) (hs : s[f]? = some (frOb v i)) (ho : ∀ t, oG w fs t → t ≠ f → s[t]? = σ[t]?) : Ord s (updV V f v) a w fs := by
 cases h with
 | nil => simp at hi
 | hp h => exact .hp (h.upd hi v hv hs fun t ht hn => ho t (ht.imp (fun e => by rw [e]) id) hn)
theorem wrW_succ (n : Nat) (pg : List UInt8) (k : Nat) : wrW n pg (k + 1) = wrW n pg k ++ [(8 * n + k, (pg.drop (64 * k)).take 64)] := by simp [wrW, List.range_succ]
theorem wrW_len (n : Nat) (pg : List UInt8) (k : Nat) : (wrW n pg k).length = k := by simp [wrW]
theorem countP_clean (V : Nat → FrameV) {f : Nat} : ∀ {fs : List Nat}, fs.Nodup → f ∈ fs → (V f).dirty = true → fs.countP (fun g => (updV V f { V f with dirty := false } g).dirty) + 1 = fs.countP fun g => (V g).dirty
 | [], _, h, _ => by simp at h
 | g :: fs, hn, h, hd => by
   rw [List.nodup_cons] at hn
   rw [List.countP_cons, List.countP_cons]
   by_cases e : g = f
   ·subst e
    have : fs.countP (fun x => (updV V g { V g with dirty := false } x).dirty) = fs.countP fun x => (V x).dirty := List.countP_congr fun x hx => by
     have : x ≠ g := fun e => hn.1 (e ▸ hx)
     simp only [updV, if_neg this]
    rw [this]
    simp [updV, hd]
   ·have h' : f ∈ fs := (List.mem_cons.1 h).elim (fun e' => absurd e'.symm e) id
    have ih := countP_clean V hn.2 h' hd
    have e2 : (updV V f { V f with dirty := false } g).dirty = (V g).dirty := by simp only [updV, if_neg e]
    rw [e2]
    omega
theorem aclean0 {σ : St} {p dd l kh f : Nat} {G : Nat → Prop} {P : PoolV} (h : PoolIs σ p dd l kh G P) (hf : f ∈ P.fs) (hd : (P.V f).dirty = false) :
 ACalls Tryz.prog 62 [.mp p 6 0 0, .mp f 516 0 0] σ fun r σ' => σ' = σ ∧ r = intV .i64 0 := by
 obtain ⟨hk, Fd, Gl, w, a, h, hG⟩ := h
 have h0 := h.o
 have l0 := at_lt h0
 obtain ⟨i, hi, f1, p1⟩ := h.ord.at hf
 have q1 := at_lt f1
 simp only [frOb, hd] at f1
 refine acalls_of cx_ok dr_ok Tryz.func62 (by kernel_rfl) rfl (nt := 54) (rs := [.tmp 4]) rfl rfl ?_
 repeat' first | ((with_reducible first | refine cs ?_ ?_ | refine ws ?_ ?_ | refine wd ?_ ?_ | refine wu ?_ ?_) <;> intro h <;> try simp only [h]) | simp only [↓wBA, tPlc, convA, seval, pl62_10Plc, wH, wFr, h0, l0, f1, q1, p1] | (with_reducible refine dP pl62_10Plc 14 (some 36) (by decide) (by kernel_rfl) ?_)
 all_goals refine ret_st ?_ (by first | exact Nat.le_refl _ | (simp only [List.length_set, List.length_append]; omega) | omega)
 all_goals simp only [resA.eq_1, resL.eq_1, resL.eq_2, resV.eq_1, resV.eq_2, ↓wBA, tPlc, convA, seval, wH]
theorem aclean1 {σ : St} {p dd l kh f : Nat} {G : Nat → Prop} {P : PoolV} (h : PoolIs σ p dd l kh G P) (hf : f ∈ P.fs) (hd : (P.V f).dirty = true) (hc : P.ct + 1 < 18446744073709551616) (hw : P.dq + 8 ≤ 1000000000000) :
 ACalls Tryz.prog 62 [.mp p 6 0 0, .mp f 516 0 0] σ fun r σ' => r = intV .i64 0 ∧ ∃ G' P', Fr σ σ' G G' ∧ PoolIs σ' p dd l kh G' P' ∧ Kp P P' 0 ∧ P'.fs = P.fs ∧ P'.hm = P.hm ∧ P'.V = updV P.V f { P.V f with dirty := false } := by
 obtain ⟨hk, Fd, Gl, w, a, h, hG⟩ := h
 have h0 := h.o
 have l0 := at_lt h0
 obtain ⟨i, hi, f1, p1⟩ := h.ord.at hf
 have q1 := at_lt f1
 have hog : oG w P.fs f := .inr hf
 have hnf := hk.fn f hf
 have hb := h.data.big
 have hbs : (P.V f).n < min (P.data.size / 8) 3840 := hnf
 simp only [frOb, hd] at f1
 generalize hfn : (P.V f).n = n at *
 generalize hfp : (P.V f).pg = pg at *
 generalize hfu : (P.V f).used = us at *
 refine acalls_of cx_ok dr_ok Tryz.func62 (by kernel_rfl) rfl (nt := 54) (rs := [.tmp 4]) rfl rfl ?_
 repeat' first | ((with_reducible first | refine cs ?_ ?_ | refine ws ?_ ?_ | refine wd ?_ ?_ | refine wu ?_ ?_) <;> intro h <;> try simp only [h]) | simp only [↓wBA, tPlc, convA, seval, pl62_10Plc, wH, wFr, h0, l0, f1, q1, p1] | (with_reducible refine dP pl62_10Plc 14 (some 36) (by decide) (by kernel_rfl) ?_)
 have hnd := h.ord.big.2
 have hcd := countP_clean P.V hnd hf hd
 have hwd : P.data.wait.length + 8 * P.fs.countP (fun f => (P.V f).dirty) + 8 ≤ 1000000000000 := hw
 have hw : P.data.wait.length + 8 ≤ 1000000000000 := by omega
 have hcc : P.log.ctr + min P.log.wait 1 + 1 < 18446744073709551616 := hc
 have hc : P.log.ctr + 1 < 18446744073709551616 := by omega
 refine (awflush h.log hc).mono ?_
 rintro _ s1 ⟨rfl, Gl1, L1, hf1, hl1, hst, hwt, hsz, hct, hld⟩
 have k0 := hf1.get h0 h.pl
 have k1 := hf1.get f1 (fun e => h.ol f hog e)
 have d1 := h.data.frame hf1 (fun t ht hg => h.dl t ht hg)
 have q2 := at_lt k0
 have q3 := at_lt k1
 have hle := hf1.len
 repeat' first | ((with_reducible first | refine cs ?_ ?_ | refine ws ?_ ?_ | refine wd ?_ ?_ | refine wu ?_ ?_) <;> intro h <;> try simp only [h]) | simp only [↓wBA, tPlc, convA, seval, pl62_10Plc, wH] | (with_reducible refine dP pl62_10Plc 14 (some 36) (by decide) (by kernel_rfl) ?_)
 refine awp_loopS (X := { i : Nat // i ≤ 8 }) (fun i => 8 - i.1) (fun i => [(22, intV .i64 (i.1 : Nat))]) [4, 6, 7, 8, 23, 24, 25, 26, 27, 28, 29, 30, 31, 32, 33, 34, 35, 36, 37, 38, 39, 40, 41, 42, 43, 44, 45, 46, 47, 48, 49, 50, 51, 52] (fun i s => ∃ F', Fr s1 s Fd F' ∧ DiskAt s dd F' { P.data with now := wrPg P.data.now n pg i.1, wait := P.data.wait ++ wrW n pg i.1 }) (⟨0, by omega⟩) ?_ ?_ ?_ ?_
 ·simp only [wHl, wHf]
 ·exact ⟨Fd, Fr.refl _ _, by simpa [wrPg, wrW] using d1⟩
 ·rintro _ _ ⟨_, hf, _⟩; have := hf.len; omega
 ·intro x J s hI
  simp only [wHl]
  obtain ⟨i', hi'⟩ := x
  obtain ⟨F', hf2, hd2⟩ := hI
  dsimp only at *
  have j0 := hf2.get k0 h.pd
  have j1 := hf2.get k1 (fun e => h.od f hog e)
  have r0 := at_lt j0
  have r1 := at_lt j1
  by_cases hlt : i' < 8
  ·have hdec : decide ((i' : Int) < 8) = true := by simp; omega
   have hw1 := wI i' (by omega)
   have w0 : IntKind.i64.wrap ((n : Int) * 8) = ((8 * n : Nat) : Int) := by rw [wrap_i64 (by omega) (by omega)]; omega
   have w2 : IntKind.i64.wrap (((8 * n : Nat) : Int) + (i' : Int)) = ((8 * n + i' : Nat) : Int) := by rw [wrap_i64 (by omega) (by omega)]; omega
   have w3 : IntKind.i64.wrap ((i' : Int) * 64) = ((64 * i' : Nat) : Int) := by rw [wrap_i64 (by omega) (by omega)]; omega
   have w4 : IntKind.i64.wrap (((i' + 1 : Nat) : Int) * 64) = ((64 * i' + 64 : Nat) : Int) := by rw [wrap_i64 (by omega) (by omega)]; omega
   have sl : ((pg.drop (64 * i')).take 64).length = 64 := by simp; omega
   have se := pageC_64 sl
   have e64 := pageC_64 len_zero64
   have b1 : (((64 * i' : Nat) : Int) < ((64 * i' + 64 : Nat) : Int)) = True := eq_true (by omega)
   have b2 : (((64 * i' + 64 : Nat) : Int) ≤ 512) = True := eq_true (by omega)
   have b3 : 64 * i' + 64 - 64 * i' = 64 := by omega
   have b4 : (1 + 64 * i' + 64 ≤ 516) = True := eq_true (by omega)
   have b5 : (1 + (64 * i' + 64) ≤ 516) = True := eq_true (by omega)
   have fs := frR_sec (n := n) (u := us) (a := i) (f := true) p1 hlt
   repeat' first | ((with_reducible first | refine cs ?_ ?_ | refine ws ?_ ?_ | refine wd ?_ ?_ | refine wu ?_ ?_) <;> intro h <;> try simp only [h]) | simp only [↓wBA, tPlc, convA, seval, pl62_10Plc, wH, wHl, wFr, p1, j0, j1, r0, r1, hdec, w0, w2, w3, w4, hw1, boundA, sliceA, elemsA, fs, b1, b2, b3, b4, b5, se, zB_64, e64, pageA] | (with_reducible refine dP pl62_10Plc 14 (some 36) (by decide) (by kernel_rfl) ?_)
   refine (adwrite (hd2.app _) (8 * n + i') (by show _ < P.data.size; omega) _ sl (by simp [wrW_len]; omega)).mono ?_
   rintro _ s2 ⟨rfl, F3, hf3, hd3⟩
   have hf4 := (hf2.app _).trans hf3
   have m0 := hf4.get k0 h.pd
   have m1 := hf4.get k1 (fun e => h.od f hog e)
   repeat' first | ((with_reducible first | refine cs ?_ ?_ | refine ws ?_ ?_ | refine wd ?_ ?_ | refine wu ?_ ?_) <;> intro h <;> try simp only [h]) | simp only [↓wBA, tPlc, convA, seval, pl62_10Plc, wH, wHl, hw1] | (with_reducible refine dP pl62_10Plc 14 (some 36) (by decide) (by kernel_rfl) ?_)
   refine ⟨⟨i' + 1, by omega⟩, by show 8 - (i' + 1) < 8 - i'; omega, ⟨F3, hf4, ?_⟩, ?_⟩
   ·simp only [wrW_succ, wrPg, ← List.append_assoc]
    exact hd3
   ·simp only [wHl, wHf]
  ·have he : i' = 8 := by omega
   subst he
   repeat' first | ((with_reducible first | refine cs ?_ ?_ | refine ws ?_ ?_ | refine wd ?_ ?_ | refine wu ?_ ?_) <;> intro h <;> try simp only [h]) | simp only [↓wBA, tPlc, convA, seval, pl62_10Plc, wH, wHl, wFr, p1, j0, j1, r0, r1] | (with_reducible refine dP pl62_10Plc 14 (some 36) (by decide) (by kernel_rfl) ?_)
   have hlen := Nat.le_trans hle hf2.len
   all_goals refine ret_st ?_ (by first | exact Nat.le_refl _ | (simp only [List.length_set, List.length_append]; omega) | omega)
   all_goals simp only [resA.eq_1, resL.eq_1, resL.eq_2, resV.eq_1, resV.eq_2, ↓wBA, tPlc, convA, seval, wH, wFr, p1, r1]
   have hs : ∀ t, t ≠ f → (List.set s f (some (.row 516 [frR (n : Int) pg false us i])))[t]? = s[t]? := fun t ht => List.getElem?_set_ne (fun e => ht e.symm)
   have hk1 : ∀ t x, σ[t]? = some x → ¬ Gl t → ¬ Fd t → s[t]? = some x := fun t x hx h1 h2 => hf2.get (hf1.get hx h1) h2
   have hF2 : ∀ t, F' t → Fd t ∨ s1.length ≤ t := hf2.own
   have hG1 : ∀ t, Gl1 t → Gl t ∨ σ.length ≤ t := hf1.own
   have nf' : ¬ F' f := fun e => (hF2 f e).elim (h.od f hog) fun e => by omega
   have nlf : ¬ Gl1 f := fun e => (hG1 f e).elim (h.ol f hog) fun e => by omega
   have lk := at_lt h.has
   have hku : ∀ g, (updV P.V f { P.V f with dirty := false } g).n = (P.V g).n ∧ (updV P.V f { P.V f with dirty := false } g).pg = (P.V g).pg := fun g => by
    unfold updV
    split
    ·rename_i e; subst e; exact ⟨rfl, rfl⟩
    ·exact ⟨rfl, rfl⟩
   have hlk : lkM P.hm n = some f := (hk.keys n f).2 ⟨hf, hfn⟩
   have hne : ∀ g ∈ P.fs, g ≠ f → (P.V g).n ≠ n := fun g hg hn e => hn (by
    have := (hk.keys n g).2 ⟨hg, e⟩
    rw [hlk] at this; simpa using this.symm)
   have hln : ∀ t, oG w P.fs t → t < σ.length := h.ord.lt
   refine ⟨fun t => t = p ∨ t = kh ∨ F' t ∨ Gl1 t ∨ oG w P.fs t, { P with data := { P.data with now := wrPg P.data.now n pg 8, wait := P.data.wait ++ wrW n pg 8 }, log := L1, V := updV P.V f { P.V f with dirty := false } }, ?_, ⟨⟨fun m g => ?_, hk.kn, hk.m1, hk.mb, hk.len, fun g hg => ?_, fun g hg => ?_, fun g hg hd' => ?_, fun k => ?_, hk.size⟩, F', Gl1, w, a, ⟨?_, ?_, ?_, ?_, ?_, fun t h1 h2 => ?_, fun t h1 h2 => ?_, fun t h1 h2 => ?_, ?_, ?_, ?_, ?_⟩, fun t => Iff.rfl⟩, ⟨rfl, rfl, hsz, hld, hst, by show L1.wait ≤ _; omega, by show L1.ctr + min L1.wait 1 ≤ P.log.ctr + min P.log.wait 1 + 0; omega, by show (P.data.wait ++ wrW n pg 8).length + 8 * P.fs.countP (fun g => (updV P.V f { P.V f with dirty := false } g).dirty) ≤ P.data.wait.length + 8 * P.fs.countP (fun g => (P.V g).dirty) + 8 * 0; have hcd' : P.fs.countP (fun g => (updV P.V f { P.V f with dirty := false } g).dirty) + 1 = P.fs.countP (fun g => (P.V g).dirty) := hcd; rw [List.length_append, wrW_len]; omega, fun m => ?_, rfl⟩, rfl, rfl, rfl⟩
   ·have e1 : Fr σ s1 G (fun t => t = p ∨ t = kh ∨ Fd t ∨ Gl1 t ∨ oG w P.fs t) := hf1.sub (fun t ht => (hG t).2 (.inr (.inr (.inr (.inl ht))))) fun t ht => by
     rw [hG t]
     rcases ht with h1 | h1 | h1 | h1 | h1
     ·exact .inl (.inl h1)
     ·exact .inl (.inr (.inl h1))
     ·exact .inl (.inr (.inr (.inl h1)))
     ·exact (hG1 t h1).imp (fun e => .inr (.inr (.inr (.inl e)))) id
     ·exact .inl (.inr (.inr (.inr (.inr h1))))
    have e2 : Fr s1 s (fun t => t = p ∨ t = kh ∨ Fd t ∨ Gl1 t ∨ oG w P.fs t) (fun t => t = p ∨ t = kh ∨ F' t ∨ Gl1 t ∨ oG w P.fs t) := hf2.sub (fun t ht => .inr (.inr (.inl ht))) fun t ht => by
     rcases ht with h1 | h1 | h1 | h1 | h1
     ·exact .inl (.inl h1)
     ·exact .inl (.inr (.inl h1))
     ·exact (hF2 t h1).imp (fun e => .inr (.inr (.inl e))) id
     ·exact .inl (.inr (.inr (.inr (.inl h1))))
     ·exact .inl (.inr (.inr (.inr (.inr h1))))
    exact (e1.trans e2).set _ ((hG f).2 (.inr (.inr (.inr (.inr hog)))))
   ·show lkM P.hm m = some g ↔ g ∈ P.fs ∧ _
    rw [(hku g).1]; exact hk.keys m g
   ·show (updV P.V f { P.V f with dirty := false } g).n < _
    rw [(hku g).1]; exact hk.fn g hg
   ·show pgz (updV P.V f { P.V f with dirty := false } g).pg = (updV P.V f { P.V f with dirty := false } g).pg
    rw [(hku g).2]; exact hk.nz g hg
   ·show pgz (diskPg (wrPg P.data.now n pg 8) (updV P.V f { P.V f with dirty := false } g).n) = (updV P.V f { P.V f with dirty := false } g).pg
    rw [(hku g).1, (hku g).2]
    by_cases e : g = f
    ·subst e
     rw [hfn, hfp, disk_wr p1]
     have := hk.nz g hf
     rwa [hfp] at this
    ·rw [disk_wr' _ _ _ _ (hne g hg e)]
     refine hk.cl g hg ?_
     have : (updV P.V f { P.V f with dirty := false } g).dirty = false := hd'
     simpa only [updV, if_neg e] using this
   ·show (secAt (wrPg P.data.now n pg 8) k).length = 64
    rw [sec_wr]
    split
    ·simp; omega
    ·exact hk.secs k
   ·rw [hs p (ne_of_ob h0 f1 (by simp))]; exact j0
   ·exact hd2.same fun t ht => hs t fun e => nf' (e ▸ ht)
   ·refine (hl1.frame hf2 fun t h1 h2 => ?_).same fun t ht => hs t fun e => nlf (e ▸ ht)
    exact (hG1 t h1).elim (h.dl t h2) fun e => Nat.lt_irrefl _ (Nat.lt_of_lt_of_le (h.data.lt t h2) e)
   ·refine h.ord.upd hi _ (by show (P.V f).pg.length = 512; rw [hfp]; exact p1) ?_ fun t h1 h2 => ?_
    ·simp only [frOb, hfn, hfp, hfu]; simp [r1]
    ·rw [hs t h2]
     have hx : σ[t]? = some (σ[t]'(hln t h1)) := by simp [hln t h1]
     rw [hk1 t _ hx (h.ol t h1) (h.od t h1), hx]
   ·rw [hs kh (ne_of_ob h.has f1 (by simp))]; exact hk1 kh _ h.has h.kl h.kd
   ·rcases hF2 t h1 with e | e
    ·exact (hG1 t h2).elim (h.dl t e) fun e' => Nat.lt_irrefl _ (Nat.lt_of_lt_of_le (h.data.lt t e) e')
    ·exact Nat.lt_irrefl _ (Nat.lt_of_lt_of_le (hl1.lt t h2) e)
   ·exact (hF2 t h2).elim (h.od t h1) fun e => Nat.lt_irrefl _ (Nat.lt_of_lt_of_le (hln t h1) (Nat.le_trans hle e))
   ·exact (hG1 t h2).elim (h.ol t h1) fun e => Nat.lt_irrefl _ (Nat.lt_of_lt_of_le (hln t h1) e)
   ·exact fun e => (hF2 p e).elim h.pd fun e => by omega
   ·exact fun e => (hG1 p e).elim h.pl fun e => by omega
   ·exact fun e => (hF2 kh e).elim h.kd fun e => by omega
   ·exact fun e => (hG1 kh e).elim h.kl fun e => by omega
   ·unfold PoolV.view
    show (match lkM P.hm m with | some g => (updV P.V f { P.V f with dirty := false } g).pg | none => pgz (diskPg (wrPg P.data.now n pg 8) m)) = _
    cases hm : lkM P.hm m with
    | some g => exact (hku g).2
    | none =>
      have : m ≠ n := fun e => by rw [e, hlk] at hm; cases hm
      simp only [disk_wr' _ _ _ _ this]
end Go.Proofs.YtockimhceppkbaaGreat
