/- HeapSets. -/
import Derived.Test.YtlddiphjpmlhbaaM47
set_option linter.unusedSimpArgs false
set_option linter.unusedVariables false
set_option linter.defProp false
set_option maxRecDepth 100000
set_option maxHeartbeats 32000000
namespace Go.Proofs.Ytlddiphjpmlhbaa
open Go.RowKit
def pl11_16Hs : Plan := (.det 0 (.det 1 (.act 2 (.fin 3 (.det 4 (.det 5 (.det 6 (.fin 7 .done))))))))
def pl3_29Hs : Plan := (.det 0 (.det 1 (.det 2 (.det 3 (.det 5 (.det 6 (.det 7 (.det 8 (.two 4 (.fin 9 (.det 10 (.det 11 .done))) 9 (.act 4 (.det 10 (.det 11 .done))))))))))))
def pl3_36Hs : Plan := (.det 0 (.det 2 (.det 3 (.det 4 (.det 5 (.two 1 (.fin 6 (.det 7 .done)) 6 (.act 1 (.det 7 .done))))))))
def tHs := aa wX <| aa wbu <| aa T3 <| aa T4 <| aa T5 <| aa T9 <| aa T22 <| aa T23 <| aa T25 <| aa T26 <| aa T29 <| aa T31 <| aa T35 <| aa T37 <| aa T40 T86
def cxS : Ctx := { cx with muts := [22 * 100000 + 72] }
theorem cxS_ok : cxS.ok Try.prog := cx_ok
theorem drS_ok : DrawOk Try.prog (aDraw Try.prog cxS) := aDraw_ok cxS_ok (by kernel_rfl)
theorem kindS (t : TypeId) : cxS.kind t = cx.kind t := nr rfl
theorem tyS (t : TypeId) : cxS.ty t = cx.ty t := nr rfl
theorem mutsS : cxS.muts = [22 * 100000 + 72] := nr rfl
theorem lenS {T : TypeId} {x : AV} : lenA cxS T x = lenA cx T x := nr rfl
theorem appS {k : Nat} {T : TypeId} {x y : AV} {σ : St} : appendA cxS k T x y σ = appendA cx k T x y σ := nr rfl
abbrev Put1 := (Nat × Nat) × PV × List UInt8
def atS (es : List Put1) : List (List PV) := es.map fun e => [.v (.int .i64 (e.1.1 : Nat)), .v (.int .i64 (e.1.2 : Nat))]
def wantS (es : List Put1) : List (List AV) := es.map fun e => [.p e.2.1]
structure PutI (v : Nat → List UInt8) (ns : List Nat) (es : List Put1) : Prop where
 get : ∀ e ∈ es, HRec v ns e.1.1 e.1.2 = some e.2.2 ∧ e.2.1 = .sl 1 (encB e.2.2) ∧ e.2.2.length ≤ 400
 nd : (es.map Prod.fst).Nodup
theorem PutI.add {v v' : Nat → List UInt8} {T T' : Nat → Bool} {np n k : Nat} {ns ns' : List Nat} {es : List Put1} {x : PV} {r : List UInt8} (h : PutI v ns es) (hi : InsR v v' T T' np ns ns' n k r) (hx : x = .sl 1 (encB r)) (hr : r.length ≤ 400) : PutI v' ns' (es ++ [((n, k), x, r)]) := by
 have hno : ∀ e ∈ es, e.1 ≠ (n, k) := fun e he h2 => by
  have h1 := (h.get e he).1
  rw [h2] at h1
  rw [hi.old] at h1; cases h1
 refine ⟨fun e he => ?_, ?_⟩
 ·rcases List.mem_append.1 he with he | he
  ·obtain ⟨h1, h2, h3⟩ := h.get e he
   refine ⟨?_, h2, h3⟩
   rw [hi.get, if_neg (fun h4 => hno e he (Prod.ext h4.1 h4.2))]; exact h1
  ·simp at he; subst he
   exact ⟨by rw [hi.get]; simp, hx, hr⟩
 ·rw [List.map_append]
  refine List.nodup_append.2 ⟨h.nd, by simp, fun a ha b hb e => ?_⟩
  obtain ⟨x, hx, rfl⟩ := List.mem_map.1 ha
  simp at hb; subst hb
  exact hno x hx e
theorem PutI.pos {v : Nat → List UInt8} {ns : List Nat} {es : List Put1} (h : PutI v ns es) {e : Put1} (he : e ∈ es) : e.1.1 ∈ ns ∧ 1 ≤ e.1.2 ∧ getL (v e.1.1) (e.1.2 : Nat) = some e.2.2 := by
 obtain ⟨h1, _, _⟩ := h.get e he
 unfold HRec at h1
 by_cases hn : e.1.1 ∈ ns
 ·rw [if_pos hn] at h1
  rcases Nat.eq_zero_or_pos e.1.2 with h0 | h0
  ·rw [h0, recOf_zero] at h1; cases h1
  ·unfold recOf at h1
   rw [if_neg (by omega)] at h1
   exact ⟨hn, h0, h1⟩
 ·rw [if_neg hn] at h1; cases h1
theorem PutI.set {v : Nat → List UInt8} {T : Nat → Bool} {np n kp j : Nat} {ns : List Nat} {es : List Put1} {y xr : PV} {r rr : List UInt8} (hh : Heap v T np ns) (h : PutI v ns es) (hj : es[j]? = some ((n, kp), y, r)) (hx : xr = .sl 1 (encB rr)) (hl : rr.length ≤ r.length) :
 Heap (upV v n (setL (v n) (kp : Nat) rr).1) T np ns ∧ PutI (upV v n (setL (v n) (kp : Nat) rr).1) ns (es.set j ((n, kp), xr, rr)) := by
 have hm := List.mem_of_getElem? hj
 have hjl := (List.getElem?_eq_some_iff.1 hj).1
 obtain ⟨hn, hk, hg⟩ := h.pos hm
 obtain ⟨_, _, hr4⟩ := h.get _ hm
 dsimp only at hn hk hg hr4
 obtain ⟨kq, rfl⟩ : ∃ kq, kp = kq + 1 := ⟨kp - 1, by omega⟩
 obtain ⟨ii, hii⟩ := List.getElem?_of_mem hn
 obtain ⟨ss, hp⟩ := hh.ch.get hii
 have hgs : ss.getD kq none = some r := by rw [← hp.at]; exact hg
 have hkl : kq < ss.length := by
  rcases Nat.lt_or_ge kq ss.length with h | h
  ·exact h
  ·rw [List.getD_eq_getElem?_getD, List.getElem?_eq_none h] at hgs; simp at hgs
 obtain ⟨_, hp'⟩ := hp.set hgs rr hl
 obtain ⟨hh2, hg2⟩ := hh.change hii hp rfl hp' (x := some rr) (k := kq) fun a => by
  rw [List.getD_eq_getElem?_getD, List.getElem?_set]
  by_cases e : kq = a
  ·subst e; simp [hkl]
  ·have : ¬ a = kq := fun h => e h.symm
   rw [if_neg e, if_neg this, ← List.getD_eq_getElem?_getD]
 refine ⟨hh2, fun e he => ?_, ?_⟩
 ·obtain ⟨a, ha⟩ := List.getElem?_of_mem he
  rw [List.getElem?_set] at ha
  by_cases e1 : j = a
  ·rw [if_pos e1, if_pos (e1 ▸ hjl)] at ha
   simp only [Option.some.injEq] at ha; subst ha
   exact ⟨by rw [hg2]; simp, hx, by dsimp only; omega⟩
  ·rw [if_neg e1] at ha
   obtain ⟨h1, h2, h3⟩ := h.get e (List.mem_of_getElem? ha)
   have hne : ¬ (e.1.1 = n ∧ e.1.2 = kq + 1) := fun h4 => by
    have h5 : (es.map Prod.fst)[j]? = (es.map Prod.fst)[a]? := by
     rw [List.getElem?_map, List.getElem?_map, hj, ha]
     simp only [Option.map_some, Option.some.injEq]
     exact (Prod.ext h4.1 h4.2).symm
    exact e1 ((List.getElem?_inj (by simpa using hjl) h.nd).1 h5)
   exact ⟨by rw [hg2, if_neg hne]; exact h1, h2, h3⟩
 ·have : (es.set j ((n, kq + 1), xr, rr)).map Prod.fst = es.map Prod.fst := by
   rw [List.map_set]
   apply List.ext_getElem?
   intro a
   rw [List.getElem?_set]
   by_cases e : j = a
   ·subst e
    rw [if_pos rfl, if_pos (by simpa using hjl), List.getElem?_map, hj]; rfl
   ·rw [if_neg e]
  rw [this]; exact h.nd
theorem atS_set {es : List Put1} {j n kp : Nat} {y xr : PV} {r rr : List UInt8} (hj : es[j]? = some ((n, kp), y, r)) : atS (es.set j ((n, kp), xr, rr)) = atS es := by
 have hjl := (List.getElem?_eq_some_iff.1 hj).1
 unfold atS
 rw [List.map_set]
 apply List.ext_getElem?
 intro a
 rw [List.getElem?_set]
 by_cases e : j = a
 ·subst e
  rw [if_pos rfl, if_pos (by simpa using hjl), List.getElem?_map, hj]; rfl
 ·rw [if_neg e]
theorem wantS_set {es : List Put1} {j : Nat} {e : Put1} : (wantS es).set j [.p e.2.1] = wantS (es.set j e) := by simp [wantS, List.map_set]
theorem ahinsertL {σ : St} {b : Nat} {first : Int} {a : AV} {r : List UInt8} (ha : RecA σ a r) (hr : 400 < r.length) :
 ACalls Try.prog 11 [.mp b 2 0 0, intV .i64 first, a] σ fun q σ' => q = .tup [.agg [intV .i64 0, intV .i64 0], intV .i64 4] ∧ Ap σ σ' := by
 have hla := ha.len
 have e1 : decide ((r.length : Int) > 400) = true := by simp; omega
 refine acalls_of cx_ok dr_ok Try.func11 (by kernel_rfl) rfl (nt := 76) (rs := [.cell 6 37, .tmp 7]) rfl rfl ?_
 repeat' first | ((with_reducible first | refine cs ?_ ?_ | refine ws ?_ ?_ | refine wd ?_ ?_ | refine wu ?_ ?_) <;> intro h <;> try simp only [h]) | simp only [↓wBA, tHs, convA, seval, pl11_16Hs, wH, hla, e1] | (with_reducible refine dP pl11_16Hs 8 (some 64) (by decide) (by kernel_rfl) ?_)
 all_goals refine ret_st ?_ (by first | exact Nat.le_refl _ | (simp only [List.length_set, List.length_append]; omega) | omega)
 all_goals simp only [resA.eq_1, resL.eq_1, resL.eq_2, resV.eq_1, resV.eq_2, ↓wBA, tHs, convA, seval, wH]
 exact Ap.app _ _
theorem own_ms_ne {q : St} {a c : AV} {E : TypeId} {e e' : Nat} {ls : List (List PV)} {ls' : List (List AV)} (h : OwnR q a E e ls) (h' : MutR q c e' ls') {t : Nat} (h1 : ownOf a = some t) (h2 : msOf c = some t) : False := by
 rcases h with ⟨rfl, _⟩ | ⟨t1, rfl, _, h⟩
 ·cases h1
 ·rcases h' with ⟨rfl, _⟩ | ⟨t2, rfl, _, h'⟩
  ·cases h2
  ·simp only [ownOf, Option.some.injEq] at h1
   simp only [msOf, Option.some.injEq] at h2
   subst h1 h2
   rw [h] at h'; cases h'
theorem convBS {S T : TypeId} {x : AV} : convB cxS S T x = convB cx S T x := nr rfl
theorem convCS {S T : TypeId} {x : AV} {σ : St} : convC cxS S T x σ = convC cx S T x σ := nr rfl
theorem bytesOfM_bRow : ∀ r : List UInt8, bytesOfM (bRow r) = some r
 | [] => rfl
 | b :: r => by
   have := bytesOfM_bRow r
   simp only [bRow, List.map_cons, byteP] at this ⊢
   simp only [bytesOfM, byteOf_byteP, this]
theorem convC_ms {S : St} {t : Nat} {r : List UInt8} (h : S[t]? = some (some (.row 1 (bRow r)))) : convC cx 23 9 (.ms t 1 0 r.length) S = some (.p (.v (.string ⟨r.toArray⟩)), S) := by
 have hl : (bRow r).length = r.length := by simp [bRow]
 unfold convC
 rw [ck_23, ck_9]
 simp only [ck_5, h, hl, Nat.zero_add, Nat.le_refl, if_true, List.drop_zero]
 rw [← hl, List.take_length, bytesOfM_bRow]; rfl
theorem convB_ms {t n : Nat} : convB cx 23 9 (.ms t 1 0 n) = none := by
 unfold convB
 rw [ck_23, ck_9]
 simp only [ck_5]
 rfl
theorem convB_bx {y : PV} {r : List UInt8} (h : BX y r) : convB cx 23 9 (.p y) = some (.p (.v (.string ⟨r.toArray⟩))) := by
 unfold convB
 rw [ck_23, ck_9]
 simp only [ck_5]
 rcases h with rfl | ⟨rfl, rfl⟩
 ·simp only [elemsA, bytesOf_enc]; rfl
 ·rfl
theorem bRow_mark (r : List UInt8) (j : Nat) (h : j < r.length) : (bRow (List.replicate j 238 ++ r.drop j)).set j [.p (.v (.int .u8 238))] = bRow (List.replicate (j + 1) 238 ++ r.drop (j + 1)) := by
 have h1 : (bRow (List.replicate j 238 ++ r.drop j)).set j [.p (.v (.int .u8 238))] = bRow ((List.replicate j 238 ++ r.drop j).set j 238) := by simp only [bRow, List.map_set]; rfl
 rw [h1]
 congr 1
 rw [List.set_append_right _ _ (by simp)]
 rw [List.length_replicate, Nat.sub_self, List.drop_eq_getElem_cons h, List.set_cons_zero, List.replicate_succ']
 simp
theorem binStr_neq (b : ByteArray) : binStr .neq b b = some (.bool false) := by simp [binStr]
def RecsY (x : PV) (ys : List PV) : Prop := x = .sl 1 (ys.map fun y => [y]) ∧ ys.length ≤ 140737488351232 ∧ ∀ y ∈ ys, ∃ r : List UInt8, y = .sl 1 (encB r) ∧ r.length ≤ 140737488351232
theorem recs_shY {x : PV} (h : HasSh (.sl 24 [.sl 1 [.int .u8]]) x) : ∃ ys, RecsY x ys := by
 rw [HasSh] at h
 obtain ⟨ls, rfl, hl, hc⟩ := h
 let g : List PV → PV := fun c => match c with
  | y :: _ => y
  | _ => .v undef
 have key : ∀ c ∈ ls, [g c] = c ∧ ∃ r : List UInt8, g c = .sl 1 (encB r) ∧ r.length ≤ 140737488351232 := fun c hm => by
  have := hc c hm
  rw [HasShL] at this
  obtain ⟨x1, c', rfl, h1, h2⟩ := this
  rw [HasShL] at h2
  subst h2
  exact ⟨rfl, bytes_sh2 h1⟩
 refine ⟨ls.map g, ?_, by simp; omega, fun y hy => ?_⟩
 ·rw [List.map_map]
  have : ls.map ((fun y => [y]) ∘ g) = ls := by
   conv => rhs; rw [← List.map_id ls]
   exact List.map_congr_left fun c hm => (key c hm).1
  rw [this]; rfl
 ·obtain ⟨c, hm, rfl⟩ := List.mem_map.1 hy
  exact (key c hm).2
theorem aheapSets (x : PV) (ys : List PV) (hx : RecsY x ys) (k : Int) (xr : PV) (rr : List UInt8) (hxr' : xr = .sl 1 (encB rr)) (hrr : rr.length ≤ 140737488351232) (σ : St) : ACalls Try.prog 3 [.p x, intV .i64 k, .p xr] σ fun r σ' => r = boolV true := by
 obtain ⟨rfl, hyl, hys⟩ := hx
 have hxr : BX xr rr := .inl hxr'
 refine acalls_of cxS_ok drS_ok Try.func3 (by kernel_rfl) rfl (nt := 165) (rs := [.tmp 6]) rfl rfl ?_
 repeat' first | ((with_reducible first | refine cs ?_ ?_ | refine ws ?_ ?_ | refine wd ?_ ?_ | refine wu ?_ ?_) <;> intro h <;> try simp only [h]) | simp only [↓wBA, tHs, convA, seval, pl3_29Hs, pl3_36Hs, wH, kindS, tyS, mutsS, lenS] | ((with_reducible show ACalls _ _ _ _ _); refine (aawake6 _).mono ?_; rintro _ s0 ⟨a0, rfl⟩) | (with_reducible refine dP pl3_29Hs 12 (some 130) (by decide) (by kernel_rfl) ?_) | (with_reducible refine dP pl3_36Hs 8 (some 160) (by decide) (by kernel_rfl) ?_) | with_reducible refine And.intro ?_ ?_
 refine (adnew 960 (by omega) _).mono ?_
 rintro _ s1 ⟨dd, Fd, rfl, a1, hd, hFd⟩
 repeat' first | ((with_reducible first | refine cs ?_ ?_ | refine ws ?_ ?_ | refine wd ?_ ?_ | refine wu ?_ ?_) <;> intro h <;> try simp only [h]) | simp only [↓wBA, tHs, convA, seval, pl3_29Hs, pl3_36Hs, wH, kindS, tyS, mutsS, lenS] | (with_reducible refine dP pl3_29Hs 12 (some 130) (by decide) (by kernel_rfl) ?_) | (with_reducible refine dP pl3_36Hs 8 (some 160) (by decide) (by kernel_rfl) ?_) | with_reducible refine And.intro ?_ ?_
 refine (adnew 9000 (by omega) _).mono ?_
 rintro _ s2 ⟨dl, Fl, rfl, a2, hl, hFl⟩
 have hd2 := hd.ap a2
 have b0 := a0.len; have b1 := a1.len; have b2 := a2.len
 repeat' first | ((with_reducible first | refine cs ?_ ?_ | refine ws ?_ ?_ | refine wd ?_ ?_ | refine wu ?_ ?_) <;> intro h <;> try simp only [h]) | simp only [↓wBA, tHs, convA, seval, pl3_29Hs, pl3_36Hs, wH, kindS, tyS, mutsS, lenS] | (with_reducible refine dP pl3_29Hs 12 (some 130) (by decide) (by kernel_rfl) ?_) | (with_reducible refine dP pl3_36Hs 8 (some 160) (by decide) (by kernel_rfl) ?_) | with_reducible refine And.intro ?_ ?_
 refine (aopenN2 hd2 hl (fun t h1 h2 => by have := hd.lt t h1; have := hFl t h2; omega) (by omega) (by omega) 8 (by omega) (by omega)).mono ?_
 rintro _ s3 ⟨p, l, kh, G, P, rfl, a3, hP, p1, p2, p3, p4, p5, p6, p7, p8, p9⟩
 have hpg : P.pages = 120 := by rw [p1]; rfl
 have b3 := a3.len
 clear hd hd2 hl
 have hbud : Bud P 1000000 := ⟨by omega, by rw [p7]; simp, by omega⟩
 repeat' first | ((with_reducible first | refine cs ?_ ?_ | refine ws ?_ ?_ | refine wd ?_ ?_ | refine wu ?_ ?_) <;> intro h <;> try simp only [h]) | simp only [↓wBA, tHs, convA, seval, pl3_29Hs, pl3_36Hs, wH, kindS, tyS, mutsS, lenS] | ((with_reducible show ACalls _ _ _ _ _); refine (abBatch hP).mono ?_; rintro _ s4 ⟨rfl, a4, h4⟩) | (with_reducible refine dP pl3_29Hs 12 (some 130) (by decide) (by kernel_rfl) ?_) | (with_reducible refine dP pl3_36Hs 8 (some 160) (by decide) (by kernel_rfl) ?_) | with_reducible refine And.intro ?_ ?_
 have b4 := a4.len
 refine (amake (T := fun n => n == 0) h4 (by rw [p8]; exact tk_new (by omega)) (by omega) (by omega) rfl (hbud.mono (by omega))).mono ?_
 rintro r s5 ⟨U5, P5, v5, f5, h5, k5, hc⟩
 rcases hc with ⟨m, m1, m2, hTm, rfl, hpm, hvo, hTk⟩ | ⟨hall, _, _⟩
 rotate_left
 ·exact absurd (hall 1 (by omega)) (by decide)
 have b5 := f5.len
 have hpg5 := k5.pages
 obtain ⟨hh5, hr5⟩ := Heap.one (T := updT (fun n => n == 0) m true) m1 m2 (by simp [updT]) hpm
 repeat' first | ((with_reducible first | refine cs ?_ ?_ | refine ws ?_ ?_ | refine wd ?_ ?_ | refine wu ?_ ?_) <;> intro h <;> try simp only [h]) | simp only [↓wBA, tHs, convA, seval, pl3_29Hs, pl3_36Hs, wH, kindS, tyS, mutsS, lenS] | (with_reducible refine dP pl3_29Hs 12 (some 130) (by decide) (by kernel_rfl) ?_) | (with_reducible refine dP pl3_36Hs 8 (some 160) (by decide) (by kernel_rfl) ?_) | with_reducible refine And.intro ?_ ?_
 have cn0 : cnt (updT (fun n => n == 0) m true) 120 = 2 := by rw [cnt_true (T := fun n => n == 0) (k := m) hTm 120 (by omega), cnt_one _ (by omega)]
 have ht0 : updT (fun n => n == 0) m true 0 = true := by unfold updT; rw [if_neg (by omega)]; rfl
 refine awp_loopS (X := { x : Nat × AV × AV // x.1 ≤ 30 ∧ x.1 ≤ ys.length }) (fun x => 30 - x.1.1) (fun x => [(12, x.1.2.1), (13, x.1.2.2), (14, intV .i64 (x.1.1 : Nat))]) [15, 16, 40, 41, 42, 43, 44, 45, 46, 47, 48, 49, 50, 51, 52, 53, 54, 55, 56, 57, 58, 59, 60, 61, 62, 63, 64, 65, 66, 67, 68, 69, 70, 71, 72] (fun x s => s5.length ≤ s.length ∧ ∃ U' P' v' T' ns' es, Bt s s3.length p dd l kh U' P' v' ∧ Heap v' T' 120 ns' ∧ ns'[0]? = some m ∧ PutI v' ns' es ∧ Tk (v' 0) 120 T' ∧ T' 0 = true ∧ cnt T' 120 ≤ x.1.1 + 2 ∧ ns'.length ≤ x.1.1 + 1 ∧ P'.pages = 120 ∧ Bud P' (900000 - 100 * x.1.1) ∧ OwnR s x.1.2.1 37 2 (atS es) ∧ MutR s x.1.2.2 1 (wantS es) ∧ (∀ t, ownOf x.1.2.1 = some t → ¬ U' t) ∧ (∀ t, msOf x.1.2.2 = some t → ¬ U' t) ∧ es.length ≤ x.1.1) (⟨(0, .p (.v (.slice none 0 0)), .p (.v (.slice none 0 0))), by omega, by omega⟩) ?_ ?_ ?_ ?_
 ·simp only [wHl, wHf]
 ·exact ⟨Nat.le_refl _, U5, P5, v5, _, [m], [], h5, by rw [← hpg]; exact hh5, rfl, ⟨by simp, by simp⟩, by rw [← hpg]; exact hTk, ht0, by rw [cn0]; exact Nat.le_refl _, by simp, by rw [hpg5, hpg], (hbud.kp k5 (by omega)), .inl ⟨rfl, rfl⟩, .inl ⟨rfl, rfl⟩, by simp [ownOf], by simp [msOf], by simp⟩
 ·rintro _ _ ⟨h, _⟩; omega
 ·intro y J q hI
  clear h4 h5 f5 k5 hTk hvo hpm hh5 hr5 hTm cn0 ht0
  simp only [wHl]
  obtain ⟨⟨i, a12, a13⟩, hi, hi2⟩ := y
  obtain ⟨hq, U1, P1, v1, T1, ns1, es, h1, hh1, hm0, hput, hT1, hT10, hcn, hns, hpg1, hb1, ho, hw, hoU, hwU, hel⟩ := hI
  dsimp only at *
  have hln : ((ys.map fun y => [y]).length : Int) = (ys.length : Int) := by simp
  by_cases hlt : i < 30 ∧ i < ys.length
  ·have e1 := dT (i := i) (n := ys.length) hlt.2
   have e2 : decide ((i : Int) < 30) = true := by simp; omega
   obtain ⟨y, hy⟩ : ∃ y, ys[i]? = some y := ⟨ys[i]'hlt.2, by simp⟩
   have hget : (ys.map fun y => [y])[i]? = some [y] := by simp [hy]
   obtain ⟨r, hr', hrl⟩ := hys y (List.mem_of_getElem? hy)
   have hr : BX y r := .inl hr'
   have b1' : ((i : Int) < (ys.length : Int)) = True := eq_true (by omega)
   have b2' := nnI i
   have hwi := wI i (by omega)
   repeat' first | ((with_reducible first | refine cs ?_ ?_ | refine ws ?_ ?_ | refine wd ?_ ?_ | refine wu ?_ ?_) <;> intro h <;> try simp only [h]) | simp only [↓wBA, tHs, convA, seval, pl3_29Hs, pl3_36Hs, wH, wHl, kindS, tyS, mutsS, lenS, appS, hln, e1, e2, List.length_map, hget, b1', b2', Int.toNat_natCast] | (with_reducible refine dP pl3_29Hs 12 (some 130) (by decide) (by kernel_rfl) ?_) | (with_reducible refine dP pl3_36Hs 8 (some 160) (by decide) (by kernel_rfl) ?_) | with_reducible refine And.intro ?_ ?_
   by_cases hr4 : r.length ≤ 400
   ·refine (ahinsert (first := m) (r := r) (T := T1) h1 (by rw [hpg1]; exact hT1) (by omega) hT10 (by rw [hpg1]; exact hh1) hm0 (.inl ⟨y, rfl, hr⟩) hr4 (by simp [msOf]) (hb1.mono (by omega))).mono ?_
    rintro q6 s6 ⟨U6, P6, v6, f6, h6, k6, hc6⟩
    rcases hc6 with ⟨n, k', T6, ns6, rfl, hI6⟩ | ⟨hall, _, _⟩
    rotate_left
    ·have := cnt_all (T := T1) 120 fun a ha => hall a (by omega)
     omega
    have l6 := f6.len
    rw [hpg1] at hI6
    have ho6 := ho.same (q' := s6) fun t ht => f6.keep t (ho.lt ht) (hoU t ht)
    have hw6 := hw.same (s := s6) fun t ht => f6.keep t (hw.lt ht) (hwU t ht)
    have hoU6 : ∀ t, ownOf a12 = some t → ¬ U6 t := fun t ht e => (f6.own t e).elim (hoU t ht) fun e => by have := ho.lt ht; omega
    have hwU6 : ∀ t, msOf a13 = some t → ¬ U6 t := fun t ht e => (f6.own t e).elim (hwU t ht) fun e => by have := hw.lt ht; omega
    obtain ⟨S7, hS7⟩ : ∃ S7, S7 = s6 ++ [some (Ob.row 2 [[AV.p (.v (.int .i64 (n : Nat))), AV.p (.v (.int .i64 (k' : Nat)))]])] ++ [some (.right 37 2)] := ⟨_, rfl⟩
    have a7 : Ap s6 S7 := by rw [hS7]; exact (Ap.app _ _).more _
    have l7 : S7.length = s6.length + 2 := by rw [hS7]; simp
    have ho7 := ho6.same (q' := S7) fun t ht => by have := ho6.lt ht; rw [hS7, List.append_assoc, List.getElem?_append_left this]
    obtain ⟨a12', s8, h8, ho8, l8, m8, v8⟩ := app_own (q := S7) (y := .own (s6.length + 1) 2 [[.v (.int .i64 (n : Nat)), .v (.int .i64 (k' : Nat))]]) (m := [[.v (.int .i64 (n : Nat)), .v (.int .i64 (k' : Nat))]]) ck_35 ho7 rfl (by simp) (by simp [atS]; omega) (by simp [atS]; omega)
    rw [l7, hS7] at h8
    have hw8 : MutR (s8 ++ [some (.right 23 1)]) a13 1 (wantS es) := hw6.same fun t ht => by
     have h1 := hw6.lt ht
     rw [List.getElem?_append_left (by omega), m8 t (by omega) (fun e => own_ms_ne ho6 hw6 e ht), hS7, List.append_assoc, List.getElem?_append_left h1]
    obtain ⟨s9, h9, r9, l9, m9⟩ := app_mut (C := cxS) (q := s8 ++ [some (.right 23 1)]) (y := .own s8.length 1 [[y]]) (m := [[.p y]]) ((kindS _).trans ck_22) hw8 rfl (by simp) (by simp [wantS]; omega) (by simp [wantS]; omega)
    simp only [List.length_append, List.length_cons, List.length_nil, Nat.zero_add] at h9 r9 l9 m9
    repeat' first | ((with_reducible first | refine cs ?_ ?_ | refine ws ?_ ?_ | refine wd ?_ ?_ | refine wu ?_ ?_) <;> intro h <;> try simp only [h]) | simp only [↓wBA, tHs, convA, seval, pl3_29Hs, pl3_36Hs, wH, wHl, kindS, tyS, mutsS, lenS, appS, hln, List.length_map, hget, b1', b2', Int.toNat_natCast, h8, h9, hwi] | (with_reducible refine dP pl3_29Hs 12 (some 130) (by decide) (by kernel_rfl) ?_) | (with_reducible refine dP pl3_36Hs 8 (some 160) (by decide) (by kernel_rfl) ?_) | with_reducible refine And.intro ?_ ?_
    refine ⟨⟨(i + 1, a12', .ms (s8.length + 1) 1 0 ((wantS es).length + 1)), by omega, by omega⟩, by show 30 - (i + 1) < 30 - i; omega, ?_, by simp only [wHl, wHf]⟩
    dsimp only
    have hlt6 := h6.lt
    have hB9 := h6.same (s := s9) fun t ht => by
     have h1 := hlt6 t ht
     rw [m9 t (by omega) (fun e => hwU6 t e ht), List.getElem?_append_left (by omega), m8 t (by omega) (fun e => hoU6 t e ht), hS7, List.append_assoc, List.getElem?_append_left h1]
    have hm6 : ns6[0]? = some m := by
     rcases hI6.pages with ⟨rfl, _⟩ | ⟨q, _, _, rfl, _⟩
     ·exact hm0
     ·have := (List.getElem?_eq_some_iff.1 hm0).1
      rw [List.getElem?_append_left this]; exact hm0
    have hc6 : cnt T6 120 ≤ i + 1 + 2 ∧ ns6.length ≤ i + 1 + 1 := by
     rcases hI6.pages with ⟨rfl, rfl, _⟩ | ⟨q, hq1, hq2, rfl, rfl⟩
     ·exact ⟨by omega, by omega⟩
     ·rw [cnt_true hq1 120 hq2]
      exact ⟨by omega, by simp; omega⟩
    refine ⟨by omega, U6, P6, v6, T6, ns6, es ++ [((n, k'), y, r)], hB9, hI6.heap, hm6, hput.add hI6 hr' hr4, hI6.tk, hI6.t0, hc6.1, hc6.2, by rw [k6.pages]; exact hpg1, hb1.kp k6 (by omega), ?_, ?_, fun t ht e => ?_, fun t ht e => ?_, by simp; omega⟩
    ·have : atS (es ++ [((n, k'), y, r)]) = atS es ++ [[.v (.int .i64 (n : Nat)), .v (.int .i64 (k' : Nat))]] := by simp [atS]
     rw [this]
     refine ho8.same fun t ht => ?_
     have h1 := ho8.lt ht
     rw [m9 t (by omega) (fun e => (v8 t ht).elim (fun e' => own_ms_ne ho6 hw6 e' e) fun e' => by have := hw6.lt e; omega), List.getElem?_append_left h1]
    ·have : wantS (es ++ [((n, k'), y, r)]) = wantS es ++ [[.p y]] := by simp [wantS]
     rw [this]
     exact .inr ⟨s8.length + 1, by simp, by simp, r9⟩
    ·exact (v8 t ht).elim (fun e' => hoU6 t e' e) fun e' => by have := hlt6 t e; omega
    ·simp only [msOf, Option.some.injEq] at ht
     have := hlt6 t e; omega
   ·skip
    repeat' first | ((with_reducible first | refine cs ?_ ?_ | refine ws ?_ ?_ | refine wd ?_ ?_ | refine wu ?_ ?_) <;> intro h <;> try simp only [h]) | simp only [↓wBA, tHs, convA, seval, pl3_29Hs, pl3_36Hs, wH, wHl, kindS, tyS, mutsS, lenS, appS, hwi] | ((with_reducible show ACalls _ _ _ _ _); refine (ahinsertL (.inl ⟨y, rfl, hr⟩) (by omega)).mono ?_; rintro _ s6 ⟨rfl, a6⟩) | (with_reducible refine dP pl3_29Hs 12 (some 130) (by decide) (by kernel_rfl) ?_) | (with_reducible refine dP pl3_36Hs 8 (some 160) (by decide) (by kernel_rfl) ?_) | with_reducible refine And.intro ?_ ?_
    have a6' : Ap q (s6 ++ [some (.row 2 [[intV .i64 0, intV .i64 0]])]) := a6.more _
    have l6 := a6.len
    refine ⟨⟨(i + 1, a12, a13), by omega, by omega⟩, by show 30 - (i + 1) < 30 - i; omega, ?_, by simp only [wHl, wHf]⟩
    dsimp only
    exact ⟨by omega, U1, P1, v1, T1, ns1, es, h1.ap a6', hh1, hm0, hput, hT1, hT10, by omega, by omega, hpg1, hb1.mono (by omega), ho.same fun t ht => (Ap.fr (F := fun _ => False) a6').keep t (ho.lt ht) id, hw.same fun t ht => (Ap.fr (F := fun _ => False) a6').keep t (hw.lt ht) id, hoU, hwU, by omega⟩
  ·have hout : (decide ((i : Int) < (ys.length : Int)) = false ∧ decide ((i : Int) < 30) = decide ((i : Int) < 30)) ∨ (decide ((i : Int) < (ys.length : Int)) = true ∧ decide ((i : Int) < 30) = false) := by
    by_cases h : i < ys.length
    ·right; exact ⟨dT h, by simp; omega⟩
    ·left; exact ⟨dF (by omega), rfl⟩
   have hla : lenA cx 35 a12 = some es.length := by
    rcases ho with ⟨rfl, h⟩ | ⟨t, rfl, h, _⟩
    ·have : es = [] := by simpa [atS] using h
     subst this; rfl
    ·show (match cx.kind 35 with | some (.slice ..) => some (atS es).length | _ => none) = _
     rw [ck_35]; simp [atS]
   rcases hout with ⟨e1, -⟩ | ⟨e1, e2⟩
   ·skip
    by_cases hes : es = []
    ·have e0 : ((es.length : Int) == 0) = true := by subst hes; rfl
     repeat' first | ((with_reducible first | refine cs ?_ ?_ | refine ws ?_ ?_ | refine wd ?_ ?_ | refine wu ?_ ?_) <;> intro h <;> try simp only [h]) | simp only [↓wBA, tHs, convA, seval, pl3_29Hs, pl3_36Hs, wH, wHl, kindS, tyS, mutsS, lenS, appS, hln, e1, List.length_map, hla, e0] | (with_reducible refine dP pl3_29Hs 12 (some 130) (by decide) (by kernel_rfl) ?_) | (with_reducible refine dP pl3_36Hs 8 (some 160) (by decide) (by kernel_rfl) ?_) | with_reducible refine And.intro ?_ ?_
     all_goals refine ret_st ?_ (by first | exact Nat.le_refl _ | (simp only [List.length_set, List.length_append]; omega) | omega)
     all_goals simp only [resA.eq_1, resL.eq_1, resL.eq_2, resV.eq_1, resV.eq_2, ↓wBA, tHs, convA, seval, wH, kindS, tyS, mutsS, lenS]
    ·have hpos : 0 < es.length := List.length_pos_iff.2 hes
     have e0 : ((es.length : Int) == 0) = false := by simp; omega
     obtain ⟨kk, hkk⟩ : ∃ kk : Nat, IntKind.u64.wrap k = (kk : Int) := ⟨(IntKind.u64.wrap k).toNat, by rw [IntKind.wrap_u64]; omega⟩
     have hul : IntKind.u64.wrap (es.length : Int) = (es.length : Int) := by rw [IntKind.wrap_u64]; omega
     have hz : ((es.length : Int) = 0) = False := eq_false (by omega)
     obtain ⟨j, hj⟩ : ∃ j, j = kk % es.length := ⟨_, rfl⟩
     have hjl : j < es.length := by rw [hj]; exact Nat.mod_lt _ hpos
     have htm : (kk : Int).tmod (es.length : Int) = (j : Int) := by rw [Int.tmod_eq_emod_of_nonneg (by omega)]; omega
     have hwj : IntKind.i64.wrap (j : Int) = (j : Int) := wrap_i64 (by omega) (by omega)
     obtain ⟨⟨⟨n, kp⟩, y, r⟩, hej⟩ : ∃ e, es[j]? = some e := ⟨es[j], by simp⟩
     obtain ⟨hg1, hg2, hg3⟩ := hput.get _ (List.mem_of_getElem? hej)
     obtain ⟨t12, rfl, _, ho12⟩ : ∃ t, a12 = .own t 2 (atS es) ∧ atS es ≠ [] ∧ q[t]? = some (some (.right 37 ((atS es).length * 2))) := by
      rcases ho with ⟨_, h⟩ | h
      ·exact absurd (by simpa [atS] using h) hes
      ·exact h
     obtain ⟨t13, rfl, _, ho13⟩ : ∃ t, a13 = .ms t 1 0 (wantS es).length ∧ wantS es ≠ [] ∧ q[t]? = some (some (.row 1 (wantS es))) := by
      rcases hw with ⟨_, h⟩ | h
      ·exact absurd (by simpa [wantS] using h) hes
      ·exact h
     have y13 := at_lt ho13
     have hgat : (atS es)[j]? = some [.v (.int .i64 (n : Nat)), .v (.int .i64 (kp : Nat))] := by simp [atS, hej]
     have hgw : (wantS es)[j]? = some [.p y] := by simp [wantS, hej]
     have hwl : (wantS es).length = es.length := by simp [wantS]
     have hal : (atS es).length = es.length := by simp [atS]
     have u1 := nnI j
     have u2 : ((j : Int) < (es.length : Int)) = True := eq_true (by omega)
     have hnn : n ∈ ns1 := by
      unfold HRec at hg1
      by_cases h : n ∈ ns1
      ·exact h
      ·rw [if_neg h] at hg1; cases hg1
     obtain ⟨ii, hii⟩ := List.getElem?_of_mem hnn
     obtain ⟨ss, hp⟩ := hh1.ch.get hii
     obtain ⟨n1, n2, n3⟩ := hh1.tk n hnn
     have hrec : recOf v1 n kp = some r := by unfold HRec at hg1; rw [if_pos hnn] at hg1; exact hg1
     have hk1 : 1 ≤ kp := by
      rcases Nat.eq_zero_or_pos kp with h | h
      ·rw [h, recOf_zero] at hrec; cases hrec
      ·exact h
     have hgl : getL (v1 n) (kp : Nat) = some r := by unfold recOf at hrec; rw [if_neg (by omega)] at hrec; exact hrec
     have hly : lenA cx 23 (.p y) = some r.length := RecA.len (σ := q) (.inl ⟨y, rfl, .inl hg2⟩)
     have hlx : lenA cx 23 (.p xr) = some rr.length := RecA.len (σ := q) (.inl ⟨xr, rfl, hxr⟩)
     repeat' first | ((with_reducible first | refine cs ?_ ?_ | refine ws ?_ ?_ | refine wd ?_ ?_ | refine wu ?_ ?_) <;> intro h <;> try simp only [h]) | simp only [↓wBA, tHs, convA, seval, pl3_29Hs, pl3_36Hs, wH, wHl, kindS, tyS, mutsS, lenS, appS, hln, e1, List.length_map, hla, e0, hkk, hul, hz, htm, hwj, hgat, hal, u1, u2, Int.toNat_natCast] | (with_reducible refine dP pl3_29Hs 12 (some 130) (by decide) (by kernel_rfl) ?_) | (with_reducible refine dP pl3_36Hs 8 (some 160) (by decide) (by kernel_rfl) ?_) | with_reducible refine And.intro ?_ ?_
     rcases Nat.lt_or_ge r.length rr.length with hlen | hlen
     ·refine (ahsetL h1 n1 (by rw [hpg1]; exact n2) hp (hb1.mono (by omega)) hgl hk1 hxr hlen).mono ?_
      rintro _ s2 ⟨rfl, U2, P2, f2, hB2, k2⟩
      have hq2 := f2.len
      have hrow2 := f2.get ho13 (hwU t13 rfl)
      have hrow2o := hrow2
      have yr2 := at_lt hrow2
      have hU2 : ¬ U2 t13 := fun e => (f2.own _ e).elim (hwU t13 rfl) fun e => by omega
      have hpg2 : P2.pages = 120 := by rw [k2.pages]; exact hpg1
      have hb2 : Bud P2 800000 := hb1.kp k2 (by omega)
      have hle : decide ((rr.length : Int) ≤ (r.length : Int)) = false := by simp; omega
      have hh2 := hh1
      have hput2 := hput
      obtain ⟨v2, hv2⟩ : ∃ v2, v2 = v1 := ⟨_, rfl⟩
      rw [← hv2] at hB2 hh2 hput2
      obtain ⟨es2, hes2⟩ : ∃ es2, es2 = es := ⟨_, rfl⟩
      have hat2 : atS es = atS es2 := by rw [hes2]
      have hla2 : lenA cx 35 (.own t12 2 (atS es2)) = some es2.length := by rw [hes2]; exact hla
      rw [← hes2] at hput2 hrow2
      repeat' first | ((with_reducible first | refine cs ?_ ?_ | refine ws ?_ ?_ | refine wd ?_ ?_ | refine wu ?_ ?_) <;> intro h <;> try simp only [h]) | simp only [↓wBA, tHs, convA, seval, pl3_29Hs, pl3_36Hs, wH, wHl, kindS, tyS, mutsS, lenS, appS, hlx, hly, hle, hwl, hgw, u1, u2, Int.toNat_natCast, hrow2o, yr2, hla] | (with_reducible refine dP pl3_29Hs 12 (some 130) (by decide) (by kernel_rfl) ?_) | (with_reducible refine dP pl3_36Hs 8 (some 160) (by decide) (by kernel_rfl) ?_) | with_reducible refine And.intro ?_ ?_
      rw [hat2, show es.length = es2.length by rw [hes2]]
      have hel2 : es2.length ≤ 30 := by rw [hes2]; omega
      have hal2 : (atS es2).length = es2.length := by simp [atS]
      have hwl2 : (wantS es2).length = es2.length := by simp [wantS]
      have y13' := at_lt hrow2
      refine awp_loopS (X := { i : Nat // i ≤ es2.length }) (fun i => es2.length - i.1) (fun i => [(19, intV .i64 (i.1 : Nat))]) [6, 20, 21, 22, 115, 116, 117, 118, 119, 120, 121, 122, 123, 124, 125, 126, 127, 128, 129, 130, 131, 132, 133, 134, 135, 136, 137, 138, 139, 140, 141, 142, 143, 144, 145, 146, 147, 148, 149, 150, 151, 152, 153, 154, 155, 156, 157, 158, 159, 160, 161, 162, 163, 164, 165, 166, 167] (fun i s => s2.length ≤ s.length ∧ ∃ U' P', Bt s s3.length p dd l kh U' P' v2 ∧ P'.pages = 120 ∧ Bud P' (800000 - 10 * i.1) ∧ s[t13]? = some (some (.row 1 (wantS es2))) ∧ ¬ U' t13) (⟨0, by omega⟩) ?_ ?_ ?_ ?_
      ·simp only [wHl, wHf]
      ·exact ⟨Nat.le_refl _, U2, P2, hB2, hpg2, hb2, hrow2, hU2⟩
      ·rintro _ _ ⟨h, _⟩; have := hq2; omega
      ·intro y3 J3 q3 hI3
       clear hB2 hpg2 hb2 hU2
       simp only [wHl]
       obtain ⟨i2, hi2⟩ := y3
       obtain ⟨hq3, U3, P3, hB3, hpg3, hb3, hrow3, hU3⟩ := hI3
       dsimp only at *
       have y3' := at_lt hrow3
       by_cases hil : i2 < es2.length
       ·have e3 := dT hil
        obtain ⟨⟨⟨n3, k3⟩, y3, r3⟩, he3⟩ : ∃ e, es2[i2]? = some e := ⟨es2[i2], by simp⟩
        obtain ⟨hg31, hg32, hg33⟩ := hput2.get _ (List.mem_of_getElem? he3)
        have hga3 : (atS es2)[i2]? = some [.v (.int .i64 (n3 : Nat)), .v (.int .i64 (k3 : Nat))] := by simp [atS, he3]
        have hgw3 : (wantS es2)[i2]? = some [.p y3] := by simp [wantS, he3]
        have u31 := nnI i2
        have u32 : ((i2 : Int) < (es2.length : Int)) = True := eq_true (by omega)
        have hnn3 : n3 ∈ ns1 := by
         unfold HRec at hg31
         by_cases h : n3 ∈ ns1
         ·exact h
         ·rw [if_neg h] at hg31; cases hg31
        obtain ⟨ii3, hii3⟩ := List.getElem?_of_mem hnn3
        obtain ⟨ss3, hp3⟩ := hh2.ch.get hii3
        obtain ⟨m31, m32, _⟩ := hh2.tk n3 hnn3
        have hrec3 : recOf v2 n3 k3 = some r3 := by unfold HRec at hg31; rw [if_pos hnn3] at hg31; exact hg31
        have hk31 : 1 ≤ k3 := by
         rcases Nat.eq_zero_or_pos k3 with h | h
         ·rw [h, recOf_zero] at hrec3; cases hrec3
         ·exact h
        have hgl3 : getL (v2 n3) (k3 : Nat) = some r3 := by unfold recOf at hrec3; rw [if_neg (by omega)] at hrec3; exact hrec3
        have hg32' : y3 = .sl 1 (encB r3) := hg32
        subst hg32'
        have hcy := convB_bx (.inl rfl : BX (.sl 1 (encB r3)) r3)
        have hwi2 := wI i2 (by omega)
        repeat' first | ((with_reducible first | refine cs ?_ ?_ | refine ws ?_ ?_ | refine wd ?_ ?_ | refine wu ?_ ?_) <;> intro h <;> try simp only [h]) | simp only [↓wBA, tHs, convA, seval, pl3_29Hs, pl3_36Hs, wH, wHl, kindS, tyS, mutsS, lenS, appS, e3, hal2, hga3, u31, u32, Int.toNat_natCast] | (with_reducible refine dP pl3_29Hs 12 (some 130) (by decide) (by kernel_rfl) ?_) | (with_reducible refine dP pl3_36Hs 8 (some 160) (by decide) (by kernel_rfl) ?_) | with_reducible refine And.intro ?_ ?_
        refine (ahgetW hB3 (by rw [hpg3]; exact m32) hp3 (hb3.mono (by omega)) hgl3 hk31).mono ?_
        rintro _ s4 ⟨t, rfl, ht, hrow, U4, P4, f4, hB4, k4, hU4⟩
        have l4 := f4.len
        have y4 := at_lt hrow
        have hrow4 := f4.get hrow3 hU3
        have y14 := at_lt hrow4
        have hU14 : ¬ U4 t13 := fun e => (f4.own _ e).elim hU3 fun e => by omega
        have hcx : ∀ {S : St}, S[t]? = some (some (.row 1 (bRow r3))) → convC cx 23 9 (.ms t 1 0 r3.length) S = some (.p (.v (.string ⟨r3.toArray⟩)), S) := fun h => convC_ms h
        have hne13 : t13 ≠ t := fun e => by omega
        have hcx4 := hcx hrow
        have hcx5 := hcx (S := s4.set t13 none) (by rw [List.getElem?_set_ne hne13]; exact hrow)
        have hcxb := convB_ms (t := t) (n := r3.length)
        have hbn := binStr_neq ⟨r3.toArray⟩
        repeat' first | ((with_reducible first | refine cs ?_ ?_ | refine ws ?_ ?_ | refine wd ?_ ?_ | refine wu ?_ ?_) <;> intro h <;> try simp only [h]) | simp only [↓wBA, tHs, convA, seval, pl3_29Hs, pl3_36Hs, wH, wHl, kindS, tyS, mutsS, lenS, appS, convBS, convCS, hwl2, hgw3, u31, u32, Int.toNat_natCast, hrow4, y14, hrow, y4, hcx4, hcx5, hcxb, hcy, hbn] | (with_reducible refine dP pl3_29Hs 12 (some 130) (by decide) (by kernel_rfl) ?_) | (with_reducible refine dP pl3_36Hs 8 (some 160) (by decide) (by kernel_rfl) ?_) | with_reducible refine And.intro ?_ ?_
        refine awp_loopS (X := { j : Nat // j ≤ r3.length }) (fun j => r3.length - j.1) (fun j => [(22, intV .i64 (j.1 : Nat))]) [142, 143, 144, 145, 146, 147, 148, 149, 150] (fun j s => s = s4.set t (some (.row 1 (bRow (List.replicate j.1 238 ++ r3.drop j.1))))) (⟨0, by omega⟩) ?_ ?_ ?_ ?_
        ·simp only [wHl, wHf]
        ·simp only [List.replicate_zero, List.nil_append, List.drop_zero]; exact (set_back hrow).symm
        ·rintro _ _ rfl; simp
        ·intro y5 J5 q5 hI5
         simp only [wHl]
         obtain ⟨jj, hjj⟩ := y5
         subst hI5
         dsimp only at *
         have hlen5 : (List.replicate jj (238 : UInt8) ++ r3.drop jj).length = r3.length := by simp; omega
         have x5 : (s4.set t (some (.row 1 (bRow (List.replicate jj 238 ++ r3.drop jj)))))[t]? = some (some (.row 1 (bRow (List.replicate jj 238 ++ r3.drop jj)))) := by simp [y4]
         have hkm := km_23 (t := t) (e := 1) (j := 0) (n := r3.length)
         by_cases hjlt : jj < r3.length
         ·have e5 := dT hjlt
          have v51 := nnI jj
          have v52 : ((jj : Int) < (r3.length : Int)) = True := eq_true (by omega)
          have v53 := wI jj (by omega)
          obtain ⟨c5, hc5'⟩ : ∃ c, (List.replicate jj (238 : UInt8) ++ r3.drop jj)[jj]? = some c := ⟨_, List.getElem?_eq_getElem (by omega)⟩
          have hc5 : (bRow (List.replicate jj 238 ++ r3.drop jj))[jj]? = some [.p (byteP c5)] := by simp only [bRow, List.getElem?_map, hc5']; rfl
          have hset5 := bRow_mark r3 jj hjlt
          repeat' first | ((with_reducible first | refine cs ?_ ?_ | refine ws ?_ ?_ | refine wd ?_ ?_ | refine wu ?_ ?_) <;> intro h <;> try simp only [h]) | simp only [↓wBA, tHs, convA, seval, pl3_29Hs, pl3_36Hs, wH, wHl, kindS, tyS, mutsS, lenS, appS, e5, hkm, v51, v52, v53, Int.toNat_natCast, x5, y4, hc5, hset5, byteP] | (with_reducible refine dP pl3_29Hs 12 (some 130) (by decide) (by kernel_rfl) ?_) | (with_reducible refine dP pl3_36Hs 8 (some 160) (by decide) (by kernel_rfl) ?_) | with_reducible refine And.intro ?_ ?_
          exact ⟨⟨jj + 1, by omega⟩, by show r3.length - (jj + 1) < r3.length - jj; omega, rfl, by simp only [wHl, wHf]⟩
         ·obtain rfl : jj = r3.length := by omega
          have e5 := dF (i := r3.length) (n := r3.length) (by omega)
          obtain ⟨S5, hS5⟩ : ∃ S5, S5 = s4.set t (some (.row 1 (bRow (List.replicate r3.length 238 ++ r3.drop r3.length)))) := ⟨_, rfl⟩
          rw [← hS5]
          have hB5 : Bt S5 s3.length p dd l kh U4 P4 v2 := by rw [hS5]; exact hB4.set hU4 _
          have hrow5 : S5[t13]? = some (some (.row 1 (wantS es2))) := by rw [hS5, List.getElem?_set_ne (fun e => hne13 e.symm)]; exact hrow4
          have l5 : S5.length = s4.length := by rw [hS5]; simp
          repeat' first | ((with_reducible first | refine cs ?_ ?_ | refine ws ?_ ?_ | refine wd ?_ ?_ | refine wu ?_ ?_) <;> intro h <;> try simp only [h]) | simp only [↓wBA, tHs, convA, seval, pl3_29Hs, pl3_36Hs, wH, wHl, kindS, tyS, mutsS, lenS, appS, e5, hkm, hal2, hga3, u31, u32, Int.toNat_natCast] | (with_reducible refine dP pl3_29Hs 12 (some 130) (by decide) (by kernel_rfl) ?_) | (with_reducible refine dP pl3_36Hs 8 (some 160) (by decide) (by kernel_rfl) ?_) | with_reducible refine And.intro ?_ ?_
          refine (ahgetW hB5 (by rw [k4.pages, hpg3]; exact m32) hp3 ((hb3.kp k4 (k := 1) (by omega)).mono (Nat.le_refl 1)) hgl3 hk31).mono ?_
          rintro _ s6 ⟨t', rfl, ht', hrow', U6, P6, f6, hB6, k6, hU6⟩
          have l6 := f6.len
          have y6 := at_lt hrow'
          have hrow6 := f6.get hrow5 hU14
          have y16 := at_lt hrow6
          have hU16 : ¬ U6 t13 := fun e => (f6.own _ e).elim hU14 fun e => by omega
          have hne16 : t13 ≠ t' := fun e => by omega
          have hcx6 := convC_ms hrow'
          have hcx7 := convC_ms (S := s6.set t13 none) (t := t') (r := r3) (by rw [List.getElem?_set_ne hne16]; exact hrow')
          have hcxb6 := convB_ms (t := t') (n := r3.length)
          repeat' first | ((with_reducible first | refine cs ?_ ?_ | refine ws ?_ ?_ | refine wd ?_ ?_ | refine wu ?_ ?_) <;> intro h <;> try simp only [h]) | simp only [↓wBA, tHs, convA, seval, pl3_29Hs, pl3_36Hs, wH, wHl, kindS, tyS, mutsS, lenS, appS, convBS, convCS, hwl2, hgw3, u31, u32, Int.toNat_natCast, hrow6, y16, hrow', y6, hcx6, hcx7, hcxb6, hcy, hbn, hwi2] | (with_reducible refine dP pl3_29Hs 12 (some 130) (by decide) (by kernel_rfl) ?_) | (with_reducible refine dP pl3_36Hs 8 (some 160) (by decide) (by kernel_rfl) ?_) | with_reducible refine And.intro ?_ ?_
          all_goals
           refine ⟨⟨i2 + 1, by omega⟩, by show es2.length - (i2 + 1) < es2.length - i2; omega, ⟨by omega, U6, P6, hB6, by rw [k6.pages, k4.pages]; exact hpg3, hb3.kp (k4.trans k6) (k := 800000 - 10 * (i2 + 1)) (by omega), hU16⟩, by simp only [wHl, wHf]⟩
       ·obtain rfl : i2 = es2.length := by omega
        have e3 := dF (i := es2.length) (n := es2.length) (by omega)
        repeat' first | ((with_reducible first | refine cs ?_ ?_ | refine ws ?_ ?_ | refine wd ?_ ?_ | refine wu ?_ ?_) <;> intro h <;> try simp only [h]) | simp only [↓wBA, tHs, convA, seval, pl3_29Hs, pl3_36Hs, wH, wHl, kindS, tyS, mutsS, lenS, appS, e3, hal2] | (with_reducible refine dP pl3_29Hs 12 (some 130) (by decide) (by kernel_rfl) ?_) | (with_reducible refine dP pl3_36Hs 8 (some 160) (by decide) (by kernel_rfl) ?_) | with_reducible refine And.intro ?_ ?_
        all_goals refine ret_st ?_ (by first | exact Nat.le_refl _ | (simp only [List.length_set, List.length_append]; omega) | omega)
        all_goals simp only [resA.eq_1, resL.eq_1, resL.eq_2, resV.eq_1, resV.eq_2, ↓wBA, tHs, convA, seval, wH, kindS, tyS, mutsS, lenS]
     ·have hg400 := hg3
      refine (ahset h1 n1 (by rw [hpg1]; exact n2) hp (hb1.mono (by omega)) hgl hk1 hxr hlen).mono ?_
      rintro _ s2a ⟨rfl, U2, P2, f2, hB2a, k2⟩
      have hq2a := f2.len
      have hrow2a := f2.get ho13 (hwU t13 rfl)
      have yr2 := at_lt hrow2a
      have hU2 : ¬ U2 t13 := fun e => (f2.own _ e).elim (hwU t13 rfl) fun e => by omega
      have hpg2 : P2.pages = 120 := by rw [k2.pages]; exact hpg1
      have hb2 : Bud P2 800000 := hb1.kp k2 (by omega)
      have hle : decide ((rr.length : Int) ≤ (r.length : Int)) = true := by simp; omega
      obtain ⟨hh2, hput2⟩ := hput.set hh1 hej hxr' hlen
      obtain ⟨v2, hv2⟩ : ∃ v2, v2 = upV v1 n (setL (v1 n) (kp : Nat) rr).1 := ⟨_, rfl⟩
      rw [← hv2] at hB2a hh2 hput2
      obtain ⟨es2, hes2⟩ : ∃ es2, es2 = es.set j ((n, kp), xr, rr) := ⟨_, rfl⟩
      have hat2 : atS es = atS es2 := by rw [hes2, atS_set hej]
      have hes2l : es.length = es2.length := by rw [hes2]; simp
      have hws : (wantS es).set j [.p xr] = wantS es2 := by rw [hes2]; exact wantS_set (e := ((n, kp), xr, rr))
      have hla2 : lenA cx 35 (.own t12 2 (atS es2)) = some es2.length := by rw [← hat2, ← hes2l]; exact hla
      rw [← hes2] at hput2
      repeat' first | ((with_reducible first | refine cs ?_ ?_ | refine ws ?_ ?_ | refine wd ?_ ?_ | refine wu ?_ ?_) <;> intro h <;> try simp only [h]) | simp only [↓wBA, tHs, convA, seval, pl3_29Hs, pl3_36Hs, wH, wHl, kindS, tyS, mutsS, lenS, appS, hlx, hly, hle, hwl, hgw, u1, u2, Int.toNat_natCast, hrow2a, yr2, hla, hws] | (with_reducible refine dP pl3_29Hs 12 (some 130) (by decide) (by kernel_rfl) ?_) | (with_reducible refine dP pl3_36Hs 8 (some 160) (by decide) (by kernel_rfl) ?_) | with_reducible refine And.intro ?_ ?_
      obtain ⟨s2, hs2⟩ : ∃ s2, s2 = s2a.set t13 (some (.row 1 (wantS es2))) := ⟨_, rfl⟩
      rw [← hs2, hat2, hes2l]
      have hB2 : Bt s2 s3.length p dd l kh U2 P2 v2 := by rw [hs2]; exact hB2a.set hU2 _
      have hrow2 : s2[t13]? = some (some (.row 1 (wantS es2))) := by rw [hs2]; simp [yr2]
      have hq2 : q.length ≤ s2.length := by rw [hs2]; simpa using hq2a
      have hel2 : es2.length ≤ 30 := by omega
      have hal2 : (atS es2).length = es2.length := by simp [atS]
      have hwl2 : (wantS es2).length = es2.length := by simp [wantS]
      have y13' := at_lt hrow2
      refine awp_loopS (X := { i : Nat // i ≤ es2.length }) (fun i => es2.length - i.1) (fun i => [(19, intV .i64 (i.1 : Nat))]) [6, 20, 21, 22, 115, 116, 117, 118, 119, 120, 121, 122, 123, 124, 125, 126, 127, 128, 129, 130, 131, 132, 133, 134, 135, 136, 137, 138, 139, 140, 141, 142, 143, 144, 145, 146, 147, 148, 149, 150, 151, 152, 153, 154, 155, 156, 157, 158, 159, 160, 161, 162, 163, 164, 165, 166, 167] (fun i s => s2.length ≤ s.length ∧ ∃ U' P', Bt s s3.length p dd l kh U' P' v2 ∧ P'.pages = 120 ∧ Bud P' (800000 - 10 * i.1) ∧ s[t13]? = some (some (.row 1 (wantS es2))) ∧ ¬ U' t13) (⟨0, by omega⟩) ?_ ?_ ?_ ?_
      ·simp only [wHl, wHf]
      ·exact ⟨Nat.le_refl _, U2, P2, hB2, hpg2, hb2, hrow2, hU2⟩
      ·rintro _ _ ⟨h, _⟩; have := hq2; omega
      ·intro y3 J3 q3 hI3
       clear hB2 hpg2 hb2 hU2
       simp only [wHl]
       obtain ⟨i2, hi2⟩ := y3
       obtain ⟨hq3, U3, P3, hB3, hpg3, hb3, hrow3, hU3⟩ := hI3
       dsimp only at *
       have y3' := at_lt hrow3
       by_cases hil : i2 < es2.length
       ·have e3 := dT hil
        obtain ⟨⟨⟨n3, k3⟩, y3, r3⟩, he3⟩ : ∃ e, es2[i2]? = some e := ⟨es2[i2], by simp⟩
        obtain ⟨hg31, hg32, hg33⟩ := hput2.get _ (List.mem_of_getElem? he3)
        have hga3 : (atS es2)[i2]? = some [.v (.int .i64 (n3 : Nat)), .v (.int .i64 (k3 : Nat))] := by simp [atS, he3]
        have hgw3 : (wantS es2)[i2]? = some [.p y3] := by simp [wantS, he3]
        have u31 := nnI i2
        have u32 : ((i2 : Int) < (es2.length : Int)) = True := eq_true (by omega)
        have hnn3 : n3 ∈ ns1 := by
         unfold HRec at hg31
         by_cases h : n3 ∈ ns1
         ·exact h
         ·rw [if_neg h] at hg31; cases hg31
        obtain ⟨ii3, hii3⟩ := List.getElem?_of_mem hnn3
        obtain ⟨ss3, hp3⟩ := hh2.ch.get hii3
        obtain ⟨m31, m32, _⟩ := hh2.tk n3 hnn3
        have hrec3 : recOf v2 n3 k3 = some r3 := by unfold HRec at hg31; rw [if_pos hnn3] at hg31; exact hg31
        have hk31 : 1 ≤ k3 := by
         rcases Nat.eq_zero_or_pos k3 with h | h
         ·rw [h, recOf_zero] at hrec3; cases hrec3
         ·exact h
        have hgl3 : getL (v2 n3) (k3 : Nat) = some r3 := by unfold recOf at hrec3; rw [if_neg (by omega)] at hrec3; exact hrec3
        have hg32' : y3 = .sl 1 (encB r3) := hg32
        subst hg32'
        have hcy := convB_bx (.inl rfl : BX (.sl 1 (encB r3)) r3)
        have hwi2 := wI i2 (by omega)
        repeat' first | ((with_reducible first | refine cs ?_ ?_ | refine ws ?_ ?_ | refine wd ?_ ?_ | refine wu ?_ ?_) <;> intro h <;> try simp only [h]) | simp only [↓wBA, tHs, convA, seval, pl3_29Hs, pl3_36Hs, wH, wHl, kindS, tyS, mutsS, lenS, appS, e3, hal2, hga3, u31, u32, Int.toNat_natCast] | (with_reducible refine dP pl3_29Hs 12 (some 130) (by decide) (by kernel_rfl) ?_) | (with_reducible refine dP pl3_36Hs 8 (some 160) (by decide) (by kernel_rfl) ?_) | with_reducible refine And.intro ?_ ?_
        refine (ahgetW hB3 (by rw [hpg3]; exact m32) hp3 (hb3.mono (by omega)) hgl3 hk31).mono ?_
        rintro _ s4 ⟨t, rfl, ht, hrow, U4, P4, f4, hB4, k4, hU4⟩
        have l4 := f4.len
        have y4 := at_lt hrow
        have hrow4 := f4.get hrow3 hU3
        have y14 := at_lt hrow4
        have hU14 : ¬ U4 t13 := fun e => (f4.own _ e).elim hU3 fun e => by omega
        have hcx : ∀ {S : St}, S[t]? = some (some (.row 1 (bRow r3))) → convC cx 23 9 (.ms t 1 0 r3.length) S = some (.p (.v (.string ⟨r3.toArray⟩)), S) := fun h => convC_ms h
        have hne13 : t13 ≠ t := fun e => by omega
        have hcx4 := hcx hrow
        have hcx5 := hcx (S := s4.set t13 none) (by rw [List.getElem?_set_ne hne13]; exact hrow)
        have hcxb := convB_ms (t := t) (n := r3.length)
        have hbn := binStr_neq ⟨r3.toArray⟩
        repeat' first | ((with_reducible first | refine cs ?_ ?_ | refine ws ?_ ?_ | refine wd ?_ ?_ | refine wu ?_ ?_) <;> intro h <;> try simp only [h]) | simp only [↓wBA, tHs, convA, seval, pl3_29Hs, pl3_36Hs, wH, wHl, kindS, tyS, mutsS, lenS, appS, convBS, convCS, hwl2, hgw3, u31, u32, Int.toNat_natCast, hrow4, y14, hrow, y4, hcx4, hcx5, hcxb, hcy, hbn] | (with_reducible refine dP pl3_29Hs 12 (some 130) (by decide) (by kernel_rfl) ?_) | (with_reducible refine dP pl3_36Hs 8 (some 160) (by decide) (by kernel_rfl) ?_) | with_reducible refine And.intro ?_ ?_
        refine awp_loopS (X := { j : Nat // j ≤ r3.length }) (fun j => r3.length - j.1) (fun j => [(22, intV .i64 (j.1 : Nat))]) [142, 143, 144, 145, 146, 147, 148, 149, 150] (fun j s => s = s4.set t (some (.row 1 (bRow (List.replicate j.1 238 ++ r3.drop j.1))))) (⟨0, by omega⟩) ?_ ?_ ?_ ?_
        ·simp only [wHl, wHf]
        ·simp only [List.replicate_zero, List.nil_append, List.drop_zero]; exact (set_back hrow).symm
        ·rintro _ _ rfl; simp
        ·intro y5 J5 q5 hI5
         simp only [wHl]
         obtain ⟨jj, hjj⟩ := y5
         subst hI5
         dsimp only at *
         have hlen5 : (List.replicate jj (238 : UInt8) ++ r3.drop jj).length = r3.length := by simp; omega
         have x5 : (s4.set t (some (.row 1 (bRow (List.replicate jj 238 ++ r3.drop jj)))))[t]? = some (some (.row 1 (bRow (List.replicate jj 238 ++ r3.drop jj)))) := by simp [y4]
         have hkm := km_23 (t := t) (e := 1) (j := 0) (n := r3.length)
         by_cases hjlt : jj < r3.length
         ·have e5 := dT hjlt
          have v51 := nnI jj
          have v52 : ((jj : Int) < (r3.length : Int)) = True := eq_true (by omega)
          have v53 := wI jj (by omega)
          obtain ⟨c5, hc5'⟩ : ∃ c, (List.replicate jj (238 : UInt8) ++ r3.drop jj)[jj]? = some c := ⟨_, List.getElem?_eq_getElem (by omega)⟩
          have hc5 : (bRow (List.replicate jj 238 ++ r3.drop jj))[jj]? = some [.p (byteP c5)] := by simp only [bRow, List.getElem?_map, hc5']; rfl
          have hset5 := bRow_mark r3 jj hjlt
          repeat' first | ((with_reducible first | refine cs ?_ ?_ | refine ws ?_ ?_ | refine wd ?_ ?_ | refine wu ?_ ?_) <;> intro h <;> try simp only [h]) | simp only [↓wBA, tHs, convA, seval, pl3_29Hs, pl3_36Hs, wH, wHl, kindS, tyS, mutsS, lenS, appS, e5, hkm, v51, v52, v53, Int.toNat_natCast, x5, y4, hc5, hset5, byteP] | (with_reducible refine dP pl3_29Hs 12 (some 130) (by decide) (by kernel_rfl) ?_) | (with_reducible refine dP pl3_36Hs 8 (some 160) (by decide) (by kernel_rfl) ?_) | with_reducible refine And.intro ?_ ?_
          exact ⟨⟨jj + 1, by omega⟩, by show r3.length - (jj + 1) < r3.length - jj; omega, rfl, by simp only [wHl, wHf]⟩
         ·obtain rfl : jj = r3.length := by omega
          have e5 := dF (i := r3.length) (n := r3.length) (by omega)
          obtain ⟨S5, hS5⟩ : ∃ S5, S5 = s4.set t (some (.row 1 (bRow (List.replicate r3.length 238 ++ r3.drop r3.length)))) := ⟨_, rfl⟩
          rw [← hS5]
          have hB5 : Bt S5 s3.length p dd l kh U4 P4 v2 := by rw [hS5]; exact hB4.set hU4 _
          have hrow5 : S5[t13]? = some (some (.row 1 (wantS es2))) := by rw [hS5, List.getElem?_set_ne (fun e => hne13 e.symm)]; exact hrow4
          have l5 : S5.length = s4.length := by rw [hS5]; simp
          repeat' first | ((with_reducible first | refine cs ?_ ?_ | refine ws ?_ ?_ | refine wd ?_ ?_ | refine wu ?_ ?_) <;> intro h <;> try simp only [h]) | simp only [↓wBA, tHs, convA, seval, pl3_29Hs, pl3_36Hs, wH, wHl, kindS, tyS, mutsS, lenS, appS, e5, hkm, hal2, hga3, u31, u32, Int.toNat_natCast] | (with_reducible refine dP pl3_29Hs 12 (some 130) (by decide) (by kernel_rfl) ?_) | (with_reducible refine dP pl3_36Hs 8 (some 160) (by decide) (by kernel_rfl) ?_) | with_reducible refine And.intro ?_ ?_
          refine (ahgetW hB5 (by rw [k4.pages, hpg3]; exact m32) hp3 ((hb3.kp k4 (k := 1) (by omega)).mono (Nat.le_refl 1)) hgl3 hk31).mono ?_
          rintro _ s6 ⟨t', rfl, ht', hrow', U6, P6, f6, hB6, k6, hU6⟩
          have l6 := f6.len
          have y6 := at_lt hrow'
          have hrow6 := f6.get hrow5 hU14
          have y16 := at_lt hrow6
          have hU16 : ¬ U6 t13 := fun e => (f6.own _ e).elim hU14 fun e => by omega
          have hne16 : t13 ≠ t' := fun e => by omega
          have hcx6 := convC_ms hrow'
          have hcx7 := convC_ms (S := s6.set t13 none) (t := t') (r := r3) (by rw [List.getElem?_set_ne hne16]; exact hrow')
          have hcxb6 := convB_ms (t := t') (n := r3.length)
          repeat' first | ((with_reducible first | refine cs ?_ ?_ | refine ws ?_ ?_ | refine wd ?_ ?_ | refine wu ?_ ?_) <;> intro h <;> try simp only [h]) | simp only [↓wBA, tHs, convA, seval, pl3_29Hs, pl3_36Hs, wH, wHl, kindS, tyS, mutsS, lenS, appS, convBS, convCS, hwl2, hgw3, u31, u32, Int.toNat_natCast, hrow6, y16, hrow', y6, hcx6, hcx7, hcxb6, hcy, hbn, hwi2] | (with_reducible refine dP pl3_29Hs 12 (some 130) (by decide) (by kernel_rfl) ?_) | (with_reducible refine dP pl3_36Hs 8 (some 160) (by decide) (by kernel_rfl) ?_) | with_reducible refine And.intro ?_ ?_
          all_goals
           refine ⟨⟨i2 + 1, by omega⟩, by show es2.length - (i2 + 1) < es2.length - i2; omega, ⟨by omega, U6, P6, hB6, by rw [k6.pages, k4.pages]; exact hpg3, hb3.kp (k4.trans k6) (k := 800000 - 10 * (i2 + 1)) (by omega), hU16⟩, by simp only [wHl, wHf]⟩
       ·obtain rfl : i2 = es2.length := by omega
        have e3 := dF (i := es2.length) (n := es2.length) (by omega)
        repeat' first | ((with_reducible first | refine cs ?_ ?_ | refine ws ?_ ?_ | refine wd ?_ ?_ | refine wu ?_ ?_) <;> intro h <;> try simp only [h]) | simp only [↓wBA, tHs, convA, seval, pl3_29Hs, pl3_36Hs, wH, wHl, kindS, tyS, mutsS, lenS, appS, e3, hal2] | (with_reducible refine dP pl3_29Hs 12 (some 130) (by decide) (by kernel_rfl) ?_) | (with_reducible refine dP pl3_36Hs 8 (some 160) (by decide) (by kernel_rfl) ?_) | with_reducible refine And.intro ?_ ?_
        all_goals refine ret_st ?_ (by first | exact Nat.le_refl _ | (simp only [List.length_set, List.length_append]; omega) | omega)
        all_goals simp only [resA.eq_1, resL.eq_1, resL.eq_2, resV.eq_1, resV.eq_2, ↓wBA, tHs, convA, seval, wH, kindS, tyS, mutsS, lenS]
   ·skip
    by_cases hes : es = []
    ·have e0 : ((es.length : Int) == 0) = true := by subst hes; rfl
     repeat' first | ((with_reducible first | refine cs ?_ ?_ | refine ws ?_ ?_ | refine wd ?_ ?_ | refine wu ?_ ?_) <;> intro h <;> try simp only [h]) | simp only [↓wBA, tHs, convA, seval, pl3_29Hs, pl3_36Hs, wH, wHl, kindS, tyS, mutsS, lenS, appS, hln, e1, e2, List.length_map, hla, e0] | (with_reducible refine dP pl3_29Hs 12 (some 130) (by decide) (by kernel_rfl) ?_) | (with_reducible refine dP pl3_36Hs 8 (some 160) (by decide) (by kernel_rfl) ?_) | with_reducible refine And.intro ?_ ?_
     all_goals refine ret_st ?_ (by first | exact Nat.le_refl _ | (simp only [List.length_set, List.length_append]; omega) | omega)
     all_goals simp only [resA.eq_1, resL.eq_1, resL.eq_2, resV.eq_1, resV.eq_2, ↓wBA, tHs, convA, seval, wH, kindS, tyS, mutsS, lenS]
    ·have hpos : 0 < es.length := List.length_pos_iff.2 hes
     have e0 : ((es.length : Int) == 0) = false := by simp; omega
     obtain ⟨kk, hkk⟩ : ∃ kk : Nat, IntKind.u64.wrap k = (kk : Int) := ⟨(IntKind.u64.wrap k).toNat, by rw [IntKind.wrap_u64]; omega⟩
     have hul : IntKind.u64.wrap (es.length : Int) = (es.length : Int) := by rw [IntKind.wrap_u64]; omega
     have hz : ((es.length : Int) = 0) = False := eq_false (by omega)
     obtain ⟨j, hj⟩ : ∃ j, j = kk % es.length := ⟨_, rfl⟩
     have hjl : j < es.length := by rw [hj]; exact Nat.mod_lt _ hpos
     have htm : (kk : Int).tmod (es.length : Int) = (j : Int) := by rw [Int.tmod_eq_emod_of_nonneg (by omega)]; omega
     have hwj : IntKind.i64.wrap (j : Int) = (j : Int) := wrap_i64 (by omega) (by omega)
     obtain ⟨⟨⟨n, kp⟩, y, r⟩, hej⟩ : ∃ e, es[j]? = some e := ⟨es[j], by simp⟩
     obtain ⟨hg1, hg2, hg3⟩ := hput.get _ (List.mem_of_getElem? hej)
     obtain ⟨t12, rfl, _, ho12⟩ : ∃ t, a12 = .own t 2 (atS es) ∧ atS es ≠ [] ∧ q[t]? = some (some (.right 37 ((atS es).length * 2))) := by
      rcases ho with ⟨_, h⟩ | h
      ·exact absurd (by simpa [atS] using h) hes
      ·exact h
     obtain ⟨t13, rfl, _, ho13⟩ : ∃ t, a13 = .ms t 1 0 (wantS es).length ∧ wantS es ≠ [] ∧ q[t]? = some (some (.row 1 (wantS es))) := by
      rcases hw with ⟨_, h⟩ | h
      ·exact absurd (by simpa [wantS] using h) hes
      ·exact h
     have y13 := at_lt ho13
     have hgat : (atS es)[j]? = some [.v (.int .i64 (n : Nat)), .v (.int .i64 (kp : Nat))] := by simp [atS, hej]
     have hgw : (wantS es)[j]? = some [.p y] := by simp [wantS, hej]
     have hwl : (wantS es).length = es.length := by simp [wantS]
     have hal : (atS es).length = es.length := by simp [atS]
     have u1 := nnI j
     have u2 : ((j : Int) < (es.length : Int)) = True := eq_true (by omega)
     have hnn : n ∈ ns1 := by
      unfold HRec at hg1
      by_cases h : n ∈ ns1
      ·exact h
      ·rw [if_neg h] at hg1; cases hg1
     obtain ⟨ii, hii⟩ := List.getElem?_of_mem hnn
     obtain ⟨ss, hp⟩ := hh1.ch.get hii
     obtain ⟨n1, n2, n3⟩ := hh1.tk n hnn
     have hrec : recOf v1 n kp = some r := by unfold HRec at hg1; rw [if_pos hnn] at hg1; exact hg1
     have hk1 : 1 ≤ kp := by
      rcases Nat.eq_zero_or_pos kp with h | h
      ·rw [h, recOf_zero] at hrec; cases hrec
      ·exact h
     have hgl : getL (v1 n) (kp : Nat) = some r := by unfold recOf at hrec; rw [if_neg (by omega)] at hrec; exact hrec
     have hly : lenA cx 23 (.p y) = some r.length := RecA.len (σ := q) (.inl ⟨y, rfl, .inl hg2⟩)
     have hlx : lenA cx 23 (.p xr) = some rr.length := RecA.len (σ := q) (.inl ⟨xr, rfl, hxr⟩)
     repeat' first | ((with_reducible first | refine cs ?_ ?_ | refine ws ?_ ?_ | refine wd ?_ ?_ | refine wu ?_ ?_) <;> intro h <;> try simp only [h]) | simp only [↓wBA, tHs, convA, seval, pl3_29Hs, pl3_36Hs, wH, wHl, kindS, tyS, mutsS, lenS, appS, hln, e1, e2, List.length_map, hla, e0, hkk, hul, hz, htm, hwj, hgat, hal, u1, u2, Int.toNat_natCast] | (with_reducible refine dP pl3_29Hs 12 (some 130) (by decide) (by kernel_rfl) ?_) | (with_reducible refine dP pl3_36Hs 8 (some 160) (by decide) (by kernel_rfl) ?_) | with_reducible refine And.intro ?_ ?_
     rcases Nat.lt_or_ge r.length rr.length with hlen | hlen
     ·refine (ahsetL h1 n1 (by rw [hpg1]; exact n2) hp (hb1.mono (by omega)) hgl hk1 hxr hlen).mono ?_
      rintro _ s2 ⟨rfl, U2, P2, f2, hB2, k2⟩
      have hq2 := f2.len
      have hrow2 := f2.get ho13 (hwU t13 rfl)
      have hrow2o := hrow2
      have yr2 := at_lt hrow2
      have hU2 : ¬ U2 t13 := fun e => (f2.own _ e).elim (hwU t13 rfl) fun e => by omega
      have hpg2 : P2.pages = 120 := by rw [k2.pages]; exact hpg1
      have hb2 : Bud P2 800000 := hb1.kp k2 (by omega)
      have hle : decide ((rr.length : Int) ≤ (r.length : Int)) = false := by simp; omega
      have hh2 := hh1
      have hput2 := hput
      obtain ⟨v2, hv2⟩ : ∃ v2, v2 = v1 := ⟨_, rfl⟩
      rw [← hv2] at hB2 hh2 hput2
      obtain ⟨es2, hes2⟩ : ∃ es2, es2 = es := ⟨_, rfl⟩
      have hat2 : atS es = atS es2 := by rw [hes2]
      have hla2 : lenA cx 35 (.own t12 2 (atS es2)) = some es2.length := by rw [hes2]; exact hla
      rw [← hes2] at hput2 hrow2
      repeat' first | ((with_reducible first | refine cs ?_ ?_ | refine ws ?_ ?_ | refine wd ?_ ?_ | refine wu ?_ ?_) <;> intro h <;> try simp only [h]) | simp only [↓wBA, tHs, convA, seval, pl3_29Hs, pl3_36Hs, wH, wHl, kindS, tyS, mutsS, lenS, appS, hlx, hly, hle, hwl, hgw, u1, u2, Int.toNat_natCast, hrow2o, yr2, hla] | (with_reducible refine dP pl3_29Hs 12 (some 130) (by decide) (by kernel_rfl) ?_) | (with_reducible refine dP pl3_36Hs 8 (some 160) (by decide) (by kernel_rfl) ?_) | with_reducible refine And.intro ?_ ?_
      rw [hat2, show es.length = es2.length by rw [hes2]]
      have hel2 : es2.length ≤ 30 := by rw [hes2]; omega
      have hal2 : (atS es2).length = es2.length := by simp [atS]
      have hwl2 : (wantS es2).length = es2.length := by simp [wantS]
      have y13' := at_lt hrow2
      refine awp_loopS (X := { i : Nat // i ≤ es2.length }) (fun i => es2.length - i.1) (fun i => [(19, intV .i64 (i.1 : Nat))]) [6, 20, 21, 22, 115, 116, 117, 118, 119, 120, 121, 122, 123, 124, 125, 126, 127, 128, 129, 130, 131, 132, 133, 134, 135, 136, 137, 138, 139, 140, 141, 142, 143, 144, 145, 146, 147, 148, 149, 150, 151, 152, 153, 154, 155, 156, 157, 158, 159, 160, 161, 162, 163, 164, 165, 166, 167] (fun i s => s2.length ≤ s.length ∧ ∃ U' P', Bt s s3.length p dd l kh U' P' v2 ∧ P'.pages = 120 ∧ Bud P' (800000 - 10 * i.1) ∧ s[t13]? = some (some (.row 1 (wantS es2))) ∧ ¬ U' t13) (⟨0, by omega⟩) ?_ ?_ ?_ ?_
      ·simp only [wHl, wHf]
      ·exact ⟨Nat.le_refl _, U2, P2, hB2, hpg2, hb2, hrow2, hU2⟩
      ·rintro _ _ ⟨h, _⟩; have := hq2; omega
      ·intro y3 J3 q3 hI3
       clear hB2 hpg2 hb2 hU2
       simp only [wHl]
       obtain ⟨i2, hi2⟩ := y3
       obtain ⟨hq3, U3, P3, hB3, hpg3, hb3, hrow3, hU3⟩ := hI3
       dsimp only at *
       have y3' := at_lt hrow3
       by_cases hil : i2 < es2.length
       ·have e3 := dT hil
        obtain ⟨⟨⟨n3, k3⟩, y3, r3⟩, he3⟩ : ∃ e, es2[i2]? = some e := ⟨es2[i2], by simp⟩
        obtain ⟨hg31, hg32, hg33⟩ := hput2.get _ (List.mem_of_getElem? he3)
        have hga3 : (atS es2)[i2]? = some [.v (.int .i64 (n3 : Nat)), .v (.int .i64 (k3 : Nat))] := by simp [atS, he3]
        have hgw3 : (wantS es2)[i2]? = some [.p y3] := by simp [wantS, he3]
        have u31 := nnI i2
        have u32 : ((i2 : Int) < (es2.length : Int)) = True := eq_true (by omega)
        have hnn3 : n3 ∈ ns1 := by
         unfold HRec at hg31
         by_cases h : n3 ∈ ns1
         ·exact h
         ·rw [if_neg h] at hg31; cases hg31
        obtain ⟨ii3, hii3⟩ := List.getElem?_of_mem hnn3
        obtain ⟨ss3, hp3⟩ := hh2.ch.get hii3
        obtain ⟨m31, m32, _⟩ := hh2.tk n3 hnn3
        have hrec3 : recOf v2 n3 k3 = some r3 := by unfold HRec at hg31; rw [if_pos hnn3] at hg31; exact hg31
        have hk31 : 1 ≤ k3 := by
         rcases Nat.eq_zero_or_pos k3 with h | h
         ·rw [h, recOf_zero] at hrec3; cases hrec3
         ·exact h
        have hgl3 : getL (v2 n3) (k3 : Nat) = some r3 := by unfold recOf at hrec3; rw [if_neg (by omega)] at hrec3; exact hrec3
        have hg32' : y3 = .sl 1 (encB r3) := hg32
        subst hg32'
        have hcy := convB_bx (.inl rfl : BX (.sl 1 (encB r3)) r3)
        have hwi2 := wI i2 (by omega)
        repeat' first | ((with_reducible first | refine cs ?_ ?_ | refine ws ?_ ?_ | refine wd ?_ ?_ | refine wu ?_ ?_) <;> intro h <;> try simp only [h]) | simp only [↓wBA, tHs, convA, seval, pl3_29Hs, pl3_36Hs, wH, wHl, kindS, tyS, mutsS, lenS, appS, e3, hal2, hga3, u31, u32, Int.toNat_natCast] | (with_reducible refine dP pl3_29Hs 12 (some 130) (by decide) (by kernel_rfl) ?_) | (with_reducible refine dP pl3_36Hs 8 (some 160) (by decide) (by kernel_rfl) ?_) | with_reducible refine And.intro ?_ ?_
        refine (ahgetW hB3 (by rw [hpg3]; exact m32) hp3 (hb3.mono (by omega)) hgl3 hk31).mono ?_
        rintro _ s4 ⟨t, rfl, ht, hrow, U4, P4, f4, hB4, k4, hU4⟩
        have l4 := f4.len
        have y4 := at_lt hrow
        have hrow4 := f4.get hrow3 hU3
        have y14 := at_lt hrow4
        have hU14 : ¬ U4 t13 := fun e => (f4.own _ e).elim hU3 fun e => by omega
        have hcx : ∀ {S : St}, S[t]? = some (some (.row 1 (bRow r3))) → convC cx 23 9 (.ms t 1 0 r3.length) S = some (.p (.v (.string ⟨r3.toArray⟩)), S) := fun h => convC_ms h
        have hne13 : t13 ≠ t := fun e => by omega
        have hcx4 := hcx hrow
        have hcx5 := hcx (S := s4.set t13 none) (by rw [List.getElem?_set_ne hne13]; exact hrow)
        have hcxb := convB_ms (t := t) (n := r3.length)
        have hbn := binStr_neq ⟨r3.toArray⟩
        repeat' first | ((with_reducible first | refine cs ?_ ?_ | refine ws ?_ ?_ | refine wd ?_ ?_ | refine wu ?_ ?_) <;> intro h <;> try simp only [h]) | simp only [↓wBA, tHs, convA, seval, pl3_29Hs, pl3_36Hs, wH, wHl, kindS, tyS, mutsS, lenS, appS, convBS, convCS, hwl2, hgw3, u31, u32, Int.toNat_natCast, hrow4, y14, hrow, y4, hcx4, hcx5, hcxb, hcy, hbn] | (with_reducible refine dP pl3_29Hs 12 (some 130) (by decide) (by kernel_rfl) ?_) | (with_reducible refine dP pl3_36Hs 8 (some 160) (by decide) (by kernel_rfl) ?_) | with_reducible refine And.intro ?_ ?_
        refine awp_loopS (X := { j : Nat // j ≤ r3.length }) (fun j => r3.length - j.1) (fun j => [(22, intV .i64 (j.1 : Nat))]) [142, 143, 144, 145, 146, 147, 148, 149, 150] (fun j s => s = s4.set t (some (.row 1 (bRow (List.replicate j.1 238 ++ r3.drop j.1))))) (⟨0, by omega⟩) ?_ ?_ ?_ ?_
        ·simp only [wHl, wHf]
        ·simp only [List.replicate_zero, List.nil_append, List.drop_zero]; exact (set_back hrow).symm
        ·rintro _ _ rfl; simp
        ·intro y5 J5 q5 hI5
         simp only [wHl]
         obtain ⟨jj, hjj⟩ := y5
         subst hI5
         dsimp only at *
         have hlen5 : (List.replicate jj (238 : UInt8) ++ r3.drop jj).length = r3.length := by simp; omega
         have x5 : (s4.set t (some (.row 1 (bRow (List.replicate jj 238 ++ r3.drop jj)))))[t]? = some (some (.row 1 (bRow (List.replicate jj 238 ++ r3.drop jj)))) := by simp [y4]
         have hkm := km_23 (t := t) (e := 1) (j := 0) (n := r3.length)
         by_cases hjlt : jj < r3.length
         ·have e5 := dT hjlt
          have v51 := nnI jj
          have v52 : ((jj : Int) < (r3.length : Int)) = True := eq_true (by omega)
          have v53 := wI jj (by omega)
          obtain ⟨c5, hc5'⟩ : ∃ c, (List.replicate jj (238 : UInt8) ++ r3.drop jj)[jj]? = some c := ⟨_, List.getElem?_eq_getElem (by omega)⟩
          have hc5 : (bRow (List.replicate jj 238 ++ r3.drop jj))[jj]? = some [.p (byteP c5)] := by simp only [bRow, List.getElem?_map, hc5']; rfl
          have hset5 := bRow_mark r3 jj hjlt
          repeat' first | ((with_reducible first | refine cs ?_ ?_ | refine ws ?_ ?_ | refine wd ?_ ?_ | refine wu ?_ ?_) <;> intro h <;> try simp only [h]) | simp only [↓wBA, tHs, convA, seval, pl3_29Hs, pl3_36Hs, wH, wHl, kindS, tyS, mutsS, lenS, appS, e5, hkm, v51, v52, v53, Int.toNat_natCast, x5, y4, hc5, hset5, byteP] | (with_reducible refine dP pl3_29Hs 12 (some 130) (by decide) (by kernel_rfl) ?_) | (with_reducible refine dP pl3_36Hs 8 (some 160) (by decide) (by kernel_rfl) ?_) | with_reducible refine And.intro ?_ ?_
          exact ⟨⟨jj + 1, by omega⟩, by show r3.length - (jj + 1) < r3.length - jj; omega, rfl, by simp only [wHl, wHf]⟩
         ·obtain rfl : jj = r3.length := by omega
          have e5 := dF (i := r3.length) (n := r3.length) (by omega)
          obtain ⟨S5, hS5⟩ : ∃ S5, S5 = s4.set t (some (.row 1 (bRow (List.replicate r3.length 238 ++ r3.drop r3.length)))) := ⟨_, rfl⟩
          rw [← hS5]
          have hB5 : Bt S5 s3.length p dd l kh U4 P4 v2 := by rw [hS5]; exact hB4.set hU4 _
          have hrow5 : S5[t13]? = some (some (.row 1 (wantS es2))) := by rw [hS5, List.getElem?_set_ne (fun e => hne13 e.symm)]; exact hrow4
          have l5 : S5.length = s4.length := by rw [hS5]; simp
          repeat' first | ((with_reducible first | refine cs ?_ ?_ | refine ws ?_ ?_ | refine wd ?_ ?_ | refine wu ?_ ?_) <;> intro h <;> try simp only [h]) | simp only [↓wBA, tHs, convA, seval, pl3_29Hs, pl3_36Hs, wH, wHl, kindS, tyS, mutsS, lenS, appS, e5, hkm, hal2, hga3, u31, u32, Int.toNat_natCast] | (with_reducible refine dP pl3_29Hs 12 (some 130) (by decide) (by kernel_rfl) ?_) | (with_reducible refine dP pl3_36Hs 8 (some 160) (by decide) (by kernel_rfl) ?_) | with_reducible refine And.intro ?_ ?_
          refine (ahgetW hB5 (by rw [k4.pages, hpg3]; exact m32) hp3 ((hb3.kp k4 (k := 1) (by omega)).mono (Nat.le_refl 1)) hgl3 hk31).mono ?_
          rintro _ s6 ⟨t', rfl, ht', hrow', U6, P6, f6, hB6, k6, hU6⟩
          have l6 := f6.len
          have y6 := at_lt hrow'
          have hrow6 := f6.get hrow5 hU14
          have y16 := at_lt hrow6
          have hU16 : ¬ U6 t13 := fun e => (f6.own _ e).elim hU14 fun e => by omega
          have hne16 : t13 ≠ t' := fun e => by omega
          have hcx6 := convC_ms hrow'
          have hcx7 := convC_ms (S := s6.set t13 none) (t := t') (r := r3) (by rw [List.getElem?_set_ne hne16]; exact hrow')
          have hcxb6 := convB_ms (t := t') (n := r3.length)
          repeat' first | ((with_reducible first | refine cs ?_ ?_ | refine ws ?_ ?_ | refine wd ?_ ?_ | refine wu ?_ ?_) <;> intro h <;> try simp only [h]) | simp only [↓wBA, tHs, convA, seval, pl3_29Hs, pl3_36Hs, wH, wHl, kindS, tyS, mutsS, lenS, appS, convBS, convCS, hwl2, hgw3, u31, u32, Int.toNat_natCast, hrow6, y16, hrow', y6, hcx6, hcx7, hcxb6, hcy, hbn, hwi2] | (with_reducible refine dP pl3_29Hs 12 (some 130) (by decide) (by kernel_rfl) ?_) | (with_reducible refine dP pl3_36Hs 8 (some 160) (by decide) (by kernel_rfl) ?_) | with_reducible refine And.intro ?_ ?_
          all_goals
           refine ⟨⟨i2 + 1, by omega⟩, by show es2.length - (i2 + 1) < es2.length - i2; omega, ⟨by omega, U6, P6, hB6, by rw [k6.pages, k4.pages]; exact hpg3, hb3.kp (k4.trans k6) (k := 800000 - 10 * (i2 + 1)) (by omega), hU16⟩, by simp only [wHl, wHf]⟩
       ·obtain rfl : i2 = es2.length := by omega
        have e3 := dF (i := es2.length) (n := es2.length) (by omega)
        repeat' first | ((with_reducible first | refine cs ?_ ?_ | refine ws ?_ ?_ | refine wd ?_ ?_ | refine wu ?_ ?_) <;> intro h <;> try simp only [h]) | simp only [↓wBA, tHs, convA, seval, pl3_29Hs, pl3_36Hs, wH, wHl, kindS, tyS, mutsS, lenS, appS, e3, hal2] | (with_reducible refine dP pl3_29Hs 12 (some 130) (by decide) (by kernel_rfl) ?_) | (with_reducible refine dP pl3_36Hs 8 (some 160) (by decide) (by kernel_rfl) ?_) | with_reducible refine And.intro ?_ ?_
        all_goals refine ret_st ?_ (by first | exact Nat.le_refl _ | (simp only [List.length_set, List.length_append]; omega) | omega)
        all_goals simp only [resA.eq_1, resL.eq_1, resL.eq_2, resV.eq_1, resV.eq_2, ↓wBA, tHs, convA, seval, wH, kindS, tyS, mutsS, lenS]
     ·have hg400 := hg3
      refine (ahset h1 n1 (by rw [hpg1]; exact n2) hp (hb1.mono (by omega)) hgl hk1 hxr hlen).mono ?_
      rintro _ s2a ⟨rfl, U2, P2, f2, hB2a, k2⟩
      have hq2a := f2.len
      have hrow2a := f2.get ho13 (hwU t13 rfl)
      have yr2 := at_lt hrow2a
      have hU2 : ¬ U2 t13 := fun e => (f2.own _ e).elim (hwU t13 rfl) fun e => by omega
      have hpg2 : P2.pages = 120 := by rw [k2.pages]; exact hpg1
      have hb2 : Bud P2 800000 := hb1.kp k2 (by omega)
      have hle : decide ((rr.length : Int) ≤ (r.length : Int)) = true := by simp; omega
      obtain ⟨hh2, hput2⟩ := hput.set hh1 hej hxr' hlen
      obtain ⟨v2, hv2⟩ : ∃ v2, v2 = upV v1 n (setL (v1 n) (kp : Nat) rr).1 := ⟨_, rfl⟩
      rw [← hv2] at hB2a hh2 hput2
      obtain ⟨es2, hes2⟩ : ∃ es2, es2 = es.set j ((n, kp), xr, rr) := ⟨_, rfl⟩
      have hat2 : atS es = atS es2 := by rw [hes2, atS_set hej]
      have hes2l : es.length = es2.length := by rw [hes2]; simp
      have hws : (wantS es).set j [.p xr] = wantS es2 := by rw [hes2]; exact wantS_set (e := ((n, kp), xr, rr))
      have hla2 : lenA cx 35 (.own t12 2 (atS es2)) = some es2.length := by rw [← hat2, ← hes2l]; exact hla
      rw [← hes2] at hput2
      repeat' first | ((with_reducible first | refine cs ?_ ?_ | refine ws ?_ ?_ | refine wd ?_ ?_ | refine wu ?_ ?_) <;> intro h <;> try simp only [h]) | simp only [↓wBA, tHs, convA, seval, pl3_29Hs, pl3_36Hs, wH, wHl, kindS, tyS, mutsS, lenS, appS, hlx, hly, hle, hwl, hgw, u1, u2, Int.toNat_natCast, hrow2a, yr2, hla, hws] | (with_reducible refine dP pl3_29Hs 12 (some 130) (by decide) (by kernel_rfl) ?_) | (with_reducible refine dP pl3_36Hs 8 (some 160) (by decide) (by kernel_rfl) ?_) | with_reducible refine And.intro ?_ ?_
      obtain ⟨s2, hs2⟩ : ∃ s2, s2 = s2a.set t13 (some (.row 1 (wantS es2))) := ⟨_, rfl⟩
      rw [← hs2, hat2, hes2l]
      have hB2 : Bt s2 s3.length p dd l kh U2 P2 v2 := by rw [hs2]; exact hB2a.set hU2 _
      have hrow2 : s2[t13]? = some (some (.row 1 (wantS es2))) := by rw [hs2]; simp [yr2]
      have hq2 : q.length ≤ s2.length := by rw [hs2]; simpa using hq2a
      have hel2 : es2.length ≤ 30 := by omega
      have hal2 : (atS es2).length = es2.length := by simp [atS]
      have hwl2 : (wantS es2).length = es2.length := by simp [wantS]
      have y13' := at_lt hrow2
      refine awp_loopS (X := { i : Nat // i ≤ es2.length }) (fun i => es2.length - i.1) (fun i => [(19, intV .i64 (i.1 : Nat))]) [6, 20, 21, 22, 115, 116, 117, 118, 119, 120, 121, 122, 123, 124, 125, 126, 127, 128, 129, 130, 131, 132, 133, 134, 135, 136, 137, 138, 139, 140, 141, 142, 143, 144, 145, 146, 147, 148, 149, 150, 151, 152, 153, 154, 155, 156, 157, 158, 159, 160, 161, 162, 163, 164, 165, 166, 167] (fun i s => s2.length ≤ s.length ∧ ∃ U' P', Bt s s3.length p dd l kh U' P' v2 ∧ P'.pages = 120 ∧ Bud P' (800000 - 10 * i.1) ∧ s[t13]? = some (some (.row 1 (wantS es2))) ∧ ¬ U' t13) (⟨0, by omega⟩) ?_ ?_ ?_ ?_
      ·simp only [wHl, wHf]
      ·exact ⟨Nat.le_refl _, U2, P2, hB2, hpg2, hb2, hrow2, hU2⟩
      ·rintro _ _ ⟨h, _⟩; have := hq2; omega
      ·intro y3 J3 q3 hI3
       clear hB2 hpg2 hb2 hU2
       simp only [wHl]
       obtain ⟨i2, hi2⟩ := y3
       obtain ⟨hq3, U3, P3, hB3, hpg3, hb3, hrow3, hU3⟩ := hI3
       dsimp only at *
       have y3' := at_lt hrow3
       by_cases hil : i2 < es2.length
       ·have e3 := dT hil
        obtain ⟨⟨⟨n3, k3⟩, y3, r3⟩, he3⟩ : ∃ e, es2[i2]? = some e := ⟨es2[i2], by simp⟩
        obtain ⟨hg31, hg32, hg33⟩ := hput2.get _ (List.mem_of_getElem? he3)
        have hga3 : (atS es2)[i2]? = some [.v (.int .i64 (n3 : Nat)), .v (.int .i64 (k3 : Nat))] := by simp [atS, he3]
        have hgw3 : (wantS es2)[i2]? = some [.p y3] := by simp [wantS, he3]
        have u31 := nnI i2
        have u32 : ((i2 : Int) < (es2.length : Int)) = True := eq_true (by omega)
        have hnn3 : n3 ∈ ns1 := by
         unfold HRec at hg31
         by_cases h : n3 ∈ ns1
         ·exact h
         ·rw [if_neg h] at hg31; cases hg31
        obtain ⟨ii3, hii3⟩ := List.getElem?_of_mem hnn3
        obtain ⟨ss3, hp3⟩ := hh2.ch.get hii3
        obtain ⟨m31, m32, _⟩ := hh2.tk n3 hnn3
        have hrec3 : recOf v2 n3 k3 = some r3 := by unfold HRec at hg31; rw [if_pos hnn3] at hg31; exact hg31
        have hk31 : 1 ≤ k3 := by
         rcases Nat.eq_zero_or_pos k3 with h | h
         ·rw [h, recOf_zero] at hrec3; cases hrec3
         ·exact h
        have hgl3 : getL (v2 n3) (k3 : Nat) = some r3 := by unfold recOf at hrec3; rw [if_neg (by omega)] at hrec3; exact hrec3
        have hg32' : y3 = .sl 1 (encB r3) := hg32
        subst hg32'
        have hcy := convB_bx (.inl rfl : BX (.sl 1 (encB r3)) r3)
        have hwi2 := wI i2 (by omega)
        repeat' first | ((with_reducible first | refine cs ?_ ?_ | refine ws ?_ ?_ | refine wd ?_ ?_ | refine wu ?_ ?_) <;> intro h <;> try simp only [h]) | simp only [↓wBA, tHs, convA, seval, pl3_29Hs, pl3_36Hs, wH, wHl, kindS, tyS, mutsS, lenS, appS, e3, hal2, hga3, u31, u32, Int.toNat_natCast] | (with_reducible refine dP pl3_29Hs 12 (some 130) (by decide) (by kernel_rfl) ?_) | (with_reducible refine dP pl3_36Hs 8 (some 160) (by decide) (by kernel_rfl) ?_) | with_reducible refine And.intro ?_ ?_
        refine (ahgetW hB3 (by rw [hpg3]; exact m32) hp3 (hb3.mono (by omega)) hgl3 hk31).mono ?_
        rintro _ s4 ⟨t, rfl, ht, hrow, U4, P4, f4, hB4, k4, hU4⟩
        have l4 := f4.len
        have y4 := at_lt hrow
        have hrow4 := f4.get hrow3 hU3
        have y14 := at_lt hrow4
        have hU14 : ¬ U4 t13 := fun e => (f4.own _ e).elim hU3 fun e => by omega
        have hcx : ∀ {S : St}, S[t]? = some (some (.row 1 (bRow r3))) → convC cx 23 9 (.ms t 1 0 r3.length) S = some (.p (.v (.string ⟨r3.toArray⟩)), S) := fun h => convC_ms h
        have hne13 : t13 ≠ t := fun e => by omega
        have hcx4 := hcx hrow
        have hcx5 := hcx (S := s4.set t13 none) (by rw [List.getElem?_set_ne hne13]; exact hrow)
        have hcxb := convB_ms (t := t) (n := r3.length)
        have hbn := binStr_neq ⟨r3.toArray⟩
        repeat' first | ((with_reducible first | refine cs ?_ ?_ | refine ws ?_ ?_ | refine wd ?_ ?_ | refine wu ?_ ?_) <;> intro h <;> try simp only [h]) | simp only [↓wBA, tHs, convA, seval, pl3_29Hs, pl3_36Hs, wH, wHl, kindS, tyS, mutsS, lenS, appS, convBS, convCS, hwl2, hgw3, u31, u32, Int.toNat_natCast, hrow4, y14, hrow, y4, hcx4, hcx5, hcxb, hcy, hbn] | (with_reducible refine dP pl3_29Hs 12 (some 130) (by decide) (by kernel_rfl) ?_) | (with_reducible refine dP pl3_36Hs 8 (some 160) (by decide) (by kernel_rfl) ?_) | with_reducible refine And.intro ?_ ?_
        refine awp_loopS (X := { j : Nat // j ≤ r3.length }) (fun j => r3.length - j.1) (fun j => [(22, intV .i64 (j.1 : Nat))]) [142, 143, 144, 145, 146, 147, 148, 149, 150] (fun j s => s = s4.set t (some (.row 1 (bRow (List.replicate j.1 238 ++ r3.drop j.1))))) (⟨0, by omega⟩) ?_ ?_ ?_ ?_
        ·simp only [wHl, wHf]
        ·simp only [List.replicate_zero, List.nil_append, List.drop_zero]; exact (set_back hrow).symm
        ·rintro _ _ rfl; simp
        ·intro y5 J5 q5 hI5
         simp only [wHl]
         obtain ⟨jj, hjj⟩ := y5
         subst hI5
         dsimp only at *
         have hlen5 : (List.replicate jj (238 : UInt8) ++ r3.drop jj).length = r3.length := by simp; omega
         have x5 : (s4.set t (some (.row 1 (bRow (List.replicate jj 238 ++ r3.drop jj)))))[t]? = some (some (.row 1 (bRow (List.replicate jj 238 ++ r3.drop jj)))) := by simp [y4]
         have hkm := km_23 (t := t) (e := 1) (j := 0) (n := r3.length)
         by_cases hjlt : jj < r3.length
         ·have e5 := dT hjlt
          have v51 := nnI jj
          have v52 : ((jj : Int) < (r3.length : Int)) = True := eq_true (by omega)
          have v53 := wI jj (by omega)
          obtain ⟨c5, hc5'⟩ : ∃ c, (List.replicate jj (238 : UInt8) ++ r3.drop jj)[jj]? = some c := ⟨_, List.getElem?_eq_getElem (by omega)⟩
          have hc5 : (bRow (List.replicate jj 238 ++ r3.drop jj))[jj]? = some [.p (byteP c5)] := by simp only [bRow, List.getElem?_map, hc5']; rfl
          have hset5 := bRow_mark r3 jj hjlt
          repeat' first | ((with_reducible first | refine cs ?_ ?_ | refine ws ?_ ?_ | refine wd ?_ ?_ | refine wu ?_ ?_) <;> intro h <;> try simp only [h]) | simp only [↓wBA, tHs, convA, seval, pl3_29Hs, pl3_36Hs, wH, wHl, kindS, tyS, mutsS, lenS, appS, e5, hkm, v51, v52, v53, Int.toNat_natCast, x5, y4, hc5, hset5, byteP] | (with_reducible refine dP pl3_29Hs 12 (some 130) (by decide) (by kernel_rfl) ?_) | (with_reducible refine dP pl3_36Hs 8 (some 160) (by decide) (by kernel_rfl) ?_) | with_reducible refine And.intro ?_ ?_
          exact ⟨⟨jj + 1, by omega⟩, by show r3.length - (jj + 1) < r3.length - jj; omega, rfl, by simp only [wHl, wHf]⟩
         ·obtain rfl : jj = r3.length := by omega
          have e5 := dF (i := r3.length) (n := r3.length) (by omega)
          obtain ⟨S5, hS5⟩ : ∃ S5, S5 = s4.set t (some (.row 1 (bRow (List.replicate r3.length 238 ++ r3.drop r3.length)))) := ⟨_, rfl⟩
          rw [← hS5]
          have hB5 : Bt S5 s3.length p dd l kh U4 P4 v2 := by rw [hS5]; exact hB4.set hU4 _
          have hrow5 : S5[t13]? = some (some (.row 1 (wantS es2))) := by rw [hS5, List.getElem?_set_ne (fun e => hne13 e.symm)]; exact hrow4
          have l5 : S5.length = s4.length := by rw [hS5]; simp
          repeat' first | ((with_reducible first | refine cs ?_ ?_ | refine ws ?_ ?_ | refine wd ?_ ?_ | refine wu ?_ ?_) <;> intro h <;> try simp only [h]) | simp only [↓wBA, tHs, convA, seval, pl3_29Hs, pl3_36Hs, wH, wHl, kindS, tyS, mutsS, lenS, appS, e5, hkm, hal2, hga3, u31, u32, Int.toNat_natCast] | (with_reducible refine dP pl3_29Hs 12 (some 130) (by decide) (by kernel_rfl) ?_) | (with_reducible refine dP pl3_36Hs 8 (some 160) (by decide) (by kernel_rfl) ?_) | with_reducible refine And.intro ?_ ?_
          refine (ahgetW hB5 (by rw [k4.pages, hpg3]; exact m32) hp3 ((hb3.kp k4 (k := 1) (by omega)).mono (Nat.le_refl 1)) hgl3 hk31).mono ?_
          rintro _ s6 ⟨t', rfl, ht', hrow', U6, P6, f6, hB6, k6, hU6⟩
          have l6 := f6.len
          have y6 := at_lt hrow'
          have hrow6 := f6.get hrow5 hU14
          have y16 := at_lt hrow6
          have hU16 : ¬ U6 t13 := fun e => (f6.own _ e).elim hU14 fun e => by omega
          have hne16 : t13 ≠ t' := fun e => by omega
          have hcx6 := convC_ms hrow'
          have hcx7 := convC_ms (S := s6.set t13 none) (t := t') (r := r3) (by rw [List.getElem?_set_ne hne16]; exact hrow')
          have hcxb6 := convB_ms (t := t') (n := r3.length)
          repeat' first | ((with_reducible first | refine cs ?_ ?_ | refine ws ?_ ?_ | refine wd ?_ ?_ | refine wu ?_ ?_) <;> intro h <;> try simp only [h]) | simp only [↓wBA, tHs, convA, seval, pl3_29Hs, pl3_36Hs, wH, wHl, kindS, tyS, mutsS, lenS, appS, convBS, convCS, hwl2, hgw3, u31, u32, Int.toNat_natCast, hrow6, y16, hrow', y6, hcx6, hcx7, hcxb6, hcy, hbn, hwi2] | (with_reducible refine dP pl3_29Hs 12 (some 130) (by decide) (by kernel_rfl) ?_) | (with_reducible refine dP pl3_36Hs 8 (some 160) (by decide) (by kernel_rfl) ?_) | with_reducible refine And.intro ?_ ?_
          all_goals
           refine ⟨⟨i2 + 1, by omega⟩, by show es2.length - (i2 + 1) < es2.length - i2; omega, ⟨by omega, U6, P6, hB6, by rw [k6.pages, k4.pages]; exact hpg3, hb3.kp (k4.trans k6) (k := 800000 - 10 * (i2 + 1)) (by omega), hU16⟩, by simp only [wHl, wHf]⟩
       ·obtain rfl : i2 = es2.length := by omega
        have e3 := dF (i := es2.length) (n := es2.length) (by omega)
        repeat' first | ((with_reducible first | refine cs ?_ ?_ | refine ws ?_ ?_ | refine wd ?_ ?_ | refine wu ?_ ?_) <;> intro h <;> try simp only [h]) | simp only [↓wBA, tHs, convA, seval, pl3_29Hs, pl3_36Hs, wH, wHl, kindS, tyS, mutsS, lenS, appS, e3, hal2] | (with_reducible refine dP pl3_29Hs 12 (some 130) (by decide) (by kernel_rfl) ?_) | (with_reducible refine dP pl3_36Hs 8 (some 160) (by decide) (by kernel_rfl) ?_) | with_reducible refine And.intro ?_ ?_
        all_goals refine ret_st ?_ (by first | exact Nat.le_refl _ | (simp only [List.length_set, List.length_append]; omega) | omega)
        all_goals simp only [resA.eq_1, resL.eq_1, resL.eq_2, resV.eq_1, resV.eq_2, ↓wBA, tHs, convA, seval, wH, kindS, tyS, mutsS, lenS]
theorem sets_law (x xr : PV) (k : Int) (v u : Value) (W : World) (hx : HasSh (.sl 24 [.sl 1 [.int .u8]]) x) (hr : PRep W (inH W) x v) (hxr : HasSh (.sl 1 [.int .u8]) xr) (hrr : PRep W (inH W) xr u) :
 Calls Try.prog 3 #[v, .int .i64 k, u] W fun e W' => e = .returned (.bool true) ∧ Below W.heap.size W W' := by
 obtain ⟨ys, hy⟩ := recs_shY hx
 obtain ⟨rr, h1, h2⟩ := bytes_sh2 hxr
 exact law_calls2 (W := W) (vs := [v, .int .i64 k, u]) (aheapSets x ys hy k xr rr h1 (by omega) []) (by
  simp only [ARepL]
  exact ⟨_, _, rfl, (by simp only [ARep]; exact hr), _, _, rfl, rep_mk rfl, _, _, rfl, (by simp only [ARep]; exact hrr), rfl⟩)
end Go.Proofs.Ytlddiphjpmlhbaa
