/- Heaps: one call on a heap and on its list: a record is dropped. Pools are opened again. Two heaps on a batch, and their lists. -/
import Derived.Test.YtlddiphjpmlhbaaM46
import Derived.Test.YtlddiphjpmlhbaaM39
set_option linter.unusedSimpArgs false
set_option linter.unusedVariables false
set_option linter.defProp false
set_option maxRecDepth 100000
set_option maxHeartbeats 32000000
namespace Go.Proofs.Ytlddiphjpmlhbaa
open Go.RowKit
def pl19_4Hn4 : Plan := (.det 0 (.det 1 (.det 2 (.det 3 (.det 4 (.det 5 (.det 6 (.det 7 (.det 8 .done)))))))))
def pl19_18Hn4 : Plan := (.det 0 (.det 1 (.det 2 (.det 3 (.det 4 (.det 5 (.act 6 (.fin 7 (.det 8 (.det 9 (.fin 10 .done)))))))))))
def pl19_19Hn4 : Plan := (.det 0 (.det 1 (.det 2 (.det 3 (.det 4 (.det 5 (.det 6 (.act 7 (.fin 8 (.det 9 (.det 10 (.fin 11 .done))))))))))))
def pl19_24Hn4 : Plan := (.det 0 (.det 1 (.det 2 (.det 3 (.det 5 (.det 6 (.det 7 (.det 8 (.det 9 (.det 10 (.det 11 (.two 4 (.fin 12 (.det 13 (.det 14 (.det 15 .done)))) 12 (.act 4 (.det 13 (.det 14 (.det 15 .done))))))))))))))))
def pl19_29Hn4 : Plan := (.det 0 (.det 1 (.det 2 (.det 3 (.det 4 (.det 5 (.det 6 (.det 7 (.det 8 (.det 9 (.det 10 (.det 11 .done))))))))))))
def pl19_31Hn4 : Plan := (.det 0 (.det 1 (.det 2 (.det 3 (.det 4 (.det 5 (.det 6 (.det 7 (.fin 8 .done)))))))))
def tHn4 := aa wX <| aa wbu <| aa T3 <| aa T5 <| aa T9 <| aa T22 <| aa T23 <| aa T26 <| aa T31 <| aa T35 <| aa T37 <| aa T56 <| aa T58 T61
section
variable {σ s : St} {b p dd l kh first o : Nat} {U H : Nat → Prop} {P P' : PoolV} {v : Nat → List UInt8} {T : Nat → Bool} {ns : List Nat} {es : Ents}
theorem aone4 (h : HpS σ b p dd l kh first o U H P v T ns es) (on N : Int) (rr : List UInt8) (hrl : rr.length ≤ 140737488351232) (hl : es.length ≤ 500) (hpg : P.pages ≤ 3200) (hfree : cnt T P.pages < P.pages) (hb : Bud P 1) :
 ACalls Try.prog 19 [.mp b 2 0 0, intV .i64 (first : Nat), .mp o 2 0 0, opA 4 on N rr] σ (OneR σ b p dd l kh first o U H P v T ns es) := by
 obtain ⟨a, c, hI, hH⟩ := id h.rf
 have h0 := hI.o
 have l0 := at_lt h0
 have hla := own_len (C := cx) ck_35 hI.ats
 rw [atE_len] at hla
 have hel := encB_len rr
 have d1 : (es ≠ [] ∧ 0 ≤ N) ∨ (es ≠ [] ∧ ¬ 0 ≤ N) ∨ es = [] := by
  by_cases e : es = []
  ·exact .inr (.inr e)
  ·by_cases e2 : 0 ≤ N
   ·exact .inl ⟨e, e2⟩
   ·exact .inr (.inl ⟨e, e2⟩)
 refine acalls_of cxH_ok drH_ok Try.func19 (by kernel_rfl) rfl (nt := 188) (rs := [.tmp 8]) rfl rfl ?_
 rcases d1 with ⟨e1, e2⟩ | ⟨e1, e2⟩ | e1
 ·have hpos : 0 < es.length := List.length_pos_iff.2 e1
  have c1 : decide ((es.length : Int) > 0) = true := by simp only [gt_iff_lt, decide_eq_true_eq]; omega
  have c2 : decide (N ≥ 0) = true := by simp only [ge_iff_le, decide_eq_true_eq]; omega
  have hz : ((es.length : Int) = 0) = False := eq_false (by omega)
  obtain ⟨j, hj⟩ : ∃ j, j = N.toNat % es.length := ⟨_, rfl⟩
  have hjl : j < es.length := by rw [hj]; exact Nat.mod_lt _ hpos
  have htm : N.tmod (es.length : Int) = (j : Int) := by rw [Int.tmod_eq_emod_of_nonneg e2]; have : ((N.toNat % es.length : Nat) : Int) = (N.toNat : Int) % (es.length : Int) := Int.natCast_emod _ _; rw [hj, this, Int.toNat_of_nonneg e2]
  have hwj : IntKind.i64.wrap (j : Int) = (j : Int) := wrap_i64 (by omega) (by omega)
  obtain ⟨⟨⟨n, k⟩, y⟩, hej⟩ : ∃ e, es[j]? = some e := ⟨es[j], by simp⟩
  obtain ⟨ta, haa, _, hoa⟩ : ∃ t, a = .own t 2 (atE es) ∧ atE es ≠ [] ∧ σ[t]? = some (some (.right 37 ((atE es).length * 2))) := by
   rcases hI.ats with ⟨_, e⟩ | e
   ·exact absurd (by simpa [atE] using e) e1
   ·exact e
  have g1 := atE_get hej
  have g2 := atE_len es
  have u1 := nnI j
  have u2 : ((j : Int) < (es.length : Int)) = True := eq_true (by omega)
  repeat' first | ((with_reducible first | refine cs ?_ ?_ | refine ws ?_ ?_ | refine wd ?_ ?_ | refine wu ?_ ?_) <;> intro h <;> try simp only [h]) | simp only [↓wBA, tHn4, convA, seval, pl19_4Hn4, pl19_18Hn4, pl19_19Hn4, pl19_24Hn4, pl19_29Hn4, pl19_31Hn4, wH, wHH, opA, h0, l0, hla, c1, c2, hz, htm, hwj, g1, g2, u1, u2, Int.toNat_natCast, haa, hel] | (with_reducible refine dP pl19_4Hn4 9 (some 32) (by decide) (by kernel_rfl) ?_) | (with_reducible refine dP pl19_18Hn4 11 (some 90) (by decide) (by kernel_rfl) ?_) | (with_reducible refine dP pl19_19Hn4 12 (some 100) (by decide) (by kernel_rfl) ?_) | (with_reducible refine dP pl19_24Hn4 16 (some 128) (by decide) (by kernel_rfl) ?_) | (with_reducible refine dP pl19_29Hn4 12 (some 154) (by decide) (by kernel_rfl) ?_) | (with_reducible refine dP pl19_31Hn4 9 (some 168) (by decide) (by kernel_rfl) ?_) | with_reducible refine And.intro ?_ ?_
  refine ACalls.gen (fun s => Ap σ s ∧ s[σ.length]? = some (some (.row 4 [[.p (.v (.int .i64 4)), .p (.v (.int .i64 on)), .p (.v (.int .i64 N)), .p (.sl 1 (encB rr))]]))) ⟨(Ap.app _ _).more _, ?_⟩ fun s ⟨ha, hop⟩ => ?_
  ·skip
   simp only [wH, wHe, Nat.reduceAdd, Nat.reduceLT, Nat.reduceEqDiff, Nat.reduceMul, reduceCtorEq, Nat.lt_irrefl]
  have lop := at_lt hop
  have hs1 := ha.len
  have hUlt := h.bt.lt
  obtain ⟨hn1, hk1, hgl⟩ := h.eq.pos (List.mem_of_getElem? hej)
  obtain ⟨n1, n2, _⟩ := h.hp.tk n hn1
  obtain ⟨nx, ss, hpg1⟩ := h.hp.ch.mem hn1
  refine (ahdrop (h.bt.ap ha) n1 n2 hpg1 hb hgl hk1).mono ?_
  rintro _ s6 ⟨rfl, U6, P6, f6, h6, k6⟩
  have l6 := f6.len
  have hch : ∀ t, H t → s6[t]? = σ[t]? := fun t ht => by
   have h1 := h.rf.lt t ht
   rw [f6.keep t (by omega) (fun e => h.dj t e ht)]
   obtain ⟨τ, rfl⟩ := ha
   exact List.getElem?_append_left h1
  have op6 := f6.get hop (fun e => by have := hUlt _ e; omega)
  have opl6 := at_lt op6
  have k6o : s6[o]? = some (some (.row 2 [[a, c]])) := by rw [hch o ((hH o).2 (.inl rfl))]; exact h0
  have l6o := at_lt k6o
  have nn3 : (o = σ.length) = False := nf (by omega)
  have nn4 : (σ.length = o) = False := nf (by omega)
  have fS := ha.fr.trans f6
  have hSl := fS.len
  have d0 : decide ((j : Int) < 0) = false := by simp
  repeat' first | ((with_reducible first | refine cs ?_ ?_ | refine ws ?_ ?_ | refine wd ?_ ?_ | refine wu ?_ ?_) <;> intro h <;> try simp only [h]) | simp only [↓wBA, tHn4, convA, seval, pl19_4Hn4, pl19_18Hn4, pl19_19Hn4, pl19_24Hn4, pl19_29Hn4, pl19_31Hn4, wH, wHH, k6o, l6o, op6, opl6, nn3, nn4, hel, d0] | (with_reducible refine dP pl19_4Hn4 9 (some 32) (by decide) (by kernel_rfl) ?_) | (with_reducible refine dP pl19_18Hn4 11 (some 90) (by decide) (by kernel_rfl) ?_) | (with_reducible refine dP pl19_19Hn4 12 (some 100) (by decide) (by kernel_rfl) ?_) | (with_reducible refine dP pl19_24Hn4 16 (some 128) (by decide) (by kernel_rfl) ?_) | (with_reducible refine dP pl19_29Hn4 12 (some 154) (by decide) (by kernel_rfl) ?_) | (with_reducible refine dP pl19_31Hn4 9 (some 168) (by decide) (by kernel_rfl) ?_) | with_reducible refine And.intro ?_ ?_
  refine (adropR (h.rf.same hch) (by omega) hjl).mono ?_
  rintro _ s7 ⟨rfl, H7, f7, h7⟩
  have l7 := f7.len
  repeat' first | ((with_reducible first | refine cs ?_ ?_ | refine ws ?_ ?_ | refine wd ?_ ?_ | refine wu ?_ ?_) <;> intro h <;> try simp only [h]) | simp only [↓wBA, tHn4, convA, seval, pl19_4Hn4, pl19_18Hn4, pl19_19Hn4, pl19_24Hn4, pl19_29Hn4, pl19_31Hn4, wH, wHH] | (with_reducible refine dP pl19_4Hn4 9 (some 32) (by decide) (by kernel_rfl) ?_) | (with_reducible refine dP pl19_18Hn4 11 (some 90) (by decide) (by kernel_rfl) ?_) | (with_reducible refine dP pl19_19Hn4 12 (some 100) (by decide) (by kernel_rfl) ?_) | (with_reducible refine dP pl19_24Hn4 16 (some 128) (by decide) (by kernel_rfl) ?_) | (with_reducible refine dP pl19_29Hn4 12 (some 154) (by decide) (by kernel_rfl) ?_) | (with_reducible refine dP pl19_31Hn4 9 (some 168) (by decide) (by kernel_rfl) ?_) | with_reducible refine And.intro ?_ ?_
  all_goals refine ret_st ?_ (by first | exact Nat.le_refl _ | (simp only [List.length_set, List.length_append]; omega) | omega)
  all_goals simp only [resA.eq_1, resL.eq_1, resL.eq_2, resV.eq_1, resV.eq_2, ↓wBA, tHn4, convA, seval, wH, wHH]
  obtain ⟨hH2, hE2⟩ := h.eq.dropH h.hp hej
  have hnU6 : ∀ t, U6 t → ¬ H t := fun t x z => (f6.own t x).elim (fun e => h.dj t e z) fun e => by have := h.rf.lt t z; omega
  have hv0 : upV v n (dropL (v n) (k : Nat)).1 0 = v 0 := if_neg (by omega)
  refine ⟨rfl, U6, H7, P6, _, T, ns, es.eraseIdx j, ?_, ⟨h6.frame f7 hnU6, by rw [k6.pages, hv0]; exact h.tk, h.t0, by rw [k6.pages]; exact hH2, h.fst, h7, fun t x z => (f7.own t z).elim (hnU6 t x) fun e => by have := h6.lt t x; omega, hE2⟩, ⟨k6, by have := (List.eraseIdx_sublist es j).length_le; omega, Nat.le_succ _, Nat.le_succ _, fun _ h => h, fun _ h => .inl h, fun m hm _ => if_neg fun e => hm (by rw [e]; exact hn1)⟩⟩
  refine ((fS.sub (G := fun t => U t ∨ H t) (G' := fun t => U6 t ∨ H t) (fun t ht => .inl ht) fun t ht => ht.elim (fun e => (fS.own t e).imp .inl id) fun e => .inl (.inr e))).trans (f7.sub (G := fun t => U6 t ∨ H t) (G' := fun t => U6 t ∨ H7 t) (fun t ht => .inr ht) fun t ht => ht.elim (fun e => .inl (.inl e)) fun e => (f7.own t e).imp .inr id)
 ·have hpos : 0 < es.length := List.length_pos_iff.2 e1
  have c1 : decide ((es.length : Int) > 0) = true := by simp only [gt_iff_lt, decide_eq_true_eq]; omega
  have c2 : decide (N ≥ 0) = false := by simp only [ge_iff_le, decide_eq_false_iff_not]; omega
  repeat' first | ((with_reducible first | refine cs ?_ ?_ | refine ws ?_ ?_ | refine wd ?_ ?_ | refine wu ?_ ?_) <;> intro h <;> try simp only [h]) | simp only [↓wBA, tHn4, convA, seval, pl19_4Hn4, pl19_18Hn4, pl19_19Hn4, pl19_24Hn4, pl19_29Hn4, pl19_31Hn4, wH, wHH, opA, h0, l0, hla, c1, c2, hel] | (with_reducible refine dP pl19_4Hn4 9 (some 32) (by decide) (by kernel_rfl) ?_) | (with_reducible refine dP pl19_18Hn4 11 (some 90) (by decide) (by kernel_rfl) ?_) | (with_reducible refine dP pl19_19Hn4 12 (some 100) (by decide) (by kernel_rfl) ?_) | (with_reducible refine dP pl19_24Hn4 16 (some 128) (by decide) (by kernel_rfl) ?_) | (with_reducible refine dP pl19_29Hn4 12 (some 154) (by decide) (by kernel_rfl) ?_) | (with_reducible refine dP pl19_31Hn4 9 (some 168) (by decide) (by kernel_rfl) ?_) | with_reducible refine And.intro ?_ ?_
  refine ACalls.gen (fun s => Ap σ s ∧ s[σ.length]? = some (some (.row 4 [[.p (.v (.int .i64 4)), .p (.v (.int .i64 on)), .p (.v (.int .i64 N)), .p (.sl 1 (encB rr))]]))) ⟨(Ap.app _ _).more _, ?_⟩ fun s ⟨ha, hop⟩ => ?_
  ·skip
   simp only [wH, wHe, Nat.reduceAdd, Nat.reduceLT, Nat.reduceEqDiff, Nat.reduceMul, reduceCtorEq, Nat.lt_irrefl]
  have lop := at_lt hop
  have hs1 := ha.len
  have hUlt := h.bt.lt
  have hn1 : first ∈ ns := List.mem_of_getElem? h.fst
  obtain ⟨n1, n2, _⟩ := h.hp.tk first hn1
  obtain ⟨nx, ss, hpg1⟩ := h.hp.ch.mem hn1
  have hgl := hpg1.far
  refine (ahdropX (h.bt.ap ha) n1 n2 hpg1 hb hgl).mono ?_
  rintro _ s6 ⟨rfl, U6, P6, f6, h6, k6⟩
  have l6 := f6.len
  have hch : ∀ t, H t → s6[t]? = σ[t]? := fun t ht => by
   have h1 := h.rf.lt t ht
   rw [f6.keep t (by omega) (fun e => h.dj t e ht)]
   obtain ⟨τ, rfl⟩ := ha
   exact List.getElem?_append_left h1
  have op6 := f6.get hop (fun e => by have := hUlt _ e; omega)
  have opl6 := at_lt op6
  have k6o : s6[o]? = some (some (.row 2 [[a, c]])) := by rw [hch o ((hH o).2 (.inl rfl))]; exact h0
  have l6o := at_lt k6o
  have nn3 : (o = σ.length) = False := nf (by omega)
  have nn4 : (σ.length = o) = False := nf (by omega)
  have fS := ha.fr.trans f6
  have hSl := fS.len
  repeat' first | ((with_reducible first | refine cs ?_ ?_ | refine ws ?_ ?_ | refine wd ?_ ?_ | refine wu ?_ ?_) <;> intro h <;> try simp only [h]) | simp only [↓wBA, tHn4, convA, seval, pl19_4Hn4, pl19_18Hn4, pl19_19Hn4, pl19_24Hn4, pl19_29Hn4, pl19_31Hn4, wH, wHH, k6o, l6o, op6, opl6, nn3, nn4, hel] | (with_reducible refine dP pl19_4Hn4 9 (some 32) (by decide) (by kernel_rfl) ?_) | (with_reducible refine dP pl19_18Hn4 11 (some 90) (by decide) (by kernel_rfl) ?_) | (with_reducible refine dP pl19_19Hn4 12 (some 100) (by decide) (by kernel_rfl) ?_) | (with_reducible refine dP pl19_24Hn4 16 (some 128) (by decide) (by kernel_rfl) ?_) | (with_reducible refine dP pl19_29Hn4 12 (some 154) (by decide) (by kernel_rfl) ?_) | (with_reducible refine dP pl19_31Hn4 9 (some 168) (by decide) (by kernel_rfl) ?_) | with_reducible refine And.intro ?_ ?_
  all_goals refine ret_st ?_ (by first | exact Nat.le_refl _ | (simp only [List.length_set, List.length_append]; omega) | omega)
  all_goals simp only [resA.eq_1, resL.eq_1, resL.eq_2, resV.eq_1, resV.eq_2, ↓wBA, tHn4, convA, seval, wH, wHH]
  all_goals exact OneR.bt h fS h6 k6
 ·have c1 : decide ((es.length : Int) > 0) = false := by rw [e1]; rfl
  repeat' first | ((with_reducible first | refine cs ?_ ?_ | refine ws ?_ ?_ | refine wd ?_ ?_ | refine wu ?_ ?_) <;> intro h <;> try simp only [h]) | simp only [↓wBA, tHn4, convA, seval, pl19_4Hn4, pl19_18Hn4, pl19_19Hn4, pl19_24Hn4, pl19_29Hn4, pl19_31Hn4, wH, wHH, opA, h0, l0, hla, c1, hel] | (with_reducible refine dP pl19_4Hn4 9 (some 32) (by decide) (by kernel_rfl) ?_) | (with_reducible refine dP pl19_18Hn4 11 (some 90) (by decide) (by kernel_rfl) ?_) | (with_reducible refine dP pl19_19Hn4 12 (some 100) (by decide) (by kernel_rfl) ?_) | (with_reducible refine dP pl19_24Hn4 16 (some 128) (by decide) (by kernel_rfl) ?_) | (with_reducible refine dP pl19_29Hn4 12 (some 154) (by decide) (by kernel_rfl) ?_) | (with_reducible refine dP pl19_31Hn4 9 (some 168) (by decide) (by kernel_rfl) ?_) | with_reducible refine And.intro ?_ ?_
  refine ACalls.gen (fun s => Ap σ s ∧ s[σ.length]? = some (some (.row 4 [[.p (.v (.int .i64 4)), .p (.v (.int .i64 on)), .p (.v (.int .i64 N)), .p (.sl 1 (encB rr))]]))) ⟨(Ap.app _ _).more _, ?_⟩ fun s ⟨ha, hop⟩ => ?_
  ·skip
   simp only [wH, wHe, Nat.reduceAdd, Nat.reduceLT, Nat.reduceEqDiff, Nat.reduceMul, reduceCtorEq, Nat.lt_irrefl]
  have lop := at_lt hop
  have hs1 := ha.len
  have hUlt := h.bt.lt
  have hn1 : first ∈ ns := List.mem_of_getElem? h.fst
  obtain ⟨n1, n2, _⟩ := h.hp.tk first hn1
  obtain ⟨nx, ss, hpg1⟩ := h.hp.ch.mem hn1
  have hgl := hpg1.far
  refine (ahdropX (h.bt.ap ha) n1 n2 hpg1 hb hgl).mono ?_
  rintro _ s6 ⟨rfl, U6, P6, f6, h6, k6⟩
  have l6 := f6.len
  have hch : ∀ t, H t → s6[t]? = σ[t]? := fun t ht => by
   have h1 := h.rf.lt t ht
   rw [f6.keep t (by omega) (fun e => h.dj t e ht)]
   obtain ⟨τ, rfl⟩ := ha
   exact List.getElem?_append_left h1
  have op6 := f6.get hop (fun e => by have := hUlt _ e; omega)
  have opl6 := at_lt op6
  have k6o : s6[o]? = some (some (.row 2 [[a, c]])) := by rw [hch o ((hH o).2 (.inl rfl))]; exact h0
  have l6o := at_lt k6o
  have nn3 : (o = σ.length) = False := nf (by omega)
  have nn4 : (σ.length = o) = False := nf (by omega)
  have fS := ha.fr.trans f6
  have hSl := fS.len
  repeat' first | ((with_reducible first | refine cs ?_ ?_ | refine ws ?_ ?_ | refine wd ?_ ?_ | refine wu ?_ ?_) <;> intro h <;> try simp only [h]) | simp only [↓wBA, tHn4, convA, seval, pl19_4Hn4, pl19_18Hn4, pl19_19Hn4, pl19_24Hn4, pl19_29Hn4, pl19_31Hn4, wH, wHH, k6o, l6o, op6, opl6, nn3, nn4, hel] | (with_reducible refine dP pl19_4Hn4 9 (some 32) (by decide) (by kernel_rfl) ?_) | (with_reducible refine dP pl19_18Hn4 11 (some 90) (by decide) (by kernel_rfl) ?_) | (with_reducible refine dP pl19_19Hn4 12 (some 100) (by decide) (by kernel_rfl) ?_) | (with_reducible refine dP pl19_24Hn4 16 (some 128) (by decide) (by kernel_rfl) ?_) | (with_reducible refine dP pl19_29Hn4 12 (some 154) (by decide) (by kernel_rfl) ?_) | (with_reducible refine dP pl19_31Hn4 9 (some 168) (by decide) (by kernel_rfl) ?_) | with_reducible refine And.intro ?_ ?_
  all_goals refine ret_st ?_ (by first | exact Nat.le_refl _ | (simp only [List.length_set, List.length_append]; omega) | omega)
  all_goals simp only [resA.eq_1, resL.eq_1, resL.eq_2, resV.eq_1, resV.eq_2, ↓wBA, tHn4, convA, seval, wH, wHH]
  all_goals exact OneR.bt h fS h6 k6
end
end Go.Proofs.Ytlddiphjpmlhbaa
namespace Go.Proofs.Ytlddiphjpmlhbaa
open Go.RowKit
structure Rest (σ : St) (dd dl : Nat) (Fd Fl : Nat → Prop) (D DL : DiskV) (c : Nat) (v : Nat → List UInt8) (np : Nat) : Prop where
 d : DiskAt σ dd Fd D
 l : DiskAt σ dl Fl DL
 dj : ∀ t, Fd t → Fl t → False
 z : 16 ≤ D.size
 pn : np = min (D.size / 8) 3840
 s : ∀ k, (secAt D.now k).length = 64
 dw : D.wait = []
 lz : 3 ≤ DL.size
 ls : ∀ k, (secAt DL.now k).length = 64
 lw : DL.wait = []
 ex : ∃ chs, ChsOk np chs ∧ Heads DL.now c (recsB (chs.map imgsB)).length ∧ (recsB (chs.map imgsB)).length ≤ (DL.size - 2) * 64 ∧ (∀ k, k < (recsB (chs.map imgsB)).length → (secAt DL.now (2 + k / 64))[k % 64]? = (recsB (chs.map imgsB))[k]?) ∧ ∀ n, v n = ovr (fun m => pgz (diskPg D.now m)) chs.flatten n
theorem arestD {σ : St} {p dd l kh : Nat} {G : Nat → Prop} {P : PoolV} (h : PoolAt σ p dd l kh G P) (hf : P.log.wait = 0) (hw : P.data.wait.length ≤ 1000000000000) :
 ACalls Try.prog 18 [.mp dd 6 0 0, .p (.v (.slice none 0 0))] σ fun r σ' => ∃ Fd Fl D, Fr σ σ' G (fun t => Fd t ∨ Fl t) ∧ Rest σ' dd P.log.d Fd Fl D P.log.disk P.log.ctr P.view P.pages ∧ D.size = P.data.size := by
 obtain ⟨⟨hk, Fd, Gl, w, a, H, hG⟩, chs, r1, r2, r3⟩ := h
 obtain ⟨d, F, w', a', hL, hGl⟩ := H.log
 refine (adrestart H.data hw).mono ?_
 rintro r s ⟨Fd', now, hf1, hd, hn⟩
 have hld : DiskAt s d F P.log.disk := hL.disk.frame hf1 fun t h1 h2 => H.dl t h2 ((hGl t).2 (.inr (.inl h1)))
 have hdj : ∀ t, Fd' t → F t → False := fun t h1 h2 => (hf1.own t h1).elim (fun e => H.dl t e ((hGl t).2 (.inr (.inl h2)))) fun e => by have := hL.disk.lt t h2; omega
 have hkl : ∀ k, (P.data.kept k).length = 64 := by
  obtain ⟨kn, kk, w2, a2, es, hd2, _⟩ := H.data
  exact hd2.kl
 have hlen : P.log.len = P.log.str.length := hL.dr hf
 have hhd := hL.heads
 have hon := hL.on
 rw [hlen, r1] at hhd hon
 have hrm := hL.room
 rw [r1] at hrm
 refine ⟨Fd', F, _, ?_, ⟨hd, by rw [hL.id]; exact hld, hdj, hk.size, rfl, fun k => by rw [show secAt _ k = P.data.kept k from hn k]; exact hkl k, rfl, hL.big, hL.secs, hL.dry, chs, r2, hhd, hrm, hon, fun n => ?_⟩, rfl⟩
 ·refine ⟨hf1.len, fun t ht hng => hf1.keep t ht fun e => hng ((hG t).2 (.inr (.inr (.inl e)))), fun t ht => ?_⟩
  rcases ht with ht | ht
  ·exact (hf1.own t ht).imp (fun e => (hG t).2 (.inr (.inr (.inl e)))) id
  ·exact .inl ((hG t).2 (.inr (.inr (.inr (.inl ((hGl t).2 (.inr (.inl ht))))))))
 ·rw [r3]
  refine ovr_congr (fun m => ?_) n _
  show pgz (keptPg P.data.kept m) = pgz (keptPg (secAt now) m)
  rw [keptPg_congr hn]
section
variable {σ : St} {dd dl : Nat} {Fd Fl : Nat → Prop} {D DL : DiskV} {c np : Nat} {v : Nat → List UInt8}
theorem arestL (h : Rest σ dd dl Fd Fl D DL c v np) : ACalls Try.prog 18 [.mp dl 6 0 0, .p (.v (.slice none 0 0))] σ fun r σ' => Fr σ σ' Fl Fl ∧ Rest σ' dd dl Fd Fl D DL c v np := by
 refine (adrestart0 h.l h.lw).mono ?_
 rintro r s ⟨hf, hl⟩
 exact ⟨hf, ⟨h.d.frame hf h.dj, hl, h.dj, h.z, h.pn, h.s, h.dw, h.lz, h.ls, h.lw, h.ex⟩⟩
theorem areopen (h : Rest σ dd dl Fd Fl D DL c v np) (most : Nat) (hm : 1 ≤ most) (hmb : most ≤ 100000) (hc : c + 200000 < 18446744073709551616) :
 ACalls Try.prog 7 [.mp dd 6 0 0, .mp dl 6 0 0, intV .i64 (most : Nat)] σ fun r σ' => ∃ p l kh G P, r = .tup [.mp p 6 0 0, intV .i64 0] ∧ Fr σ σ' (fun t => Fd t ∨ Fl t) G ∧ PoolAt σ' p dd l kh G P ∧ P.pages = np ∧ P.most = most ∧ P.dq = 0 ∧ P.log.disk.size = DL.size ∧ P.log.d = dl ∧ P.log.wait = 0 ∧ P.ct ≤ c + 200000 ∧ P.view = v := by
 obtain ⟨chs, c1, c2, c3, c4, c5⟩ := h.ex
 have hnp := h.pn
 by_cases hne : chs = []
 ·subst hne
  refine (aopenP h.d h.l h.dj h.z h.s h.lz c c2 h.ls h.lw most hm hmb h.dw).mono ?_
  rintro r s ⟨p, l, kh, G, P, rfl, ha, hP, p1, p2, p3, p4, p5, p6⟩
  refine ⟨p, l, kh, G, P, rfl, ha.fr.to fun t ht => ?_, hP, ?_, p3, by simp [PoolV.dq, PoolV.dirt, p1, p4, h.dw], by rw [p5], by rw [p5], by rw [p5], by unfold PoolV.ct; rw [p5]; exact Nat.le_add_right _ _, funext fun n => ?_⟩
  ·rcases p6 t ht with e | e | e
   ·exact .inl (.inl e)
   ·exact .inl (.inr e)
   ·exact .inr e
  ·unfold PoolV.pages; rw [p4, hnp]
  ·rw [c5, PoolV.view, p2, p4]; rfl
 ·refine (aopenPR h.d h.l h.dj h.z h.s h.lz c chs hne (by rw [← hnp]; exact c1) c2 c3 c4 h.ls h.lw h.dw most hm hmb hc).mono ?_
  rintro r s ⟨p, l, kh, G, P, rfl, hf, hP, p1, p2, p3, p4, p5, p6, p7, p8, p9, p10⟩
  obtain ⟨hk, Fd', Gl, w, a, H, hG⟩ := id hP
  refine ⟨p, l, kh, G, P, rfl, hf, ⟨hP, rp_pt hk p6 p10 (kept_now H.data p3)⟩, ?_, p1, by unfold PoolV.dq; rw [p3, show P.dirt = 0 from List.countP_eq_zero.2 fun g hg => by rw [p10 g hg]; simp]; rfl, p4, p5, p7, p8, funext fun n => ?_⟩
  ·unfold PoolV.pages; rw [p2, hnp]
  ·rw [p9, c5]
end
end Go.Proofs.Ytlddiphjpmlhbaa
namespace Go.Proofs.Ytlddiphjpmlhbaa
open Go.RowKit
section
variable {σ s : St} {b p dd l kh first o b' p' dd' l' kh' x y o1 o2 : Nat} {U U' H H' H1 H2 : Nat → Prop} {P P' : PoolV} {v v' : Nat → List UInt8} {T T' : Nat → Bool} {ns ns' ns1 ns2 : List Nat} {es es' es1 es2 : Ents}
theorem aone (h : HpS σ b p dd l kh first o U H P v T ns es) (kind on N : Int) (rr : List UInt8) (hrl : rr.length ≤ 140737488351232) (hl : es.length ≤ 500) (hpg : P.pages ≤ 3200) (hfree : cnt T P.pages < P.pages) (hb : Bud P 1) :
 ACalls Try.prog 19 [.mp b 2 0 0, intV .i64 (first : Nat), .mp o 2 0 0, opA kind on N rr] σ (OneR σ b p dd l kh first o U H P v T ns es) := by
 by_cases h1 : kind = 1
 ·subst h1; exact aone1 h on N rr hrl hl hpg hfree hb
 by_cases h2 : kind = 2
 ·subst h2; exact aone2 h on N rr hrl hl hpg hfree hb
 by_cases h3 : kind = 3
 ·subst h3; exact aone3 h on N rr hrl hl hpg hfree hb
 by_cases h4 : kind = 4
 ·subst h4; exact aone4 h on N rr hrl hl hpg hfree hb
 exact aone0 h kind on N rr hl ⟨h1, h2, h3, h4⟩
theorem HpS.move (h : HpS σ b p dd l kh first o U H P v T ns es) (hb : Bt s b' p' dd' l' kh' U' P' v) (hpg : P'.pages = P.pages) (hr : ∀ t, H t → s[t]? = σ[t]?) (hd : ∀ t, U' t → H t → False) : HpS s b' p' dd' l' kh' first o U' H P' v T ns es :=
 ⟨hb, by rw [hpg]; exact h.tk, h.t0, by rw [hpg]; exact h.hp, h.fst, h.rf.same hr, hd, h.eq⟩
structure TwoS (σ : St) (b p dd l kh x y o1 o2 : Nat) (U H1 H2 : Nat → Prop) (P : PoolV) (v : Nat → List UInt8) (T : Nat → Bool) (ns1 ns2 : List Nat) (es1 es2 : Ents) : Prop where
 a : HpS σ b p dd l kh x o1 U H1 P v T ns1 es1
 b : HpS σ b p dd l kh y o2 U H2 P v T ns2 es2
 dh : ∀ t, H1 t → H2 t → False
 dn : ∀ n ∈ ns1, n ∉ ns2
theorem TwoS.swap (h : TwoS σ b p dd l kh x y o1 o2 U H1 H2 P v T ns1 ns2 es1 es2) : TwoS σ b p dd l kh y x o2 o1 U H2 H1 P v T ns2 ns1 es2 es1 :=
 ⟨h.b, h.a, fun t a b => h.dh t b a, fun n a b => h.dn n b a⟩
theorem TwoS.move (h : TwoS σ b p dd l kh x y o1 o2 U H1 H2 P v T ns1 ns2 es1 es2) (hb : Bt s b' p' dd' l' kh' U' P' v) (hpg : P'.pages = P.pages) (hr : ∀ t, H1 t ∨ H2 t → s[t]? = σ[t]?) (hd : ∀ t, U' t → H1 t ∨ H2 t → False) : TwoS s b' p' dd' l' kh' x y o1 o2 U' H1 H2 P' v T ns1 ns2 es1 es2 :=
 ⟨h.a.move hb hpg (fun t ht => hr t (.inl ht)) fun t a b => hd t a (.inl b), h.b.move hb hpg (fun t ht => hr t (.inr ht)) fun t a b => hd t a (.inr b), h.dh, h.dn⟩
theorem TwoS.lt (h : TwoS σ b p dd l kh x y o1 o2 U H1 H2 P v T ns1 ns2 es1 es2) : ∀ t, U t ∨ H1 t ∨ H2 t → t < σ.length := fun t ht => ht.elim (h.a.bt.lt t) fun e => e.elim (h.a.rf.lt t) (h.b.rf.lt t)
theorem TwoS.bt (h : TwoS σ b p dd l kh x y o1 o2 U H1 H2 P v T ns1 ns2 es1 es2) (hf : Fr σ s U U') (hb : Bt s b p dd l kh U' P' v) (hpg : P'.pages = P.pages) : TwoS s b p dd l kh x y o1 o2 U' H1 H2 P' v T ns1 ns2 es1 es2 :=
 h.move hb hpg (fun t ht => hf.keep t (h.lt t (.inr ht)) fun e => ht.elim (h.a.dj t e) (h.b.dj t e)) fun t a c => (hf.own t a).elim (fun e => c.elim (h.a.dj t e) (h.b.dj t e)) fun e => by have := h.lt t (.inr c); omega
theorem TwoS.ap (h : TwoS σ b p dd l kh x y o1 o2 U H1 H2 P v T ns1 ns2 es1 es2) (ha : Ap σ s) : TwoS s b p dd l kh x y o1 o2 U H1 H2 P v T ns1 ns2 es1 es2 := h.bt ha.fr (h.a.bt.ap ha) rfl
theorem TwoS.one (h : TwoS σ b p dd l kh x y o1 o2 U H1 H2 P v T ns1 ns2 es1 es2) {H1' : Nat → Prop} {ns1' : List Nat} {es1' : Ents} (hf : Fr σ s (fun t => U t ∨ H1 t) (fun t => U' t ∨ H1' t)) (h1 : HpS s b p dd l kh x o1 U' H1' P' v' T' ns1' es1') (ho : OneP P P' v v' T T' ns1 ns1' es1 es1') :
 TwoS s b p dd l kh x y o1 o2 U' H1' H2 P' v' T' ns1' ns2 es1' es2 := by
 have hpg := ho.kp.pages
 have hn : ∀ n ∈ ns2, n ∉ ns1' := fun n hn2 hn1 => (ho.nw n hn1).elim (fun e => h.dn n e hn2) fun e => by rw [(h.b.hp.tk n hn2).2.2] at e; cases e
 obtain ⟨hh, hr⟩ := h.b.hp.other (v' := v') (T' := T') (fun n hn2 => ho.oth n (hn n hn2) (by have := (h.b.hp.tk n hn2).1; omega)) (fun n hn2 => by have := (h.b.hp.tk n hn2).2.2; rw [this, ho.mono n this])
 have hd2 : ∀ t, U t ∨ H1 t → H2 t → False := fun t a c => a.elim (fun e => h.b.dj t e c) fun e => h.dh t e c
 have hd3 : ∀ t, U' t ∨ H1' t → H2 t → False := fun t a c => (hf.own t a).elim (fun e => hd2 t e c) fun e => by have := h.b.rf.lt t c; omega
 exact ⟨h1, ⟨h1.bt, h1.tk, h1.t0, by rw [hpg]; exact hh, h.b.fst, h.b.rf.frame hf fun t a c => hd2 t c a, fun t a c => hd3 t (.inl a) c, ⟨fun n k r => by rw [hr]; exact h.b.eq.get n k r, h.b.eq.nd⟩⟩, fun t a c => hd3 t (.inr a) c, fun n a c => hn n c a⟩
end
abbrev OpV := Int × Int × Int × List UInt8
def opR (o : OpV) : List PV := [.v (.int .i64 o.1), .v (.int .i64 o.2.1), .v (.int .i64 o.2.2.1), .sl 1 (encB o.2.2.2)]
end Go.Proofs.Ytlddiphjpmlhbaa
