/- Heaps: one call on a heap and on its list: a record is read. Heaps: one call on a heap and on its list: a record is set. -/
import Derived.Test.YtlddiphjpmlhbaaM45
set_option linter.unusedSimpArgs false
set_option linter.unusedVariables false
set_option linter.defProp false
set_option maxRecDepth 100000
set_option maxHeartbeats 32000000
namespace Go.Proofs.Ytlddiphjpmlhbaa
open Go.RowKit
def pl19_4Hn2 : Plan := (.det 0 (.det 1 (.det 2 (.det 3 (.det 4 (.det 5 (.det 6 (.det 7 (.det 8 .done)))))))))
def pl19_18Hn2 : Plan := (.det 0 (.det 1 (.det 2 (.det 3 (.det 4 (.det 5 (.act 6 (.fin 7 (.det 8 (.det 9 (.fin 10 .done)))))))))))
def pl19_19Hn2 : Plan := (.det 0 (.det 1 (.det 2 (.det 3 (.det 4 (.det 5 (.det 6 (.act 7 (.fin 8 (.det 9 (.det 10 (.fin 11 .done))))))))))))
def pl19_24Hn2 : Plan := (.det 0 (.det 1 (.det 2 (.det 3 (.det 5 (.det 6 (.det 7 (.det 8 (.det 9 (.det 10 (.det 11 (.two 4 (.fin 12 (.det 13 (.det 14 (.det 15 .done)))) 12 (.act 4 (.det 13 (.det 14 (.det 15 .done))))))))))))))))
def pl19_29Hn2 : Plan := (.det 0 (.det 1 (.det 2 (.det 3 (.det 4 (.det 5 (.det 6 (.det 7 (.det 8 (.det 9 (.det 10 (.det 11 .done))))))))))))
def pl19_31Hn2 : Plan := (.det 0 (.det 1 (.det 2 (.det 3 (.det 4 (.det 5 (.det 6 (.det 7 (.fin 8 .done)))))))))
def tHn2 := aa wX <| aa wbu <| aa T3 <| aa T5 <| aa T9 <| aa T22 <| aa T23 <| aa T26 <| aa T31 <| aa T35 <| aa T37 <| aa T56 <| aa T58 T61
section
variable {σ s : St} {b p dd l kh first o : Nat} {U H : Nat → Prop} {P P' : PoolV} {v : Nat → List UInt8} {T : Nat → Bool} {ns : List Nat} {es : Ents}
theorem aone2 (h : HpS σ b p dd l kh first o U H P v T ns es) (on N : Int) (rr : List UInt8) (hrl : rr.length ≤ 140737488351232) (hl : es.length ≤ 500) (hpg : P.pages ≤ 3200) (hfree : cnt T P.pages < P.pages) (hb : Bud P 1) :
 ACalls Try.prog 19 [.mp b 2 0 0, intV .i64 (first : Nat), .mp o 2 0 0, opA 2 on N rr] σ (OneR σ b p dd l kh first o U H P v T ns es) := by
 obtain ⟨a, c, hI, hH⟩ := id h.rf
 have h0 := hI.o
 have l0 := at_lt h0
 have hla := own_len (C := cx) ck_35 hI.ats
 rw [atE_len] at hla
 have hel := encB_len rr
 have d1 : (es ≠ [] ∧ 0 ≤ N) ∨ (es ≠ [] ∧ ¬ 0 ≤ N) ∨ es = [] := by
  by_cases e : es = []
  ·exact .inr (.inr e)
  ·by_cases e2 : 0 ≤ N
   ·exact .inl ⟨e, e2⟩
   ·exact .inr (.inl ⟨e, e2⟩)
 refine acalls_of cxH_ok drH_ok Try.func19 (by kernel_rfl) rfl (nt := 188) (rs := [.tmp 8]) rfl rfl ?_
 rcases d1 with ⟨e1, e2⟩ | ⟨e1, e2⟩ | e1
 ·have hpos : 0 < es.length := List.length_pos_iff.2 e1
  have c1 : decide ((es.length : Int) > 0) = true := by simp only [gt_iff_lt, decide_eq_true_eq]; omega
  have c2 : decide (N ≥ 0) = true := by simp only [ge_iff_le, decide_eq_true_eq]; omega
  have hz : ((es.length : Int) = 0) = False := eq_false (by omega)
  obtain ⟨j, hj⟩ : ∃ j, j = N.toNat % es.length := ⟨_, rfl⟩
  have hjl : j < es.length := by rw [hj]; exact Nat.mod_lt _ hpos
  have htm : N.tmod (es.length : Int) = (j : Int) := by rw [Int.tmod_eq_emod_of_nonneg e2]; have : ((N.toNat % es.length : Nat) : Int) = (N.toNat : Int) % (es.length : Int) := Int.natCast_emod _ _; rw [hj, this, Int.toNat_of_nonneg e2]
  have hwj : IntKind.i64.wrap (j : Int) = (j : Int) := wrap_i64 (by omega) (by omega)
  obtain ⟨⟨⟨n, k⟩, y⟩, hej⟩ : ∃ e, es[j]? = some e := ⟨es[j], by simp⟩
  obtain ⟨ta, haa, _, hoa⟩ : ∃ t, a = .own t 2 (atE es) ∧ atE es ≠ [] ∧ σ[t]? = some (some (.right 37 ((atE es).length * 2))) := by
   rcases hI.ats with ⟨_, e⟩ | e
   ·exact absurd (by simpa [atE] using e) e1
   ·exact e
  have g1 := atE_get hej
  have g2 := atE_len es
  have u1 := nnI j
  have u2 : ((j : Int) < (es.length : Int)) = True := eq_true (by omega)
  repeat' first | ((with_reducible first | refine cs ?_ ?_ | refine ws ?_ ?_ | refine wd ?_ ?_ | refine wu ?_ ?_) <;> intro h <;> try simp only [h]) | simp only [↓wBA, tHn2, convA, seval, pl19_4Hn2, pl19_18Hn2, pl19_19Hn2, pl19_24Hn2, pl19_29Hn2, pl19_31Hn2, wH, wHH, opA, h0, l0, hla, c1, c2, hz, htm, hwj, g1, g2, u1, u2, Int.toNat_natCast, haa, hel] | (with_reducible refine dP pl19_4Hn2 9 (some 32) (by decide) (by kernel_rfl) ?_) | (with_reducible refine dP pl19_18Hn2 11 (some 90) (by decide) (by kernel_rfl) ?_) | (with_reducible refine dP pl19_19Hn2 12 (some 100) (by decide) (by kernel_rfl) ?_) | (with_reducible refine dP pl19_24Hn2 16 (some 128) (by decide) (by kernel_rfl) ?_) | (with_reducible refine dP pl19_29Hn2 12 (some 154) (by decide) (by kernel_rfl) ?_) | (with_reducible refine dP pl19_31Hn2 9 (some 168) (by decide) (by kernel_rfl) ?_) | with_reducible refine And.intro ?_ ?_
  refine ACalls.gen (fun s => Ap σ s ∧ s[σ.length]? = some (some (.row 4 [[.p (.v (.int .i64 2)), .p (.v (.int .i64 on)), .p (.v (.int .i64 N)), .p (.sl 1 (encB rr))]]))) ⟨(Ap.app _ _).more _, ?_⟩ fun s ⟨ha, hop⟩ => ?_
  ·skip
   simp only [wH, wHe, Nat.reduceAdd, Nat.reduceLT, Nat.reduceEqDiff, Nat.reduceMul, reduceCtorEq, Nat.lt_irrefl]
  have lop := at_lt hop
  have hs1 := ha.len
  have hUlt := h.bt.lt
  obtain ⟨hn1, hk1, hgl⟩ := h.eq.pos (List.mem_of_getElem? hej)
  obtain ⟨n1, n2, _⟩ := h.hp.tk n hn1
  obtain ⟨nx, ss, hpg1⟩ := h.hp.ch.mem hn1
  refine (ahget (h.bt.ap ha) n2 hpg1 hb hgl hk1).mono ?_
  rintro _ s6 ⟨rfl, U6, P6, f6, h6, k6⟩
  have l6 := f6.len
  have hch : ∀ t, H t → s6[t]? = σ[t]? := fun t ht => by
   have h1 := h.rf.lt t ht
   rw [f6.keep t (by omega) (fun e => h.dj t e ht)]
   obtain ⟨τ, rfl⟩ := ha
   exact List.getElem?_append_left h1
  have op6 := f6.get hop (fun e => by have := hUlt _ e; omega)
  have opl6 := at_lt op6
  have k6o : s6[o]? = some (some (.row 2 [[a, c]])) := by rw [hch o ((hH o).2 (.inl rfl))]; exact h0
  have l6o := at_lt k6o
  have nn3 : (o = σ.length) = False := nf (by omega)
  have nn4 : (σ.length = o) = False := nf (by omega)
  have fS := ha.fr.trans f6
  have hSl := fS.len
  obtain ⟨tc, hcc, _, hoc⟩ : ∃ t, c = .ms t 1 0 (rcE es).length ∧ rcE es ≠ [] ∧ σ[t]? = some (some (.row 1 (rcE es))) := by
   rcases hI.rc with ⟨_, e⟩ | e
   ·exact absurd (by simpa [rcE] using e) e1
   ·exact e
  have Htc : H tc := (hH tc).2 (.inr (.inr (by rw [hcc]; rfl)))
  have kc : s6[tc]? = some (some (.row 1 (rcE es))) := by rw [hch tc Htc]; exact hoc
  have lc := at_lt kc
  have ltc := at_lt hoc
  have nn5 : (tc = σ.length) = False := nf (by omega)
  have nn6 : (σ.length = tc) = False := nf (by omega)
  have nn7 : (tc = o) = False := nf (ne_of_ob kc k6o (by simp))
  have nn8 : (o = tc) = False := nf (ne_of_ob k6o kc (by simp))
  have g3 := rcE_get hej
  have g4 := rcE_len es
  have d0 : decide ((j : Int) < 0) = false := by simp
  have dm : decide ((-1 : Int) < 0) = true := rfl
  have hcy := convB_bx (.inl rfl : BX (.sl 1 (encB y)) y)
  have hsq : binStr .eql ⟨y.toArray⟩ ⟨y.toArray⟩ = some (.bool true) := by simp [binStr]
  have hely := encB_len y
  repeat' first | ((with_reducible first | refine cs ?_ ?_ | refine ws ?_ ?_ | refine wd ?_ ?_ | refine wu ?_ ?_) <;> intro h <;> try simp only [h]) | simp only [↓wBA, tHn2, convA, seval, pl19_4Hn2, pl19_18Hn2, pl19_19Hn2, pl19_24Hn2, pl19_29Hn2, pl19_31Hn2, wH, wHH, k6o, l6o, op6, opl6, kc, lc, nn3, nn4, nn5, nn6, nn7, nn8, g3, g4, d0, u1, u2, Int.toNat_natCast, hcy, hsq, hcc, hel, hely, recP] | (with_reducible refine dP pl19_4Hn2 9 (some 32) (by decide) (by kernel_rfl) ?_) | (with_reducible refine dP pl19_18Hn2 11 (some 90) (by decide) (by kernel_rfl) ?_) | (with_reducible refine dP pl19_19Hn2 12 (some 100) (by decide) (by kernel_rfl) ?_) | (with_reducible refine dP pl19_24Hn2 16 (some 128) (by decide) (by kernel_rfl) ?_) | (with_reducible refine dP pl19_29Hn2 12 (some 154) (by decide) (by kernel_rfl) ?_) | (with_reducible refine dP pl19_31Hn2 9 (some 168) (by decide) (by kernel_rfl) ?_) | with_reducible refine And.intro ?_ ?_
  all_goals refine ret_st ?_ (by first | exact Nat.le_refl _ | (simp only [List.length_set, List.length_append]; omega) | omega)
  all_goals simp only [resA.eq_1, resL.eq_1, resL.eq_2, resV.eq_1, resV.eq_2, ↓wBA, tHn2, convA, seval, wH, wHH]
  all_goals exact OneR.bt h fS h6 k6
 ·have hpos : 0 < es.length := List.length_pos_iff.2 e1
  have c1 : decide ((es.length : Int) > 0) = true := by simp only [gt_iff_lt, decide_eq_true_eq]; omega
  have c2 : decide (N ≥ 0) = false := by simp only [ge_iff_le, decide_eq_false_iff_not]; omega
  repeat' first | ((with_reducible first | refine cs ?_ ?_ | refine ws ?_ ?_ | refine wd ?_ ?_ | refine wu ?_ ?_) <;> intro h <;> try simp only [h]) | simp only [↓wBA, tHn2, convA, seval, pl19_4Hn2, pl19_18Hn2, pl19_19Hn2, pl19_24Hn2, pl19_29Hn2, pl19_31Hn2, wH, wHH, opA, h0, l0, hla, c1, c2, hel] | (with_reducible refine dP pl19_4Hn2 9 (some 32) (by decide) (by kernel_rfl) ?_) | (with_reducible refine dP pl19_18Hn2 11 (some 90) (by decide) (by kernel_rfl) ?_) | (with_reducible refine dP pl19_19Hn2 12 (some 100) (by decide) (by kernel_rfl) ?_) | (with_reducible refine dP pl19_24Hn2 16 (some 128) (by decide) (by kernel_rfl) ?_) | (with_reducible refine dP pl19_29Hn2 12 (some 154) (by decide) (by kernel_rfl) ?_) | (with_reducible refine dP pl19_31Hn2 9 (some 168) (by decide) (by kernel_rfl) ?_) | with_reducible refine And.intro ?_ ?_
  refine ACalls.gen (fun s => Ap σ s ∧ s[σ.length]? = some (some (.row 4 [[.p (.v (.int .i64 2)), .p (.v (.int .i64 on)), .p (.v (.int .i64 N)), .p (.sl 1 (encB rr))]]))) ⟨(Ap.app _ _).more _, ?_⟩ fun s ⟨ha, hop⟩ => ?_
  ·skip
   simp only [wH, wHe, Nat.reduceAdd, Nat.reduceLT, Nat.reduceEqDiff, Nat.reduceMul, reduceCtorEq, Nat.lt_irrefl]
  have lop := at_lt hop
  have hs1 := ha.len
  have hUlt := h.bt.lt
  have hn1 : first ∈ ns := List.mem_of_getElem? h.fst
  obtain ⟨n1, n2, _⟩ := h.hp.tk first hn1
  obtain ⟨nx, ss, hpg1⟩ := h.hp.ch.mem hn1
  have hgl := hpg1.far
  refine (ahgetX (h.bt.ap ha) n2 hpg1 hb hgl).mono ?_
  rintro _ s6 ⟨rfl, U6, P6, f6, h6, k6⟩
  have l6 := f6.len
  have hch : ∀ t, H t → s6[t]? = σ[t]? := fun t ht => by
   have h1 := h.rf.lt t ht
   rw [f6.keep t (by omega) (fun e => h.dj t e ht)]
   obtain ⟨τ, rfl⟩ := ha
   exact List.getElem?_append_left h1
  have op6 := f6.get hop (fun e => by have := hUlt _ e; omega)
  have opl6 := at_lt op6
  have k6o : s6[o]? = some (some (.row 2 [[a, c]])) := by rw [hch o ((hH o).2 (.inl rfl))]; exact h0
  have l6o := at_lt k6o
  have nn3 : (o = σ.length) = False := nf (by omega)
  have nn4 : (σ.length = o) = False := nf (by omega)
  have fS := ha.fr.trans f6
  have hSl := fS.len
  repeat' first | ((with_reducible first | refine cs ?_ ?_ | refine ws ?_ ?_ | refine wd ?_ ?_ | refine wu ?_ ?_) <;> intro h <;> try simp only [h]) | simp only [↓wBA, tHn2, convA, seval, pl19_4Hn2, pl19_18Hn2, pl19_19Hn2, pl19_24Hn2, pl19_29Hn2, pl19_31Hn2, wH, wHH, k6o, l6o, op6, opl6, nn3, nn4, hel] | (with_reducible refine dP pl19_4Hn2 9 (some 32) (by decide) (by kernel_rfl) ?_) | (with_reducible refine dP pl19_18Hn2 11 (some 90) (by decide) (by kernel_rfl) ?_) | (with_reducible refine dP pl19_19Hn2 12 (some 100) (by decide) (by kernel_rfl) ?_) | (with_reducible refine dP pl19_24Hn2 16 (some 128) (by decide) (by kernel_rfl) ?_) | (with_reducible refine dP pl19_29Hn2 12 (some 154) (by decide) (by kernel_rfl) ?_) | (with_reducible refine dP pl19_31Hn2 9 (some 168) (by decide) (by kernel_rfl) ?_) | with_reducible refine And.intro ?_ ?_
  all_goals refine ret_st ?_ (by first | exact Nat.le_refl _ | (simp only [List.length_set, List.length_append]; omega) | omega)
  all_goals simp only [resA.eq_1, resL.eq_1, resL.eq_2, resV.eq_1, resV.eq_2, ↓wBA, tHn2, convA, seval, wH, wHH]
  all_goals exact OneR.bt h fS h6 k6
 ·have c1 : decide ((es.length : Int) > 0) = false := by rw [e1]; rfl
  repeat' first | ((with_reducible first | refine cs ?_ ?_ | refine ws ?_ ?_ | refine wd ?_ ?_ | refine wu ?_ ?_) <;> intro h <;> try simp only [h]) | simp only [↓wBA, tHn2, convA, seval, pl19_4Hn2, pl19_18Hn2, pl19_19Hn2, pl19_24Hn2, pl19_29Hn2, pl19_31Hn2, wH, wHH, opA, h0, l0, hla, c1, hel] | (with_reducible refine dP pl19_4Hn2 9 (some 32) (by decide) (by kernel_rfl) ?_) | (with_reducible refine dP pl19_18Hn2 11 (some 90) (by decide) (by kernel_rfl) ?_) | (with_reducible refine dP pl19_19Hn2 12 (some 100) (by decide) (by kernel_rfl) ?_) | (with_reducible refine dP pl19_24Hn2 16 (some 128) (by decide) (by kernel_rfl) ?_) | (with_reducible refine dP pl19_29Hn2 12 (some 154) (by decide) (by kernel_rfl) ?_) | (with_reducible refine dP pl19_31Hn2 9 (some 168) (by decide) (by kernel_rfl) ?_) | with_reducible refine And.intro ?_ ?_
  refine ACalls.gen (fun s => Ap σ s ∧ s[σ.length]? = some (some (.row 4 [[.p (.v (.int .i64 2)), .p (.v (.int .i64 on)), .p (.v (.int .i64 N)), .p (.sl 1 (encB rr))]]))) ⟨(Ap.app _ _).more _, ?_⟩ fun s ⟨ha, hop⟩ => ?_
  ·skip
   simp only [wH, wHe, Nat.reduceAdd, Nat.reduceLT, Nat.reduceEqDiff, Nat.reduceMul, reduceCtorEq, Nat.lt_irrefl]
  have lop := at_lt hop
  have hs1 := ha.len
  have hUlt := h.bt.lt
  have hn1 : first ∈ ns := List.mem_of_getElem? h.fst
  obtain ⟨n1, n2, _⟩ := h.hp.tk first hn1
  obtain ⟨nx, ss, hpg1⟩ := h.hp.ch.mem hn1
  have hgl := hpg1.far
  refine (ahgetX (h.bt.ap ha) n2 hpg1 hb hgl).mono ?_
  rintro _ s6 ⟨rfl, U6, P6, f6, h6, k6⟩
  have l6 := f6.len
  have hch : ∀ t, H t → s6[t]? = σ[t]? := fun t ht => by
   have h1 := h.rf.lt t ht
   rw [f6.keep t (by omega) (fun e => h.dj t e ht)]
   obtain ⟨τ, rfl⟩ := ha
   exact List.getElem?_append_left h1
  have op6 := f6.get hop (fun e => by have := hUlt _ e; omega)
  have opl6 := at_lt op6
  have k6o : s6[o]? = some (some (.row 2 [[a, c]])) := by rw [hch o ((hH o).2 (.inl rfl))]; exact h0
  have l6o := at_lt k6o
  have nn3 : (o = σ.length) = False := nf (by omega)
  have nn4 : (σ.length = o) = False := nf (by omega)
  have fS := ha.fr.trans f6
  have hSl := fS.len
  repeat' first | ((with_reducible first | refine cs ?_ ?_ | refine ws ?_ ?_ | refine wd ?_ ?_ | refine wu ?_ ?_) <;> intro h <;> try simp only [h]) | simp only [↓wBA, tHn2, convA, seval, pl19_4Hn2, pl19_18Hn2, pl19_19Hn2, pl19_24Hn2, pl19_29Hn2, pl19_31Hn2, wH, wHH, k6o, l6o, op6, opl6, nn3, nn4, hel] | (with_reducible refine dP pl19_4Hn2 9 (some 32) (by decide) (by kernel_rfl) ?_) | (with_reducible refine dP pl19_18Hn2 11 (some 90) (by decide) (by kernel_rfl) ?_) | (with_reducible refine dP pl19_19Hn2 12 (some 100) (by decide) (by kernel_rfl) ?_) | (with_reducible refine dP pl19_24Hn2 16 (some 128) (by decide) (by kernel_rfl) ?_) | (with_reducible refine dP pl19_29Hn2 12 (some 154) (by decide) (by kernel_rfl) ?_) | (with_reducible refine dP pl19_31Hn2 9 (some 168) (by decide) (by kernel_rfl) ?_) | with_reducible refine And.intro ?_ ?_
  all_goals refine ret_st ?_ (by first | exact Nat.le_refl _ | (simp only [List.length_set, List.length_append]; omega) | omega)
  all_goals simp only [resA.eq_1, resL.eq_1, resL.eq_2, resV.eq_1, resV.eq_2, ↓wBA, tHn2, convA, seval, wH, wHH]
  all_goals exact OneR.bt h fS h6 k6
end
end Go.Proofs.Ytlddiphjpmlhbaa
namespace Go.Proofs.Ytlddiphjpmlhbaa
open Go.RowKit
def pl19_4Hn3 : Plan := (.det 0 (.det 1 (.det 2 (.det 3 (.det 4 (.det 5 (.det 6 (.det 7 (.det 8 .done)))))))))
def pl19_18Hn3 : Plan := (.det 0 (.det 1 (.det 2 (.det 3 (.det 4 (.det 5 (.act 6 (.fin 7 (.det 8 (.det 9 (.fin 10 .done)))))))))))
def pl19_19Hn3 : Plan := (.det 0 (.det 1 (.det 2 (.det 3 (.det 4 (.det 5 (.det 6 (.act 7 (.fin 8 (.det 9 (.det 10 (.fin 11 .done))))))))))))
def pl19_24Hn3 : Plan := (.det 0 (.det 1 (.det 2 (.det 3 (.det 5 (.det 6 (.det 7 (.det 8 (.det 9 (.det 10 (.det 11 (.two 4 (.fin 12 (.det 13 (.det 14 (.det 15 .done)))) 12 (.act 4 (.det 13 (.det 14 (.det 15 .done))))))))))))))))
def pl19_29Hn3 : Plan := (.det 0 (.det 1 (.det 2 (.det 3 (.det 4 (.det 5 (.det 6 (.det 7 (.det 8 (.det 9 (.det 10 (.det 11 .done))))))))))))
def pl19_31Hn3 : Plan := (.det 0 (.det 1 (.det 2 (.det 3 (.det 4 (.det 5 (.det 6 (.det 7 (.fin 8 .done)))))))))
def tHn3 := aa wX <| aa wbu <| aa T3 <| aa T5 <| aa T9 <| aa T22 <| aa T23 <| aa T26 <| aa T31 <| aa T35 <| aa T37 <| aa T56 <| aa T58 T61
section
variable {σ s : St} {b p dd l kh first o : Nat} {U H : Nat → Prop} {P P' : PoolV} {v : Nat → List UInt8} {T : Nat → Bool} {ns : List Nat} {es : Ents}
theorem rcE_set {es : Ents} {j : Nat} {e : (Nat × Nat) × List UInt8} : (rcE es).set j [.p (.sl 1 (encB e.2))] = rcE (es.set j e) := by simp [rcE, List.map_set]
theorem atE_set {es : Ents} {j : Nat} {e : Nat × Nat} {x y : List UInt8} (h : es[j]? = some (e, x)) : atE (es.set j (e, y)) = atE es := by
 have hjl := (List.getElem?_eq_some_iff.1 h).1
 unfold atE
 rw [List.map_set]
 apply List.ext_getElem?
 intro q
 rw [List.getElem?_set]
 by_cases hq : j = q
 ·subst hq; rw [if_pos rfl, if_pos (by simpa using hjl), List.getElem?_map, h]; rfl
 ·rw [if_neg hq]
theorem aone3 (h : HpS σ b p dd l kh first o U H P v T ns es) (on N : Int) (rr : List UInt8) (hrl : rr.length ≤ 140737488351232) (hl : es.length ≤ 500) (hpg : P.pages ≤ 3200) (hfree : cnt T P.pages < P.pages) (hb : Bud P 1) :
 ACalls Try.prog 19 [.mp b 2 0 0, intV .i64 (first : Nat), .mp o 2 0 0, opA 3 on N rr] σ (OneR σ b p dd l kh first o U H P v T ns es) := by
 obtain ⟨a, c, hI, hH⟩ := id h.rf
 have h0 := hI.o
 have l0 := at_lt h0
 have hla := own_len (C := cx) ck_35 hI.ats
 rw [atE_len] at hla
 have hel := encB_len rr
 have d1 : (es ≠ [] ∧ 0 ≤ N) ∨ (es ≠ [] ∧ ¬ 0 ≤ N) ∨ es = [] := by
  by_cases e : es = []
  ·exact .inr (.inr e)
  ·by_cases e2 : 0 ≤ N
   ·exact .inl ⟨e, e2⟩
   ·exact .inr (.inl ⟨e, e2⟩)
 refine acalls_of cxH_ok drH_ok Try.func19 (by kernel_rfl) rfl (nt := 188) (rs := [.tmp 8]) rfl rfl ?_
 rcases d1 with ⟨e1, e2⟩ | ⟨e1, e2⟩ | e1
 ·have hpos : 0 < es.length := List.length_pos_iff.2 e1
  have c1 : decide ((es.length : Int) > 0) = true := by simp only [gt_iff_lt, decide_eq_true_eq]; omega
  have c2 : decide (N ≥ 0) = true := by simp only [ge_iff_le, decide_eq_true_eq]; omega
  have hz : ((es.length : Int) = 0) = False := eq_false (by omega)
  obtain ⟨j, hj⟩ : ∃ j, j = N.toNat % es.length := ⟨_, rfl⟩
  have hjl : j < es.length := by rw [hj]; exact Nat.mod_lt _ hpos
  have htm : N.tmod (es.length : Int) = (j : Int) := by rw [Int.tmod_eq_emod_of_nonneg e2]; have : ((N.toNat % es.length : Nat) : Int) = (N.toNat : Int) % (es.length : Int) := Int.natCast_emod _ _; rw [hj, this, Int.toNat_of_nonneg e2]
  have hwj : IntKind.i64.wrap (j : Int) = (j : Int) := wrap_i64 (by omega) (by omega)
  obtain ⟨⟨⟨n, k⟩, y⟩, hej⟩ : ∃ e, es[j]? = some e := ⟨es[j], by simp⟩
  obtain ⟨ta, haa, _, hoa⟩ : ∃ t, a = .own t 2 (atE es) ∧ atE es ≠ [] ∧ σ[t]? = some (some (.right 37 ((atE es).length * 2))) := by
   rcases hI.ats with ⟨_, e⟩ | e
   ·exact absurd (by simpa [atE] using e) e1
   ·exact e
  have g1 := atE_get hej
  have g2 := atE_len es
  have u1 := nnI j
  have u2 : ((j : Int) < (es.length : Int)) = True := eq_true (by omega)
  repeat' first | ((with_reducible first | refine cs ?_ ?_ | refine ws ?_ ?_ | refine wd ?_ ?_ | refine wu ?_ ?_) <;> intro h <;> try simp only [h]) | simp only [↓wBA, tHn3, convA, seval, pl19_4Hn3, pl19_18Hn3, pl19_19Hn3, pl19_24Hn3, pl19_29Hn3, pl19_31Hn3, wH, wHH, opA, h0, l0, hla, c1, c2, hz, htm, hwj, g1, g2, u1, u2, Int.toNat_natCast, haa, hel] | (with_reducible refine dP pl19_4Hn3 9 (some 32) (by decide) (by kernel_rfl) ?_) | (with_reducible refine dP pl19_18Hn3 11 (some 90) (by decide) (by kernel_rfl) ?_) | (with_reducible refine dP pl19_19Hn3 12 (some 100) (by decide) (by kernel_rfl) ?_) | (with_reducible refine dP pl19_24Hn3 16 (some 128) (by decide) (by kernel_rfl) ?_) | (with_reducible refine dP pl19_29Hn3 12 (some 154) (by decide) (by kernel_rfl) ?_) | (with_reducible refine dP pl19_31Hn3 9 (some 168) (by decide) (by kernel_rfl) ?_) | with_reducible refine And.intro ?_ ?_
  refine ACalls.gen (fun s => Ap σ s ∧ s[σ.length]? = some (some (.row 4 [[.p (.v (.int .i64 3)), .p (.v (.int .i64 on)), .p (.v (.int .i64 N)), .p (.sl 1 (encB rr))]]))) ⟨(Ap.app _ _).more _, ?_⟩ fun s ⟨ha, hop⟩ => ?_
  ·skip
   simp only [wH, wHe, Nat.reduceAdd, Nat.reduceLT, Nat.reduceEqDiff, Nat.reduceMul, reduceCtorEq, Nat.lt_irrefl]
  have lop := at_lt hop
  have hs1 := ha.len
  have hUlt := h.bt.lt
  obtain ⟨hn1, hk1, hgl⟩ := h.eq.pos (List.mem_of_getElem? hej)
  obtain ⟨n1, n2, _⟩ := h.hp.tk n hn1
  obtain ⟨nx, ss, hpg1⟩ := h.hp.ch.mem hn1
  by_cases hry : rr.length ≤ y.length
  ·refine (ahset (h.bt.ap ha) n1 n2 hpg1 hb hgl hk1 (.inl rfl : BX (.sl 1 (encB rr)) rr) hry).mono ?_
   rintro _ s6 ⟨rfl, U6, P6, f6, h6, k6⟩
   have l6 := f6.len
   have hch : ∀ t, H t → s6[t]? = σ[t]? := fun t ht => by
    have h1 := h.rf.lt t ht
    rw [f6.keep t (by omega) (fun e => h.dj t e ht)]
    obtain ⟨τ, rfl⟩ := ha
    exact List.getElem?_append_left h1
   have op6 := f6.get hop (fun e => by have := hUlt _ e; omega)
   have opl6 := at_lt op6
   have k6o : s6[o]? = some (some (.row 2 [[a, c]])) := by rw [hch o ((hH o).2 (.inl rfl))]; exact h0
   have l6o := at_lt k6o
   have nn3 : (o = σ.length) = False := nf (by omega)
   have nn4 : (σ.length = o) = False := nf (by omega)
   have fS := ha.fr.trans f6
   have hSl := fS.len
   obtain ⟨tc, hcc, _, hoc⟩ : ∃ t, c = .ms t 1 0 (rcE es).length ∧ rcE es ≠ [] ∧ σ[t]? = some (some (.row 1 (rcE es))) := by
    rcases hI.rc with ⟨_, e⟩ | e
    ·exact absurd (by simpa [rcE] using e) e1
    ·exact e
   have Htc : H tc := (hH tc).2 (.inr (.inr (by rw [hcc]; rfl)))
   have kc : s6[tc]? = some (some (.row 1 (rcE es))) := by rw [hch tc Htc]; exact hoc
   have lc := at_lt kc
   have ltc := at_lt hoc
   have nn5 : (tc = σ.length) = False := nf (by omega)
   have nn6 : (σ.length = tc) = False := nf (by omega)
   have nn7 : (tc = o) = False := nf (ne_of_ob kc k6o (by simp))
   have nn8 : (o = tc) = False := nf (ne_of_ob k6o kc (by simp))
   have g3 := rcE_get hej
   have g4 := rcE_len es
   have d0 : decide ((j : Int) < 0) = false := by simp
   have dm : decide ((-1 : Int) < 0) = true := rfl
   have hcy := convB_bx (.inl rfl : BX (.sl 1 (encB y)) y)
   have hsq : binStr .eql ⟨y.toArray⟩ ⟨y.toArray⟩ = some (.bool true) := by simp [binStr]
   have hely := encB_len y
   have dgt : decide ((rr.length : Int) > (y.length : Int)) = false := by simp only [gt_iff_lt, decide_eq_false_iff_not]; omega
   have hset := rcE_set (es := es) (j := j) (e := ((n, k), rr))
   dsimp only at hset
   repeat' first | ((with_reducible first | refine cs ?_ ?_ | refine ws ?_ ?_ | refine wd ?_ ?_ | refine wu ?_ ?_) <;> intro h <;> try simp only [h]) | simp only [↓wBA, tHn3, convA, seval, pl19_4Hn3, pl19_18Hn3, pl19_19Hn3, pl19_24Hn3, pl19_29Hn3, pl19_31Hn3, wH, wHH, k6o, l6o, op6, opl6, kc, lc, nn3, nn4, nn5, nn6, nn7, nn8, g3, g4, d0, u1, u2, Int.toNat_natCast, hcy, hsq, hcc, hel, hely, dgt, hset] | (with_reducible refine dP pl19_4Hn3 9 (some 32) (by decide) (by kernel_rfl) ?_) | (with_reducible refine dP pl19_18Hn3 11 (some 90) (by decide) (by kernel_rfl) ?_) | (with_reducible refine dP pl19_19Hn3 12 (some 100) (by decide) (by kernel_rfl) ?_) | (with_reducible refine dP pl19_24Hn3 16 (some 128) (by decide) (by kernel_rfl) ?_) | (with_reducible refine dP pl19_29Hn3 12 (some 154) (by decide) (by kernel_rfl) ?_) | (with_reducible refine dP pl19_31Hn3 9 (some 168) (by decide) (by kernel_rfl) ?_) | with_reducible refine And.intro ?_ ?_
   all_goals refine ret_st ?_ (by first | exact Nat.le_refl _ | (simp only [List.length_set, List.length_append]; omega) | omega)
   all_goals simp only [resA.eq_1, resL.eq_1, resL.eq_2, resV.eq_1, resV.eq_2, ↓wBA, tHn3, convA, seval, wH, wHH]
   obtain ⟨hH2, hE2⟩ := h.eq.setH h.hp hej hry
   have hnU6 : ∀ t, U6 t → ¬ H t := fun t x z => (f6.own t x).elim (fun e => h.dj t e z) fun e => by have := h.rf.lt t z; omega
   have hv0 : upV v n (setL (v n) (k : Nat) rr).1 0 = v 0 := if_neg (by omega)
   refine ⟨rfl, U6, H, P6, _, T, ns, es.set j ((n, k), rr), (fS.sub (G := fun t => U t ∨ H t) (G' := fun t => U6 t ∨ H t) (fun t ht => .inl ht) fun t ht => ht.elim (fun e => (fS.own t e).imp .inl id) fun e => .inl (.inr e)).set _ (.inr Htc), ⟨h6.set (fun e => hnU6 tc e Htc) _, by rw [k6.pages, hv0]; exact h.tk, h.t0, by rw [k6.pages]; exact hH2, h.fst, ⟨a, c, ⟨?_, ?_, ?_⟩, hH⟩, hnU6, hE2⟩, ⟨k6, by simp, Nat.le_succ _, Nat.le_succ _, fun _ h => h, fun _ h => .inl h, fun m hm _ => if_neg fun e => hm (by rw [e]; exact hn1)⟩⟩
   ·rw [List.getElem?_set_ne (by intro e; simp [e] at nn7)]; exact k6o
   ·rw [atE_set hej]
    refine hI.ats.same fun t ht => ?_
    have Ht : H t := (hH t).2 (.inr (.inl ht))
    rw [List.getElem?_set_ne (fun e => by subst e; exact own_ms_neE hI.ats hI.rc ht (by rw [hcc]; rfl))]; exact hch t Ht
   ·rw [hcc]
    refine .inr ⟨tc, by rw [rcE_len, rcE_len, List.length_set], fun e => ?_, by simp [lc]⟩
    have := congrArg List.length e
    rw [rcE_len, List.length_set] at this; simp at this; exact e1 this
  ·refine (ahsetL (h.bt.ap ha) n1 n2 hpg1 hb hgl hk1 (.inl rfl : BX (.sl 1 (encB rr)) rr) (by omega)).mono ?_
   rintro _ s6 ⟨rfl, U6, P6, f6, h6, k6⟩
   have l6 := f6.len
   have hch : ∀ t, H t → s6[t]? = σ[t]? := fun t ht => by
    have h1 := h.rf.lt t ht
    rw [f6.keep t (by omega) (fun e => h.dj t e ht)]
    obtain ⟨τ, rfl⟩ := ha
    exact List.getElem?_append_left h1
   have op6 := f6.get hop (fun e => by have := hUlt _ e; omega)
   have opl6 := at_lt op6
   have k6o : s6[o]? = some (some (.row 2 [[a, c]])) := by rw [hch o ((hH o).2 (.inl rfl))]; exact h0
   have l6o := at_lt k6o
   have nn3 : (o = σ.length) = False := nf (by omega)
   have nn4 : (σ.length = o) = False := nf (by omega)
   have fS := ha.fr.trans f6
   have hSl := fS.len
   obtain ⟨tc, hcc, _, hoc⟩ : ∃ t, c = .ms t 1 0 (rcE es).length ∧ rcE es ≠ [] ∧ σ[t]? = some (some (.row 1 (rcE es))) := by
    rcases hI.rc with ⟨_, e⟩ | e
    ·exact absurd (by simpa [rcE] using e) e1
    ·exact e
   have Htc : H tc := (hH tc).2 (.inr (.inr (by rw [hcc]; rfl)))
   have kc : s6[tc]? = some (some (.row 1 (rcE es))) := by rw [hch tc Htc]; exact hoc
   have lc := at_lt kc
   have ltc := at_lt hoc
   have nn5 : (tc = σ.length) = False := nf (by omega)
   have nn6 : (σ.length = tc) = False := nf (by omega)
   have nn7 : (tc = o) = False := nf (ne_of_ob kc k6o (by simp))
   have nn8 : (o = tc) = False := nf (ne_of_ob k6o kc (by simp))
   have g3 := rcE_get hej
   have g4 := rcE_len es
   have d0 : decide ((j : Int) < 0) = false := by simp
   have dm : decide ((-1 : Int) < 0) = true := rfl
   have hcy := convB_bx (.inl rfl : BX (.sl 1 (encB y)) y)
   have hsq : binStr .eql ⟨y.toArray⟩ ⟨y.toArray⟩ = some (.bool true) := by simp [binStr]
   have hely := encB_len y
   have dgt : decide ((rr.length : Int) > (y.length : Int)) = true := by simp only [gt_iff_lt, decide_eq_true_eq]; omega
   repeat' first | ((with_reducible first | refine cs ?_ ?_ | refine ws ?_ ?_ | refine wd ?_ ?_ | refine wu ?_ ?_) <;> intro h <;> try simp only [h]) | simp only [↓wBA, tHn3, convA, seval, pl19_4Hn3, pl19_18Hn3, pl19_19Hn3, pl19_24Hn3, pl19_29Hn3, pl19_31Hn3, wH, wHH, k6o, l6o, op6, opl6, kc, lc, nn3, nn4, nn5, nn6, nn7, nn8, g3, g4, d0, u1, u2, Int.toNat_natCast, hcy, hsq, hcc, hel, hely, dgt] | (with_reducible refine dP pl19_4Hn3 9 (some 32) (by decide) (by kernel_rfl) ?_) | (with_reducible refine dP pl19_18Hn3 11 (some 90) (by decide) (by kernel_rfl) ?_) | (with_reducible refine dP pl19_19Hn3 12 (some 100) (by decide) (by kernel_rfl) ?_) | (with_reducible refine dP pl19_24Hn3 16 (some 128) (by decide) (by kernel_rfl) ?_) | (with_reducible refine dP pl19_29Hn3 12 (some 154) (by decide) (by kernel_rfl) ?_) | (with_reducible refine dP pl19_31Hn3 9 (some 168) (by decide) (by kernel_rfl) ?_) | with_reducible refine And.intro ?_ ?_
   all_goals refine ret_st ?_ (by first | exact Nat.le_refl _ | (simp only [List.length_set, List.length_append]; omega) | omega)
   all_goals simp only [resA.eq_1, resL.eq_1, resL.eq_2, resV.eq_1, resV.eq_2, ↓wBA, tHn3, convA, seval, wH, wHH]
   all_goals exact OneR.bt h fS h6 k6
 ·have hpos : 0 < es.length := List.length_pos_iff.2 e1
  have c1 : decide ((es.length : Int) > 0) = true := by simp only [gt_iff_lt, decide_eq_true_eq]; omega
  have c2 : decide (N ≥ 0) = false := by simp only [ge_iff_le, decide_eq_false_iff_not]; omega
  repeat' first | ((with_reducible first | refine cs ?_ ?_ | refine ws ?_ ?_ | refine wd ?_ ?_ | refine wu ?_ ?_) <;> intro h <;> try simp only [h]) | simp only [↓wBA, tHn3, convA, seval, pl19_4Hn3, pl19_18Hn3, pl19_19Hn3, pl19_24Hn3, pl19_29Hn3, pl19_31Hn3, wH, wHH, opA, h0, l0, hla, c1, c2, hel] | (with_reducible refine dP pl19_4Hn3 9 (some 32) (by decide) (by kernel_rfl) ?_) | (with_reducible refine dP pl19_18Hn3 11 (some 90) (by decide) (by kernel_rfl) ?_) | (with_reducible refine dP pl19_19Hn3 12 (some 100) (by decide) (by kernel_rfl) ?_) | (with_reducible refine dP pl19_24Hn3 16 (some 128) (by decide) (by kernel_rfl) ?_) | (with_reducible refine dP pl19_29Hn3 12 (some 154) (by decide) (by kernel_rfl) ?_) | (with_reducible refine dP pl19_31Hn3 9 (some 168) (by decide) (by kernel_rfl) ?_) | with_reducible refine And.intro ?_ ?_
  refine ACalls.gen (fun s => Ap σ s ∧ s[σ.length]? = some (some (.row 4 [[.p (.v (.int .i64 3)), .p (.v (.int .i64 on)), .p (.v (.int .i64 N)), .p (.sl 1 (encB rr))]]))) ⟨(Ap.app _ _).more _, ?_⟩ fun s ⟨ha, hop⟩ => ?_
  ·skip
   simp only [wH, wHe, Nat.reduceAdd, Nat.reduceLT, Nat.reduceEqDiff, Nat.reduceMul, reduceCtorEq, Nat.lt_irrefl]
  have lop := at_lt hop
  have hs1 := ha.len
  have hUlt := h.bt.lt
  have hn1 : first ∈ ns := List.mem_of_getElem? h.fst
  obtain ⟨n1, n2, _⟩ := h.hp.tk first hn1
  obtain ⟨nx, ss, hpg1⟩ := h.hp.ch.mem hn1
  have hgl := hpg1.far
  refine (ahsetX (h.bt.ap ha) n1 n2 hpg1 hb hgl).mono ?_
  rintro _ s6 ⟨rfl, U6, P6, f6, h6, k6⟩
  have l6 := f6.len
  have hch : ∀ t, H t → s6[t]? = σ[t]? := fun t ht => by
   have h1 := h.rf.lt t ht
   rw [f6.keep t (by omega) (fun e => h.dj t e ht)]
   obtain ⟨τ, rfl⟩ := ha
   exact List.getElem?_append_left h1
  have op6 := f6.get hop (fun e => by have := hUlt _ e; omega)
  have opl6 := at_lt op6
  have k6o : s6[o]? = some (some (.row 2 [[a, c]])) := by rw [hch o ((hH o).2 (.inl rfl))]; exact h0
  have l6o := at_lt k6o
  have nn3 : (o = σ.length) = False := nf (by omega)
  have nn4 : (σ.length = o) = False := nf (by omega)
  have fS := ha.fr.trans f6
  have hSl := fS.len
  repeat' first | ((with_reducible first | refine cs ?_ ?_ | refine ws ?_ ?_ | refine wd ?_ ?_ | refine wu ?_ ?_) <;> intro h <;> try simp only [h]) | simp only [↓wBA, tHn3, convA, seval, pl19_4Hn3, pl19_18Hn3, pl19_19Hn3, pl19_24Hn3, pl19_29Hn3, pl19_31Hn3, wH, wHH, k6o, l6o, op6, opl6, nn3, nn4, hel] | (with_reducible refine dP pl19_4Hn3 9 (some 32) (by decide) (by kernel_rfl) ?_) | (with_reducible refine dP pl19_18Hn3 11 (some 90) (by decide) (by kernel_rfl) ?_) | (with_reducible refine dP pl19_19Hn3 12 (some 100) (by decide) (by kernel_rfl) ?_) | (with_reducible refine dP pl19_24Hn3 16 (some 128) (by decide) (by kernel_rfl) ?_) | (with_reducible refine dP pl19_29Hn3 12 (some 154) (by decide) (by kernel_rfl) ?_) | (with_reducible refine dP pl19_31Hn3 9 (some 168) (by decide) (by kernel_rfl) ?_) | with_reducible refine And.intro ?_ ?_
  all_goals refine ret_st ?_ (by first | exact Nat.le_refl _ | (simp only [List.length_set, List.length_append]; omega) | omega)
  all_goals simp only [resA.eq_1, resL.eq_1, resL.eq_2, resV.eq_1, resV.eq_2, ↓wBA, tHn3, convA, seval, wH, wHH]
  all_goals exact OneR.bt h fS h6 k6
 ·have c1 : decide ((es.length : Int) > 0) = false := by rw [e1]; rfl
  repeat' first | ((with_reducible first | refine cs ?_ ?_ | refine ws ?_ ?_ | refine wd ?_ ?_ | refine wu ?_ ?_) <;> intro h <;> try simp only [h]) | simp only [↓wBA, tHn3, convA, seval, pl19_4Hn3, pl19_18Hn3, pl19_19Hn3, pl19_24Hn3, pl19_29Hn3, pl19_31Hn3, wH, wHH, opA, h0, l0, hla, c1, hel] | (with_reducible refine dP pl19_4Hn3 9 (some 32) (by decide) (by kernel_rfl) ?_) | (with_reducible refine dP pl19_18Hn3 11 (some 90) (by decide) (by kernel_rfl) ?_) | (with_reducible refine dP pl19_19Hn3 12 (some 100) (by decide) (by kernel_rfl) ?_) | (with_reducible refine dP pl19_24Hn3 16 (some 128) (by decide) (by kernel_rfl) ?_) | (with_reducible refine dP pl19_29Hn3 12 (some 154) (by decide) (by kernel_rfl) ?_) | (with_reducible refine dP pl19_31Hn3 9 (some 168) (by decide) (by kernel_rfl) ?_) | with_reducible refine And.intro ?_ ?_
  refine ACalls.gen (fun s => Ap σ s ∧ s[σ.length]? = some (some (.row 4 [[.p (.v (.int .i64 3)), .p (.v (.int .i64 on)), .p (.v (.int .i64 N)), .p (.sl 1 (encB rr))]]))) ⟨(Ap.app _ _).more _, ?_⟩ fun s ⟨ha, hop⟩ => ?_
  ·skip
   simp only [wH, wHe, Nat.reduceAdd, Nat.reduceLT, Nat.reduceEqDiff, Nat.reduceMul, reduceCtorEq, Nat.lt_irrefl]
  have lop := at_lt hop
  have hs1 := ha.len
  have hUlt := h.bt.lt
  have hn1 : first ∈ ns := List.mem_of_getElem? h.fst
  obtain ⟨n1, n2, _⟩ := h.hp.tk first hn1
  obtain ⟨nx, ss, hpg1⟩ := h.hp.ch.mem hn1
  have hgl := hpg1.far
  refine (ahsetX (h.bt.ap ha) n1 n2 hpg1 hb hgl).mono ?_
  rintro _ s6 ⟨rfl, U6, P6, f6, h6, k6⟩
  have l6 := f6.len
  have hch : ∀ t, H t → s6[t]? = σ[t]? := fun t ht => by
   have h1 := h.rf.lt t ht
   rw [f6.keep t (by omega) (fun e => h.dj t e ht)]
   obtain ⟨τ, rfl⟩ := ha
   exact List.getElem?_append_left h1
  have op6 := f6.get hop (fun e => by have := hUlt _ e; omega)
  have opl6 := at_lt op6
  have k6o : s6[o]? = some (some (.row 2 [[a, c]])) := by rw [hch o ((hH o).2 (.inl rfl))]; exact h0
  have l6o := at_lt k6o
  have nn3 : (o = σ.length) = False := nf (by omega)
  have nn4 : (σ.length = o) = False := nf (by omega)
  have fS := ha.fr.trans f6
  have hSl := fS.len
  repeat' first | ((with_reducible first | refine cs ?_ ?_ | refine ws ?_ ?_ | refine wd ?_ ?_ | refine wu ?_ ?_) <;> intro h <;> try simp only [h]) | simp only [↓wBA, tHn3, convA, seval, pl19_4Hn3, pl19_18Hn3, pl19_19Hn3, pl19_24Hn3, pl19_29Hn3, pl19_31Hn3, wH, wHH, k6o, l6o, op6, opl6, nn3, nn4, hel] | (with_reducible refine dP pl19_4Hn3 9 (some 32) (by decide) (by kernel_rfl) ?_) | (with_reducible refine dP pl19_18Hn3 11 (some 90) (by decide) (by kernel_rfl) ?_) | (with_reducible refine dP pl19_19Hn3 12 (some 100) (by decide) (by kernel_rfl) ?_) | (with_reducible refine dP pl19_24Hn3 16 (some 128) (by decide) (by kernel_rfl) ?_) | (with_reducible refine dP pl19_29Hn3 12 (some 154) (by decide) (by kernel_rfl) ?_) | (with_reducible refine dP pl19_31Hn3 9 (some 168) (by decide) (by kernel_rfl) ?_) | with_reducible refine And.intro ?_ ?_
  all_goals refine ret_st ?_ (by first | exact Nat.le_refl _ | (simp only [List.length_set, List.length_append]; omega) | omega)
  all_goals simp only [resA.eq_1, resL.eq_1, resL.eq_2, resV.eq_1, resV.eq_2, ↓wBA, tHn3, convA, seval, wH, wHH]
  all_goals exact OneR.bt h fS h6 k6
end
end Go.Proofs.Ytlddiphjpmlhbaa
