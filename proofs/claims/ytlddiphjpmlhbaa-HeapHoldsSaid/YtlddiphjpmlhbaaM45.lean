/- Heaps: one call on a heap and on its list. Heaps: one call on a heap and on its list: a record is put in. -/
import Derived.Test.YtlddiphjpmlhbaaM44
set_option linter.unusedSimpArgs false
set_option linter.unusedVariables false
set_option linter.defProp false
set_option maxRecDepth 100000
set_option maxHeartbeats 32000000
namespace Go.Proofs.Ytlddiphjpmlhbaa
open Go.RowKit
def pl19_4Hn : Plan := (.det 0 (.det 1 (.det 2 (.det 3 (.det 4 (.det 5 (.det 6 (.det 7 (.det 8 .done)))))))))
def pl19_18Hn : Plan := (.det 0 (.det 1 (.det 2 (.det 3 (.det 4 (.det 5 (.act 6 (.fin 7 (.det 8 (.det 9 (.fin 10 .done)))))))))))
def pl19_19Hn : Plan := (.det 0 (.det 1 (.det 2 (.det 3 (.det 4 (.det 5 (.det 6 (.act 7 (.fin 8 (.det 9 (.det 10 (.fin 11 .done))))))))))))
def pl19_24Hn : Plan := (.det 0 (.det 1 (.det 2 (.det 3 (.det 5 (.det 6 (.det 7 (.det 8 (.det 9 (.det 10 (.det 11 (.two 4 (.fin 12 (.det 13 (.det 14 (.det 15 .done)))) 12 (.act 4 (.det 13 (.det 14 (.det 15 .done))))))))))))))))
def pl19_29Hn : Plan := (.det 0 (.det 1 (.det 2 (.det 3 (.det 4 (.det 5 (.det 6 (.det 7 (.det 8 (.det 9 (.det 10 (.det 11 .done))))))))))))
def pl19_31Hn : Plan := (.det 0 (.det 1 (.det 2 (.det 3 (.det 4 (.det 5 (.det 6 (.det 7 (.fin 8 .done)))))))))
def tHn := aa wX <| aa wbu <| aa T3 <| aa T5 <| aa T9 <| aa T22 <| aa T23 <| aa T26 <| aa T31 <| aa T35 <| aa T37 <| aa T56 <| aa T58 T61
structure HpS (σ : St) (b p dd l kh first o : Nat) (U H : Nat → Prop) (P : PoolV) (v : Nat → List UInt8) (T : Nat → Bool) (ns : List Nat) (es : Ents) : Prop where
 bt : Bt σ b p dd l kh U P v
 tk : Tk (v 0) P.pages T
 t0 : T 0 = true
 hp : Heap v T P.pages ns
 fst : ns[0]? = some first
 rf : HRef σ o H es
 dj : ∀ t, U t → H t → False
 eq : HEq v ns es
structure OneP (P P' : PoolV) (v v' : Nat → List UInt8) (T T' : Nat → Bool) (ns ns' : List Nat) (es es' : Ents) : Prop where
 kp : Kp P P' 0
 len : es'.length ≤ es.length + 1
 ln : ns'.length ≤ ns.length + 1
 cn : cnt T' P.pages ≤ cnt T P.pages + 1
 mono : ∀ m, T m = true → T' m = true
 nw : ∀ m ∈ ns', m ∈ ns ∨ T m = false
 oth : ∀ m, m ∉ ns' → m ≠ 0 → v' m = v m
def opA (kind on N : Int) (rr : List UInt8) : AV := .agg [intV .i64 kind, intV .i64 on, intV .i64 N, .p (.sl 1 (encB rr))]
section
variable {σ s : St} {b p dd l kh first o : Nat} {U H : Nat → Prop} {P P' : PoolV} {v : Nat → List UInt8} {T : Nat → Bool} {ns : List Nat} {es : Ents}
theorem HpS.ap (h : HpS σ b p dd l kh first o U H P v T ns es) (ha : Ap σ s) : HpS s b p dd l kh first o U H P v T ns es := ⟨h.bt.ap ha, h.tk, h.t0, h.hp, h.fst, h.rf.ap ha, h.dj, h.eq⟩
theorem OneP.same (k : Kp P P' 0) : OneP P P' v v T T ns ns es es := ⟨k, Nat.le_succ _, Nat.le_succ _, Nat.le_succ _, fun _ h => h, fun _ h => .inl h, fun _ _ _ => rfl⟩
def OneR (σ : St) (b p dd l kh first o : Nat) (U H : Nat → Prop) (P : PoolV) (v : Nat → List UInt8) (T : Nat → Bool) (ns : List Nat) (es : Ents) (r : AV) (σ' : St) : Prop := r = boolV true ∧ ∃ U' H' P' v' T' ns' es', Fr σ σ' (fun t => U t ∨ H t) (fun t => U' t ∨ H' t) ∧ HpS σ' b p dd l kh first o U' H' P' v' T' ns' es' ∧ OneP P P' v v' T T' ns ns' es es'
theorem OneR.ap (h : HpS σ b p dd l kh first o U H P v T ns es) (ha : Ap σ s) : OneR σ b p dd l kh first o U H P v T ns es (boolV true) s :=
 ⟨rfl, U, H, P, v, T, ns, es, ha.fr, h.ap ha, OneP.same (Kp.refl P 0)⟩
theorem OneR.bt {U' : Nat → Prop} (h : HpS σ b p dd l kh first o U H P v T ns es) (hf : Fr σ s U U') (hb : Bt s b p dd l kh U' P' v) (hk : Kp P P' 0) : OneR σ b p dd l kh first o U H P v T ns es (boolV true) s := by
 have hd : ∀ t, U' t → H t → False := fun t a b => (hf.own t a).elim (fun e => h.dj t e b) fun e => by have := h.rf.lt t b; omega
 refine ⟨rfl, U', H, P', v, T, ns, es, ?_, ⟨hb, by rw [hk.pages]; exact h.tk, h.t0, by rw [hk.pages]; exact h.hp, h.fst, h.rf.frame hf fun t a b => h.dj t b a, hd, h.eq⟩, OneP.same hk⟩
 exact hf.sub (fun t ht => .inl ht) fun t ht => ht.elim (fun e => (hf.own t e).imp .inl id) fun e => .inl (.inr e)
theorem aone0 (h : HpS σ b p dd l kh first o U H P v T ns es) (kind on N : Int) (rr : List UInt8) (hl : es.length ≤ 500) (hk : kind ≠ 1 ∧ kind ≠ 2 ∧ kind ≠ 3 ∧ kind ≠ 4) :
 ACalls Try.prog 19 [.mp b 2 0 0, intV .i64 (first : Nat), .mp o 2 0 0, opA kind on N rr] σ (OneR σ b p dd l kh first o U H P v T ns es) := by
 obtain ⟨a, c, hI, hH⟩ := id h.rf
 have h0 := hI.o
 have l0 := at_lt h0
 have hla := own_len (C := cx) ck_35 hI.ats
 rw [atE_len] at hla
 have z1 : (kind == 1) = false := by simp [hk.1]
 have z2 : (kind == 2) = false := by simp [hk.2.1]
 have z3 : (kind == 3) = false := by simp [hk.2.2.1]
 have z4 : (kind == 4) = false := by simp [hk.2.2.2]
 have d1 : (es ≠ [] ∧ 0 ≤ N) ∨ (es ≠ [] ∧ ¬ 0 ≤ N) ∨ es = [] := by
  by_cases e : es = []
  ·exact .inr (.inr e)
  ·by_cases e2 : 0 ≤ N
   ·exact .inl ⟨e, e2⟩
   ·exact .inr (.inl ⟨e, e2⟩)
 refine acalls_of cxH_ok drH_ok Try.func19 (by kernel_rfl) rfl (nt := 188) (rs := [.tmp 8]) rfl rfl ?_
 rcases d1 with ⟨e1, e2⟩ | ⟨e1, e2⟩ | e1
 case' inl =>
  have hpos : 0 < es.length := List.length_pos_iff.2 e1
  have c1 : decide ((es.length : Int) > 0) = true := by simp only [gt_iff_lt, decide_eq_true_eq]; omega
  have c2 : decide (N ≥ 0) = true := by simp only [ge_iff_le, decide_eq_true_eq]; omega
  have hz : ((es.length : Int) = 0) = False := eq_false (by omega)
  obtain ⟨j, hj⟩ : ∃ j, j = N.toNat % es.length := ⟨_, rfl⟩
  have hjl : j < es.length := by rw [hj]; exact Nat.mod_lt _ hpos
  have htm : N.tmod (es.length : Int) = (j : Int) := by rw [Int.tmod_eq_emod_of_nonneg e2]; have : ((N.toNat % es.length : Nat) : Int) = (N.toNat : Int) % (es.length : Int) := Int.natCast_emod _ _; rw [hj, this, Int.toNat_of_nonneg e2]
  have hwj : IntKind.i64.wrap (j : Int) = (j : Int) := wrap_i64 (by omega) (by omega)
  obtain ⟨⟨⟨n, k⟩, y⟩, hej⟩ : ∃ e, es[j]? = some e := ⟨es[j], by simp⟩
  obtain ⟨ta, haa, _, hoa⟩ : ∃ t, a = .own t 2 (atE es) ∧ atE es ≠ [] ∧ σ[t]? = some (some (.right 37 ((atE es).length * 2))) := by
   rcases hI.ats with ⟨_, e⟩ | e
   ·exact absurd (by simpa [atE] using e) e1
   ·exact e
  have g1 := atE_get hej
  have g2 := atE_len es
  have u1 := nnI j
  have u2 : ((j : Int) < (es.length : Int)) = True := eq_true (by omega)
  repeat' first | ((with_reducible first | refine cs ?_ ?_ | refine ws ?_ ?_ | refine wd ?_ ?_ | refine wu ?_ ?_) <;> intro h <;> try simp only [h]) | simp only [↓wBA, tHn, convA, seval, pl19_4Hn, pl19_18Hn, pl19_19Hn, pl19_24Hn, pl19_29Hn, pl19_31Hn, wH, wHH, opA, h0, l0, hla, c1, c2, hz, htm, hwj, g1, g2, u1, u2, Int.toNat_natCast, haa, z1, z2, z3, z4] | (with_reducible refine dP pl19_4Hn 9 (some 32) (by decide) (by kernel_rfl) ?_) | (with_reducible refine dP pl19_18Hn 11 (some 90) (by decide) (by kernel_rfl) ?_) | (with_reducible refine dP pl19_19Hn 12 (some 100) (by decide) (by kernel_rfl) ?_) | (with_reducible refine dP pl19_24Hn 16 (some 128) (by decide) (by kernel_rfl) ?_) | (with_reducible refine dP pl19_29Hn 12 (some 154) (by decide) (by kernel_rfl) ?_) | (with_reducible refine dP pl19_31Hn 9 (some 168) (by decide) (by kernel_rfl) ?_) | with_reducible refine And.intro ?_ ?_
 case' inr.inl =>
  have hpos : 0 < es.length := List.length_pos_iff.2 e1
  have c1 : decide ((es.length : Int) > 0) = true := by simp only [gt_iff_lt, decide_eq_true_eq]; omega
  have c2 : decide (N ≥ 0) = false := by simp only [ge_iff_le, decide_eq_false_iff_not]; omega
  repeat' first | ((with_reducible first | refine cs ?_ ?_ | refine ws ?_ ?_ | refine wd ?_ ?_ | refine wu ?_ ?_) <;> intro h <;> try simp only [h]) | simp only [↓wBA, tHn, convA, seval, pl19_4Hn, pl19_18Hn, pl19_19Hn, pl19_24Hn, pl19_29Hn, pl19_31Hn, wH, wHH, opA, h0, l0, hla, c1, c2, z1, z2, z3, z4] | (with_reducible refine dP pl19_4Hn 9 (some 32) (by decide) (by kernel_rfl) ?_) | (with_reducible refine dP pl19_18Hn 11 (some 90) (by decide) (by kernel_rfl) ?_) | (with_reducible refine dP pl19_19Hn 12 (some 100) (by decide) (by kernel_rfl) ?_) | (with_reducible refine dP pl19_24Hn 16 (some 128) (by decide) (by kernel_rfl) ?_) | (with_reducible refine dP pl19_29Hn 12 (some 154) (by decide) (by kernel_rfl) ?_) | (with_reducible refine dP pl19_31Hn 9 (some 168) (by decide) (by kernel_rfl) ?_) | with_reducible refine And.intro ?_ ?_
 case' inr.inr =>
  have c1 : decide ((es.length : Int) > 0) = false := by rw [e1]; rfl
  repeat' first | ((with_reducible first | refine cs ?_ ?_ | refine ws ?_ ?_ | refine wd ?_ ?_ | refine wu ?_ ?_) <;> intro h <;> try simp only [h]) | simp only [↓wBA, tHn, convA, seval, pl19_4Hn, pl19_18Hn, pl19_19Hn, pl19_24Hn, pl19_29Hn, pl19_31Hn, wH, wHH, opA, h0, l0, hla, c1, z1, z2, z3, z4] | (with_reducible refine dP pl19_4Hn 9 (some 32) (by decide) (by kernel_rfl) ?_) | (with_reducible refine dP pl19_18Hn 11 (some 90) (by decide) (by kernel_rfl) ?_) | (with_reducible refine dP pl19_19Hn 12 (some 100) (by decide) (by kernel_rfl) ?_) | (with_reducible refine dP pl19_24Hn 16 (some 128) (by decide) (by kernel_rfl) ?_) | (with_reducible refine dP pl19_29Hn 12 (some 154) (by decide) (by kernel_rfl) ?_) | (with_reducible refine dP pl19_31Hn 9 (some 168) (by decide) (by kernel_rfl) ?_) | with_reducible refine And.intro ?_ ?_
 all_goals
  all_goals refine ret_st ?_ (by first | exact Nat.le_refl _ | (simp only [List.length_set, List.length_append]; omega) | omega)
  all_goals simp only [resA.eq_1, resL.eq_1, resL.eq_2, resV.eq_1, resV.eq_2, ↓wBA, tHn, convA, seval, wH, wHH]
  exact OneR.ap h ((Ap.app _ _).more _)
end
end Go.Proofs.Ytlddiphjpmlhbaa
namespace Go.Proofs.Ytlddiphjpmlhbaa
open Go.RowKit
def pl19_4Hn1 : Plan := (.det 0 (.det 1 (.det 2 (.det 3 (.det 4 (.det 5 (.det 6 (.det 7 (.det 8 .done)))))))))
def pl19_18Hn1 : Plan := (.det 0 (.det 1 (.det 2 (.det 3 (.det 4 (.det 5 (.act 6 (.fin 7 (.det 8 (.det 9 (.fin 10 .done)))))))))))
def pl19_19Hn1 : Plan := (.det 0 (.det 1 (.det 2 (.det 3 (.det 4 (.det 5 (.det 6 (.act 7 (.fin 8 (.det 9 (.det 10 (.fin 11 .done))))))))))))
def pl19_24Hn1 : Plan := (.det 0 (.det 1 (.det 2 (.det 3 (.det 5 (.det 6 (.det 7 (.det 8 (.det 9 (.det 10 (.det 11 (.two 4 (.fin 12 (.det 13 (.det 14 (.det 15 .done)))) 12 (.act 4 (.det 13 (.det 14 (.det 15 .done))))))))))))))))
def pl19_29Hn1 : Plan := (.det 0 (.det 1 (.det 2 (.det 3 (.det 4 (.det 5 (.det 6 (.det 7 (.det 8 (.det 9 (.det 10 (.det 11 .done))))))))))))
def pl19_31Hn1 : Plan := (.det 0 (.det 1 (.det 2 (.det 3 (.det 4 (.det 5 (.det 6 (.det 7 (.fin 8 .done)))))))))
def tHn1 := aa wX <| aa wbu <| aa T3 <| aa T5 <| aa T9 <| aa T22 <| aa T23 <| aa T26 <| aa T31 <| aa T35 <| aa T37 <| aa T56 <| aa T58 T61
section
variable {σ s : St} {b p dd l kh first o : Nat} {U H : Nat → Prop} {P P' : PoolV} {v : Nat → List UInt8} {T : Nat → Bool} {ns : List Nat} {es : Ents}
theorem OwnR.o_ne {q : St} {av : AV} {E : TypeId} {e o n : Nat} {ls : List (List PV)} {c : List (List AV)} (h : OwnR q av E e ls) (ho : q[o]? = some (some (.row n c))) (he : ownOf av = some o) : False := by
 rcases h with ⟨rfl, _⟩ | ⟨t, rfl, _, h2⟩
 ·cases he
 ·simp only [ownOf, Option.some.injEq] at he; subst he; rw [ho] at h2; cases h2
theorem MutR.o_ne {q : St} {av x y : AV} {o : Nat} {ls : List (List AV)} (h : MutR q av 1 ls) (ho : q[o]? = some (some (.row 2 [[x, y]]))) (he : msOf av = some o) : False := by
 rcases h with ⟨rfl, _⟩ | ⟨t, rfl, _, h2⟩
 ·cases he
 ·simp only [msOf, Option.some.injEq] at he; subst he; rw [ho] at h2; simp at h2
theorem rows_encE (l : List UInt8) : List.map (fun c => List.map AV.p c) (encB l) = bRow l := by simp [encB, bRow]
theorem aone1 (h : HpS σ b p dd l kh first o U H P v T ns es) (on N : Int) (rr : List UInt8) (hrl : rr.length ≤ 140737488351232) (hl : es.length ≤ 500) (hpg : P.pages ≤ 3200) (hfree : cnt T P.pages < P.pages) (hb : Bud P 1) :
 ACalls Try.prog 19 [.mp b 2 0 0, intV .i64 (first : Nat), .mp o 2 0 0, opA 1 on N rr] σ (OneR σ b p dd l kh first o U H P v T ns es) := by
 obtain ⟨a, c, hI, hH⟩ := id h.rf
 have h0 := hI.o
 have l0 := at_lt h0
 have hla := own_len (C := cx) ck_35 hI.ats
 rw [atE_len] at hla
 have m1 := tL (n := rr.length * 1) (by omega)
 have m2 := lM (n := rr.length) (by omega)
 have hel := encB_len rr
 have hre := rows_encE rr
 have hbl : (bRow rr).length = rr.length := by simp [bRow]
 have km0 : ∀ (t j n : Nat), lenA cx 23 (.ms t 1 j n) = some n := fun _ _ _ => rfl
 have d1 : (es ≠ [] ∧ 0 ≤ N) ∨ (es ≠ [] ∧ ¬ 0 ≤ N) ∨ es = [] := by
  by_cases e : es = []
  ·exact .inr (.inr e)
  ·by_cases e2 : 0 ≤ N
   ·exact .inl ⟨e, e2⟩
   ·exact .inr (.inl ⟨e, e2⟩)
 refine acalls_of cxH_ok drH_ok Try.func19 (by kernel_rfl) rfl (nt := 188) (rs := [.tmp 8]) rfl rfl ?_
 rcases d1 with ⟨e1, e2⟩ | ⟨e1, e2⟩ | e1
 case' inl =>
  have hpos : 0 < es.length := List.length_pos_iff.2 e1
  have c1 : decide ((es.length : Int) > 0) = true := by simp only [gt_iff_lt, decide_eq_true_eq]; omega
  have c2 : decide (N ≥ 0) = true := by simp only [ge_iff_le, decide_eq_true_eq]; omega
  have hz : ((es.length : Int) = 0) = False := eq_false (by omega)
  obtain ⟨j, hj⟩ : ∃ j, j = N.toNat % es.length := ⟨_, rfl⟩
  have hjl : j < es.length := by rw [hj]; exact Nat.mod_lt _ hpos
  have htm : N.tmod (es.length : Int) = (j : Int) := by rw [Int.tmod_eq_emod_of_nonneg e2]; have : ((N.toNat % es.length : Nat) : Int) = (N.toNat : Int) % (es.length : Int) := Int.natCast_emod _ _; rw [hj, this, Int.toNat_of_nonneg e2]
  have hwj : IntKind.i64.wrap (j : Int) = (j : Int) := wrap_i64 (by omega) (by omega)
  obtain ⟨⟨⟨n, k⟩, y⟩, hej⟩ : ∃ e, es[j]? = some e := ⟨es[j], by simp⟩
  obtain ⟨ta, haa, _, hoa⟩ : ∃ t, a = .own t 2 (atE es) ∧ atE es ≠ [] ∧ σ[t]? = some (some (.right 37 ((atE es).length * 2))) := by
   rcases hI.ats with ⟨_, e⟩ | e
   ·exact absurd (by simpa [atE] using e) e1
   ·exact e
  have g1 := atE_get hej
  have g2 := atE_len es
  have u1 := nnI j
  have u2 : ((j : Int) < (es.length : Int)) = True := eq_true (by omega)
  repeat' first | ((with_reducible first | refine cs ?_ ?_ | refine ws ?_ ?_ | refine wd ?_ ?_ | refine wu ?_ ?_) <;> intro h <;> try simp only [h]) | simp only [↓wBA, tHn1, convA, seval, pl19_4Hn1, pl19_18Hn1, pl19_19Hn1, pl19_24Hn1, pl19_29Hn1, pl19_31Hn1, wH, wHH, opA, h0, l0, hla, c1, c2, hz, htm, hwj, g1, g2, u1, u2, Int.toNat_natCast, haa, m1, m2, hel, hre, hbl, appendM, srcM, srcA] | (with_reducible refine dP pl19_4Hn1 9 (some 32) (by decide) (by kernel_rfl) ?_) | (with_reducible refine dP pl19_18Hn1 11 (some 90) (by decide) (by kernel_rfl) ?_) | (with_reducible refine dP pl19_19Hn1 12 (some 100) (by decide) (by kernel_rfl) ?_) | (with_reducible refine dP pl19_24Hn1 16 (some 128) (by decide) (by kernel_rfl) ?_) | (with_reducible refine dP pl19_29Hn1 12 (some 154) (by decide) (by kernel_rfl) ?_) | (with_reducible refine dP pl19_31Hn1 9 (some 168) (by decide) (by kernel_rfl) ?_) | with_reducible refine And.intro ?_ ?_
 case' inr.inl =>
  have hpos : 0 < es.length := List.length_pos_iff.2 e1
  have c1 : decide ((es.length : Int) > 0) = true := by simp only [gt_iff_lt, decide_eq_true_eq]; omega
  have c2 : decide (N ≥ 0) = false := by simp only [ge_iff_le, decide_eq_false_iff_not]; omega
  repeat' first | ((with_reducible first | refine cs ?_ ?_ | refine ws ?_ ?_ | refine wd ?_ ?_ | refine wu ?_ ?_) <;> intro h <;> try simp only [h]) | simp only [↓wBA, tHn1, convA, seval, pl19_4Hn1, pl19_18Hn1, pl19_19Hn1, pl19_24Hn1, pl19_29Hn1, pl19_31Hn1, wH, wHH, opA, h0, l0, hla, c1, c2, m1, m2, hel, hre, hbl, appendM, srcM, srcA] | (with_reducible refine dP pl19_4Hn1 9 (some 32) (by decide) (by kernel_rfl) ?_) | (with_reducible refine dP pl19_18Hn1 11 (some 90) (by decide) (by kernel_rfl) ?_) | (with_reducible refine dP pl19_19Hn1 12 (some 100) (by decide) (by kernel_rfl) ?_) | (with_reducible refine dP pl19_24Hn1 16 (some 128) (by decide) (by kernel_rfl) ?_) | (with_reducible refine dP pl19_29Hn1 12 (some 154) (by decide) (by kernel_rfl) ?_) | (with_reducible refine dP pl19_31Hn1 9 (some 168) (by decide) (by kernel_rfl) ?_) | with_reducible refine And.intro ?_ ?_
 case' inr.inr =>
  have c1 : decide ((es.length : Int) > 0) = false := by rw [e1]; rfl
  repeat' first | ((with_reducible first | refine cs ?_ ?_ | refine ws ?_ ?_ | refine wd ?_ ?_ | refine wu ?_ ?_) <;> intro h <;> try simp only [h]) | simp only [↓wBA, tHn1, convA, seval, pl19_4Hn1, pl19_18Hn1, pl19_19Hn1, pl19_24Hn1, pl19_29Hn1, pl19_31Hn1, wH, wHH, opA, h0, l0, hla, c1, m1, m2, hel, hre, hbl, appendM, srcM, srcA] | (with_reducible refine dP pl19_4Hn1 9 (some 32) (by decide) (by kernel_rfl) ?_) | (with_reducible refine dP pl19_18Hn1 11 (some 90) (by decide) (by kernel_rfl) ?_) | (with_reducible refine dP pl19_19Hn1 12 (some 100) (by decide) (by kernel_rfl) ?_) | (with_reducible refine dP pl19_24Hn1 16 (some 128) (by decide) (by kernel_rfl) ?_) | (with_reducible refine dP pl19_29Hn1 12 (some 154) (by decide) (by kernel_rfl) ?_) | (with_reducible refine dP pl19_31Hn1 9 (some 168) (by decide) (by kernel_rfl) ?_) | with_reducible refine And.intro ?_ ?_
 all_goals
  refine ACalls.gen (fun s => Ap σ s ∧ s[σ.length + 3]? = some (some (.row 1 (bRow rr))) ∧ s[σ.length]? = some (some (.row 4 [[.p (.v (.int .i64 1)), .p (.v (.int .i64 on)), .p (.v (.int .i64 N)), .p (.sl 1 (encB rr))]]))) ⟨(((Ap.app _ _).more _).more _).more _, ?_, ?_⟩ fun s ⟨ha, hmine, hop⟩ => ?_
  ·skip
   simp only [wH, wHe, Nat.reduceAdd, Nat.reduceLT, Nat.reduceEqDiff, Nat.reduceMul, reduceCtorEq, Nat.lt_irrefl]
  ·skip
   simp only [wH, wHe, Nat.reduceAdd, Nat.reduceLT, Nat.reduceEqDiff, Nat.reduceMul, reduceCtorEq, Nat.lt_irrefl]
  have lmine := at_lt hmine
  have lop := at_lt hop
  have hUlt := h.bt.lt
  by_cases hr4 : rr.length ≤ 400
  ·refine (ahinsert (first := first) (r := rr) (T := T) (h.bt.ap ha) h.tk hpg h.t0 h.hp h.fst (.inr ⟨_, rfl, hmine⟩) hr4 (fun t ht e => by simp only [msOf, Option.some.injEq] at ht; have := hUlt t e; omega) hb).mono ?_
   rintro q6 s6 ⟨U6, P6, v6, f6, h6, k6, hc6⟩
   rcases hc6 with ⟨n6, k6', T6, ns6, rfl, hI6⟩ | ⟨hall, _, _⟩
   rotate_left
   ·have := cnt_all (T := T) P.pages hall
    omega
   have l6 := f6.len
   have b400 : decide ((rr.length : Int) > 400) = false := by simp; omega
   have hU6lt := h6.lt
   have mine6 := f6.get hmine (fun e => by have := hUlt _ e; omega)
   have op6 := f6.get hop (fun e => by have := hUlt _ e; omega)
   repeat' first | ((with_reducible first | refine cs ?_ ?_ | refine ws ?_ ?_ | refine wd ?_ ?_ | refine wu ?_ ?_) <;> intro h <;> try simp only [h]) | simp only [↓wBA, tHn1, convA, seval, pl19_4Hn1, pl19_18Hn1, pl19_19Hn1, pl19_24Hn1, pl19_29Hn1, pl19_31Hn1, wH, wHH] | (with_reducible refine dP pl19_4Hn1 9 (some 32) (by decide) (by kernel_rfl) ?_) | (with_reducible refine dP pl19_18Hn1 11 (some 90) (by decide) (by kernel_rfl) ?_) | (with_reducible refine dP pl19_19Hn1 12 (some 100) (by decide) (by kernel_rfl) ?_) | (with_reducible refine dP pl19_24Hn1 16 (some 128) (by decide) (by kernel_rfl) ?_) | (with_reducible refine dP pl19_29Hn1 12 (some 154) (by decide) (by kernel_rfl) ?_) | (with_reducible refine dP pl19_31Hn1 9 (some 168) (by decide) (by kernel_rfl) ?_) | with_reducible refine And.intro ?_ ?_
   obtain ⟨X, hX⟩ : ∃ X, X = (s6 ++ [some (.row 2 [[.p (.v (.int .i64 (n6 : Nat))), .p (.v (.int .i64 (k6' : Nat)))]])]) := ⟨_, rfl⟩
   rw [← hX]
   have xl : s6.length < X.length := by rw [hX]; simp
   have xk : ∀ t, t < s6.length → X[t]? = s6[t]? := fun t ht => by rw [hX, List.getElem?_append_left ht]
   refine awp_loopS (X := { j : Nat // j ≤ rr.length }) (fun j => rr.length - j.1) (fun j => [(14, intV .i64 (j.1 : Nat))]) [62, 63, 64, 65, 66, 67, 68, 69, 70] (fun j q => q.length = X.length ∧ (∀ t, t ≠ σ.length + 3 → q[t]? = X[t]?) ∧ ∃ B : List UInt8, q[σ.length + 3]? = some (some (.row 1 (bRow B))) ∧ B.length = rr.length) (⟨0, by omega⟩) ?_ ?_ ?_ ?_
   ·simp only [wHl, wHf]
   ·exact ⟨rfl, fun _ _ => rfl, rr, by rw [xk _ (by omega)]; exact mine6, rfl⟩
   ·rintro _ _ ⟨hl, _⟩; rw [hl]; exact Nat.le_refl _
   ·intro x J q hI2
    simp only [wHl]
    obtain ⟨jj, hj2⟩ := x
    obtain ⟨ql, qk, B, hB, hBl⟩ := hI2
    dsimp only at *
    have qB := at_lt hB
    have hbB : (bRow B).length = rr.length := by simp [bRow, hBl]
    by_cases hjlt : jj < rr.length
    ·have e5 := dT hjlt
     obtain ⟨c5, hc5⟩ : ∃ c, (bRow B)[jj]? = some [.p (byteP c)] := ⟨B[jj]'(by omega), by simp [bRow, hBl, hjlt]⟩
     have hset5 : (bRow B).set jj [.p (.v (.int .u8 238))] = bRow (B.set jj 238) := by simp only [bRow, List.map_set]; rfl
     have v51 := nnI jj
     have v52 : ((jj : Int) < (rr.length : Int)) = True := eq_true (by omega)
     have v53 := wI jj (by omega)
     repeat' first | ((with_reducible first | refine cs ?_ ?_ | refine ws ?_ ?_ | refine wd ?_ ?_ | refine wu ?_ ?_) <;> intro h <;> try simp only [h]) | simp only [↓wBA, tHn1, convA, seval, pl19_4Hn1, pl19_18Hn1, pl19_19Hn1, pl19_24Hn1, pl19_29Hn1, pl19_31Hn1, wH, wHl, wHH, km0, e5, v51, v52, v53, Int.toNat_natCast, hB, qB, hbB, hc5, hset5, byteP] | (with_reducible refine dP pl19_4Hn1 9 (some 32) (by decide) (by kernel_rfl) ?_) | (with_reducible refine dP pl19_18Hn1 11 (some 90) (by decide) (by kernel_rfl) ?_) | (with_reducible refine dP pl19_19Hn1 12 (some 100) (by decide) (by kernel_rfl) ?_) | (with_reducible refine dP pl19_24Hn1 16 (some 128) (by decide) (by kernel_rfl) ?_) | (with_reducible refine dP pl19_29Hn1 12 (some 154) (by decide) (by kernel_rfl) ?_) | (with_reducible refine dP pl19_31Hn1 9 (some 168) (by decide) (by kernel_rfl) ?_) | with_reducible refine And.intro ?_ ?_
     refine ⟨⟨jj + 1, by omega⟩, by show rr.length - (jj + 1) < rr.length - jj; omega, ⟨by simp [ql], fun t ht => ?_, B.set jj 238, by simp [qB], by simp [hBl]⟩, by simp only [wHl, wHf]⟩
     rw [List.getElem?_set_ne (fun e => ht e.symm)]; exact qk t ht
    obtain rfl : jj = rr.length := by omega
    have e5 := dF (i := rr.length) (n := rr.length) (by omega)
    have opq : q[σ.length]? = some (some (.row 4 [[.p (.v (.int .i64 1)), .p (.v (.int .i64 on)), .p (.v (.int .i64 N)), .p (.sl 1 (encB rr))]])) := by rw [qk _ (by omega), xk _ (by omega)]; exact op6
    have opl := at_lt opq
    repeat' first | ((with_reducible first | refine cs ?_ ?_ | refine ws ?_ ?_ | refine wd ?_ ?_ | refine wu ?_ ?_) <;> intro h <;> try simp only [h]) | simp only [↓wBA, tHn1, convA, seval, pl19_4Hn1, pl19_18Hn1, pl19_19Hn1, pl19_24Hn1, pl19_29Hn1, pl19_31Hn1, wH, wHl, wHH, km0, e5, opq, opl, hel, b400] | (with_reducible refine dP pl19_4Hn1 9 (some 32) (by decide) (by kernel_rfl) ?_) | (with_reducible refine dP pl19_18Hn1 11 (some 90) (by decide) (by kernel_rfl) ?_) | (with_reducible refine dP pl19_19Hn1 12 (some 100) (by decide) (by kernel_rfl) ?_) | (with_reducible refine dP pl19_24Hn1 16 (some 128) (by decide) (by kernel_rfl) ?_) | (with_reducible refine dP pl19_29Hn1 12 (some 154) (by decide) (by kernel_rfl) ?_) | (with_reducible refine dP pl19_31Hn1 9 (some 168) (by decide) (by kernel_rfl) ?_) | with_reducible refine And.intro ?_ ?_
    have hch : ∀ t, H t → q[t]? = σ[t]? := fun t ht => by
     have h1 := h.rf.lt t ht
     have hs1 := ha.len
     rw [qk t (by omega), xk t (by omega), f6.keep t (by omega) (fun e => h.dj t e ht)]
     obtain ⟨τ, rfl⟩ := ha
     exact List.getElem?_append_left h1
    have hs1 := ha.len
    have ridq : q[s6.length]? = some (some (.row 2 [[.p (.v (.int .i64 (n6 : Nat))), .p (.v (.int .i64 (k6' : Nat)))]])) := by rw [qk _ (by omega), hX]; simp
    have ridl := at_lt ridq
    repeat' first | ((with_reducible first | refine cs ?_ ?_ | refine ws ?_ ?_ | refine wd ?_ ?_ | refine wu ?_ ?_) <;> intro h <;> try simp only [h]) | simp only [↓wBA, tHn1, convA, seval, pl19_4Hn1, pl19_18Hn1, pl19_19Hn1, pl19_24Hn1, pl19_29Hn1, pl19_31Hn1, wH, wHl, wHH, ridq, ridl] | (with_reducible refine dP pl19_4Hn1 9 (some 32) (by decide) (by kernel_rfl) ?_) | (with_reducible refine dP pl19_18Hn1 11 (some 90) (by decide) (by kernel_rfl) ?_) | (with_reducible refine dP pl19_19Hn1 12 (some 100) (by decide) (by kernel_rfl) ?_) | (with_reducible refine dP pl19_24Hn1 16 (some 128) (by decide) (by kernel_rfl) ?_) | (with_reducible refine dP pl19_29Hn1 12 (some 154) (by decide) (by kernel_rfl) ?_) | (with_reducible refine dP pl19_31Hn1 9 (some 168) (by decide) (by kernel_rfl) ?_) | with_reducible refine And.intro ?_ ?_
    refine (afindR (h.rf.same hch) (by omega)).mono ?_
    rintro _ q8 ⟨a8, ⟨i8, x8, hi8, _⟩ | ⟨_, rfl⟩⟩
    ·have := (h.eq.get n6 k6' x8).2 (List.mem_of_getElem? hi8)
     rw [hI6.old] at this; cases this
    have l8 := a8.len
    have hch8 : ∀ t, H t → q8[t]? = σ[t]? := fun t ht => by
     rw [← hch t ht]
     have := h.rf.lt t ht
     obtain ⟨τ, rfl⟩ := a8
     exact List.getElem?_append_left (by omega)
    have k8 : q8[o]? = some (some (.row 2 [[a, c]])) := by rw [hch8 o ((hH o).2 (.inl rfl))]; exact h0
    have l08 := at_lt k8
    have rid8 := a8.get ridq
    have ridl8 := at_lt rid8
    have op8 := a8.get opq
    have opl8 := at_lt op8
    have ats8 := hI.ats.same (q' := q8) fun t ht => hch8 t ((hH t).2 (.inr (.inl ht)))
    have rc8 := hI.rc.same (s := q8) fun t ht => hch8 t ((hH t).2 (.inr (.inr ht)))
    have ats8' := ats8.same (q' := q8 ++ [some (.right 37 2)]) fun t ht => List.getElem?_append_left (ats8.lt ht)
    obtain ⟨a', q9, h9, p1, p2, p3, p4⟩ := app_own (q := q8 ++ [some (.right 37 2)]) (y := .own q8.length 2 [[.v (.int .i64 (n6 : Nat)), .v (.int .i64 (k6' : Nat))]]) (m := [[.v (.int .i64 (n6 : Nat)), .v (.int .i64 (k6' : Nat))]]) ck_35 ats8' rfl (by simp) (by simp only [atE_len, List.length_cons, List.length_nil]; omega) (by simp only [atE_len, List.length_cons, List.length_nil]; omega)
    simp only [List.length_append, List.length_cons, List.length_nil, Nat.zero_add] at h9 p2 p3 p4
    have k9 : q9[o]? = some (some (.row 2 [[a, c]])) := by
     rw [p3 o (by omega) (fun e => hI.ats.o_ne h0 e), List.getElem?_append_left l08]; exact k8
    have l9 := at_lt k9
    obtain ⟨Y, hY⟩ : ∃ Y, Y = q9.set o (some (.row 2 [[a', c]])) := ⟨_, rfl⟩
    have Yl : Y.length = q9.length := by rw [hY]; simp
    have kY : Y[o]? = some (some (.row 2 [[a', c]])) := by rw [hY]; simp [l9]
    have Yk : ∀ t, t ≠ o → Y[t]? = q9[t]? := fun t ht => by rw [hY]; exact List.getElem?_set_ne fun e => ht e.symm
    have rc9 : MutR (Y ++ [some (.right 23 1)]) c 1 (rcE es) := rc8.same fun t ht => by
     have h1 := rc8.lt ht
     rw [List.getElem?_append_left (by omega), Yk t (fun e => by subst e; exact rc8.o_ne k8 ht), p3 t (by omega) (fun e => own_ms_neE ats8 rc8 e ht), List.getElem?_append_left h1]
    obtain ⟨q10, h10, r1, r2, r3⟩ := app_mut (C := cxH) (q := Y ++ [some (.right 23 1)]) (y := .own Y.length 1 [[.sl 1 (encB rr)]]) (m := [[.p (.sl 1 (encB rr))]]) ((kindH _).trans ck_22) rc9 rfl (by simp) (by simp only [rcE_len, List.length_cons, List.length_nil]; omega) (by simp only [rcE_len, List.length_cons, List.length_nil]; omega)
    simp only [List.length_append, List.length_cons, List.length_nil, Nat.zero_add] at h10 r1 r2 r3
    have k10 : q10[o]? = some (some (.row 2 [[a', c]])) := by
     rw [r3 o (by omega) (fun e => rc8.o_ne k8 e), List.getElem?_append_left (by omega)]; exact kY
    have l10 := at_lt k10
    have opY : Y[σ.length]? = some (some (.row 4 [[.p (.v (.int .i64 1)), .p (.v (.int .i64 on)), .p (.v (.int .i64 N)), .p (.sl 1 (encB rr))]])) := by
     rw [Yk _ (by omega), p3 _ (by omega) (fun e => by have := ats8.lt e; have := h.rf.lt _ ((hH _).2 (.inr (.inl e))); omega), List.getElem?_append_left opl8]; exact op8
    have opYl := at_lt opY
    have lY := at_lt kY
    have c9 := p1.cells
    have nn1 : (o = s6.length) = False := nf (by omega)
    have nn2 : (s6.length = o) = False := nf (by omega)
    have nn3 : (o = σ.length) = False := nf (by omega)
    have nn4 : (σ.length = o) = False := nf (by omega)
    have d8 : decide ((-1 : Int) ≥ 0) = false := rfl
    repeat' first | ((with_reducible first | refine cs ?_ ?_ | refine ws ?_ ?_ | refine wd ?_ ?_ | refine wu ?_ ?_) <;> intro h <;> try simp only [h]) | simp only [↓wBA, tHn1, convA, seval, pl19_4Hn1, pl19_18Hn1, pl19_19Hn1, pl19_24Hn1, pl19_29Hn1, pl19_31Hn1, wH, wHl, wHH, d8, k8, l08, rid8, ridl8, h9, k9, l9, c9, nn1, nn2, nn3, nn4, ← hY, kY, lY, opY, opYl, h10, k10, l10] | (with_reducible refine dP pl19_4Hn1 9 (some 32) (by decide) (by kernel_rfl) ?_) | (with_reducible refine dP pl19_18Hn1 11 (some 90) (by decide) (by kernel_rfl) ?_) | (with_reducible refine dP pl19_19Hn1 12 (some 100) (by decide) (by kernel_rfl) ?_) | (with_reducible refine dP pl19_24Hn1 16 (some 128) (by decide) (by kernel_rfl) ?_) | (with_reducible refine dP pl19_29Hn1 12 (some 154) (by decide) (by kernel_rfl) ?_) | (with_reducible refine dP pl19_31Hn1 9 (some 168) (by decide) (by kernel_rfl) ?_) | with_reducible refine And.intro ?_ ?_
    have hlen : σ.length ≤ q10.length := by omega
    all_goals refine ret_st ?_ (by first | exact Nat.le_refl _ | (simp only [List.length_set, List.length_append]; omega) | omega)
    all_goals simp only [resA.eq_1, resL.eq_1, resL.eq_2, resV.eq_1, resV.eq_2, ↓wBA, tHn1, convA, seval, wH, wHH]
    obtain ⟨Z, hZ⟩ : ∃ Z, Z = q10.set o (some (.row 2 [[a', .ms (Y.length + 1) 1 0 ((rcE es).length + 1)]])) := ⟨_, rfl⟩
    rw [← hZ]
    have Zl : Z.length = q10.length := by rw [hZ]; simp
    have Ho : H o := (hH o).2 (.inl rfl)
    have hZk : ∀ t, t < q8.length → ¬ H t → Z[t]? = q8[t]? := fun t ht hn => by
     have hto : t ≠ o := fun e => hn (e ▸ Ho)
     rw [hZ, List.getElem?_set_ne (fun e => hto e.symm), r3 t (by omega) (fun e => hn ((hH t).2 (.inr (.inr e)))), List.getElem?_append_left (by omega), Yk t hto, p3 t (by omega) (fun e => hn ((hH t).2 (.inr (.inl e)))), List.getElem?_append_left ht]
    have hq8 : ∀ t, t < s6.length → t ≠ σ.length + 3 → q8[t]? = s6[t]? := fun t ht hn => by
     rw [← xk t ht, ← qk t hn]
     obtain ⟨τ, rfl⟩ := a8
     exact List.getElem?_append_left (by omega)
    have hnU6 : ∀ t, U6 t → ¬ H t := fun t x y => (f6.own t x).elim (fun e => h.dj t e y) fun e => by have := h.rf.lt t y; omega
    have hU63 : ∀ t, U6 t → t ≠ σ.length + 3 := fun t x e => (f6.own t x).elim (fun e' => by have := hUlt t e'; omega) fun e' => by omega
    have hB : Bt Z b p dd l kh U6 P6 v6 := h6.same fun t ht => by
     have := hU6lt t ht
     rw [hZk t (by omega) (hnU6 t ht), hq8 t this (hU63 t ht)]
    have hp4 : ∀ t, ownOf a' = some t → H t ∨ q8.length ≤ t := fun t ht => (p4 t ht).imp (fun e => (hH t).2 (.inr (.inl e))) fun e => by omega
    have hpgs := k6.pages
    refine ⟨rfl, U6, fun t => t = o ∨ ownOf a' = some t ∨ msOf (.ms (Y.length + 1) 1 0 ((rcE es).length + 1)) = some t, P6, v6, T6, ns6, es ++ [((n6, k6'), rr)], ⟨by omega, fun t ht hn => ?_, fun t ht => ?_⟩, ⟨hB, by rw [hpgs]; exact hI6.tk, hI6.t0, by rw [hpgs]; exact hI6.heap, ?_, ⟨a', _, ⟨by rw [hZ]; simp [l10], ?_, ?_⟩, fun t => Iff.rfl⟩, fun t x y => ?_, h.eq.add hI6⟩, ⟨k6, by simp, ?_, ?_, fun m hm => ?_, fun m hm => ?_, hI6.oth⟩⟩
    ·rw [hZk t (by omega) (fun e => hn (.inr e)), hq8 t (by omega) (by omega), f6.keep t (by omega) (fun e => hn (.inl e))]
     obtain ⟨τ, rfl⟩ := ha
     exact List.getElem?_append_left ht
    ·rcases ht with ht | rfl | ht | ht
     ·exact (f6.own t ht).imp .inl fun e => by omega
     ·exact .inl (.inr Ho)
     ·exact (hp4 t ht).imp .inr fun e => by omega
     ·simp only [msOf, Option.some.injEq] at ht; right; omega
    ·rcases hI6.pages with ⟨rfl, _⟩ | ⟨q, _, _, rfl, _⟩
     ·exact h.fst
     ·have := (List.getElem?_eq_some_iff.1 h.fst).1
      rw [List.getElem?_append_left this]; exact h.fst
    ·rw [← atE_app]
     refine p1.same fun t ht => ?_
     have h1 := p1.lt ht
     have hto : t ≠ o := fun e => by subst e; exact p1.o_ne k9 ht
     rw [hZ, List.getElem?_set_ne (fun e => hto e.symm), r3 t (by omega) (fun e => (p4 t ht).elim (fun e' => own_ms_neE ats8 rc8 e' e) fun e' => by have := rc8.lt e; omega), List.getElem?_append_left (by omega), Yk t hto]
    ·rw [← rcE_app]
     refine .inr ⟨Y.length + 1, by simp, by simp, ?_⟩
     rw [hZ, List.getElem?_set_ne (by omega)]; exact r1
    ·rcases y with rfl | y | y
     ·exact hnU6 _ x Ho
     ·exact (hp4 t y).elim (hnU6 t x) fun e => by have := hU6lt t x; omega
     ·simp only [msOf, Option.some.injEq] at y; have := hU6lt t x; omega
    ·rcases hI6.pages with ⟨rfl, _⟩ | ⟨q, _, _, rfl, _⟩ <;> simp
    ·rcases hI6.pages with ⟨_, rfl, _⟩ | ⟨q, hq1, hq2, _, rfl⟩
     ·omega
     ·rw [cnt_true hq1 P.pages hq2]; omega
    ·rcases hI6.pages with ⟨_, rfl, _⟩ | ⟨q, hq1, hq2, _, rfl⟩
     ·exact hm
     ·unfold updT; split
      ·rfl
      ·exact hm
    ·rcases hI6.pages with ⟨rfl, _⟩ | ⟨q, hq1, hq2, rfl, _⟩
     ·exact .inl hm
     ·rcases List.mem_append.1 hm with hm | hm
      ·exact .inl hm
      ·simp at hm; subst hm; exact .inr hq1
  ·refine (ahinsertL (.inr ⟨_, rfl, hmine⟩) (by omega)).mono ?_
   rintro q6 s6 ⟨rfl, a6⟩
   have l6 := a6.len
   have b400 : decide ((rr.length : Int) > 400) = true := by simp; omega
   have mine6 := a6.get hmine
   have op6 := a6.get hop
   repeat' first | ((with_reducible first | refine cs ?_ ?_ | refine ws ?_ ?_ | refine wd ?_ ?_ | refine wu ?_ ?_) <;> intro h <;> try simp only [h]) | simp only [↓wBA, tHn1, convA, seval, pl19_4Hn1, pl19_18Hn1, pl19_19Hn1, pl19_24Hn1, pl19_29Hn1, pl19_31Hn1, wH, wHH] | (with_reducible refine dP pl19_4Hn1 9 (some 32) (by decide) (by kernel_rfl) ?_) | (with_reducible refine dP pl19_18Hn1 11 (some 90) (by decide) (by kernel_rfl) ?_) | (with_reducible refine dP pl19_19Hn1 12 (some 100) (by decide) (by kernel_rfl) ?_) | (with_reducible refine dP pl19_24Hn1 16 (some 128) (by decide) (by kernel_rfl) ?_) | (with_reducible refine dP pl19_29Hn1 12 (some 154) (by decide) (by kernel_rfl) ?_) | (with_reducible refine dP pl19_31Hn1 9 (some 168) (by decide) (by kernel_rfl) ?_) | with_reducible refine And.intro ?_ ?_
   obtain ⟨X, hX⟩ : ∃ X, X = (s6 ++ [some (.row 2 [[.p (.v (.int .i64 0)), .p (.v (.int .i64 0))]])]) := ⟨_, rfl⟩
   rw [← hX]
   have xl : s6.length < X.length := by rw [hX]; simp
   have xk : ∀ t, t < s6.length → X[t]? = s6[t]? := fun t ht => by rw [hX, List.getElem?_append_left ht]
   refine awp_loopS (X := { j : Nat // j ≤ rr.length }) (fun j => rr.length - j.1) (fun j => [(14, intV .i64 (j.1 : Nat))]) [62, 63, 64, 65, 66, 67, 68, 69, 70] (fun j q => q.length = X.length ∧ (∀ t, t ≠ σ.length + 3 → q[t]? = X[t]?) ∧ ∃ B : List UInt8, q[σ.length + 3]? = some (some (.row 1 (bRow B))) ∧ B.length = rr.length) (⟨0, by omega⟩) ?_ ?_ ?_ ?_
   ·simp only [wHl, wHf]
   ·exact ⟨rfl, fun _ _ => rfl, rr, by rw [xk _ (by omega)]; exact mine6, rfl⟩
   ·rintro _ _ ⟨hl, _⟩; rw [hl]; exact Nat.le_refl _
   ·intro x J q hI2
    simp only [wHl]
    obtain ⟨jj, hj2⟩ := x
    obtain ⟨ql, qk, B, hB, hBl⟩ := hI2
    dsimp only at *
    have qB := at_lt hB
    have hbB : (bRow B).length = rr.length := by simp [bRow, hBl]
    by_cases hjlt : jj < rr.length
    ·have e5 := dT hjlt
     obtain ⟨c5, hc5⟩ : ∃ c, (bRow B)[jj]? = some [.p (byteP c)] := ⟨B[jj]'(by omega), by simp [bRow, hBl, hjlt]⟩
     have hset5 : (bRow B).set jj [.p (.v (.int .u8 238))] = bRow (B.set jj 238) := by simp only [bRow, List.map_set]; rfl
     have v51 := nnI jj
     have v52 : ((jj : Int) < (rr.length : Int)) = True := eq_true (by omega)
     have v53 := wI jj (by omega)
     repeat' first | ((with_reducible first | refine cs ?_ ?_ | refine ws ?_ ?_ | refine wd ?_ ?_ | refine wu ?_ ?_) <;> intro h <;> try simp only [h]) | simp only [↓wBA, tHn1, convA, seval, pl19_4Hn1, pl19_18Hn1, pl19_19Hn1, pl19_24Hn1, pl19_29Hn1, pl19_31Hn1, wH, wHl, wHH, km0, e5, v51, v52, v53, Int.toNat_natCast, hB, qB, hbB, hc5, hset5, byteP] | (with_reducible refine dP pl19_4Hn1 9 (some 32) (by decide) (by kernel_rfl) ?_) | (with_reducible refine dP pl19_18Hn1 11 (some 90) (by decide) (by kernel_rfl) ?_) | (with_reducible refine dP pl19_19Hn1 12 (some 100) (by decide) (by kernel_rfl) ?_) | (with_reducible refine dP pl19_24Hn1 16 (some 128) (by decide) (by kernel_rfl) ?_) | (with_reducible refine dP pl19_29Hn1 12 (some 154) (by decide) (by kernel_rfl) ?_) | (with_reducible refine dP pl19_31Hn1 9 (some 168) (by decide) (by kernel_rfl) ?_) | with_reducible refine And.intro ?_ ?_
     refine ⟨⟨jj + 1, by omega⟩, by show rr.length - (jj + 1) < rr.length - jj; omega, ⟨by simp [ql], fun t ht => ?_, B.set jj 238, by simp [qB], by simp [hBl]⟩, by simp only [wHl, wHf]⟩
     rw [List.getElem?_set_ne (fun e => ht e.symm)]; exact qk t ht
    obtain rfl : jj = rr.length := by omega
    have e5 := dF (i := rr.length) (n := rr.length) (by omega)
    have opq : q[σ.length]? = some (some (.row 4 [[.p (.v (.int .i64 1)), .p (.v (.int .i64 on)), .p (.v (.int .i64 N)), .p (.sl 1 (encB rr))]])) := by rw [qk _ (by omega), xk _ (by omega)]; exact op6
    have opl := at_lt opq
    have ridq : q[s6.length]? = some (some (.row 2 [[.p (.v (.int .i64 0)), .p (.v (.int .i64 0))]])) := by have := ha.len; rw [qk _ (by omega), hX]; simp
    have ridl := at_lt ridq
    repeat' first | ((with_reducible first | refine cs ?_ ?_ | refine ws ?_ ?_ | refine wd ?_ ?_ | refine wu ?_ ?_) <;> intro h <;> try simp only [h]) | simp only [↓wBA, tHn1, convA, seval, pl19_4Hn1, pl19_18Hn1, pl19_19Hn1, pl19_24Hn1, pl19_29Hn1, pl19_31Hn1, wH, wHl, wHH, km0, e5, opq, opl, hel, b400, ridq, ridl] | (with_reducible refine dP pl19_4Hn1 9 (some 32) (by decide) (by kernel_rfl) ?_) | (with_reducible refine dP pl19_18Hn1 11 (some 90) (by decide) (by kernel_rfl) ?_) | (with_reducible refine dP pl19_19Hn1 12 (some 100) (by decide) (by kernel_rfl) ?_) | (with_reducible refine dP pl19_24Hn1 16 (some 128) (by decide) (by kernel_rfl) ?_) | (with_reducible refine dP pl19_29Hn1 12 (some 154) (by decide) (by kernel_rfl) ?_) | (with_reducible refine dP pl19_31Hn1 9 (some 168) (by decide) (by kernel_rfl) ?_) | with_reducible refine And.intro ?_ ?_
    have hAq : Ap σ q := Ap.of_keep (by have := ha.len; omega) fun t ht => by
     have h1 := ha.len
     rw [qk t (by omega), xk t (by omega)]
     obtain ⟨τ, rfl⟩ := ha.trans a6
     exact List.getElem?_append_left ht
    have hlen := hAq.len
    all_goals refine ret_st ?_ (by first | exact Nat.le_refl _ | (simp only [List.length_set, List.length_append]; omega) | omega)
    all_goals simp only [resA.eq_1, resL.eq_1, resL.eq_2, resV.eq_1, resV.eq_2, ↓wBA, tHn1, convA, seval, wH, wHH]
    all_goals exact OneR.ap h hAq
end
end Go.Proofs.Ytlddiphjpmlhbaa
