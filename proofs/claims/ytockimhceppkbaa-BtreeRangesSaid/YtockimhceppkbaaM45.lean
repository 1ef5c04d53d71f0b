/- Trees: Range, All, Make; what is refused. Trees, plain: what is told of a range. Trees: the laws' awake and tree. Trees: what the laws share: texts, the tree of some keys. -/
import Derived.Test.YtockimhceppkbaaM44
set_option linter.unusedSimpArgs false
set_option linter.unusedVariables false
set_option linter.defProp false
set_option maxRecDepth 100000
set_option maxHeartbeats 32000000
namespace Go.Proofs.Ytockimhceppkbaa
open Go.RowKit
def tYn := aa wX <| aa wbu <| aa T3 <| aa T23 <| aa T27 <| aa T50 T52
theorem atFrom {b p dd l kh : Nat} {v : Nat → List UInt8} {lo : List UInt8} {lox : PV} {my : List UInt8 → Bool} {g : FuncId} {caps : List AV} {kl : List (Nat × Ob)} (hlo : BX lox lo)
 (hmy : ∀ (s : St) (k : List UInt8), Kept kl s → ACalls Try.prog g (.p (.sl 1 (encB k)) :: caps) s fun r s' => s' = s ∧ r = boolV (my k)) : ∀ (h : Nat) {σ : St} {U : Nat → Prop} {P : PoolV} {n : Nat} {t : BTr h}, Bt σ b p dd l kh U P v → Bud P 1 → TrAt v h n t → (pgT h n t).Nodup → (∀ q ∈ pgT h n t, q < P.pages) → Kept kl σ → (∀ q ∈ kl, ¬ U q.1) →
  ACalls Try.prog 13 [.agg [.mp b 2 0 0], intV .i64 (n : Nat), .p lox, .fn g [] caps] σ fun r σ' => FromPost h t lo my σ b p dd l kh U P v r σ'
 | 0, σ, U, P, n, t, hB, hb, hTr, hnd, htk, hkl, hklU => atFromLeaf hB hb (htk n (pgT_root 0 n t)) hTr hlo hkl hklU hmy
 | h + 1, σ, U, P, n, t, hB, hb, hTr, hnd, htk, hkl, hklU => atFromNode hB hb hTr hnd htk hlo hkl hklU hmy fun a1 a2 a3 a4 a5 a6 a7 => atFrom hlo hmy h a1 a2 a3 a4 a5 a6 a7
theorem atAll1 (σ : St) (x : PV) : ACalls Try.prog 14 [.p x] σ fun r s => s = σ ∧ r = boolV true := by
 refine acalls_of cx_ok dr_ok Try.func14 (by kernel_rfl) rfl (nt := 2) (rs := [.tmp 2]) rfl rfl ?_
 repeat' first | ((with_reducible first | refine cs ?_ ?_ | refine ws ?_ ?_) <;> intro h <;> try simp only [h]) | simp only [↓wBA, tYn, convA, seval, wH]
 all_goals refine ret_st ?_ (by first | exact Nat.le_refl _ | (simp only [List.length_set, List.length_append]; omega) | omega)
 all_goals simp only [resA.eq_1, resL.eq_1, resL.eq_2, resV.eq_1, resV.eq_2, ↓wBA, tYn, convA, seval, wH]
theorem atRange1 {σ : St} {th : Nat} {hix : PV} {hi k : List UInt8} (hhi : BX hix hi) (hth : σ[th]? = some (some (.row 1 [[.p hix]]))) : ACalls Try.prog 15 [.p (.sl 1 (encB k)), .mp th 1 0 0] σ fun r s => s = σ ∧ r = boolV (decide (Lib.compareBytes k hi ≤ 0)) := by
 have yth := at_lt hth
 have hbc := fun s => abcmp (x := .sl 1 (encB k)) (.inl rfl) hhi s
 refine acalls_of cx_ok dr_ok Try.func15 (by kernel_rfl) rfl (nt := 6) (rs := [.tmp 3]) rfl rfl ?_
 repeat' first | ((with_reducible first | refine cs ?_ ?_ | refine ws ?_ ?_) <;> intro h <;> try simp only [h]) | simp only [↓wBA, tYn, convA, seval, wH, hth, yth] | ((with_reducible show ACalls _ _ _ _ _); refine (hbc _).eq ?_)
 all_goals refine ret_st ?_ (by first | exact Nat.le_refl _ | (simp only [List.length_set, List.length_append]; omega) | omega)
 all_goals simp only [resA.eq_1, resL.eq_1, resL.eq_2, resV.eq_1, resV.eq_2, ↓wBA, tYn, convA, seval, wH]
section
variable {σ : St} {b p dd l kh n h : Nat} {U : Nat → Prop} {P : PoolV} {v : Nat → List UInt8} {T : Nat → Bool}
theorem atRange {lo hi : List UInt8} {lox hix : PV} {t : BTr h} (hB : Bt σ b p dd l kh U P v) (hb : Bud P 1) (hR : RootOk v T P.pages n h t) (hlo : BX lox lo) (hhi : BX hix hi) :
 ACalls Try.prog 7 [.mp b 2 0 0, intV .i64 (n : Nat), .p lox, .p hix] σ fun r σ' => FromPost h t lo (fun k => decide (Lib.compareBytes k hi ≤ 0)) σ b p dd l kh U P v r σ' := by
 have hlt := hB.lt
 have a1 := Ap.app σ [some (Ob.row 1 [[AV.p hix]])]
 have hk : Kept [(σ.length, Ob.row 1 [[AV.p hix]])] (σ ++ [some (Ob.row 1 [[AV.p hix]])]) := fun q hq => by
  simp only [List.mem_singleton] at hq; subst hq; simp
 refine acalls_of cx_ok dr_ok Try.func7 (by kernel_rfl) rfl (nt := 16) (rs := [.tmp 8, .tmp 9]) rfl rfl ?_
 repeat' first | ((with_reducible first | refine cs ?_ ?_ | refine ws ?_ ?_) <;> intro h <;> try simp only [h]) | simp only [↓wBA, tYn, convA, seval, wH]
 refine (atFrom (kl := [(σ.length, Ob.row 1 [[AV.p hix]])]) (my := fun k => decide (Lib.compareBytes k hi ≤ 0)) hlo (fun s k hs => atRange1 hhi (hs _ (List.mem_singleton.2 rfl))) h (hB.ap a1) hb hR.tr hR.nd (fun q hq => (hR.tk q hq).2.1) hk (fun q hq e => by simp only [List.mem_singleton] at hq; subst hq; have := hlt _ e; omega)).mono ?_
 rintro _ s1 ⟨U1, P1, av, rfl, f1, hB1, k1, hE⟩
 have q1 := f1.len
 simp only [List.length_append, List.length_cons, List.length_nil] at q1
 repeat' first | ((with_reducible first | refine cs ?_ ?_ | refine ws ?_ ?_) <;> intro h <;> try simp only [h]) | simp only [↓wBA, tYn, convA, seval, wH]
 all_goals refine ret_st ?_ (by first | exact Nat.le_refl _ | (simp only [List.length_set, List.length_append]; omega) | omega)
 all_goals simp only [resA.eq_1, resL.eq_1, resL.eq_2, resV.eq_1, resV.eq_2, ↓wBA, tYn, convA, seval, wH]
 exact ⟨U1, P1, av, rfl, a1.fr.trans f1, hB1, k1, hE⟩
theorem atAll {t : BTr h} (hB : Bt σ b p dd l kh U P v) (hb : Bud P 1) (hR : RootOk v T P.pages n h t) :
 ACalls Try.prog 6 [.mp b 2 0 0, intV .i64 (n : Nat)] σ fun r σ' => FromPost h t [] (fun _ => true) σ b p dd l kh U P v r σ' := by
 refine acalls_of cx_ok dr_ok Try.func6 (by kernel_rfl) rfl (nt := 12) (rs := [.tmp 4, .tmp 5]) rfl rfl ?_
 repeat' first | ((with_reducible first | refine cs ?_ ?_ | refine ws ?_ ?_) <;> intro h <;> try simp only [h]) | simp only [↓wBA, tYn, convA, seval, wH]
 refine (atFrom (kl := []) (my := fun _ => true) (lo := []) (.inr ⟨rfl, rfl⟩) (fun s k hs => atAll1 s _) h hB hb hR.tr hR.nd (fun q hq => (hR.tk q hq).2.1) (fun q hq => by simp at hq) (fun q hq => by simp at hq)).mono ?_
 rintro _ s1 ⟨U1, P1, av, rfl, f1, hB1, k1, hE⟩
 have q1 := f1.len
 repeat' first | ((with_reducible first | refine cs ?_ ?_ | refine ws ?_ ?_) <;> intro h <;> try simp only [h]) | simp only [↓wBA, tYn, convA, seval, wH]
 all_goals refine ret_st ?_ (by first | exact Nat.le_refl _ | (simp only [List.length_set, List.length_append]; omega) | omega)
 all_goals simp only [resA.eq_1, resL.eq_1, resL.eq_2, resV.eq_1, resV.eq_2, ↓wBA, tYn, convA, seval, wH]
 exact ⟨U1, P1, av, rfl, f1, hB1, k1, hE⟩
theorem root_nil {v : Nat → List UInt8} {T : Nat → Bool} {np n : Nat} (hv : v n = newL 2) (h1 : 1 ≤ n) (h2 : n < np) (h3 : T n = true) : RootOk v T np n 0 ([] : List Ent) := by
 refine ⟨?_, by simp [pgT], fun q hq => ?_, ?_⟩
 ·have := (fit_yes (kd := 2) (l := []) (.inl rfl) (by simp) (by simp [szL])).2
  rw [show (fitF 2 []).1 = newL 2 from rfl, ← hv] at this
  exact this
 ·simp only [pgT, List.mem_singleton] at hq; subst hq; exact ⟨h1, h2, h3⟩
 ·exact ⟨List.Pairwise.nil, fun e he => by simp at he⟩
theorem atMake (hB : Bt σ b p dd l kh U P v) (hT : Tk (v 0) P.pages T) (hnp : P.pages ≤ 3200) (hnp1 : 1 ≤ P.pages) (hT0 : T 0 = true) (hb : Bud P 1) :
 ACalls Try.prog 11 [.mp b 2 0 0] σ fun r σ' => ∃ U' P' v', Fr σ σ' U U' ∧ Bt σ' b p dd l kh U' P' v' ∧ Kp P P' 0 ∧
  ((∃ n, T n = false ∧ r = .tup [intV .i64 (n : Nat), intV .i64 0] ∧ (∀ m, m ≠ n → m ≠ 0 → v' m = v m) ∧ Tk (v' 0) P.pages (updT T n true) ∧ updT T n true 0 = true ∧ RootOk v' (updT T n true) P.pages n 0 ([] : List Ent)) ∨ ((∀ n, n < P.pages → T n = true) ∧ r = .tup [intV .i64 0, intV .i64 20] ∧ v' = v)) := by
 refine acalls_of cx_ok dr_ok Try.func11 (by kernel_rfl) rfl (nt := 9) (rs := [.tmp 2, .tmp 3]) rfl rfl ?_
 repeat' first | ((with_reducible first | refine cs ?_ ?_ | refine ws ?_ ?_) <;> intro h <;> try simp only [h]) | simp only [↓wBA, tYn, convA, seval, wH]
 refine (abAlloc (kind := 2) hB hT hnp hnp1 hT0 hb).mono ?_
 rintro r s1 ⟨U1, P1, v1, f1, hB1, k1, h1⟩
 have q1 := f1.len
 rcases h1 with ⟨n, m1, m2, m3, rfl, m4, m5, m6⟩ | ⟨m1, rfl, m2⟩
 ·skip
  repeat' first | ((with_reducible first | refine cs ?_ ?_ | refine ws ?_ ?_) <;> intro h <;> try simp only [h]) | simp only [↓wBA, tYn, convA, seval, wH]
  all_goals refine ret_st ?_ (by first | exact Nat.le_refl _ | (simp only [List.length_set, List.length_append]; omega) | omega)
  all_goals simp only [resA.eq_1, resL.eq_1, resL.eq_2, resV.eq_1, resV.eq_2, ↓wBA, tYn, convA, seval, wH]
  exact ⟨U1, P1, v1, f1, hB1, k1, .inl ⟨n, m3, rfl, m5, m6, by unfold updT; split <;> simp_all, root_nil m4 m1 m2 (by simp [updT])⟩⟩
 ·skip
  repeat' first | ((with_reducible first | refine cs ?_ ?_ | refine ws ?_ ?_) <;> intro h <;> try simp only [h]) | simp only [↓wBA, tYn, convA, seval, wH]
  all_goals refine ret_st ?_ (by first | exact Nat.le_refl _ | (simp only [List.length_set, List.length_append]; omega) | omega)
  all_goals simp only [resA.eq_1, resL.eq_1, resL.eq_2, resV.eq_1, resV.eq_2, ↓wBA, tYn, convA, seval, wH]
  exact ⟨U1, P1, v1, f1, hB1, k1, .inr ⟨m1, m2⟩⟩
end
end Go.Proofs.Ytockimhceppkbaa
namespace Go.Proofs.Ytockimhceppkbaa
open Go.RowKit
theorem leE_k {a b : Ent} (h : leE a b) : Lib.compareBytes a.k b.k ≤ 0 := by
 rcases Int.lt_or_le 0 (Lib.compareBytes a.k b.k) with h1 | h1
 ·exact absurd (ltE_iff.2 (.inl (by rw [cb_swap]; omega))) h
 ·exact h1
theorem ltE_k {a b : Ent} (h : ltE a b) : Lib.compareBytes a.k b.k ≤ 0 := leE_k h.le
theorem cb_le_lt {a b c : List UInt8} (h1 : Lib.compareBytes a b ≤ 0) (h2 : Lib.compareBytes b c < 0) : Lib.compareBytes a c < 0 := by
 rcases Int.lt_or_eq_of_le h1 with h | h
 ·exact cb_trans h h2
 ·rw [cb_zero h]; exact h2
theorem cb_le_le {a b c : List UInt8} (h1 : Lib.compareBytes a b ≤ 0) (h2 : Lib.compareBytes b c ≤ 0) : Lib.compareBytes a c ≤ 0 := by
 rcases Int.lt_or_eq_of_le h2 with h | h
 ·exact Int.le_of_lt (cb_le_lt h1 h)
 ·rw [← cb_zero h]; exact h1
theorem cb_nil (a : List UInt8) : 0 ≤ Lib.compareBytes a [] := by cases a <;> simp [Lib.compareBytes]
section
variable {α : Type} {P : Ent → Option Ent → α → Prop} {F : α → List Ent}
theorem okC_ents (hP : ∀ lo hi x, P lo hi x → SortE (F x) ∧ ∀ e ∈ F x, leE lo e ∧ ltO e hi) : ∀ {l : List (Ent × Nat × α)} {lo : Ent} {hi : Option Ent}, OkC P lo hi l → SortE (l.flatMap fun x => F x.2.2) ∧ ∀ e ∈ l.flatMap (fun x => F x.2.2), leE lo e ∧ ltO e hi
 | [], lo, hi, _ => ⟨List.Pairwise.nil, fun e he => by simp at he⟩
 | x :: l, lo, hi, h => by
   obtain ⟨h1, h2⟩ := okC_cons.1 h
   obtain ⟨g1, g2⟩ := hP _ _ _ h1
   cases l with
   | nil => simp only [List.flatMap_cons, List.flatMap_nil, List.append_nil]; exact ⟨g1, g2⟩
   | cons y r =>
     obtain ⟨h3, h4, h5⟩ := h2 y r rfl
     obtain ⟨i1, i2⟩ := okC_ents hP h5
     rw [List.flatMap_cons]
     refine ⟨List.pairwise_append.2 ⟨g1, i1, fun a ha b hb => lt_leE (g2 a ha).2 (i2 b hb).1⟩, fun e he => ?_⟩
     rcases List.mem_append.1 he with he | he
     ·exact ⟨(g2 e he).1, ltO_trans (g2 e he).2 h4⟩
     ·exact ⟨leE_trans h3.le (i2 e he).1, (i2 e he).2⟩
theorem okC_at {l : List (Ent × Nat × α)} {lo : Ent} {hi : Option Ent} (h : OkC P lo hi l) {i : Nat} {x : Ent × Nat × α} (hx : l[i]? = some x) : P (loOf (l.take i) lo x.1) (hiOf (l.drop (i + 1)) hi) x.2.2 := by
 have hi := (List.getElem?_eq_some_iff.1 hx)
 obtain ⟨h1, h2⟩ := hi
 have e : l = l.take i ++ x :: l.drop (i + 1) := by
  conv => lhs; rw [← List.take_append_drop i l, List.drop_eq_getElem_cons h1, h2]
 rw [e] at h
 exact okC_child h
end
theorem entsT_ok {d : Bool} : ∀ {h : Nat} {lo : Ent} {hi : Option Ent} {t : BTr h}, OkT d h lo hi t → SortE (entsT h t) ∧ ∀ e ∈ entsT h t, leE lo e ∧ ltO e hi
 | 0, lo, hi, t, h => h
 | h + 1, lo, hi, t, hk => okC_ents (F := entsT h) (fun lo hi x hx => entsT_ok hx) hk.2.2
theorem fromF_eq {d : Bool} {lo : List UInt8} {my : List UInt8 → Bool} (hmy : ∀ a b : List UInt8, Lib.compareBytes a b ≤ 0 → my b = true → my a = true) : ∀ {h : Nat} {l0 : Ent} {hi : Option Ent} {t : BTr h}, OkT d h l0 hi t → fromF lo my h t = (entsT h t).filter (tellE lo my)
 | 0, l0, hi, t, _ => rfl
 | h + 1, l0, hi, t, hk => by
   have key : ∀ (l : NL h), OkC (OkT d h) l0 hi l → ∀ i, i < l.length → stepC lo my (fromF lo my h) l i = optF (fun x : Ent × Nat × BTr h => (entsT h x.2.2).filter (tellE lo my)) l[i]? := by
    intro l hc i hi'
    obtain ⟨x, hx⟩ : ∃ x, l[i]? = some x := ⟨l[i], by simp⟩
    have hP := okC_at hc hx
    have ih := fromF_eq (lo := lo) hmy hP
    have hb := (entsT_ok hP).2
    unfold stepC
    rw [hx]
    simp only [optF]
    by_cases hs : skipC lo my l i x.1 = true
    ·rw [if_pos hs]
     refine (List.filter_eq_nil_iff.2 fun e he => ?_).symm
     obtain ⟨b1, b2⟩ := hb e he
     unfold skipC at hs
     rw [Bool.or_eq_true] at hs
     rcases hs with hs | hs
     ·simp only [Bool.and_eq_true, decide_eq_true_eq, Bool.not_eq_true'] at hs
      obtain ⟨h0, h1⟩ := hs
      have hlo : loOf (l.take i) l0 x.1 = x.1 := by
       cases hct : l.take i with
       | nil =>
         have := congrArg List.length hct
         rw [List.length_take] at this
         simp only [List.length_nil] at this
         omega
       | cons a r => rfl
      rw [hlo] at b1
      intro ht
      unfold tellE at ht
      rw [Bool.and_eq_true] at ht
      rw [hmy _ _ (leE_k b1) ht.2] at h1
      cases h1
     ·cases hy : l[i + 1]? with
      | none => rw [hy] at hs; simp at hs
      | some y =>
        rw [hy] at hs
        simp only [decide_eq_true_eq] at hs
        have hhi : hiOf (l.drop (i + 1)) hi = some y.1 := by
         obtain ⟨y1, y2⟩ := List.getElem?_eq_some_iff.1 hy
         rw [List.drop_eq_getElem_cons y1, y2]; rfl
        rw [hhi] at b2
        have := cb_le_lt (ltE_k b2) hs
        intro ht
        unfold tellE at ht
        simp only [Bool.and_eq_true, decide_eq_true_eq] at ht
        omega
    ·rw [if_neg hs]; exact ih
   have h2 : ∀ (l : NL h), OkC (OkT d h) l0 hi l → (List.range l.length).flatMap (stepC lo my (fromF lo my h) l) = (l.flatMap fun x => entsT h x.2.2).filter (tellE lo my) := by
    intro l hc
    have h3 : (List.range l.length).flatMap (stepC lo my (fromF lo my h) l) = (List.range l.length).flatMap (fun i => optF (fun x : Ent × Nat × BTr h => (entsT h x.2.2).filter (tellE lo my)) l[i]?) := by
     rw [List.flatMap_def, List.flatMap_def]
     congr 1
     exact List.map_congr_left fun i hi => key l hc i (List.mem_range.1 hi)
    rw [range_flat] at h3
    rw [h3, List.filter_flatMap]
   exact h2 t hk.2.2
theorem le_down (hi : List UInt8) : ∀ a b : List UInt8, Lib.compareBytes a b ≤ 0 → decide (Lib.compareBytes b hi ≤ 0) = true → decide (Lib.compareBytes a hi ≤ 0) = true := fun a b h1 h2 => by
 simp only [decide_eq_true_eq] at h2 ⊢
 exact cb_le_le h1 h2
def inR (lo hi : List UInt8) (e : Ent) : Bool := decide (0 ≤ Lib.compareBytes e.k lo) && decide (Lib.compareBytes e.k hi ≤ 0)
theorem range_eq {d : Bool} {h : Nat} {l0 : Ent} {h0 : Option Ent} {t : BTr h} (lo hi : List UInt8) (hk : OkT d h l0 h0 t) : fromF lo (fun k => decide (Lib.compareBytes k hi ≤ 0)) h t = (entsT h t).filter (inR lo hi) := by
 rw [fromF_eq (le_down hi) hk]; rfl
theorem all_eq {d : Bool} {h : Nat} {l0 : Ent} {h0 : Option Ent} {t : BTr h} (hk : OkT d h l0 h0 t) : fromF [] (fun _ => true) h t = entsT h t := by
 rw [fromF_eq (fun _ _ _ _ => rfl) hk]
 refine List.filter_eq_self.2 fun e _ => ?_
 unfold tellE
 simp [cb_nil]
theorem meet_len (lo mid hi : List UInt8) (h1 : Lib.compareBytes lo mid ≤ 0) (h2 : Lib.compareBytes mid hi ≤ 0) : ∀ l : List Ent, (l.filter (inR lo mid)).length + (l.filter (inR mid hi)).length = (l.filter (inR lo hi)).length + (l.filter (inR mid mid)).length
 | [] => rfl
 | e :: l => by
   have ih := meet_len lo mid hi h1 h2 l
   have s1 := cb_swap lo e.k
   have s2 := cb_swap mid e.k
   simp only [List.filter_cons]
   have key : (if inR lo mid e = true then 1 else 0) + (if inR mid hi e = true then 1 else 0) = (if inR lo hi e = true then 1 else 0) + (if inR mid mid e = true then 1 else 0) := by
    unfold inR
    by_cases a1 : 0 ≤ Lib.compareBytes e.k mid
    ·have b1 : 0 ≤ Lib.compareBytes e.k lo := by
      have := cb_le_le h1 (show Lib.compareBytes mid e.k ≤ 0 by have := cb_swap e.k mid; omega)
      omega
     by_cases a2 : Lib.compareBytes e.k mid ≤ 0
     ·have b2 := cb_le_le a2 h2
      simp [a1, b1, a2, b2]
     ·simp [a1, b1, a2]
    ·have a2 : Lib.compareBytes e.k mid ≤ 0 := by omega
     have b2 := cb_le_le a2 h2
     simp [a1, a2, b2]
   have f : ∀ (p : Ent → Bool), (if p e = true then e :: l.filter p else l.filter p).length = (if p e = true then 1 else 0) + (l.filter p).length := fun p => by
    split <;> simp <;> omega
   rw [f, f, f, f]; omega
end Go.Proofs.Ytockimhceppkbaa
namespace Go.Proofs.Ytockimhceppkbaa
open Go.RowKit
def pl12_20Yr : Plan := (.det 0 (.det 1 (.det 2 (.det 3 (.det 4 (.det 5 (.det 6 (.act 7 (.det 8 (.fin 9 (.det 10 .done)))))))))))
def tYr := aa wX <| aa wbu <| aa T3 <| aa T4 <| aa T9 <| aa T23 <| aa T27 <| aa T30 <| aa T31 <| aa T36 <| aa T38 <| aa T40 <| aa T43 <| aa T50 <| aa T76 <| aa T79 <| aa T81 T86
theorem atInsLong {σ : St} {b : Nat} {n p s : Int} {k : List UInt8} (hl : 140 < k.length) : ACalls Try.prog 12 [.mp b 2 0 0, intV .i64 n, .p (.sl 1 (encB k)), .agg [intV .i64 p, intV .i64 s]] σ fun r σ' => r = intV .i64 4 ∧ Ap σ σ' := by
 have hkl := encB_len' k
 have e1 : decide ((k.length : Int) > 140) = true := by simp; omega
 have e1' := dT (i := 140) (n := k.length) (by omega)
 refine acalls_of cx_ok dr_ok Try.func12 (by kernel_rfl) rfl (nt := 76) (rs := [.tmp 8]) rfl rfl ?_
 repeat' first | ((with_reducible first | refine cs ?_ ?_ | refine ws ?_ ?_ | refine wd ?_ ?_ | refine wu ?_ ?_) <;> intro h <;> try simp only [h]) | simp only [↓wBA, tYr, convA, seval, pl12_20Yr, wH, hkl, e1, e1'] | (with_reducible refine dP pl12_20Yr 11 (some 70) (by decide) (by kernel_rfl) ?_)
 all_goals refine ret_st ?_ (by first | exact Nat.le_refl _ | (simp only [List.length_set, List.length_append]; omega) | omega)
 all_goals simp only [resA.eq_1, resL.eq_1, resL.eq_2, resV.eq_1, resV.eq_2, ↓wBA, tYr, convA, seval, wH]
 exact Ap.app _ _
theorem root_leaf {t : List Ent} {e : Ent} {h' : Nat} {t' : BTr h'} (hr : RootR 0 t e h' t') (hs : szL (its0 (t.take (cutI (its0 t) e) ++ e :: t.drop (cutI (its0 t) e))) ≤ 496) : ∃ q : h' = 0, (q ▸ t' : BTr 0) = (t.take (cutI (its0 t) e) ++ e :: t.drop (cutI (its0 t) e) : List Ent) := by
 rcases hr with ⟨rfl, hi⟩ | ⟨q, t1, n, m, x, s, hi, ht⟩
 ·obtain ⟨_, h1⟩ := hi
  rcases h1 with ⟨_, h1, _⟩ | ⟨h1, _⟩
  ·exact ⟨rfl, h1⟩
  ·exact absurd h1 (Nat.not_lt.2 hs)
 ·obtain ⟨_, h1⟩ := hi
  rcases h1 with ⟨_, _, h1⟩ | ⟨h1, _⟩
  ·cases h1
  ·exact absurd h1 (Nat.not_lt.2 hs)
theorem aawake7 (σ : St) : ACalls Try.prog 4 [] σ fun r σ' => Ap σ σ' ∧ r = boolV true := by
 refine acalls_of cx_ok dr_ok Try.func4 (by kernel_rfl) rfl (nt := 84) (rs := [.tmp 0]) rfl rfl ?_
 repeat' first | ((with_reducible first | refine cs ?_ ?_ | refine ws ?_ ?_) <;> intro h <;> try simp only [h]) | simp only [↓wBA, tYr, convA, seval, wH]
 refine (adnew 800 (by omega) σ).mono ?_
 rintro _ s1 ⟨dd, Fd, rfl, a1, hd, hFd⟩
 repeat' first | ((with_reducible first | refine cs ?_ ?_ | refine ws ?_ ?_) <;> intro h <;> try simp only [h]) | simp only [↓wBA, tYr, convA, seval, wH]
 refine (adnew 4000 (by omega) s1).mono ?_
 rintro _ s2 ⟨dl, Fl, rfl, a2, hl, hFl⟩
 have hd2 := hd.ap a2
 have l1 := a1.len
 have l2 := a2.len
 repeat' first | ((with_reducible first | refine cs ?_ ?_ | refine ws ?_ ?_) <;> intro h <;> try simp only [h]) | simp only [↓wBA, tYr, convA, seval, wH]
 refine (aopenN2 hd2 hl (fun t h1 h2 => by have := hd.lt t h1; have := hFl t h2; omega) (by omega) (by omega) 4 (by omega) (by omega)).mono ?_
 rintro _ s3 ⟨p, l, kh, G, P, rfl, a3, hP, p1, p2, p3, p4, p5, p6, p7, p8, p9⟩
 have l3 := a3.len
 have hGσ : ∀ t, G t → σ.length ≤ t := fun t ht => by
  rcases p9 t ht with h | h | h
  ·exact hFd t h
  ·have := hFl t h; omega
  ·omega
 have hpg : P.pages = 100 := by rw [p1]; rfl
 have hbud : Bud P 1000000 := ⟨by omega, by rw [p7]; simp, by omega⟩
 repeat' first | ((with_reducible first | refine cs ?_ ?_ | refine ws ?_ ?_) <;> intro h <;> try simp only [h]) | simp only [↓wBA, tYr, convA, seval, wH] | ((with_reducible show ACalls _ _ _ _ _); refine (abBatch hP).mono ?_; rintro _ s4 ⟨rfl, a4, h4⟩)
 have l4 := a4.len
 refine (atMake (T := fun n => n == 0) h4 (by rw [p8]; exact tk_new (by omega)) (by omega) (by omega) rfl (hbud.mono (by omega))).mono ?_
 rintro r s5 ⟨U5, P5, v5, f5, h5, k5, hc⟩
 rcases hc with ⟨m, hTm, rfl, hvo, hTk, ht0, hR5⟩ | ⟨hall, _, _⟩
 rotate_left
 ·exact absurd (hall 1 (by omega)) (by decide)
 have l5 := f5.len
 have hpg5 := k5.pages
 have hu8 := ck_5
 repeat' first | ((with_reducible first | refine cs ?_ ?_ | refine ws ?_ ?_) <;> intro h <;> try simp only [h]) | simp only [↓wBA, tYr, convA, seval, wH, convB, convC, hu8]
 have hm2 := hR5.tk m (pgT_root _ _ _)
 have cn5 : cnt (updT (fun n => n == 0) m true) 100 = 2 := by rw [cnt_true (T := fun n => n == 0) (k := m) hTm 100 (by omega), cnt_one _ (by omega)]
 rw [hpg] at hTk hR5
 refine (atIns (e := ⟨[98], 1, 1⟩) (h5.ap (Ap.app s5 [none])) (by rw [hpg5, hpg]; exact hTk) (by omega) ht0 (hbud.kp k5 (by omega)) (by rw [hpg5, hpg]; exact hR5) ⟨by decide, by decide, by decide⟩).mono ?_
 rintro r s6 ⟨U6, P6, v6, T6, h6', t6, f6, h6, k6, hR6, hW6, hc6⟩
 rw [hpg5, hpg] at hR6 hW6 hc6
 have l6 := f6.len
 simp only [List.length_append, List.length_cons, List.length_nil] at l6
 rcases hc6 with ⟨rfl, hr6, hx6⟩ | ⟨_, hm6, _⟩ | ⟨_, hf6, hl6⟩
 rotate_left
 ·simp [entsT] at hm6
 ·obtain ⟨h2, t2, q1, q2⟩ := hl6.cnt hf6
  obtain ⟨rfl, _⟩ := root_leaf q1 (by decide)
  simp only [pgT, List.length_cons, List.length_nil] at q2
  omega
 obtain ⟨rfl, ht6⟩ := root_leaf hr6 (by decide)
 have ht6 : t6 = ([⟨[98], 1, 1⟩] : List Ent) := ht6
 subst ht6
 have hpg6 := k6.pages
 have cn6 : cnt T6 100 ≤ 3 := by
  have := cntL [m] (T := updT (fun n => n == 0) m true) (T' := T6) (fun q hq => (hx6 q hq).imp id fun h => by simpa [pgT] using h) 100
  simp only [List.length_cons, List.length_nil] at this
  omega
 have kk6 := k5.trans k6
 repeat' first | ((with_reducible first | refine cs ?_ ?_ | refine ws ?_ ?_) <;> intro h <;> try simp only [h]) | simp only [↓wBA, tYr, convA, seval, wH, convB, convC, hu8]
 refine (atIns (e := ⟨[97], 2, 1⟩) (h6.ap (Ap.app s6 [none])) (by rw [hpg6, hpg5, hpg]; exact hW6.tkk) (by omega) hW6.t0 (hbud.kp kk6 (by omega)) (by rw [hpg6, hpg5, hpg]; exact hR6) ⟨by decide, by decide, by decide⟩).mono ?_
 rintro r s7 ⟨U7, P7, v7, T7, h7', t7, f7, h7, k7, hR7, hW7, hc7⟩
 rw [hpg6, hpg5, hpg] at hR7 hW7 hc7
 have l7 := f7.len
 simp only [List.length_append, List.length_cons, List.length_nil] at l7
 rcases hc7 with ⟨rfl, hr7, hx7⟩ | ⟨_, hm7, _⟩ | ⟨_, hf7, hl7⟩
 rotate_left
 ·exfalso
  have hm7 : (⟨[97], 2, 1⟩ : Ent) ∈ ([⟨[98], 1, 1⟩] : List Ent) := hm7
  simp at hm7
 ·obtain ⟨h2, t2, q1, q2⟩ := hl7.cnt hf7
  obtain ⟨rfl, _⟩ := root_leaf q1 (by decide)
  simp only [pgT, List.length_cons, List.length_nil] at q2
  omega
 obtain ⟨rfl, ht7⟩ := root_leaf hr7 (by decide)
 have ht7 : t7 = ([⟨[97], 2, 1⟩, ⟨[98], 1, 1⟩] : List Ent) := ht7
 subst ht7
 have hpg7 := k7.pages
 have kk7 := kk6.trans k7
 repeat' first | ((with_reducible first | refine cs ?_ ?_ | refine ws ?_ ?_) <;> intro h <;> try simp only [h]) | simp only [↓wBA, tYr, convA, seval, wH]
 refine (atAll h7 (hbud.kp kk7 (by omega)) (by rw [hpg7, hpg6, hpg5, hpg]; exact hR7)).mono ?_
 rintro _ s8 ⟨U8, P8, av, rfl, f8, h8, k8, hE8⟩
 have l8 := f8.len
 rcases hE8 with ⟨hE8, _⟩ | ⟨_, rfl⟩
 ·exact absurd hE8 (by decide)
 have kk8 := kk7.trans k8
 have hpg8 := k8.pages
 have hst := ck_9
 have hsq : binStr .eql { data := #[97] } { data := #[97] } = some (.bool true) := by simp [binStr]
 have hb2 : bytesOfR [[.v (.int .u8 97)]] = some [97] := rfl
 have hfe : (fromF [] (fun _ => true) 0 ([⟨[97], 2, 1⟩, ⟨[98], 1, 1⟩] : List Ent)).map entP = [[.sl 1 [[.v (.int .u8 97)]], .v (.int .i64 2), .v (.int .i64 1)], [.sl 1 [[.v (.int .u8 98)]], .v (.int .i64 1), .v (.int .i64 1)]] := rfl
 have hins : ∀ {s : St}, Ap s8 s → ACalls Try.prog 12 [.mp s3.length 2 0 0, intV .i64 (m : Nat), .p (.sl 1 [[.v (.int .u8 97)]]), .agg [intV .i64 2, intV .i64 1]] s fun q σ' => q = intV .i64 1 ∧ ∃ U', Fr s σ' U8 U' := fun {s} ha => by
  refine (atIns (h := 0) (t := ([⟨[97], 2, 1⟩, ⟨[98], 1, 1⟩] : List Ent)) (e := ⟨[97], 2, 1⟩) (h8.ap ha) (by rw [hpg8, hpg7, hpg6, hpg5, hpg]; exact hW7.tkk) (by rw [hpg8, hpg7, hpg6, hpg5, hpg]; omega) hW7.t0 (hbud.kp kk8 (by omega)) (by rw [hpg8, hpg7, hpg6, hpg5, hpg]; exact hR7) ⟨by decide, by decide, by decide⟩).mono ?_
  rintro q s ⟨U9, P9, v9, T9, h9', t9, f9, h9, k9, hR9, hW9, hc9⟩
  have hno : ∀ {h2 : Nat} {t2 : BTr h2}, ¬ RootR 0 ([⟨[97], 2, 1⟩, ⟨[98], 1, 1⟩] : List Ent) ⟨[97], 2, 1⟩ h2 t2 := fun hr => by
   rcases hr with ⟨_, hi⟩ | ⟨_, _, _, _, _, _, hi, _⟩ <;> exact hi.1 (List.mem_cons_self ..)
  rcases hc9 with ⟨_, hr, _⟩ | ⟨rfl, _, _⟩ | ⟨_, _, hl⟩
  ·exact absurd hr hno
  ·exact ⟨rfl, U9, f9⟩
  ·obtain ⟨_, _, _, _, hr, _⟩ := hl
   exact absurd hr hno
 repeat' first | ((with_reducible first | refine cs ?_ ?_ | refine ws ?_ ?_) <;> intro h <;> try simp only [h]) | simp only [↓wBA, tYr, convA, seval, wH, hfe, convB, convC, hu8, hst, hb2, hsq, Bool.and_self, beq_self_eq_true] | ((with_reducible show ACalls _ _ _ _ _); refine (hins (Ap.app _ _)).mono ?_; rintro _ s10 ⟨rfl, U10, f10⟩)
 have l10 := f10.len
 simp only [List.length_append, List.length_cons, List.length_nil] at l10
 all_goals refine ret_st ?_ (by first | exact Nat.le_refl _ | (simp only [List.length_set, List.length_append]; omega) | omega)
 all_goals simp only [resA.eq_1, resL.eq_1, resL.eq_2, resV.eq_1, resV.eq_2, ↓wBA, tYr, convA, seval, wH]
 exact Ap.of_fr ((((a1.trans a2).trans a3).trans a4).fr (F := fun t => t = s3.length ∨ G t) |>.trans (f5.trans ((Ap.app s5 [none]).fr.trans (f6.trans ((Ap.app s6 [none]).fr.trans (f7.trans (f8.trans ((Ap.app s8 [none]).fr.trans f10)))))))) fun t ht => ht.elim (fun e => by omega) (hGσ t)
end Go.Proofs.Ytockimhceppkbaa
namespace Go.Proofs.Ytockimhceppkbaa
open Go.RowKit
def tYs := aa wX <| aa wbu <| aa T3 <| aa T22 <| aa T23 <| aa T27 <| aa T31 <| aa T36 <| aa T40 T43
theorem convB_bx {y : PV} {r : List UInt8} (h : BX y r) : convB cx 23 9 (.p y) = some (.p (.v (.string ⟨r.toArray⟩))) := by
 unfold convB
 rw [ck_23, ck_9]
 simp only [ck_5]
 rcases h with rfl | ⟨rfl, rfl⟩
 ·simp only [elemsA, bytesOf_enc]; rfl
 ·rfl
theorem bytesLess_cb : ∀ a b : List UInt8, Op.bytesLess a b = decide (Lib.compareBytes a b < 0)
 | [], [] => rfl
 | [], _ :: _ => rfl
 | _ :: _, [] => rfl
 | a :: xs, b :: ys => by
   simp only [Op.bytesLess, Lib.compareBytes]
   by_cases h1 : a < b
   ·simp [h1]
   ·by_cases h2 : b < a
    ·have : (a == b) = false := by
      simp only [beq_eq_false_iff_ne, ne_eq]; rintro rfl; exact h1 h2
     simp [h1, h2, this]
    ·have : a = b := UInt8.le_antisymm (UInt8.not_lt.1 h2) (UInt8.not_lt.1 h1)
     subst this
     simp [UInt8.lt_irrefl, bytesLess_cb xs ys]
abbrev strS (r : List UInt8) : ByteArray := ⟨r.toArray⟩
theorem strS_list (r : List UInt8) : (strS r).toList = r := by rw [ba_list]
theorem str_geq (a b : List UInt8) : binStr .geq (strS a) (strS b) = some (.bool (decide (0 ≤ Lib.compareBytes a b))) := by
 simp only [binStr, strS_list, bytesLess_cb]
 by_cases h : Lib.compareBytes a b < 0
 ·have : ¬ 0 ≤ Lib.compareBytes a b := by omega
  simp [h, this]
 ·have : 0 ≤ Lib.compareBytes a b := by omega
  simp [h, this]
theorem str_leq (a b : List UInt8) : binStr .leq (strS a) (strS b) = some (.bool (decide (Lib.compareBytes a b ≤ 0))) := by
 simp only [binStr, strS_list, bytesLess_cb]
 by_cases h : a = b
 ·subst h; simp [cb_self]
 ·have : (a == b) = false := by simpa using h
  rw [this, Bool.or_false]
  have h0 : Lib.compareBytes a b ≠ 0 := fun e => h (cb_zero e)
  by_cases h1 : Lib.compareBytes a b < 0
  ·have : Lib.compareBytes a b ≤ 0 := by omega
   simp [h1, this]
  ·have : ¬ Lib.compareBytes a b ≤ 0 := by omega
   simp [h1, this]
theorem str_gtr (a b : List UInt8) : binStr .gtr (strS a) (strS b) = some (.bool (!decide (Lib.compareBytes a b ≤ 0))) := by
 have := str_leq a b
 simp only [binStr, Option.some.injEq, Value.bool.injEq] at this ⊢
 rw [this]
theorem str_neq (a : List UInt8) : binStr .neq (strS a) (strS a) = some (.bool false) := by simp [binStr]
def RecsY (x : PV) (ys : List PV) : Prop := x = .sl 1 (ys.map fun y => [y]) ∧ ys.length ≤ 140737488351232 ∧ ∀ y ∈ ys, ∃ r : List UInt8, y = .sl 1 (encB r) ∧ r.length ≤ 140737488351232
theorem recs_shY {x : PV} (h : HasSh (.sl 24 [.sl 1 [.int .u8]]) x) : ∃ ys, RecsY x ys := by
 rw [HasSh] at h
 obtain ⟨ls, rfl, hl, hc⟩ := h
 let g : List PV → PV := fun c => match c with
  | y :: _ => y
  | _ => .v undef
 have key : ∀ c ∈ ls, [g c] = c ∧ ∃ r : List UInt8, g c = .sl 1 (encB r) ∧ r.length ≤ 140737488351232 := fun c hm => by
  have := hc c hm
  rw [HasShL] at this
  obtain ⟨x1, c', rfl, h1, h2⟩ := this
  rw [HasShL] at h2
  subst h2
  exact ⟨rfl, bytes_sh2 h1⟩
 refine ⟨ls.map g, ?_, by simp; omega, fun y hy => ?_⟩
 ·rw [List.map_map]
  have : ls.map ((fun y => [y]) ∘ g) = ls := by
   conv => rhs; rw [← List.map_id ls]
   exact List.map_congr_left fun c hm => (key c hm).1
  rw [this]; rfl
 ·obtain ⟨c, hm, rfl⟩ := List.mem_map.1 hy
  exact (key c hm).2
def TreeR (σ : St) (r : AV) (σ' : St) : Prop := ∃ b root p dd l kh U P v T h t, r = .tup [.mp b 2 0 0, intV .i64 (root : Nat)] ∧ Ap σ σ' ∧ Bt σ' b p dd l kh U P v ∧ (∀ q, U q → σ.length ≤ q) ∧ P.pages = 800 ∧ Bud P 1000 ∧ RootOk v T 800 root h t
theorem atTree {x : PV} {ys : List PV} (hx : RecsY x ys) (σ : St) : ACalls Try.prog 5 [.p x] σ fun r σ' => TreeR σ r σ' := by
 obtain ⟨rfl, hyl, hys⟩ := hx
 refine acalls_of cx_ok dr_ok Try.func5 (by kernel_rfl) rfl (nt := 45) (rs := [.tmp 2, .tmp 3]) rfl rfl ?_
 repeat' first | ((with_reducible first | refine cs ?_ ?_ | refine ws ?_ ?_) <;> intro h <;> try simp only [h]) | simp only [↓wBA, tYs, convA, seval, wH]
 refine (adnew 6400 (by omega) σ).mono ?_
 rintro _ s1 ⟨dd, Fd, rfl, a1, hd, hFd⟩
 repeat' first | ((with_reducible first | refine cs ?_ ?_ | refine ws ?_ ?_) <;> intro h <;> try simp only [h]) | simp only [↓wBA, tYs, convA, seval, wH]
 refine (adnew 30000 (by omega) s1).mono ?_
 rintro _ s2 ⟨dl, Fl, rfl, a2, hl, hFl⟩
 have hd2 := hd.ap a2
 have l1 := a1.len
 have l2 := a2.len
 repeat' first | ((with_reducible first | refine cs ?_ ?_ | refine ws ?_ ?_) <;> intro h <;> try simp only [h]) | simp only [↓wBA, tYs, convA, seval, wH]
 refine (aopenN2 hd2 hl (fun t h1 h2 => by have := hd.lt t h1; have := hFl t h2; omega) (by omega) (by omega) 6 (by omega) (by omega)).mono ?_
 rintro _ s3 ⟨p, l, kh, G, P, rfl, a3, hP, p1, p2, p3, p4, p5, p6, p7, p8, p9⟩
 have l3 := a3.len
 have hGσ : ∀ t, G t → σ.length ≤ t := fun t ht => by
  rcases p9 t ht with h | h | h
  ·exact hFd t h
  ·have := hFl t h; omega
  ·omega
 have hpg : P.pages = 800 := by rw [p1]; rfl
 have hbud : Bud P 1000000 := ⟨by omega, by rw [p7]; simp, by omega⟩
 repeat' first | ((with_reducible first | refine cs ?_ ?_ | refine ws ?_ ?_) <;> intro h <;> try simp only [h]) | simp only [↓wBA, tYs, convA, seval, wH] | ((with_reducible show ACalls _ _ _ _ _); refine (abBatch hP).mono ?_; rintro _ s4 ⟨rfl, a4, h4⟩)
 have l4 := a4.len
 refine (atMake (T := fun n => n == 0) h4 (by rw [p8]; exact tk_new (by omega)) (by omega) (by omega) rfl (hbud.mono (by omega))).mono ?_
 rintro r s5 ⟨U5, P5, v5, f5, h5, k5, hc⟩
 rcases hc with ⟨m, hTm, rfl, hvo, hTk, ht0, hR5⟩ | ⟨hall, _, _⟩
 rotate_left
 ·exact absurd (hall 1 (by omega)) (by decide)
 have l5 := f5.len
 have hpg5 := k5.pages
 rw [hpg] at hTk hR5
 have hb5 := hbud.kp (k := 1000) k5 (by omega)
 have hf5 : Fr σ s5 (fun t => t = s3.length ∨ G t) U5 := (((a1.trans a2).trans a3).trans a4).fr.trans f5
 repeat' first | ((with_reducible first | refine cs ?_ ?_ | refine ws ?_ ?_) <;> intro h <;> try simp only [h]) | simp only [↓wBA, tYs, convA, seval, wH]
 refine awp_loopS (X := { i : Nat // i ≤ 80 ∧ i ≤ ys.length }) (fun i => 80 - i.1) (fun i => [(9, intV .i64 (i.1 : Nat))]) [25, 26, 27, 28, 29, 30, 31, 32, 33, 34, 35, 36, 37, 38, 39, 40, 41, 42, 43] (fun i s => s5.length ≤ s.length ∧ ∃ U' P' v' T' h t, Fr σ s (fun t => t = s3.length ∨ G t) U' ∧ Bt s s3.length p dd l kh U' P' v' ∧ P'.pages = 800 ∧ Bud P' 1000 ∧ RootOk v' T' 800 m h t ∧ Tk (v' 0) 800 T' ∧ T' 0 = true) (⟨0, by omega, by omega⟩) ?_ ?_ ?_ ?_
 ·simp only [wHl, wHf]
 ·exact ⟨Nat.le_refl _, U5, P5, v5, _, 0, _, hf5, h5, by rw [hpg5, hpg], hb5, hR5, hTk, ht0⟩
 ·rintro _ _ ⟨h, _⟩; exact h
 ·intro y J q hI
  simp only [wHl]
  obtain ⟨i, hi, hi2⟩ := y
  obtain ⟨hq, U6, P6, v6, T6, h6, t6, f6, hB6, hp6, hb6, hR6, hT6, h06⟩ := hI
  dsimp only at *
  have hln : ((ys.map fun y => [y]).length : Int) = (ys.length : Int) := by simp
  have hln' : (ys.map fun y => [y]).length = ys.length := by simp
  have hi0 := nnI i
  have hG6 : ∀ t, (t = s3.length ∨ G t) → σ.length ≤ t := fun t ht => ht.elim (fun e => by omega) (hGσ t)
  by_cases hlt : i < ys.length
  ·have e1 := dT (i := i) (n := ys.length) hlt
   by_cases hlt2 : i < 80
   ·have e2 : decide ((i : Int) < 80) = true := by simp; omega
    have hwi := wI i (by omega)
    obtain ⟨y, hy⟩ : ∃ y, ys[i]? = some y := ⟨ys[i]'hlt, by simp⟩
    have hget : (ys.map fun y => [y])[i]? = some [y] := by simp [hy]
    obtain ⟨r, rfl, hrl⟩ := hys y (List.mem_of_getElem? hy)
    have hif : ((i : Int) < (ys.length : Int)) = True := eq_true (by omega)
    repeat' first | ((with_reducible first | refine cs ?_ ?_ | refine ws ?_ ?_) <;> intro h <;> try simp only [h]) | simp only [↓wBA, tYs, convA, seval, wH, wHl, hln, hln', e1, e2, hget, hif, hi0, hwi]
    by_cases hr4 : r.length ≤ 140
    ·have hI := atIns (e := ⟨r, 0, i⟩) hB6 (by rw [hp6]; exact hT6) (by omega) h06 (hb6.mono (by omega)) (by rw [hp6]; exact hR6) ⟨hr4, by show 0 < 65536; omega, by show i < 65536; omega⟩
     simp only [c0y] at hI
     refine hI.mono ?_
     rintro rx s7 ⟨U7, P7, v7, T7, h7', t7, f7, h7, k7, hR7, hW7, hc7⟩
     rw [hp6] at hR7 hW7 hc7
     have l7 := f7.len
     obtain ⟨n7, rfl⟩ : ∃ n, rx = intV .i64 n := by
      rcases hc7 with ⟨rfl, _⟩ | ⟨rfl, _⟩ | ⟨rfl, _⟩ <;> exact ⟨_, rfl⟩
     repeat' first | ((with_reducible first | refine cs ?_ ?_ | refine ws ?_ ?_) <;> intro h <;> try simp only [h]) | simp only [↓wBA, tYs, convA, seval, wH, wHl, hwi]
     refine ⟨⟨i + 1, by omega, by omega⟩, by show 80 - (i + 1) < 80 - i; omega, ?_, by simp only [wHl, wHf]⟩
     exact ⟨by omega, U7, P7, v7, T7, h7', t7, f6.trans f7, h7, by rw [k7.pages]; exact hp6, hb6.kp k7 (by omega), hR7, hW7.tkk, hW7.t0⟩
    ·refine (atInsLong (by omega)).mono ?_
     rintro _ s7 ⟨rfl, a7⟩
     have l7 := a7.len
     repeat' first | ((with_reducible first | refine cs ?_ ?_ | refine ws ?_ ?_) <;> intro h <;> try simp only [h]) | simp only [↓wBA, tYs, convA, seval, wH, wHl, hwi]
     refine ⟨⟨i + 1, by omega, by omega⟩, by show 80 - (i + 1) < 80 - i; omega, ?_, by simp only [wHl, wHf]⟩
     exact ⟨by omega, U6, P6, v6, T6, h6, t6, f6.trans a7.fr, hB6.ap a7, hp6, hb6, hR6, hT6, h06⟩
   ·have e2 : decide ((i : Int) < 80) = false := by simp; omega
    repeat' first | ((with_reducible first | refine cs ?_ ?_ | refine ws ?_ ?_) <;> intro h <;> try simp only [h]) | simp only [↓wBA, tYs, convA, seval, wH, wHl, hln, hln', e1, e2]
    all_goals refine ret_st ?_ (by first | exact Nat.le_refl _ | (simp only [List.length_set, List.length_append]; omega) | omega)
    all_goals simp only [resA.eq_1, resL.eq_1, resL.eq_2, resV.eq_1, resV.eq_2, ↓wBA, tYs, convA, seval, wH]
    exact ⟨s3.length, m, p, dd, l, kh, U6, P6, v6, T6, h6, t6, rfl, Ap.of_fr f6 hG6, hB6, fun q hq => (f6.own q hq).elim (hG6 q) id, hp6, hb6, hR6⟩
  ·have e1 := dF (i := i) (n := ys.length) hlt
   have e2 : True := trivial
   repeat' first | ((with_reducible first | refine cs ?_ ?_ | refine ws ?_ ?_) <;> intro h <;> try simp only [h]) | simp only [↓wBA, tYs, convA, seval, wH, wHl, hln, hln', e1, e2]
   all_goals refine ret_st ?_ (by first | exact Nat.le_refl _ | (simp only [List.length_set, List.length_append]; omega) | omega)
   all_goals simp only [resA.eq_1, resL.eq_1, resL.eq_2, resV.eq_1, resV.eq_2, ↓wBA, tYs, convA, seval, wH]
   exact ⟨s3.length, m, p, dd, l, kh, U6, P6, v6, T6, h6, t6, rfl, Ap.of_fr f6 hG6, hB6, fun q hq => (f6.own q hq).elim (hG6 q) id, hp6, hb6, hR6⟩
end Go.Proofs.Ytockimhceppkbaa
