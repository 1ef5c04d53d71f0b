/- RelParts' plain law: filters of parts, of two conditions. RelParts: Filter rows of one's own compared. -/
import Derived.Test.YtpcblbbddccgpaaDoorM34
import Derived.Test.YtpcblbbddccgpaaDoorM30
import Derived.Test.YtpcblbbddccgpaaDoorM31
set_option linter.unusedSimpArgs false
set_option linter.unusedVariables false
set_option linter.defProp false
set_option maxRecDepth 100000
set_option maxHeartbeats 32000000
namespace Go.Proofs.YtpcblbbddccgpaaDoor
open Go.RowKit
theorem leastI_z (e : Int) : leastI 0 e = e := by unfold leastI; split <;> omega
theorem leastI_z' (l : Int) : leastI l 0 = l := by unfold leastI; split <;> omega
theorem leastI_assoc (a b c : Int) : leastI (leastI a b) c = leastI a (leastI b c) := by unfold leastI; grind
theorem foldI (x : Ex) : ∀ (rows : List (List Va)) (s : Int), rows.foldl (fun l r => leastI l (holdsV r x).2) s = leastI s (errS x rows)
 | [], s => (leastI_z' s).symm
 | q :: rows, s => by
   have h : errS x (q :: rows) = leastI (holdsV q x).2 (errS x rows) := by
    unfold errS
    rw [List.foldl_cons, foldI x rows, leastI_z]; rfl
   rw [List.foldl_cons, foldI x rows, h, leastI_assoc]
theorem errS_app (x : Ex) (l m : List (List Va)) : errS x (l ++ m) = leastI (errS x l) (errS x m) := by
 unfold errS
 rw [List.foldl_append]
 exact foldI x m _
theorem leastI_or (a b : Int) : (leastI a b = a ∨ leastI a b = b) ∧ (leastI a b = 0 ↔ a = 0 ∧ b = 0) := by unfold leastI; grind
theorem filS_small {x : Ex} {rows : List (List Va)} (h : rows.length ≤ 10000) : (filS rows x).2 = errS x rows := by
 rw [filS_two]
 split
 ·rfl
 ·rename_i h0
  have := List.length_filter_le (fun r => (holdsV r x).1) rows
  rw [if_pos (by omega)]
  have h1 : errS x rows = 0 := by simpa using h0
  rw [h1]
theorem filS_ans (x : Ex) (rows : List (List Va)) : filS rows x = ansS (rows.foldl (filStep x) ([], 0)).2 (rows.foldl (filStep x) ([], 0)).1 := rfl
theorem parts_err (x : Ex) (rows : List (List Va)) (k : Nat) (h : rows.length ≤ 10000) : (filS rows x).2 = leastI (filS (rows.take k) x).2 (filS (rows.drop k) x).2 := by
 rw [filS_small h, filS_small (by simp; omega), filS_small (by simp; omega), ← errS_app, List.take_append_drop]
theorem parts_rows {x : Ex} {rows : List (List Va)} (k : Nat) (h0 : (filS rows x).2 = 0) (h1 : (filS (rows.take k) x).2 = 0) (h2 : (filS (rows.drop k) x).2 = 0) : (filS (rows.take k) x).1 ++ (filS (rows.drop k) x).1 = (filS rows x).1 := by
 rw [(filS_ok h0).1, (filS_ok h1).1, (filS_ok h2).1, ← List.filter_append, List.take_append_drop]
theorem va_ext {a b : Va} (h1 : a.1 = b.1) (h2 : a.2.1 = b.2.1) (h3 : a.2.2.toList = b.2.2.toList) : a = b := Prod.ext h1 (Prod.ext h2 (ba_ext h3))
theorem okV_two {v : Va} (h : okV v = true) (h2 : v.1 = 2) : v = trV true ∨ v = trV false := by
 obtain ⟨k, n, t⟩ := v
 simp only at h2; subst h2
 simp only [okV, Int.reduceEq, if_true, if_false, Bool.and_eq_true, beq_iff_eq] at h
 obtain ⟨h1, h3⟩ := h
 have h4 : n = 0 ∨ n = 1 := by
  rw [Int.fdiv_eq_ediv_of_nonneg _ (by decide)] at h1
  omega
 rcases h4 with rfl | rfl
 ·exact .inr (va_ext rfl rfl h3)
 ·exact .inl (va_ext rfl rfl h3)
theorem trV_ok (b : Bool) : okV (trV b) = true := by cases b <;> simp [okV, trV]
theorem va0_ok : okV va0 = true := by simp [okV, va0]
theorem ok_num (n : Int) : okV (1, n, emp) = true := by simp [okV]
theorem num_ok (k a b e : Int) (h : (numV k a b e).2 = 0) : okV (numV k a b e).1 = true := by
 have key : ∀ (n : Int) (ok : Bool), (if ok = true then (((1, n, emp) : Va), e) else failV 35 e).2 = 0 → okV (if ok = true then (((1, n, emp) : Va), e) else failV 35 e).1 = true := fun n ok h => by
  cases ok with
  | true => exact ok_num n
  | false => exfalso; simp only [Bool.false_eq_true, if_false, failV] at h; split at h <;> omega
 unfold numV at h ⊢
 simp only at h ⊢
 by_cases k5 : k = 5
 ·rw [if_pos k5] at h ⊢; exact key _ _ h
 ·rw [if_neg k5] at h ⊢
  by_cases k6 : k = 6
  ·rw [if_pos k6] at h ⊢; exact key _ _ h
  ·rw [if_neg k6] at h ⊢
   by_cases k7 : k = 7
   ·rw [if_pos k7] at h ⊢; exact key _ _ h
   ·rw [if_neg k7] at h ⊢
    by_cases b0 : b = 0
    ·rw [if_pos b0] at h; exfalso; simp only [failV] at h; split at h <;> omega
    ·rw [if_neg b0] at h ⊢
     by_cases b1 : b = -1
     ·rw [if_pos b1] at h ⊢
      by_cases k9 : k = 9
      ·rw [if_pos k9]; simp only [if_true]; exact ok_num _
      ·rw [if_neg k9] at h ⊢; exact key _ _ h
     ·rw [if_neg b1] at h ⊢
      by_cases k9 : k = 9
      ·rw [if_pos k9]; simp only [if_true]; exact ok_num _
      ·rw [if_neg k9]; simp only [if_true]; exact ok_num _
theorem find_ok : ∀ (x : Ex) (row : List Va) (e : Int), (findV row x e).2 = 0 → e = 0 ∧ okV (findV row x e).1 = true
 | .mk k vk vn vs tb nm s kids, row, e, h => by
   match kids, h with
   | [], h =>
     simp only [findV] at h ⊢
     split at h
     ·simp only [failV] at h; split at h <;> omega
     ·rename_i hk
      rw [if_neg hk]
      unfold leafV at h ⊢
      split at h
      ·simp only [failV] at h; split at h <;> omega
      ·rename_i hk2
       rw [if_neg hk2]
       split at h
       ·rename_i hc; rw [if_pos hc]; exact ⟨h, hc.2⟩
       ·rename_i hc
        rw [if_neg hc]
        split at h
        ·rename_i hc2; rw [if_pos hc2]; exact ⟨h, hc2.2.2.2⟩
        ·simp only [failV] at h; split at h <;> omega
   | [x], h =>
     simp only [findV] at h ⊢
     split at h
     ·simp only [failV] at h; split at h <;> omega
     ·rename_i hk
      rw [if_neg hk]
      have ih := find_ok x row e
      generalize findV row x e = q at *
      obtain ⟨v, e'⟩ := q
      simp only at h ih ⊢
      unfold oneV at h ⊢
      split at h
      ·rename_i h1; rw [if_pos h1]; exact ⟨(ih h).1, trV_ok _⟩
      ·rename_i h1; rw [if_neg h1]
       split at h
       ·rename_i h2; rw [if_pos h2]; exact ⟨(ih h).1, trV_ok _⟩
       ·rename_i h2; rw [if_neg h2]
        split at h
        ·rename_i h3; rw [if_pos h3]; exact ih h
        ·rename_i h3; rw [if_neg h3]
         split at h
         ·rename_i h4; rw [if_pos h4]; exact ⟨(ih h).1, trV_ok _⟩
         ·rename_i h4; rw [if_neg h4]
          split at h
          ·simp only [failV] at h; split at h <;> omega
          ·rename_i h5; rw [if_neg h5]
           split at h
           ·simp only [failV] at h; split at h <;> omega
           ·rename_i h6; rw [if_neg h6]; exact ⟨(ih h).1, ok_num _⟩
   | [x, y], h =>
     simp only [findV] at h ⊢
     split at h
     ·simp only [failV] at h; split at h <;> omega
     ·rename_i hk
      rw [if_neg hk]
      have ihx := find_ok x row e
      have ihy := find_ok y row (findV row x e).2
      generalize findV row x e = q at *
      obtain ⟨a, e1⟩ := q
      simp only at h ihx ihy ⊢
      generalize findV row y e1 = q2 at *
      obtain ⟨b, e2⟩ := q2
      simp only at h ihy ⊢
      split at h
      ·rename_i h16
       rw [if_pos h16]
       unfold logA at h ⊢
       by_cases c1 : e1 = 0 ∧ someV a = true
       ·rw [if_pos c1] at h; simp only [failV] at h; split at h <;> omega
       ·rw [if_neg c1] at h ⊢
        by_cases c2 : e1 ≠ 0 ∨ eqV a (trV (k = 17)) = true
        ·rw [if_pos c2] at h ⊢; exact ihx h
        ·rw [if_neg c2] at h ⊢
         simp only at h ⊢
         have he1 : e1 = 0 := by
          rcases Decidable.em (e1 = 0) with h | h
          ·exact h
          ·exact (c2 (.inl h)).elim
         unfold logB at h ⊢
         by_cases d1 : e2 = 0 ∧ someV b = true
         ·rw [if_pos d1] at h; simp only [failV] at h; split at h <;> omega
         ·rw [if_neg d1] at h ⊢
          by_cases d2 : eqV b (trV (k = 17)) = true
          ·rw [if_pos d2] at h ⊢; exact ⟨(ihx he1).1, (ihy h).2⟩
          ·rw [if_neg d2] at h ⊢
           by_cases d3 : a.1 = 0
           ·rw [if_pos d3] at h ⊢; exact ihx he1
           ·rw [if_neg d3] at h ⊢; exact ⟨(ihx he1).1, (ihy h).2⟩
      ·rename_i h16
       rw [if_neg h16]
       unfold twoV at h ⊢
       by_cases c1 : e2 ≠ 0
       ·rw [if_pos c1] at h; exact absurd h c1
       ·have he2 : e2 = 0 := by simpa using c1
        have he1 := (ihy he2).1
        have he := (ihx he1).1
        rw [if_neg c1] at h ⊢
        refine ⟨he, ?_⟩
        by_cases c2 : k ≤ 9
        ·rw [if_pos c2] at h ⊢
         by_cases c3 : a.1 > 1 ∨ b.1 > 1
         ·rw [if_pos c3] at h; simp only [failV] at h; split at h <;> omega
         ·rw [if_neg c3] at h ⊢
          by_cases c4 : a.1 = 0 ∨ b.1 = 0
          ·rw [if_pos c4]; exact va0_ok
          ·rw [if_neg c4] at h ⊢; exact num_ok k _ _ _ h
        ·rw [if_neg c2] at h ⊢
         by_cases c4 : a.1 = 0 ∨ b.1 = 0
         ·rw [if_pos c4]; exact va0_ok
         ·rw [if_neg c4] at h ⊢
          by_cases c5 : a.1 ≠ b.1
          ·rw [if_pos c5] at h; simp only [failV] at h; split at h <;> omega
          ·rw [if_neg c5]; exact trV_ok _
   | _ :: _ :: _ :: _, h => simp only [findV, failV] at h; split at h <;> omega
def andX (x y : Ex) : Ex := noX 16 [x, y]
theorem holds_and {x y : Ex} {r : List Va} (h1 : (holdsV r x).2 = 0) (h2 : (holdsV r x).1 = true → (holdsV r y).2 = 0) (h3 : (holdsV r (andX x y)).2 = 0) : (holdsV r (andX x y)).1 = ((holdsV r x).1 && (holdsV r y).1) := by
 have hold : ∀ z : Ex, (holdsV r z).2 = 0 → (findV r z 0).2 = 0 ∧ ((holdsV r z).1 = true ↔ (findV r z 0).1.1 = 2 ∧ (findV r z 0).1.2.1 = 1) ∧ ((findV r z 0).1.1 = 0 ∨ (findV r z 0).1.1 = 2) := fun z hz => by
  unfold holdsV evalV at hz ⊢
  generalize findV r z 0 = q at *
  obtain ⟨v, e⟩ := q
  by_cases he : e = 0
  ·subst he
   simp only [ne_eq, not_true, if_false] at hz ⊢
   by_cases hc : (0 : Int) = 0 ∧ v.1 ≠ 0 ∧ v.1 ≠ 2
   ·simp only [ne_eq] at hc hz; rw [if_pos hc] at hz; simp at hz
   ·simp only [ne_eq] at hc ⊢
    refine ⟨trivial, ?_, ?_⟩
    ·rw [if_neg hc]; simp
    ·grind
  ·simp only [ne_eq, he, not_false_eq_true, if_true] at hz
   exfalso
   simp only [va0, not_true, false_and, and_false, if_false] at hz
   exact he hz
 obtain ⟨a1, a2, a3⟩ := hold x h1
 obtain ⟨c1, c2, c3⟩ := hold (andX x y) h3
 have hx := find_ok x r 0 a1
 have hkv : kidsV 16 = 2 := rfl
 have hf : findV r (andX x y) 0 = (match logA 16 (findV r x 0).1 (findV r x 0).2 with
  | some q => q
  | none => logB 16 (findV r x 0).1 (findV r y (findV r x 0).2).1 (findV r y (findV r x 0).2).2) := by
  unfold andX noX
  simp only [findV, hkv]
  rw [if_neg (by decide), if_pos (by decide)]
  generalize logA 16 (findV r x 0).1 (findV r x 0).2 = o
  cases o <;> rfl
 rw [hf] at c1 c2 c3
 rw [a1] at c1 c2 c3
 generalize hvx : (findV r x 0).1 = v at *
 have hns : someV v = false := by
  unfold someV; simp only [decide_eq_false_iff_not]; omega
 have hlA : logA 16 v 0 = if eqV v (trV false) = true then some (v, 0) else none := by
  unfold logA
  rw [if_neg (by rw [hns]; simp)]
  have : decide ((16 : Int) = 17) = false := rfl
  simp only [this, ne_eq, not_true, false_or]
 rw [hlA] at c1 c2 c3
 by_cases hv0 : v.1 = 0
 ·-- NULL
  have hne : eqV v (trV false) = false := by unfold eqV trV; simp [hv0]
  have hxf : (holdsV r x).1 = false := by
   cases h : (holdsV r x).1 with
   | false => rfl
   | true => have := (a2.1 h).1; omega
  rw [hne] at c2
  simp only [Bool.false_eq_true, if_false] at c2
  rw [hxf, Bool.false_and]
  cases h : (holdsV r (andX x y)).1 with
  | false => rfl
  | true =>
    exfalso
    have h4 := c2.1 h
    have hft : decide ((16 : Int) = 17) = false := rfl
    have hno : ∀ (b : Va) (eb : Int), ¬ ((logB 16 v b eb).1.1 = 2 ∧ (logB 16 v b eb).1.2.1 = 1) := fun b eb => by
     unfold logB
     rw [hft]
     by_cases d1 : eb = 0 ∧ someV b = true
     ·rw [if_pos d1]; simp [failV, va0]
     ·rw [if_neg d1]
      by_cases d2 : eqV b (trV false) = true
      ·rw [if_pos d2]
       simp only [eqV, trV, Bool.false_eq_true, if_false, decide_eq_true_eq] at d2
       rintro ⟨_, p⟩
       simp only at p
       omega
      ·rw [if_neg d2, if_pos hv0]
       rintro ⟨p, _⟩
       simp only at p
       omega
    exact hno _ _ h4
 ·have hv2 : v.1 = 2 := by omega
  rcases okV_two hx.2 hv2 with hvt | hvt
  ·-- TRUE
   have hxt : (holdsV r x).1 = true := a2.2 (by rw [hvt]; exact ⟨rfl, rfl⟩)
   rw [hxt, Bool.true_and]
   obtain ⟨b1, b2, b3⟩ := hold y (h2 hxt)
   have hne : eqV v (trV false) = false := by rw [hvt]; simp [eqV, trV]
   rw [hne] at c2 c1
   simp only [Bool.false_eq_true, if_false] at c2 c1
   have hft : decide ((16 : Int) = 17) = false := rfl
   generalize findV r y 0 = q at *
   obtain ⟨b, eb⟩ := q
   simp only at b1 b2 b3
   subst b1
   have hnb : someV b = false := by unfold someV; simp only [decide_eq_false_iff_not]; omega
   have hlB : logB 16 v b 0 = (b, 0) := by
    unfold logB
    rw [if_neg (by rw [hnb]; simp)]
    by_cases d2 : eqV b (trV (decide ((16 : Int) = 17))) = true
    ·rw [if_pos d2]
    ·rw [if_neg d2, if_neg hv0]
   rw [hlB] at c2
   rw [Bool.eq_iff_iff]
   exact c2.trans b2.symm
  ·-- FALSE
   have hxf : (holdsV r x).1 = false := by
    cases h : (holdsV r x).1 with
    | false => rfl
    | true => have := (a2.1 h).2; rw [hvt] at this; simp [trV] at this
   have he : eqV v (trV false) = true := by rw [hvt]; simp [eqV]
   rw [he] at c2
   simp only [if_true] at c2
   rw [hxf, Bool.false_and]
   cases h : (holdsV r (andX x y)).1 with
   | false => rfl
   | true =>
     have := (c2.1 h).2
     rw [hvt] at this; simp [trV] at this
theorem parts_and {x y : Ex} {rows : List (List Va)} (h0 : (filS rows x).2 = 0) (h1 : (filS (filS rows x).1 y).2 = 0) (h2 : (filS rows (andX x y)).2 = 0) : (filS (filS rows x).1 y).1 = (filS rows (andX x y)).1 := by
 obtain ⟨a1, a2, _⟩ := filS_ok h0
 obtain ⟨b1, b2, _⟩ := filS_ok h1
 obtain ⟨c1, c2, _⟩ := filS_ok h2
 rw [b1, c1, a1, List.filter_filter]
 refine List.filter_congr fun r hr => ?_
 rw [holds_and (a2 r hr) (fun h => b2 r (by rw [a1]; exact List.mem_filter.2 ⟨hr, h⟩)) (c2 r hr), Bool.and_comm]
end Go.Proofs.YtpcblbbddccgpaaDoor
namespace Go.Proofs.YtpcblbbddccgpaaDoor
open Go.RowKit
theorem same_own {n : Nat} {acc b all : List (List Va)} (hall : acc ++ b = all) (hl : all.length ≤ 4398046511104) (hr : ∀ r ∈ all, r.length ≤ 4398046511104) {σ : St} {t : Nat}
 (h1 : σ.at t (.row 1 (celF n acc ++ (enVV b).map fun c => c.map .p))) (h2 : ∀ j v l, acc[j]? = some (v :: l) → σ.at (n + posF acc j + 1) (.row 3 (muR (v :: l)))) :
 ACalls Tryd.prog 9 [.ms t 1 0 (acc.length + b.length), .p (.sl 1 (enVV all))] σ fun r s => s = σ ∧ r = boolV true := by
 have hs : sameVV all all = true := decide_eq_true rfl
 have hS := asameVV all all hl hl hr hr []
 rw [hs] at hS
 refine ACalls.borrow 2 (args' := [.p (.sl 1 (enVV all)), .p (.sl 1 (enVV all))]) (R := fun r => r = boolV true) (hS.mono ?_) ⟨.inl ⟨_, .inr ⟨t, 1, 0, _, _, enVV all, rfl, rfl, h1, ?_, ?_, ?_⟩, rfl⟩, .inl ⟨_, .inl (.inl (.inl rfl)), rfl⟩, trivial⟩
 ·rintro r s ⟨_, rfl⟩; exact ⟨rfl, rfl⟩
 ·simp [celF_len, enVV_len]
 ·rw [enVV_len, ← hall, List.length_append]
 ·intro j c hc
  rw [Nat.zero_add]
  have hja : j < all.length := by have := (List.getElem?_eq_some_iff.1 hc).1; rwa [enVV_len] at this
  rw [enVV_get all j hja] at hc
  simp only [Option.some.injEq] at hc; subst hc
  by_cases hj : j < acc.length
  ·refine ⟨[celO (n + posF acc j) acc[j]], by rw [List.getElem?_append_left (by rw [celF_len]; exact hj)]; exact celF_get acc n j hj, rfl, fun q y hy => ?_⟩
   have hq : q = 0 := by have := (List.getElem?_eq_some_iff.1 hy).1; simp at this; exact this
   subst hq
   simp only [List.getElem?_cons_zero, Option.some.injEq] at hy
   subst hy
   have he : all[j] = acc[j] := by simp only [← hall]; exact List.getElem_append_left hj
   refine ⟨_, rfl, ?_⟩
   rw [he]
   have hg : acc[j]? = some acc[j] := List.getElem?_eq_getElem hj
   generalize acc[j] = r at *
   cases r with
   | nil => exact .inl (.inl rfl)
   | cons v l =>
     refine .inr ⟨n + posF acc j + 1, 3, 0, l.length + 1, muR (v :: l), enV (v :: l), rfl, rfl, h2 j v l hg, by simp [muR_len], by simp [enV_len], fun i c hc => ?_⟩
     rw [Nat.zero_add]
     unfold enV at hc
     rw [List.getElem?_map] at hc
     cases hi : (v :: l)[i]? with
     | none => rw [hi] at hc; simp at hc
     | some w =>
       rw [hi] at hc; simp only [Option.map_some, Option.some.injEq] at hc; subst hc
       refine ⟨(vaC w).map .p, by unfold muR; rw [List.getElem?_map, hi]; rfl, by simp, fun q y hy => ⟨.p y, by rw [List.getElem?_map, hy]; rfl, .inl rfl⟩⟩
  ·have hb : j - acc.length < b.length := by rw [← hall, List.length_append] at hja; omega
   have he : all[j] = b[j - acc.length] := by simp only [← hall]; rw [List.getElem_append_right (by omega)]
   refine ⟨[.p (.sl 3 (enV all[j]))], ?_, rfl, fun q y hy => ?_⟩
   ·rw [List.getElem?_append_right (by rw [celF_len]; omega), celF_len, List.getElem?_map, enVV_get b _ hb, he]; rfl
   ·have hq : q = 0 := by have := (List.getElem?_eq_some_iff.1 hy).1; simp at this; exact this
    subst hq
    simp only [List.getElem?_cons_zero, Option.some.injEq] at hy
    subst hy
    exact ⟨_, rfl, .inl (.inl rfl)⟩
end Go.Proofs.YtpcblbbddccgpaaDoor
