/- Sums, products, quotients in range. What an expression comes to, by its kids' values. What an expression comes to may be a value, and is in range. The reference's sums and products are those in range. -/
import Derived.Test.YtpcblbbddccgpaaGreatDoorM20
set_option linter.unusedSimpArgs false
set_option linter.unusedVariables false
set_option linter.defProp false
set_option maxRecDepth 100000
set_option maxHeartbeats 32000000
namespace Go.Proofs.YtpcblbbddccgpaaGreatDoor
open Go.RowKit
theorem beq_dec (p q : Prop) [Decidable p] [Decidable q] : (decide p == decide q) = decide (p ↔ q) := by
 by_cases hp : p <;> by_cases hq : q <;> simp [hp, hq]
def rngV (n : Int) : Va × Int := if i64R n then ((1, n, emp), 0) else failV 35 0
def numS (k a b : Int) : Va × Int :=
 if k = 5 then rngV (a + b) else if k = 6 then rngV (a - b) else if k = 7 then rngV (a * b)
 else if b = 0 then failV 36 0 else if k = 9 then ((1, a.tmod b, emp), 0) else rngV (a.tdiv b)
theorem wI6 (n : Int) : ∃ q : Int, IntKind.i64.wrap n = n - 18446744073709551616 * q ∧ -9223372036854775808 ≤ IntKind.i64.wrap n ∧ IntKind.i64.wrap n ≤ 9223372036854775807 := by
 rw [IntKind.wrap_i64]
 exact ⟨(n + 9223372036854775808) / 18446744073709551616, by omega, by omega, by omega⟩
theorem wIn (n : Int) (h : i64R n) : IntKind.i64.wrap n = n := by
 unfold i64R at h; rw [IntKind.wrap_i64]; omega
theorem fin_rng (w n : Int) (ok : Bool) (h : ok = decide (i64R n)) (hw : i64R n → w = n) : (if ok = true then (((1, w, emp) : Va), (0 : Int)) else failV 35 0) = rngV n := by
 subst h
 unfold rngV
 by_cases hr : i64R n
 ·rw [if_pos (decide_eq_true hr), if_pos hr, hw hr]
 ·rw [if_neg (by simp [hr]), if_neg hr]
theorem tdiv_abs (a b : Int) (hb : b ≠ 0) : ∃ q r : Int, a.tdiv b = q ∧ a = b * q + r ∧ r.natAbs < b.natAbs := by
 refine ⟨a.tdiv b, a.tmod b, rfl, (Int.mul_tdiv_add_tmod a b).symm, ?_⟩
 rw [Int.natAbs_tmod]; exact Nat.mod_lt _ (by omega)
theorem tdiv_le_abs (a b : Int) : (a.tdiv b).natAbs ≤ a.natAbs := by
 rw [Int.natAbs_tdiv]; exact Nat.div_le_self _ _
theorem mul_ok (a b : Int) (ha : i64R a) (hb : i64R b) : (decide (a = 0) || (IntKind.i64.wrap ((IntKind.i64.wrap (a * b)).tdiv a) == b && !(decide (a = -1) && decide (b = -9223372036854775808)))) = decide (i64R (a * b)) := by
 by_cases h0 : a = 0
 ·subst h0
  rw [Int.zero_mul]; rfl
 ·have hd : decide (a = 0) = false := by simpa using h0
  rw [hd, Bool.false_or]
  obtain ⟨q, h1, h2, h3⟩ := wI6 (a * b)
  by_cases hr : i64R (a * b)
  ·rw [wIn _ hr, Int.mul_tdiv_cancel_left _ h0, wIn _ hb, decide_eq_true hr]
   have : ¬ (a = -1 ∧ b = -9223372036854775808) := fun ⟨e1, e2⟩ => by
    rw [e1, e2] at hr; revert hr; decide
   by_cases e1 : a = -1 <;> by_cases e2 : b = -9223372036854775808 <;> simp_all
  ·rw [decide_eq_false hr]
   generalize hp : a * b = p at *
   generalize hwp : IntKind.i64.wrap p = wp at *
   obtain ⟨qq, r, e1, e2, e3⟩ := tdiv_abs wp a h0
   have habs := tdiv_le_abs wp a
   rw [e1] at habs ⊢
   by_cases hb1 : IntKind.i64.wrap qq = b
   ·by_cases hq : i64R qq
    ·exfalso
     rw [wIn _ hq] at hb1
     subst hb1
     rw [hp] at e2
     unfold i64R at ha hr
     omega
    ·unfold i64R at hq ha hb
     have hqv : qq = 9223372036854775808 := by omega
     subst hqv
     have hwv : wp = -9223372036854775808 := by omega
     have hbv : b = -9223372036854775808 := by rw [← hb1]; decide
     have ha1 : a = -1 := by
      rw [hwv] at e2
      have h5 : a.natAbs = 1 := by
       by_cases h6 : a.natAbs = 1
       ·exact h6
       ·exfalso
        have h7 : 2 ≤ a.natAbs := by omega
        have h8 : ((-9223372036854775808 : Int).tdiv a).natAbs = 9223372036854775808 / a.natAbs := by rw [Int.natAbs_tdiv]; rfl
        rw [hwv] at e1
        rw [e1] at h8
        have h9 : 9223372036854775808 / a.natAbs ≤ 9223372036854775808 / 2 := Nat.div_le_div_left h7 (by decide)
        simp at h8
        omega
      omega
     rw [ha1, hbv]
     simp
   ·have : (IntKind.i64.wrap qq == b) = false := by simpa using hb1
    rw [this]; rfl
theorem numV_eq (k a b : Int) (ha : i64R a) (hb : i64R b) : numV k a b 0 = numS k a b := by
 unfold numV numS
 by_cases h5 : k = 5
 ·rw [if_pos h5, if_pos h5]
  refine fin_rng _ _ _ ?_ (wIn _)
  rw [beq_dec]
  refine decide_eq_decide.2 ?_
  unfold i64R at *
  rw [IntKind.wrap_i64]
  omega
 rw [if_neg h5, if_neg h5]
 by_cases h6 : k = 6
 ·rw [if_pos h6, if_pos h6]
  refine fin_rng _ _ _ ?_ (wIn _)
  rw [beq_dec]
  refine decide_eq_decide.2 ?_
  unfold i64R at *
  rw [IntKind.wrap_i64]
  omega
 rw [if_neg h6, if_neg h6]
 by_cases h7 : k = 7
 ·rw [if_pos h7, if_pos h7]
  exact fin_rng _ _ _ (mul_ok a b ha hb) (wIn _)
 rw [if_neg h7, if_neg h7]
 by_cases hb0 : b = 0
 ·rw [if_pos hb0, if_pos hb0]
 rw [if_neg hb0, if_neg hb0]
 by_cases hb1 : b = -1
 ·rw [if_pos hb1]
  subst hb1
  by_cases h9 : k = 9
  ·rw [if_pos h9, if_pos h9]
   have : a.tmod (-1) = 0 := by rw [Int.tmod_neg, Int.tmod_one]
   rw [this]; rfl
  ·rw [if_neg h9, if_neg h9]
   have : a.tdiv (-1) = 0 - a := by rw [Int.tdiv_neg, Int.tdiv_one]; omega
   rw [this]
   refine fin_rng _ _ _ ?_ (wIn _)
   refine decide_eq_decide.2 ?_
   unfold i64R at *
   omega
 ·rw [if_neg hb1]
  by_cases h9 : k = 9
  ·rw [if_pos h9, if_pos h9]; rfl
  ·rw [if_neg h9, if_neg h9]
   have hr : i64R (a.tdiv b) := by
    have h1 := tdiv_le_abs a b
    unfold i64R at *
    by_cases h2 : a.tdiv b = 9223372036854775808
    ·exfalso
     have h3 : (a.tdiv b).natAbs = a.natAbs / b.natAbs := Int.natAbs_tdiv a b
     have h4 : a = -9223372036854775808 := by omega
     have h5 : b.natAbs = 1 := by
      by_cases h6 : b.natAbs = 1
      ·exact h6
      ·exfalso
       have h7 : a.natAbs / b.natAbs ≤ a.natAbs / 2 := Nat.div_le_div_left (by omega) (by decide)
       omega
     have h6 : b = 1 := by omega
     rw [h6, Int.tdiv_one] at h2
     omega
    ·omega
   exact fin_rng _ _ true (by rw [decide_eq_true hr]) (wIn _)
end Go.Proofs.YtpcblbbddccgpaaGreatDoor
namespace Go.Proofs.YtpcblbbddccgpaaGreatDoor
open Go.RowKit
theorem failV_err (c e : Int) (h : e ≠ 0) : (failV c e).2 = e := by simp [failV, h]
theorem findV_err (row : List Va) : ∀ (x : Ex) (e : Int), e ≠ 0 → (findV row x e).2 = e
 | .mk k vk vn vs tb nm s [], e, h => by
   simp only [findV, leafV]
   repeat' split
   all_goals first | exact failV_err _ _ h | rfl
 | .mk k vk vn vs tb nm s [x], e, h => by
   have h1 := findV_err row x e h
   simp only [findV, oneV]
   repeat' split
   all_goals first | exact failV_err _ _ h | exact h1 | (rw [h1]; exact failV_err _ _ h)
 | .mk k vk vn vs tb nm s [x, y], e, h => by
   have h1 := findV_err row x e h
   have h2 := findV_err row y e h
   simp only [findV]
   split
   ·exact failV_err _ _ h
   ·split
    ·rw [h1]
     simp only [logA, h, ne_eq, not_false_eq_true, true_or, if_true, false_and, if_false]
    ·rw [h1]
     simp only [twoV, h2, h, ne_eq, not_false_eq_true, if_true]
 | .mk k vk vn vs tb nm s (_ :: _ :: _ :: _), e, h => by simp only [findV]; exact failV_err _ _ h
def clV (r : Va × Int) : Va × Int := if r.2 ≠ 0 then (va0, r.2) else (r.1, 0)
theorem evalV_cl (row : List Va) (x : Ex) : evalV row x = clV (findV row x 0) := rfl
theorem evalV_find (row : List Va) (x : Ex) (h : (evalV row x).2 = 0) : findV row x 0 = evalV row x := by
 unfold evalV at h ⊢
 split at h
 ·rename_i h1; exact absurd h h1
 ·rename_i h1
  rw [if_neg h1]
  have h2 : (findV row x 0).2 = 0 := by simpa using h1
  exact Prod.ext rfl h2
theorem evalV_bad (row : List Va) (x : Ex) (h : (evalV row x).2 ≠ 0) : (findV row x 0).2 = (evalV row x).2 ∧ evalV row x = (va0, (evalV row x).2) := by
 unfold evalV at h ⊢
 by_cases h1 : (findV row x 0).2 = 0
 ·rw [if_neg (by simp [h1])] at h; simp at h
 ·rw [if_pos h1]; exact ⟨rfl, rfl⟩
theorem evalV_none (row : List Va) (k vk vn : Int) (vs tb nm : ByteArray) (s : Int) : evalV row (.mk k vk vn vs tb nm s []) = if kidsV k ≠ 0 then (va0, 1) else clV (leafV row k (vk, vn, vs) s 0) := by
 rw [evalV_cl]; simp only [findV]; split <;> rfl
theorem evalV_one (row : List Va) (k vk vn : Int) (vs tb nm : ByteArray) (s : Int) (x : Ex) : evalV row (.mk k vk vn vs tb nm s [x]) = if kidsV k ≠ 1 then (va0, 1) else if (evalV row x).2 ≠ 0 then (va0, (evalV row x).2) else clV (oneV k (evalV row x).1 0) := by
 rw [evalV_cl]
 simp only [findV]
 split
 ·rfl
 ·split
  ·rename_i h1 h2
   obtain ⟨g1, _⟩ := evalV_bad row x h2
   rw [g1]
   have he : (oneV k (findV row x 0).1 (evalV row x).2).2 = (evalV row x).2 := by
    unfold oneV
    repeat' split
    all_goals first | rfl | exact failV_err _ _ h2
   unfold clV
   rw [he, if_pos h2]
  ·rename_i h1 h2
   have h2' : (evalV row x).2 = 0 := by simpa using h2
   rw [evalV_find row x h2', h2']
def resV2 (k : Int) (a b : Va) : Va × Int := clV (twoV k a b 0)
theorem evalV_two (row : List Va) (k vk vn : Int) (vs tb nm : ByteArray) (s : Int) (x y : Ex) (hk : ¬ 16 ≤ k) : evalV row (.mk k vk vn vs tb nm s [x, y]) = if kidsV k ≠ 2 then (va0, 1) else if (evalV row x).2 ≠ 0 then (va0, (evalV row x).2) else if (evalV row y).2 ≠ 0 then (va0, (evalV row y).2) else resV2 k (evalV row x).1 (evalV row y).1 := by
 rw [evalV_cl]
 simp only [findV, hk, if_false]
 split
 ·rfl
 ·split
  ·rename_i h1 h2
   obtain ⟨g1, _⟩ := evalV_bad row x h2
   rw [g1]
   have he := findV_err row y (evalV row x).2 h2
   simp only [clV, twoV, he, h2, ne_eq, not_false_eq_true, if_true]
  ·rename_i h1 h2
   have h2' : (evalV row x).2 = 0 := by simpa using h2
   rw [evalV_find row x h2', h2']
   split
   ·rename_i h3
    obtain ⟨g1, _⟩ := evalV_bad row y h3
    simp only [clV, twoV, g1, h3, ne_eq, not_false_eq_true, if_true]
   ·rename_i h3
    have h3' : (evalV row y).2 = 0 := by simpa using h3
    rw [evalV_find row y h3', h3']; rfl
theorem evalV_log (row : List Va) (k vk vn : Int) (vs tb nm : ByteArray) (s : Int) (x y : Ex) (hk : 16 ≤ k) : evalV row (.mk k vk vn vs tb nm s [x, y]) = if kidsV k ≠ 2 then (va0, 1) else if (evalV row x).2 ≠ 0 then (va0, (evalV row x).2) else (match logA k (evalV row x).1 0 with
 | some r => clV r
 | none => if (evalV row y).2 ≠ 0 then (va0, (evalV row y).2) else clV (logB k (evalV row x).1 (evalV row y).1 0)) := by
 rw [evalV_cl]
 simp only [findV, hk, if_true]
 by_cases h0 : kidsV k ≠ 2
 ·rw [if_pos h0, if_pos h0]; rfl
 rw [if_neg h0, if_neg h0]
 by_cases h2 : (evalV row x).2 = 0
 ·rw [evalV_find row x h2, h2, if_neg (by simp)]
  cases logA k (evalV row x).1 0 with
  | some r => rfl
  | none =>
    simp only
    by_cases h3 : (evalV row y).2 = 0
    ·rw [evalV_find row y h3, h3, if_neg (by simp)]
    ·obtain ⟨g1, _⟩ := evalV_bad row y h3
     rw [g1, if_pos h3]
     have he : ∀ b, (logB k (evalV row x).1 b (evalV row y).2).2 = (evalV row y).2 := fun b => by
      unfold logB
      repeat' split
      all_goals first | rfl | exact failV_err _ _ h3
     unfold clV
     rw [he, if_pos h3]
 ·obtain ⟨g1, _⟩ := evalV_bad row x h2
  rw [g1, if_pos h2]
  simp only [logA, h2, false_and, if_false, ne_eq, not_false_eq_true, true_or, if_true, clV]
end Go.Proofs.YtpcblbbddccgpaaGreatDoor
namespace Go.Proofs.YtpcblbbddccgpaaGreatDoor
open Go.RowKit
mutual
def rgE : Ex → Prop
 | .mk _ _ vn _ _ _ _ kids => i64R vn ∧ rgL kids
def rgL : List Ex → Prop
 | [] => True
 | x :: l => rgE x ∧ rgL l
end
def fine (r : Va × Int) : Prop := r.2 = 0 → okV r.1 = true ∧ i64R r.1.2.1
theorem fine_fail (c : Int) (h : c ≠ 0) : fine (failV c 0) := fun h0 => by simp [failV] at h0; exact absurd h0 h
theorem fine_err (v : Va) (c : Int) (h : c ≠ 0) : fine (v, c) := fun h0 => absurd h0 h
theorem fine_tr (b : Bool) : fine (trV b, 0) := fun _ => by
 cases b
 ·exact ⟨by simp [okV, trV], by decide⟩
 ·exact ⟨by simp [okV, trV], by decide⟩
theorem fine_va0 : fine (va0, 0) := fun _ => ⟨by simp [okV, va0], by decide⟩
theorem fine_num (n : Int) (h : i64R n) : fine ((1, n, emp), 0) := fun _ => ⟨by simp [okV], h⟩
theorem fine_cl (r : Va × Int) (h : fine r) : fine (clV r) := by
 unfold clV
 split
 ·rename_i h1; exact fine_err _ _ h1
 ·rename_i h1; exact fun _ => h (by simpa using h1)
theorem fine_rng (n : Int) : fine (rngV n) := by
 unfold rngV
 split
 ·rename_i h; exact fine_num n h
 ·exact fine_fail 35 (by decide)
theorem fine_numS (k a b : Int) (ha : i64R a) (hb : i64R b) : fine (numS k a b) := by
 unfold numS
 repeat' split
 all_goals first | exact fine_rng _ | exact fine_fail 36 (by decide) | skip
 refine fine_num _ ?_
 rename_i h0 _
 have h1 : (a.tmod b).natAbs < b.natAbs := by rw [Int.natAbs_tmod]; exact Nat.mod_lt _ (by omega)
 unfold i64R at *
 omega
theorem kids2 {k : Int} (h : ¬ kidsV k ≠ 2) : 5 ≤ k ∧ k ≤ 17 := by
 unfold kidsV at h
 split at h
 ·simp at h
 ·split at h
  ·simp at h
  ·split at h
   ·assumption
   ·simp at h
theorem evalV_fine (row : List Va) (hrow : ∀ v ∈ row, i64R v.2.1) : ∀ x : Ex, rgE x → fine (evalV row x)
 | .mk k vk vn vs tb nm s [], h => by
   rw [evalV_none]
   split
   ·exact fine_err _ _ (by decide)
   ·refine fine_cl _ ?_
    unfold leafV
    split
    ·exact fine_fail 32 (by decide)
    ·split
     ·rename_i h1; exact fun _ => ⟨h1.2, by simp only [rgE] at h; exact h.1⟩
     ·split
      ·rename_i h1
       refine fun _ => ⟨h1.2.2.2, ?_⟩
       have hl : s.toNat < row.length := by omega
       have : row.getD s.toNat va0 = row[s.toNat] := by simp [List.getD, hl]
       rw [this]; exact hrow _ (List.getElem_mem hl)
      ·exact fine_fail 1 (by decide)
 | .mk k vk vn vs tb nm s [x], h => by
   simp only [rgE, rgL] at h
   have ih := evalV_fine row hrow x h.2.1
   rw [evalV_one]
   split
   ·exact fine_err _ _ (by decide)
   ·split
    ·rename_i h1; exact fine_err _ _ h1
    ·rename_i h1
     have h2 := ih (by simpa using h1)
     refine fine_cl _ ?_
     unfold oneV
     split
     ·exact fine_tr _
     ·split
      ·exact fine_tr _
      ·split
       ·exact fun _ => h2
       ·split
        ·exact fine_tr _
        ·split
         ·exact fine_fail 33 (by decide)
         ·split
          ·exact fine_fail 35 (by decide)
          ·rename_i h3
           exact fine_num _ (by obtain ⟨_, h4, h5, h6⟩ := wI6 (0 - (evalV row x).1.2.1); exact ⟨h5, h6⟩)
 | .mk k vk vn vs tb nm s [x, y], h => by
   simp only [rgE, rgL] at h
   have ihx := evalV_fine row hrow x h.2.1
   have ihy := evalV_fine row hrow y h.2.2.1
   by_cases hk : 16 ≤ k
   ·rw [evalV_log _ _ _ _ _ _ _ _ _ _ hk]
    split
    ·exact fine_err _ _ (by decide)
    ·split
     ·rename_i h1; exact fine_err _ _ h1
     ·rename_i h1
      have hx := ihx (by simpa using h1)
      cases hl : logA k (evalV row x).1 0 with
      | some r =>
        refine fine_cl _ ?_
        unfold logA at hl
        split at hl
        ·simp only [Option.some.injEq] at hl; subst hl; exact fine_fail 33 (by decide)
        ·split at hl
         ·simp only [Option.some.injEq] at hl; subst hl; exact fun _ => hx
         ·simp at hl
      | none =>
        simp only
        split
        ·rename_i h2; exact fine_err _ _ h2
        ·rename_i h2
         have hy := ihy (by simpa using h2)
         refine fine_cl _ ?_
         unfold logB
         repeat' split
         all_goals first | exact fine_fail 33 (by decide) | exact fun _ => hx | exact fun _ => hy
   ·rw [evalV_two _ _ _ _ _ _ _ _ _ _ hk]
    split
    ·exact fine_err _ _ (by decide)
    ·rename_i h0
     have hkk := kids2 h0
     split
     ·rename_i h1; exact fine_err _ _ h1
     ·rename_i h1
      split
      ·rename_i h2; exact fine_err _ _ h2
      ·rename_i h2
       have hx := ihx (by simpa using h1)
       have hy := ihy (by simpa using h2)
       refine fine_cl _ ?_
       unfold twoV
       rw [if_neg (by simp)]
       repeat' split
       all_goals first
        | exact fine_fail 33 (by decide)
        | exact fine_tr _
        | exact fine_va0
        | (rw [numV_eq _ _ _ hx.2 hy.2]; exact fine_numS _ _ _ hx.2 hy.2)
 | .mk k vk vn vs tb nm s (x :: y :: z :: l), h => by
   have : evalV row (.mk k vk vn vs tb nm s (x :: y :: z :: l)) = clV (failV 1 0) := by rw [evalV_cl]; simp only [findV]
   rw [this]; exact fine_cl _ (fine_fail 1 (by decide))
end Go.Proofs.YtpcblbbddccgpaaGreatDoor
namespace Go.Proofs.YtpcblbbddccgpaaGreatDoor
open Go.RowKit
theorem wrap_u64 {n : Int} (h1 : 0 ≤ n) (h2 : n ≤ 18446744073709551615) : IntKind.u64.wrap n = n := IntWalk.u64_in _ (by omega)
def absI (n : Int) : Int := if n < 0 then 0 - n else n
def sgnN (u : Int) (b : Bool) : Int × Bool := if b then (IntKind.i64.wrap (0 - IntKind.i64.wrap u), decide (u ≤ 9223372036854775808)) else (IntKind.i64.wrap u, decide (u ≤ 9223372036854775807))
def addN (a b : Int) : Int × Bool :=
 if (decide (a < 0) == decide (b < 0)) = true then (if absI a > IntKind.u64.wrap (9223372036854775808 - absI b) ∧ absI b > 0 ∧ absI a > 0 then (0, false) else sgnN (IntKind.u64.wrap (absI a + absI b)) (decide (a < 0)))
 else (IntKind.i64.wrap (a + b), true)
def mulN (a b : Int) : Int × Bool :=
 if absI b > 0 ∧ absI a > IntKind.u64.wrap ((9223372036854775808 : Int).tdiv (absI b)) then (0, false) else sgnN (IntKind.u64.wrap (absI a * absI b)) (decide (a < 0) != decide (b < 0))
theorem absI_r (n : Int) (h : i64R n) : 0 ≤ absI n ∧ absI n ≤ 9223372036854775808 := by
 unfold i64R at h; unfold absI; split <;> omega
theorem sgn_neg (u : Int) (h0 : 0 ≤ u) (h : u ≤ 9223372036854775808) : sgnN u true = (0 - u, true) := by
 unfold sgnN
 rw [if_pos rfl]
 refine Prod.ext ?_ (decide_eq_true h)
 show IntKind.i64.wrap (0 - IntKind.i64.wrap u) = 0 - u
 rw [IntKind.wrap_i64, IntKind.wrap_i64]; omega
theorem sgn_pos (u : Int) (h0 : 0 ≤ u) : (sgnN u false).2 = decide (u ≤ 9223372036854775807) ∧ (u ≤ 9223372036854775807 → (sgnN u false).1 = u) := by
 unfold sgnN
 refine ⟨rfl, fun h => ?_⟩
 show IntKind.i64.wrap u = u
 rw [IntKind.wrap_i64]; omega
def SayN (s : Int × Bool) (n : Int) : Prop := s.2 = decide (i64R n) ∧ (i64R n → s.1 = n)
theorem sgn_say (u : Int) (b : Bool) (n : Int) (h0 : 0 ≤ u) (h : u ≤ 9223372036854775808) (hn : n = if b then 0 - u else u) : SayN (sgnN u b) n := by
 cases b with
 | true =>
   rw [sgn_neg u h0 h]
   simp only [if_true] at hn
   subst hn
   exact ⟨(decide_eq_true (by unfold i64R; omega)).symm, fun _ => rfl⟩
 | false =>
   simp only [Bool.false_eq_true, if_false] at hn
   subst hn
   obtain ⟨h1, h2⟩ := sgn_pos n h0
   refine ⟨by rw [h1]; exact decide_eq_decide.2 (by unfold i64R; omega), fun hr => h2 (by unfold i64R at hr; omega)⟩
theorem addN_say (a b : Int) (ha : i64R a) (hb : i64R b) : SayN (addN a b) (a + b) := by
 have ha' := absI_r a ha
 have hb' := absI_r b hb
 unfold addN
 rw [beq_dec]
 by_cases hs : (a < 0 ↔ b < 0)
 ·rw [if_pos (decide_eq_true hs), wrap_u64 (n := 9223372036854775808 - absI b) (by omega) (by omega)]
  by_cases hc : absI a > 9223372036854775808 - absI b ∧ absI b > 0 ∧ absI a > 0
  ·rw [if_pos hc]
   have : ¬ i64R (a + b) := by
    unfold i64R; unfold absI at hc
    by_cases h1 : a < 0
    ·have h2 := hs.1 h1
     rw [if_pos h1, if_pos h2] at hc
     omega
    ·have h2 : ¬ b < 0 := fun h => h1 (hs.2 h)
     rw [if_neg h1, if_neg h2] at hc
     omega
   exact ⟨(decide_eq_false this).symm, fun h => absurd h this⟩
  ·rw [if_neg hc]
   have hle : absI a + absI b ≤ 9223372036854775808 := by omega
   rw [wrap_u64 (by omega) (by omega)]
   refine sgn_say _ _ _ (by omega) hle ?_
   unfold absI
   by_cases h1 : a < 0
   ·have h2 := hs.1 h1
    simp [h1, h2]; omega
   ·have h2 : ¬ b < 0 := fun h => h1 (hs.2 h)
    simp [h1, h2]
 ·rw [if_neg (by simpa using hs)]
  have hr : i64R (a + b) := by unfold i64R at *; omega
  exact ⟨(decide_eq_true hr).symm, fun _ => wIn _ hr⟩
theorem abs_mul (a b : Int) : a * b = if (decide (a < 0) != decide (b < 0)) = true then 0 - absI a * absI b else absI a * absI b := by
 unfold absI
 by_cases h1 : a < 0 <;> by_cases h2 : b < 0 <;> simp [h1, h2, Int.neg_mul, Int.mul_neg]
theorem mulN_say (a b : Int) (ha : i64R a) (hb : i64R b) : SayN (mulN a b) (a * b) := by
 obtain ⟨ha0, ha'⟩ := absI_r a ha
 obtain ⟨hb0, hb'⟩ := absI_r b hb
 have hab := abs_mul a b
 unfold mulN
 generalize absI a = u at *
 generalize absI b = v at *
 have hq0 : 0 ≤ (9223372036854775808 : Int).tdiv v := Int.tdiv_nonneg (by decide) hb0
 have hq1 : (9223372036854775808 : Int).tdiv v ≤ 9223372036854775808 := Int.tdiv_le_self _ (by decide)
 rw [wrap_u64 hq0 (by omega), Int.tdiv_eq_ediv_of_nonneg (by decide)]
 by_cases hc : v > 0 ∧ u > 9223372036854775808 / v
 ·rw [if_pos hc]
  obtain ⟨h1, h2⟩ := hc
  have h3 : 9223372036854775808 < u * v := (Int.ediv_lt_iff_lt_mul h1).1 h2
  have : ¬ i64R (a * b) := by
   rw [hab]; unfold i64R
   split <;> omega
  exact ⟨(decide_eq_false this).symm, fun h => absurd h this⟩
 ·rw [if_neg hc]
  have h0 : 0 ≤ u * v := Int.mul_nonneg ha0 hb0
  have h3 : u * v ≤ 9223372036854775808 := by
   by_cases hv : v > 0
   ·have : u ≤ 9223372036854775808 / v := by omega
    exact (Int.le_ediv_iff_mul_le hv).1 this
   ·have : v = 0 := by omega
    subst this; simp
  rw [wrap_u64 h0 (by omega)]
  exact sgn_say _ _ _ h0 h3 hab
theorem abs_div (a b : Int) : a.tdiv b = if (decide (a < 0) != decide (b < 0)) = true then 0 - (absI a).tdiv (absI b) else (absI a).tdiv (absI b) := by
 unfold absI
 by_cases h1 : a < 0 <;> by_cases h2 : b < 0 <;> simp [h1, h2, Int.neg_tdiv, Int.tdiv_neg]
theorem abs_mod (a b : Int) : a.tmod b = if decide (a < 0) = true then 0 - (absI a).tmod (absI b) else (absI a).tmod (absI b) := by
 unfold absI
 by_cases h1 : a < 0 <;> by_cases h2 : b < 0 <;> simp [h1, h2, Int.neg_tmod, Int.tmod_neg]
theorem divN_say (a b : Int) (ha : i64R a) (hb : i64R b) (h0 : b ≠ 0) : SayN (sgnN (IntKind.u64.wrap ((absI a).tdiv (absI b))) (decide (a < 0) != decide (b < 0))) (a.tdiv b) := by
 obtain ⟨ha0, ha'⟩ := absI_r a ha
 obtain ⟨hb0, hb'⟩ := absI_r b hb
 have hq0 : 0 ≤ (absI a).tdiv (absI b) := Int.tdiv_nonneg ha0 hb0
 have hq1 : (absI a).tdiv (absI b) ≤ absI a := Int.tdiv_le_self _ ha0
 rw [wrap_u64 hq0 (by omega)]
 exact sgn_say _ _ _ hq0 (by omega) (abs_div a b)
theorem modN_say (a b : Int) (ha : i64R a) (hb : i64R b) (h0 : b ≠ 0) : (sgnN ((absI a).tmod (absI b)) (decide (a < 0))).1 = a.tmod b := by
 obtain ⟨ha0, ha'⟩ := absI_r a ha
 obtain ⟨hb0, hb'⟩ := absI_r b hb
 have hbp : 0 < absI b := by unfold absI; split <;> omega
 have hm0 : 0 ≤ (absI a).tmod (absI b) := Int.tmod_nonneg _ ha0
 have hm1 : (absI a).tmod (absI b) < absI b := Int.tmod_lt_of_pos _ hbp
 obtain ⟨_, h2⟩ := sgn_say _ _ _ hm0 (by omega) (abs_mod a b)
 refine h2 ?_
 rw [abs_mod]
 unfold i64R
 split <;> omega
end Go.Proofs.YtpcblbbddccgpaaGreatDoor
