/- Values, rows, and what expressions come to over a row, as the program reckons it. Sums, products, quotients in range. What an expression comes to, by its kids' values. What an expression comes to may be a value, and is in range. Small functions of values and of expressions. The reference's sums and products are those in range. cadastreref12: numbers. -/
import Derived.Test.YtcnkmandddfdmaaGreatM11
import Derived.Test.YtcnkmandddfdmaaGreatM10
set_option linter.unusedSimpArgs false
set_option linter.unusedVariables false
set_option linter.defProp false
set_option maxRecDepth 100000
set_option maxHeartbeats 32000000
namespace Go.Proofs.YtcnkmandddfdmaaGreat
open Go.RowKit
abbrev Va := Int × Int × ByteArray
def vaC (v : Va) : List PV := [.v (.int .i64 v.1), .v (.int .i64 v.2.1), .v (.string v.2.2)]
def vaA (v : Va) : AV := .agg ((vaC v).map .p)
def va0 : Va := (0, 0, emp)
def enV (l : List Va) : List (List PV) := l.map vaC
theorem enV_len (l : List Va) : (enV l).length = l.length := by simp [enV]
theorem enV_get (l : List Va) (i : Nat) (h : i < l.length) : (enV l)[i]? = some (vaC l[i]) := by simp [enV, h]
theorem vaC_len (v : Va) : (vaC v).length = 3 := rfl
def enVV (l : List (List Va)) : List (List PV) := l.map fun r => [.sl 3 (enV r)]
theorem enVV_len (l : List (List Va)) : (enVV l).length = l.length := by simp [enVV]
theorem enVV_get (l : List (List Va)) (i : Nat) (h : i < l.length) : (enVV l)[i]? = some [.sl 3 (enV l[i])] := by simp [enVV, h]
theorem enVV_app (l m : List (List Va)) : enVV (l ++ m) = enVV l ++ enVV m := by simp [enVV]
def okV (v : Va) : Bool :=
 if v.1 = 0 then decide (v.2.1 = 0) && (v.2.2.toList == emp.toList)
 else if v.1 = 1 then v.2.2.toList == emp.toList
 else if v.1 = 2 then (v.2.1.fdiv 2 == 0) && (v.2.2.toList == emp.toList)
 else (v.1 == 3) && (v.2.1 == 0) && decide ((v.2.2.size : Int) ≤ 64)
def trV (b : Bool) : Va := (2, if b then 1 else 0, emp)
def failV (c : Int) (e : Int) : Va × Int := (va0, if e = 0 then c else e)
def kidsV (k : Int) : Int := if k = 1 ∨ k = 24 ∨ k = 2 then 0 else if k = 3 ∨ k = 4 ∨ k = 18 ∨ k = 19 then 1 else if 5 ≤ k ∧ k ≤ 17 then 2 else -1
def cmpI (a b : Int) : Int := if a < b then -1 else if a > b then 1 else 0
def cmpS (a b : ByteArray) : Int := if Op.bytesLess a.toList b.toList then -1 else if a.toList == b.toList then 0 else 1
def cmpV (a b : Va) : Int := if cmpI a.1 b.1 ≠ 0 then cmpI a.1 b.1 else if cmpI a.2.1 b.2.1 ≠ 0 then cmpI a.2.1 b.2.1 else cmpS a.2.2 b.2.2
def numV (k a b : Int) (e : Int) : Va × Int :=
 let w := IntKind.i64.wrap
 let fin := fun (n : Int) (ok : Bool) => if ok then (((1, n, emp) : Va), e) else failV 35 e
 if k = 5 then fin (w (a + b)) (decide (w (a + b) > a) == decide (b > 0))
 else if k = 6 then fin (w (a - b)) (decide (w (a - b) < a) == decide (b > 0))
 else if k = 7 then fin (w (a * b)) (decide (a = 0) || (w ((w (a * b)).tdiv a) == b && !(decide (a = -1) && decide (b = -9223372036854775808))))
 else if b = 0 then failV 36 e
 else if b = -1 then (if k = 9 then fin 0 true else fin (w (0 - a)) (decide (a ≠ -9223372036854775808)))
 else if k = 9 then fin (a.tmod b) true
 else fin (w (a.tdiv b)) true
def leafV (row : List Va) (k : Int) (v : Va) (s : Int) (e : Int) : Va × Int :=
 if k = 2 then failV 32 e
 else if k = 1 ∧ okV v = true then (v, e)
 else if k = 24 ∧ 0 ≤ s ∧ s < row.length ∧ okV (row.getD s.toNat va0) = true then (row.getD s.toNat va0, e)
 else failV 1 e
def oneV (k : Int) (v : Va) (e : Int) : Va × Int :=
 if k = 18 then (trV (v.1 = 0), e)
 else if k = 19 then (trV (v.1 ≠ 0), e)
 else if v.1 = 0 then (v, e)
 else if k = 4 ∧ v.1 = 2 then (trV (v.2.1 = 0), e)
 else if k = 4 ∨ v.1 ≠ 1 then failV 33 e
 else if v.2.1 = -9223372036854775808 then failV 35 e
 else ((1, IntKind.i64.wrap (0 - v.2.1), emp), e)
def relV (k : Int) (c : Int) : Bool := if k = 10 then c = 0 else if k = 11 then c ≠ 0 else if k = 12 then c < 0 else if k = 13 then c ≤ 0 else if k = 14 then c > 0 else c ≥ 0
def twoV (k : Int) (a b : Va) (e : Int) : Va × Int :=
 if e ≠ 0 then (va0, e)
 else if k ≤ 9 then
  if a.1 > 1 ∨ b.1 > 1 then failV 33 e
  else if a.1 = 0 ∨ b.1 = 0 then (va0, e)
  else numV k a.2.1 b.2.1 e
 else if a.1 = 0 ∨ b.1 = 0 then (va0, e)
 else if a.1 ≠ b.1 then failV 33 e
 else (trV (relV k (cmpV a b)), e)
def someV (v : Va) : Bool := v.1 ≠ 0 ∧ v.1 ≠ 2
def eqV (a b : Va) : Bool := a.1 = b.1 ∧ a.2.1 = b.2.1 ∧ a.2.2.toList = b.2.2.toList
def logA (k : Int) (a : Va) (e : Int) : Option (Va × Int) :=
 if e = 0 ∧ someV a = true then some (failV 33 e)
 else if e ≠ 0 ∨ eqV a (trV (k = 17)) = true then some (a, e)
 else none
def logB (k : Int) (a b : Va) (e : Int) : Va × Int :=
 if e = 0 ∧ someV b = true then failV 33 e
 else if eqV b (trV (k = 17)) = true then (b, e)
 else if a.1 = 0 then (a, e)
 else (b, e)
def findV (row : List Va) : Ex → Int → Va × Int
 | .mk k vk vn vs tb nm s [], e => if kidsV k ≠ 0 then failV 1 e else leafV row k (vk, vn, vs) s e
 | .mk k vk vn vs tb nm s [x], e => if kidsV k ≠ 1 then failV 1 e else oneV k (findV row x e).1 (findV row x e).2
 | .mk k vk vn vs tb nm s [x, y], e =>
   if kidsV k ≠ 2 then failV 1 e
   else if 16 ≤ k then (match logA k (findV row x e).1 (findV row x e).2 with
    | some r => r
    | none => logB k (findV row x e).1 (findV row y (findV row x e).2).1 (findV row y (findV row x e).2).2)
   else twoV k (findV row x e).1 (findV row y (findV row x e).2).1 (findV row y (findV row x e).2).2
 | .mk k vk vn vs tb nm s (_ :: _ :: _ :: _), e => failV 1 e
def evalV (row : List Va) (x : Ex) : Va × Int := if (findV row x 0).2 ≠ 0 then (va0, (findV row x 0).2) else ((findV row x 0).1, 0)
def holdsV (row : List Va) (x : Ex) : Bool × Int :=
 let r := evalV row x
 let e := if r.2 = 0 ∧ r.1.1 ≠ 0 ∧ r.1.1 ≠ 2 then 33 else r.2
 (decide (e = 0) && decide (r.1.1 = 2) && decide (r.1.2.1 = 1), e)
end Go.Proofs.YtcnkmandddfdmaaGreat
namespace Go.Proofs.YtcnkmandddfdmaaGreat
open Go.RowKit
theorem beq_dec (p q : Prop) [Decidable p] [Decidable q] : (decide p == decide q) = decide (p ↔ q) := by
 by_cases hp : p <;> by_cases hq : q <;> simp [hp, hq]
def rngV (n : Int) : Va × Int := if i64R n then ((1, n, emp), 0) else failV 35 0
def numS (k a b : Int) : Va × Int :=
 if k = 5 then rngV (a + b) else if k = 6 then rngV (a - b) else if k = 7 then rngV (a * b)
 else if b = 0 then failV 36 0 else if k = 9 then ((1, a.tmod b, emp), 0) else rngV (a.tdiv b)
theorem wI6 (n : Int) : ∃ q : Int, IntKind.i64.wrap n = n - 18446744073709551616 * q ∧ -9223372036854775808 ≤ IntKind.i64.wrap n ∧ IntKind.i64.wrap n ≤ 9223372036854775807 := by
 rw [IntKind.wrap_i64]
 exact ⟨(n + 9223372036854775808) / 18446744073709551616, by omega, by omega, by omega⟩
theorem wIn (n : Int) (h : i64R n) : IntKind.i64.wrap n = n := by
 unfold i64R at h; rw [IntKind.wrap_i64]; omega
theorem fin_rng (w n : Int) (ok : Bool) (h : ok = decide (i64R n)) (hw : i64R n → w = n) : (if ok = true then (((1, w, emp) : Va), (0 : Int)) else failV 35 0) = rngV n := by
 subst h
 unfold rngV
 by_cases hr : i64R n
 ·rw [if_pos (decide_eq_true hr), if_pos hr, hw hr]
 ·rw [if_neg (by simp [hr]), if_neg hr]
theorem tdiv_abs (a b : Int) (hb : b ≠ 0) : ∃ q r : Int, a.tdiv b = q ∧ a = b * q + r ∧ r.natAbs < b.natAbs := by
 refine ⟨a.tdiv b, a.tmod b, rfl, (Int.mul_tdiv_add_tmod a b).symm, ?_⟩
 rw [Int.natAbs_tmod]; exact Nat.mod_lt _ (by omega)
theorem tdiv_le_abs (a b : Int) : (a.tdiv b).natAbs ≤ a.natAbs := by
 rw [Int.natAbs_tdiv]; exact Nat.div_le_self _ _
theorem mul_ok (a b : Int) (ha : i64R a) (hb : i64R b) : (decide (a = 0) || (IntKind.i64.wrap ((IntKind.i64.wrap (a * b)).tdiv a) == b && !(decide (a = -1) && decide (b = -9223372036854775808)))) = decide (i64R (a * b)) := by
 by_cases h0 : a = 0
 ·subst h0
  rw [Int.zero_mul]; rfl
 ·have hd : decide (a = 0) = false := by simpa using h0
  rw [hd, Bool.false_or]
  obtain ⟨q, h1, h2, h3⟩ := wI6 (a * b)
  by_cases hr : i64R (a * b)
  ·rw [wIn _ hr, Int.mul_tdiv_cancel_left _ h0, wIn _ hb, decide_eq_true hr]
   have : ¬ (a = -1 ∧ b = -9223372036854775808) := fun ⟨e1, e2⟩ => by
    rw [e1, e2] at hr; revert hr; decide
   by_cases e1 : a = -1 <;> by_cases e2 : b = -9223372036854775808 <;> simp_all
  ·rw [decide_eq_false hr]
   generalize hp : a * b = p at *
   generalize hwp : IntKind.i64.wrap p = wp at *
   obtain ⟨qq, r, e1, e2, e3⟩ := tdiv_abs wp a h0
   have habs := tdiv_le_abs wp a
   rw [e1] at habs ⊢
   by_cases hb1 : IntKind.i64.wrap qq = b
   ·by_cases hq : i64R qq
    ·exfalso
     rw [wIn _ hq] at hb1
     subst hb1
     rw [hp] at e2
     unfold i64R at ha hr
     omega
    ·unfold i64R at hq ha hb
     have hqv : qq = 9223372036854775808 := by omega
     subst hqv
     have hwv : wp = -9223372036854775808 := by omega
     have hbv : b = -9223372036854775808 := by rw [← hb1]; decide
     have ha1 : a = -1 := by
      rw [hwv] at e2
      have h5 : a.natAbs = 1 := by
       by_cases h6 : a.natAbs = 1
       ·exact h6
       ·exfalso
        have h7 : 2 ≤ a.natAbs := by omega
        have h8 : ((-9223372036854775808 : Int).tdiv a).natAbs = 9223372036854775808 / a.natAbs := by rw [Int.natAbs_tdiv]; rfl
        rw [hwv] at e1
        rw [e1] at h8
        have h9 : 9223372036854775808 / a.natAbs ≤ 9223372036854775808 / 2 := Nat.div_le_div_left h7 (by decide)
        simp at h8
        omega
      omega
     rw [ha1, hbv]
     simp
   ·have : (IntKind.i64.wrap qq == b) = false := by simpa using hb1
    rw [this]; rfl
theorem numV_eq (k a b : Int) (ha : i64R a) (hb : i64R b) : numV k a b 0 = numS k a b := by
 unfold numV numS
 by_cases h5 : k = 5
 ·rw [if_pos h5, if_pos h5]
  refine fin_rng _ _ _ ?_ (wIn _)
  rw [beq_dec]
  refine decide_eq_decide.2 ?_
  unfold i64R at *
  rw [IntKind.wrap_i64]
  omega
 rw [if_neg h5, if_neg h5]
 by_cases h6 : k = 6
 ·rw [if_pos h6, if_pos h6]
  refine fin_rng _ _ _ ?_ (wIn _)
  rw [beq_dec]
  refine decide_eq_decide.2 ?_
  unfold i64R at *
  rw [IntKind.wrap_i64]
  omega
 rw [if_neg h6, if_neg h6]
 by_cases h7 : k = 7
 ·rw [if_pos h7, if_pos h7]
  exact fin_rng _ _ _ (mul_ok a b ha hb) (wIn _)
 rw [if_neg h7, if_neg h7]
 by_cases hb0 : b = 0
 ·rw [if_pos hb0, if_pos hb0]
 rw [if_neg hb0, if_neg hb0]
 by_cases hb1 : b = -1
 ·rw [if_pos hb1]
  subst hb1
  by_cases h9 : k = 9
  ·rw [if_pos h9, if_pos h9]
   have : a.tmod (-1) = 0 := by rw [Int.tmod_neg, Int.tmod_one]
   rw [this]; rfl
  ·rw [if_neg h9, if_neg h9]
   have : a.tdiv (-1) = 0 - a := by rw [Int.tdiv_neg, Int.tdiv_one]; omega
   rw [this]
   refine fin_rng _ _ _ ?_ (wIn _)
   refine decide_eq_decide.2 ?_
   unfold i64R at *
   omega
 ·rw [if_neg hb1]
  by_cases h9 : k = 9
  ·rw [if_pos h9, if_pos h9]; rfl
  ·rw [if_neg h9, if_neg h9]
   have hr : i64R (a.tdiv b) := by
    have h1 := tdiv_le_abs a b
    unfold i64R at *
    by_cases h2 : a.tdiv b = 9223372036854775808
    ·exfalso
     have h3 : (a.tdiv b).natAbs = a.natAbs / b.natAbs := Int.natAbs_tdiv a b
     have h4 : a = -9223372036854775808 := by omega
     have h5 : b.natAbs = 1 := by
      by_cases h6 : b.natAbs = 1
      ·exact h6
      ·exfalso
       have h7 : a.natAbs / b.natAbs ≤ a.natAbs / 2 := Nat.div_le_div_left (by omega) (by decide)
       omega
     have h6 : b = 1 := by omega
     rw [h6, Int.tdiv_one] at h2
     omega
    ·omega
   exact fin_rng _ _ true (by rw [decide_eq_true hr]) (wIn _)
end Go.Proofs.YtcnkmandddfdmaaGreat
namespace Go.Proofs.YtcnkmandddfdmaaGreat
open Go.RowKit
theorem failV_err (c e : Int) (h : e ≠ 0) : (failV c e).2 = e := by simp [failV, h]
theorem findV_err (row : List Va) : ∀ (x : Ex) (e : Int), e ≠ 0 → (findV row x e).2 = e
 | .mk k vk vn vs tb nm s [], e, h => by
   simp only [findV, leafV]
   repeat' split
   all_goals first | exact failV_err _ _ h | rfl
 | .mk k vk vn vs tb nm s [x], e, h => by
   have h1 := findV_err row x e h
   simp only [findV, oneV]
   repeat' split
   all_goals first | exact failV_err _ _ h | exact h1 | (rw [h1]; exact failV_err _ _ h)
 | .mk k vk vn vs tb nm s [x, y], e, h => by
   have h1 := findV_err row x e h
   have h2 := findV_err row y e h
   simp only [findV]
   split
   ·exact failV_err _ _ h
   ·split
    ·rw [h1]
     simp only [logA, h, ne_eq, not_false_eq_true, true_or, if_true, false_and, if_false]
    ·rw [h1]
     simp only [twoV, h2, h, ne_eq, not_false_eq_true, if_true]
 | .mk k vk vn vs tb nm s (_ :: _ :: _ :: _), e, h => by simp only [findV]; exact failV_err _ _ h
def clV (r : Va × Int) : Va × Int := if r.2 ≠ 0 then (va0, r.2) else (r.1, 0)
theorem evalV_cl (row : List Va) (x : Ex) : evalV row x = clV (findV row x 0) := rfl
theorem evalV_find (row : List Va) (x : Ex) (h : (evalV row x).2 = 0) : findV row x 0 = evalV row x := by
 unfold evalV at h ⊢
 split at h
 ·rename_i h1; exact absurd h h1
 ·rename_i h1
  rw [if_neg h1]
  have h2 : (findV row x 0).2 = 0 := by simpa using h1
  exact Prod.ext rfl h2
theorem evalV_bad (row : List Va) (x : Ex) (h : (evalV row x).2 ≠ 0) : (findV row x 0).2 = (evalV row x).2 ∧ evalV row x = (va0, (evalV row x).2) := by
 unfold evalV at h ⊢
 by_cases h1 : (findV row x 0).2 = 0
 ·rw [if_neg (by simp [h1])] at h; simp at h
 ·rw [if_pos h1]; exact ⟨rfl, rfl⟩
theorem evalV_none (row : List Va) (k vk vn : Int) (vs tb nm : ByteArray) (s : Int) : evalV row (.mk k vk vn vs tb nm s []) = if kidsV k ≠ 0 then (va0, 1) else clV (leafV row k (vk, vn, vs) s 0) := by
 rw [evalV_cl]; simp only [findV]; split <;> rfl
theorem evalV_one (row : List Va) (k vk vn : Int) (vs tb nm : ByteArray) (s : Int) (x : Ex) : evalV row (.mk k vk vn vs tb nm s [x]) = if kidsV k ≠ 1 then (va0, 1) else if (evalV row x).2 ≠ 0 then (va0, (evalV row x).2) else clV (oneV k (evalV row x).1 0) := by
 rw [evalV_cl]
 simp only [findV]
 split
 ·rfl
 ·split
  ·rename_i h1 h2
   obtain ⟨g1, _⟩ := evalV_bad row x h2
   rw [g1]
   have he : (oneV k (findV row x 0).1 (evalV row x).2).2 = (evalV row x).2 := by
    unfold oneV
    repeat' split
    all_goals first | rfl | exact failV_err _ _ h2
   unfold clV
   rw [he, if_pos h2]
  ·rename_i h1 h2
   have h2' : (evalV row x).2 = 0 := by simpa using h2
   rw [evalV_find row x h2', h2']
def resV2 (k : Int) (a b : Va) : Va × Int := clV (twoV k a b 0)
theorem evalV_two (row : List Va) (k vk vn : Int) (vs tb nm : ByteArray) (s : Int) (x y : Ex) (hk : ¬ 16 ≤ k) : evalV row (.mk k vk vn vs tb nm s [x, y]) = if kidsV k ≠ 2 then (va0, 1) else if (evalV row x).2 ≠ 0 then (va0, (evalV row x).2) else if (evalV row y).2 ≠ 0 then (va0, (evalV row y).2) else resV2 k (evalV row x).1 (evalV row y).1 := by
 rw [evalV_cl]
 simp only [findV, hk, if_false]
 split
 ·rfl
 ·split
  ·rename_i h1 h2
   obtain ⟨g1, _⟩ := evalV_bad row x h2
   rw [g1]
   have he := findV_err row y (evalV row x).2 h2
   simp only [clV, twoV, he, h2, ne_eq, not_false_eq_true, if_true]
  ·rename_i h1 h2
   have h2' : (evalV row x).2 = 0 := by simpa using h2
   rw [evalV_find row x h2', h2']
   split
   ·rename_i h3
    obtain ⟨g1, _⟩ := evalV_bad row y h3
    simp only [clV, twoV, g1, h3, ne_eq, not_false_eq_true, if_true]
   ·rename_i h3
    have h3' : (evalV row y).2 = 0 := by simpa using h3
    rw [evalV_find row y h3', h3']; rfl
theorem evalV_log (row : List Va) (k vk vn : Int) (vs tb nm : ByteArray) (s : Int) (x y : Ex) (hk : 16 ≤ k) : evalV row (.mk k vk vn vs tb nm s [x, y]) = if kidsV k ≠ 2 then (va0, 1) else if (evalV row x).2 ≠ 0 then (va0, (evalV row x).2) else (match logA k (evalV row x).1 0 with
 | some r => clV r
 | none => if (evalV row y).2 ≠ 0 then (va0, (evalV row y).2) else clV (logB k (evalV row x).1 (evalV row y).1 0)) := by
 rw [evalV_cl]
 simp only [findV, hk, if_true]
 by_cases h0 : kidsV k ≠ 2
 ·rw [if_pos h0, if_pos h0]; rfl
 rw [if_neg h0, if_neg h0]
 by_cases h2 : (evalV row x).2 = 0
 ·rw [evalV_find row x h2, h2, if_neg (by simp)]
  cases logA k (evalV row x).1 0 with
  | some r => rfl
  | none =>
    simp only
    by_cases h3 : (evalV row y).2 = 0
    ·rw [evalV_find row y h3, h3, if_neg (by simp)]
    ·obtain ⟨g1, _⟩ := evalV_bad row y h3
     rw [g1, if_pos h3]
     have he : ∀ b, (logB k (evalV row x).1 b (evalV row y).2).2 = (evalV row y).2 := fun b => by
      unfold logB
      repeat' split
      all_goals first | rfl | exact failV_err _ _ h3
     unfold clV
     rw [he, if_pos h3]
 ·obtain ⟨g1, _⟩ := evalV_bad row x h2
  rw [g1, if_pos h2]
  simp only [logA, h2, false_and, if_false, ne_eq, not_false_eq_true, true_or, if_true, clV]
end Go.Proofs.YtcnkmandddfdmaaGreat
namespace Go.Proofs.YtcnkmandddfdmaaGreat
open Go.RowKit
mutual
def rgE : Ex → Prop
 | .mk _ _ vn _ _ _ _ kids => i64R vn ∧ rgL kids
def rgL : List Ex → Prop
 | [] => True
 | x :: l => rgE x ∧ rgL l
end
def fine (r : Va × Int) : Prop := r.2 = 0 → okV r.1 = true ∧ i64R r.1.2.1
theorem fine_fail (c : Int) (h : c ≠ 0) : fine (failV c 0) := fun h0 => by simp [failV] at h0; exact absurd h0 h
theorem fine_err (v : Va) (c : Int) (h : c ≠ 0) : fine (v, c) := fun h0 => absurd h0 h
theorem fine_tr (b : Bool) : fine (trV b, 0) := fun _ => by
 cases b
 ·exact ⟨by simp [okV, trV], by decide⟩
 ·exact ⟨by simp [okV, trV], by decide⟩
theorem fine_va0 : fine (va0, 0) := fun _ => ⟨by simp [okV, va0], by decide⟩
theorem fine_num (n : Int) (h : i64R n) : fine ((1, n, emp), 0) := fun _ => ⟨by simp [okV], h⟩
theorem fine_cl (r : Va × Int) (h : fine r) : fine (clV r) := by
 unfold clV
 split
 ·rename_i h1; exact fine_err _ _ h1
 ·rename_i h1; exact fun _ => h (by simpa using h1)
theorem fine_rng (n : Int) : fine (rngV n) := by
 unfold rngV
 split
 ·rename_i h; exact fine_num n h
 ·exact fine_fail 35 (by decide)
theorem fine_numS (k a b : Int) (ha : i64R a) (hb : i64R b) : fine (numS k a b) := by
 unfold numS
 repeat' split
 all_goals first | exact fine_rng _ | exact fine_fail 36 (by decide) | skip
 refine fine_num _ ?_
 rename_i h0 _
 have h1 : (a.tmod b).natAbs < b.natAbs := by rw [Int.natAbs_tmod]; exact Nat.mod_lt _ (by omega)
 unfold i64R at *
 omega
theorem kids2 {k : Int} (h : ¬ kidsV k ≠ 2) : 5 ≤ k ∧ k ≤ 17 := by
 unfold kidsV at h
 split at h
 ·simp at h
 ·split at h
  ·simp at h
  ·split at h
   ·assumption
   ·simp at h
theorem evalV_fine (row : List Va) (hrow : ∀ v ∈ row, i64R v.2.1) : ∀ x : Ex, rgE x → fine (evalV row x)
 | .mk k vk vn vs tb nm s [], h => by
   rw [evalV_none]
   split
   ·exact fine_err _ _ (by decide)
   ·refine fine_cl _ ?_
    unfold leafV
    split
    ·exact fine_fail 32 (by decide)
    ·split
     ·rename_i h1; exact fun _ => ⟨h1.2, by simp only [rgE] at h; exact h.1⟩
     ·split
      ·rename_i h1
       refine fun _ => ⟨h1.2.2.2, ?_⟩
       have hl : s.toNat < row.length := by omega
       have : row.getD s.toNat va0 = row[s.toNat] := by simp [List.getD, hl]
       rw [this]; exact hrow _ (List.getElem_mem hl)
      ·exact fine_fail 1 (by decide)
 | .mk k vk vn vs tb nm s [x], h => by
   simp only [rgE, rgL] at h
   have ih := evalV_fine row hrow x h.2.1
   rw [evalV_one]
   split
   ·exact fine_err _ _ (by decide)
   ·split
    ·rename_i h1; exact fine_err _ _ h1
    ·rename_i h1
     have h2 := ih (by simpa using h1)
     refine fine_cl _ ?_
     unfold oneV
     split
     ·exact fine_tr _
     ·split
      ·exact fine_tr _
      ·split
       ·exact fun _ => h2
       ·split
        ·exact fine_tr _
        ·split
         ·exact fine_fail 33 (by decide)
         ·split
          ·exact fine_fail 35 (by decide)
          ·rename_i h3
           exact fine_num _ (by obtain ⟨_, h4, h5, h6⟩ := wI6 (0 - (evalV row x).1.2.1); exact ⟨h5, h6⟩)
 | .mk k vk vn vs tb nm s [x, y], h => by
   simp only [rgE, rgL] at h
   have ihx := evalV_fine row hrow x h.2.1
   have ihy := evalV_fine row hrow y h.2.2.1
   by_cases hk : 16 ≤ k
   ·rw [evalV_log _ _ _ _ _ _ _ _ _ _ hk]
    split
    ·exact fine_err _ _ (by decide)
    ·split
     ·rename_i h1; exact fine_err _ _ h1
     ·rename_i h1
      have hx := ihx (by simpa using h1)
      cases hl : logA k (evalV row x).1 0 with
      | some r =>
        refine fine_cl _ ?_
        unfold logA at hl
        split at hl
        ·simp only [Option.some.injEq] at hl; subst hl; exact fine_fail 33 (by decide)
        ·split at hl
         ·simp only [Option.some.injEq] at hl; subst hl; exact fun _ => hx
         ·simp at hl
      | none =>
        simp only
        split
        ·rename_i h2; exact fine_err _ _ h2
        ·rename_i h2
         have hy := ihy (by simpa using h2)
         refine fine_cl _ ?_
         unfold logB
         repeat' split
         all_goals first | exact fine_fail 33 (by decide) | exact fun _ => hx | exact fun _ => hy
   ·rw [evalV_two _ _ _ _ _ _ _ _ _ _ hk]
    split
    ·exact fine_err _ _ (by decide)
    ·rename_i h0
     have hkk := kids2 h0
     split
     ·rename_i h1; exact fine_err _ _ h1
     ·rename_i h1
      split
      ·rename_i h2; exact fine_err _ _ h2
      ·rename_i h2
       have hx := ihx (by simpa using h1)
       have hy := ihy (by simpa using h2)
       refine fine_cl _ ?_
       unfold twoV
       rw [if_neg (by simp)]
       repeat' split
       all_goals first
        | exact fine_fail 33 (by decide)
        | exact fine_tr _
        | exact fine_va0
        | (rw [numV_eq _ _ _ hx.2 hy.2]; exact fine_numS _ _ _ hx.2 hy.2)
 | .mk k vk vn vs tb nm s (x :: y :: z :: l), h => by
   have : evalV row (.mk k vk vn vs tb nm s (x :: y :: z :: l)) = clV (failV 1 0) := by rw [evalV_cl]; simp only [findV]
   rw [this]; exact fine_cl _ (fine_fail 1 (by decide))
end Go.Proofs.YtcnkmandddfdmaaGreat
namespace Go.Proofs.YtcnkmandddfdmaaGreat
open Go.RowKit
def tVo := aa wX <| aa wbu <| aa T2 <| aa T3 <| aa T9 T56
theorem sh1 : (2 : Int) ^ (min 1 IntKind.i64.bits) = 2 := nr (by decide)
theorem aokV (v : Va) (σ : St) : ACalls Tryz.prog 59 [vaA v] σ fun r s => s = σ ∧ r = boolV (okV v) := by
 refine ACalls.pureF (R := fun r => r = boolV (okV v)) ?_ rfl σ
 obtain ⟨k, n, t⟩ := v
 refine acalls_of cx_ok dr_ok Tryz.func59 (by kernel_rfl) rfl (nt := 44) (rs := [.tmp 2]) rfl rfl ?_
 simp only [vaA, vaC, List.map_cons, List.map_nil]
 repeat' first | ((with_reducible first | refine cs ?_ ?_ | refine ws ?_ ?_) <;> intro h <;> try simp only [h]) | simp only [↓wBA, tVo, convA, seval, binStr, sh1]
 all_goals refine ret_is (a := _) ?_ rfl rfl
 all_goals simp only [↓wBA, tVo, convA, seval]
 all_goals simp_all [wS, okV, emp]
def kidsB (k : Int) : Int := if k = 1 ∨ k = 2 then 0 else if k = 3 ∨ k = 4 ∨ k = 18 ∨ k = 19 then 1 else if 5 ≤ k ∧ k ≤ 17 then 2 else -1
theorem akidsB (k : Int) (σ : St) : ACalls Tryz.prog 58 [intV .i64 k] σ fun r s => s = σ ∧ r = intV .i64 (kidsB k) := by
 refine ACalls.pureF (R := fun r => r = intV .i64 (kidsB k)) ?_ rfl σ
 refine acalls_of cx_ok dr_ok Tryz.func58 (by kernel_rfl) rfl (nt := 23) (rs := [.tmp 2]) rfl rfl ?_
 repeat' first | ((with_reducible first | refine cs ?_ ?_ | refine ws ?_ ?_) <;> intro h <;> try simp only [h]) | simp only [↓wBA, tVo, convA, seval]
 all_goals refine ret_is (a := _) ?_ rfl rfl
 all_goals simp only [↓wBA, tVo, convA, seval]
 all_goals simp_all [wS, kidsB]
 all_goals grind
theorem akidsV (k : Int) (σ : St) : ACalls Tryz.prog 101 [intV .i64 k] σ fun r s => s = σ ∧ r = intV .i64 (kidsV k) := by
 refine ACalls.pureF (R := fun r => r = intV .i64 (kidsV k)) ?_ rfl σ
 refine acalls_of cx_ok dr_ok Tryz.func101 (by kernel_rfl) rfl (nt := 25) (rs := [.tmp 2]) rfl rfl ?_
 repeat' first | ((with_reducible first | refine cs ?_ ?_ | refine ws ?_ ?_) <;> intro h <;> try simp only [h]) | simp only [↓wBA, tVo, convA, seval]
 all_goals refine ret_is (a := _) ?_ rfl rfl
 all_goals simp only [↓wBA, tVo, convA, seval]
 all_goals simp_all [wS, kidsV]
 all_goals grind
def aggB (k : Int) : Bool := decide (20 ≤ k) && decide (k ≤ 23)
theorem aaggB (k : Int) (σ : St) : ACalls Tryz.prog 57 [intV .i64 k] σ fun r s => s = σ ∧ r = boolV (aggB k) := by
 refine ACalls.pureF (R := fun r => r = boolV (aggB k)) ?_ rfl σ
 refine acalls_of cx_ok dr_ok Tryz.func57 (by kernel_rfl) rfl (nt := 8) (rs := [.tmp 2]) rfl rfl ?_
 repeat' first | ((with_reducible first | refine cs ?_ ?_ | refine ws ?_ ?_) <;> intro h <;> try simp only [h]) | simp only [↓wBA, tVo, convA, seval]
 all_goals refine ret_is (a := _) ?_ rfl rfl
 all_goals simp only [↓wBA, tVo, convA, seval]
 all_goals simp_all [wS, aggB]
 all_goals grind
theorem atruth (b : Bool) (σ : St) : ACalls Tryz.prog 113 [boolV b] σ fun r s => s = σ ∧ r = vaA (trV b) := by
 refine ACalls.pureF (R := fun r => r = vaA (trV b)) ?_ rfl σ
 refine acalls_of cx_ok dr_ok Tryz.func113 (by kernel_rfl) rfl (nt := 5) (rs := [.cell 2 56]) rfl rfl ?_
 repeat' first | ((with_reducible first | refine cs ?_ ?_ | refine ws ?_ ?_) <;> intro h <;> try simp only [h]) | simp only [↓wBA, tVo, convA, seval]
 all_goals refine ret_is (a := _) ?_ rfl rfl
 all_goals simp only [↓wBA, tVo, convA, seval]
 all_goals simp_all [wS, vaA, vaC, trV, emp]
end Go.Proofs.YtcnkmandddfdmaaGreat
namespace Go.Proofs.YtcnkmandddfdmaaGreat
open Go.RowKit
theorem wrap_u64 {n : Int} (h1 : 0 ≤ n) (h2 : n ≤ 18446744073709551615) : IntKind.u64.wrap n = n := IntWalk.u64_in _ (by omega)
def absI (n : Int) : Int := if n < 0 then 0 - n else n
def sgnN (u : Int) (b : Bool) : Int × Bool := if b then (IntKind.i64.wrap (0 - IntKind.i64.wrap u), decide (u ≤ 9223372036854775808)) else (IntKind.i64.wrap u, decide (u ≤ 9223372036854775807))
def addN (a b : Int) : Int × Bool :=
 if (decide (a < 0) == decide (b < 0)) = true then (if absI a > IntKind.u64.wrap (9223372036854775808 - absI b) ∧ absI b > 0 ∧ absI a > 0 then (0, false) else sgnN (IntKind.u64.wrap (absI a + absI b)) (decide (a < 0)))
 else (IntKind.i64.wrap (a + b), true)
def mulN (a b : Int) : Int × Bool :=
 if absI b > 0 ∧ absI a > IntKind.u64.wrap ((9223372036854775808 : Int).tdiv (absI b)) then (0, false) else sgnN (IntKind.u64.wrap (absI a * absI b)) (decide (a < 0) != decide (b < 0))
theorem absI_r (n : Int) (h : i64R n) : 0 ≤ absI n ∧ absI n ≤ 9223372036854775808 := by
 unfold i64R at h; unfold absI; split <;> omega
theorem sgn_neg (u : Int) (h0 : 0 ≤ u) (h : u ≤ 9223372036854775808) : sgnN u true = (0 - u, true) := by
 unfold sgnN
 rw [if_pos rfl]
 refine Prod.ext ?_ (decide_eq_true h)
 show IntKind.i64.wrap (0 - IntKind.i64.wrap u) = 0 - u
 rw [IntKind.wrap_i64, IntKind.wrap_i64]; omega
theorem sgn_pos (u : Int) (h0 : 0 ≤ u) : (sgnN u false).2 = decide (u ≤ 9223372036854775807) ∧ (u ≤ 9223372036854775807 → (sgnN u false).1 = u) := by
 unfold sgnN
 refine ⟨rfl, fun h => ?_⟩
 show IntKind.i64.wrap u = u
 rw [IntKind.wrap_i64]; omega
def SayN (s : Int × Bool) (n : Int) : Prop := s.2 = decide (i64R n) ∧ (i64R n → s.1 = n)
theorem sgn_say (u : Int) (b : Bool) (n : Int) (h0 : 0 ≤ u) (h : u ≤ 9223372036854775808) (hn : n = if b then 0 - u else u) : SayN (sgnN u b) n := by
 cases b with
 | true =>
   rw [sgn_neg u h0 h]
   simp only [if_true] at hn
   subst hn
   exact ⟨(decide_eq_true (by unfold i64R; omega)).symm, fun _ => rfl⟩
 | false =>
   simp only [Bool.false_eq_true, if_false] at hn
   subst hn
   obtain ⟨h1, h2⟩ := sgn_pos n h0
   refine ⟨by rw [h1]; exact decide_eq_decide.2 (by unfold i64R; omega), fun hr => h2 (by unfold i64R at hr; omega)⟩
theorem addN_say (a b : Int) (ha : i64R a) (hb : i64R b) : SayN (addN a b) (a + b) := by
 have ha' := absI_r a ha
 have hb' := absI_r b hb
 unfold addN
 rw [beq_dec]
 by_cases hs : (a < 0 ↔ b < 0)
 ·rw [if_pos (decide_eq_true hs), wrap_u64 (n := 9223372036854775808 - absI b) (by omega) (by omega)]
  by_cases hc : absI a > 9223372036854775808 - absI b ∧ absI b > 0 ∧ absI a > 0
  ·rw [if_pos hc]
   have : ¬ i64R (a + b) := by
    unfold i64R; unfold absI at hc
    by_cases h1 : a < 0
    ·have h2 := hs.1 h1
     rw [if_pos h1, if_pos h2] at hc
     omega
    ·have h2 : ¬ b < 0 := fun h => h1 (hs.2 h)
     rw [if_neg h1, if_neg h2] at hc
     omega
   exact ⟨(decide_eq_false this).symm, fun h => absurd h this⟩
  ·rw [if_neg hc]
   have hle : absI a + absI b ≤ 9223372036854775808 := by omega
   rw [wrap_u64 (by omega) (by omega)]
   refine sgn_say _ _ _ (by omega) hle ?_
   unfold absI
   by_cases h1 : a < 0
   ·have h2 := hs.1 h1
    simp [h1, h2]; omega
   ·have h2 : ¬ b < 0 := fun h => h1 (hs.2 h)
    simp [h1, h2]
 ·rw [if_neg (by simpa using hs)]
  have hr : i64R (a + b) := by unfold i64R at *; omega
  exact ⟨(decide_eq_true hr).symm, fun _ => wIn _ hr⟩
theorem abs_mul (a b : Int) : a * b = if (decide (a < 0) != decide (b < 0)) = true then 0 - absI a * absI b else absI a * absI b := by
 unfold absI
 by_cases h1 : a < 0 <;> by_cases h2 : b < 0 <;> simp [h1, h2, Int.neg_mul, Int.mul_neg]
theorem mulN_say (a b : Int) (ha : i64R a) (hb : i64R b) : SayN (mulN a b) (a * b) := by
 obtain ⟨ha0, ha'⟩ := absI_r a ha
 obtain ⟨hb0, hb'⟩ := absI_r b hb
 have hab := abs_mul a b
 unfold mulN
 generalize absI a = u at *
 generalize absI b = v at *
 have hq0 : 0 ≤ (9223372036854775808 : Int).tdiv v := Int.tdiv_nonneg (by decide) hb0
 have hq1 : (9223372036854775808 : Int).tdiv v ≤ 9223372036854775808 := Int.tdiv_le_self _ (by decide)
 rw [wrap_u64 hq0 (by omega), Int.tdiv_eq_ediv_of_nonneg (by decide)]
 by_cases hc : v > 0 ∧ u > 9223372036854775808 / v
 ·rw [if_pos hc]
  obtain ⟨h1, h2⟩ := hc
  have h3 : 9223372036854775808 < u * v := (Int.ediv_lt_iff_lt_mul h1).1 h2
  have : ¬ i64R (a * b) := by
   rw [hab]; unfold i64R
   split <;> omega
  exact ⟨(decide_eq_false this).symm, fun h => absurd h this⟩
 ·rw [if_neg hc]
  have h0 : 0 ≤ u * v := Int.mul_nonneg ha0 hb0
  have h3 : u * v ≤ 9223372036854775808 := by
   by_cases hv : v > 0
   ·have : u ≤ 9223372036854775808 / v := by omega
    exact (Int.le_ediv_iff_mul_le hv).1 this
   ·have : v = 0 := by omega
    subst this; simp
  rw [wrap_u64 h0 (by omega)]
  exact sgn_say _ _ _ h0 h3 hab
theorem abs_div (a b : Int) : a.tdiv b = if (decide (a < 0) != decide (b < 0)) = true then 0 - (absI a).tdiv (absI b) else (absI a).tdiv (absI b) := by
 unfold absI
 by_cases h1 : a < 0 <;> by_cases h2 : b < 0 <;> simp [h1, h2, Int.neg_tdiv, Int.tdiv_neg]
theorem abs_mod (a b : Int) : a.tmod b = if decide (a < 0) = true then 0 - (absI a).tmod (absI b) else (absI a).tmod (absI b) := by
 unfold absI
 by_cases h1 : a < 0 <;> by_cases h2 : b < 0 <;> simp [h1, h2, Int.neg_tmod, Int.tmod_neg]
theorem divN_say (a b : Int) (ha : i64R a) (hb : i64R b) (h0 : b ≠ 0) : SayN (sgnN (IntKind.u64.wrap ((absI a).tdiv (absI b))) (decide (a < 0) != decide (b < 0))) (a.tdiv b) := by
 obtain ⟨ha0, ha'⟩ := absI_r a ha
 obtain ⟨hb0, hb'⟩ := absI_r b hb
 have hq0 : 0 ≤ (absI a).tdiv (absI b) := Int.tdiv_nonneg ha0 hb0
 have hq1 : (absI a).tdiv (absI b) ≤ absI a := Int.tdiv_le_self _ ha0
 rw [wrap_u64 hq0 (by omega)]
 exact sgn_say _ _ _ hq0 (by omega) (abs_div a b)
theorem modN_say (a b : Int) (ha : i64R a) (hb : i64R b) (h0 : b ≠ 0) : (sgnN ((absI a).tmod (absI b)) (decide (a < 0))).1 = a.tmod b := by
 obtain ⟨ha0, ha'⟩ := absI_r a ha
 obtain ⟨hb0, hb'⟩ := absI_r b hb
 have hbp : 0 < absI b := by unfold absI; split <;> omega
 have hm0 : 0 ≤ (absI a).tmod (absI b) := Int.tmod_nonneg _ ha0
 have hm1 : (absI a).tmod (absI b) < absI b := Int.tmod_lt_of_pos _ hbp
 obtain ⟨_, h2⟩ := sgn_say _ _ _ hm0 (by omega) (abs_mod a b)
 refine h2 ?_
 rw [abs_mod]
 unfold i64R
 split <;> omega
end Go.Proofs.YtcnkmandddfdmaaGreat
namespace Go.Proofs.YtcnkmandddfdmaaGreat
open Go.RowKit
def tEn := aa wX <| aa wbu <| aa T2 <| aa T3 <| aa T4 <| aa T56 T165
theorem asizeR (n : Int) (h : i64R n) (σ : St) : ACalls Tryz.prog 110 [.p (.v (.int .i64 n))] σ fun r s => s = σ ∧ r = .p (.v (.int .u64 (absI n))) := by
 refine ACalls.pureF (R := fun r => r = .p (.v (.int .u64 (absI n)))) ?_ rfl σ
 unfold absI
 obtain ⟨h1, h2⟩ := h
 refine acalls_of cx_ok dr_ok Tryz.func110 (by kernel_rfl) rfl (nt := 11) (rs := [.tmp 2]) rfl rfl ?_
 by_cases hn : n < 0
 ·have d : decide (n < 0) = true := by simpa using hn
  have w1 : IntKind.i64.wrap (n + 1) = n + 1 := wrap_i64 (by omega) (by omega)
  have w2 : IntKind.i64.wrap (0 - (n + 1)) = 0 - (n + 1) := wrap_i64 (by omega) (by omega)
  have w3 : IntKind.u64.wrap (0 - (n + 1)) = 0 - (n + 1) := wrap_u64 (by omega) (by omega)
  have w4 : IntKind.u64.wrap (0 - (n + 1) + 1) = 0 - n := by rw [wrap_u64 (by omega) (by omega)]; omega
  rw [if_pos hn]
  repeat' first | ((with_reducible first | refine cs ?_ ?_ | refine ws ?_ ?_) <;> intro h <;> try simp only [h]) | simp only [↓wBA, tEn, convA, seval, d, w1, w2, w3, w4]
  all_goals refine ret_is (a := _) ?_ rfl rfl
  all_goals simp only [↓wBA, tEn, convA, seval]
  all_goals simp_all [wS]
 ·have d : decide (n < 0) = false := by simp; omega
  have w1 : IntKind.u64.wrap n = n := wrap_u64 (by omega) (by omega)
  rw [if_neg hn]
  repeat' first | ((with_reducible first | refine cs ?_ ?_ | refine ws ?_ ?_) <;> intro h <;> try simp only [h]) | simp only [↓wBA, tEn, convA, seval, d, w1]
  all_goals refine ret_is (a := _) ?_ rfl rfl
  all_goals simp only [↓wBA, tEn, convA, seval]
  all_goals simp_all [wS]
theorem asigned (u : Int) (b : Bool) (σ : St) : ACalls Tryz.prog 109 [.p (.v (.int .u64 u)), boolV b] σ fun r s => s = σ ∧ r = .tup [intV .i64 (sgnN u b).1, boolV (sgnN u b).2] := by
 refine ACalls.pureF (R := fun r => r = .tup [intV .i64 (sgnN u b).1, boolV (sgnN u b).2]) ?_ rfl σ
 unfold sgnN
 refine acalls_of cx_ok dr_ok Tryz.func109 (by kernel_rfl) rfl (nt := 14) (rs := [.tmp 4, .tmp 5]) rfl rfl ?_
 cases b
 ·skip
  repeat' first | ((with_reducible first | refine cs ?_ ?_ | refine ws ?_ ?_) <;> intro h <;> try simp only [h]) | simp only [↓wBA, tEn, convA, seval]
  all_goals refine ret_is (a := _) ?_ rfl rfl
  all_goals simp only [↓wBA, tEn, convA, seval]
  all_goals simp_all [wS]
 ·skip
  repeat' first | ((with_reducible first | refine cs ?_ ?_ | refine ws ?_ ?_) <;> intro h <;> try simp only [h]) | simp only [↓wBA, tEn, convA, seval]
  all_goals refine ret_is (a := _) ?_ rfl rfl
  all_goals simp only [↓wBA, tEn, convA, seval]
  all_goals simp_all [wS]
theorem aaddN (a b : Int) (ha : i64R a) (hb : i64R b) (σ : St) : ACalls Tryz.prog 107 [.p (.v (.int .i64 a)), .p (.v (.int .i64 b))] σ fun r s => s = σ ∧ r = .tup [intV .i64 (addN a b).1, boolV (addN a b).2] := by
 refine ACalls.pureF (R := fun r => r = .tup [intV .i64 (addN a b).1, boolV (addN a b).2]) ?_ rfl σ
 have h1 := asizeR a ha
 have h2 := asizeR b hb
 have h3 := fun u => asigned u (decide (a < 0))
 unfold addN
 generalize absI a = u at *
 generalize absI b = v at *
 generalize hx : decide (a < 0) = x at *
 generalize hy : decide (b < 0) = y at *
 refine acalls_of cx_ok dr_ok Tryz.func107 (by kernel_rfl) rfl (nt := 38) (rs := [.tmp 4, .tmp 5]) rfl rfl ?_
 repeat' first | ((with_reducible first | refine cs ?_ ?_ | refine ws ?_ ?_) <;> intro h <;> try simp only [h]) | simp only [↓wBA, tEn, convA, seval, hx, hy] | ((with_reducible show ACalls _ _ _ _ _); first | refine (h1 _).eq ?_ | refine (h2 _).eq ?_ | refine (h3 _ _).eq ?_)
 all_goals refine ret_is (a := _) ?_ rfl rfl
 all_goals simp only [↓wBA, tEn, convA, seval]
 all_goals simp_all [wS]
 all_goals (try (rw [if_neg (by omega)]; exact ⟨rfl, rfl⟩))
theorem amulN (a b : Int) (ha : i64R a) (hb : i64R b) (σ : St) : ACalls Tryz.prog 108 [.p (.v (.int .i64 a)), .p (.v (.int .i64 b))] σ fun r s => s = σ ∧ r = .tup [intV .i64 (mulN a b).1, boolV (mulN a b).2] := by
 refine ACalls.pureF (R := fun r => r = .tup [intV .i64 (mulN a b).1, boolV (mulN a b).2]) ?_ rfl σ
 have h1 := asizeR a ha
 have h2 := asizeR b hb
 have h3 := fun u => asigned u (decide (a < 0) != decide (b < 0))
 have h3' : (decide (a < 0) != decide (b < 0)) = !(decide (a < 0) == decide (b < 0)) := rfl
 unfold mulN
 generalize absI a = u at *
 generalize absI b = v at *
 rw [h3'] at h3 ⊢
 generalize hx : decide (a < 0) = x at *
 generalize hy : decide (b < 0) = y at *
 refine acalls_of cx_ok dr_ok Tryz.func108 (by kernel_rfl) rfl (nt := 29) (rs := [.tmp 4, .tmp 5]) rfl rfl ?_
 by_cases hv : v > 0
 ·have hv0 : (v = 0) = False := eq_false (by omega)
  have hd : decide (v > 0) = true := by simpa using hv
  repeat' first | ((with_reducible first | refine cs ?_ ?_ | refine ws ?_ ?_) <;> intro h <;> try simp only [h]) | simp only [↓wBA, tEn, convA, seval, hx, hy, hv0, hd] | ((with_reducible show ACalls _ _ _ _ _); first | refine (h1 _).eq ?_ | refine (h2 _).eq ?_ | refine (h3 _ _).eq ?_)
  all_goals refine ret_is (a := _) ?_ rfl rfl
  all_goals simp only [↓wBA, tEn, convA, seval]
  all_goals simp_all [wS]
  all_goals (try (rw [if_neg (by omega)]; exact ⟨rfl, rfl⟩))
 ·have hd : decide (v > 0) = false := by simpa using hv
  repeat' first | ((with_reducible first | refine cs ?_ ?_ | refine ws ?_ ?_) <;> intro h <;> try simp only [h]) | simp only [↓wBA, tEn, convA, seval, hx, hy, hd] | ((with_reducible show ACalls _ _ _ _ _); first | refine (h1 _).eq ?_ | refine (h2 _).eq ?_ | refine (h3 _ _).eq ?_)
  all_goals refine ret_is (a := _) ?_ rfl rfl
  all_goals simp only [↓wBA, tEn, convA, seval]
  all_goals simp_all [wS]
  all_goals (try (rw [if_neg (by omega)]; exact ⟨rfl, rfl⟩))
theorem rng_yes (n : Int) (h : i64R n) : rngV n = ((1, n, emp), 0) := if_pos h
theorem rng_no (n : Int) (h : ¬ i64R n) : rngV n = (va0, 35) := if_neg h
theorem anumber (k a b : Int) (hk : k = 5 ∨ k = 6 ∨ k = 7 ∨ k = 8 ∨ k = 9) (ha : i64R a) (hb : i64R b) (σ : St) : ACalls Tryz.prog 85 [.p (.v (.int .i64 k)), .p (.v (.int .i64 a)), .p (.v (.int .i64 b))] σ fun r s => s = σ ∧ r = .tup [vaA (numS k a b).1, intV .i64 (numS k a b).2] := by
 refine ACalls.pureF (R := fun r => r = .tup [vaA (numS k a b).1, intV .i64 (numS k a b).2]) ?_ rfl σ
 have hA := aaddN a b ha hb
 have hM := amulN a b ha hb
 have hs1 := asizeR a ha
 have hs2 := asizeR b hb
 have hsd := fun u => asigned u (decide (a < 0) != decide (b < 0))
 have hsm := fun u => asigned u (decide (a < 0))
 refine acalls_of cx_ok dr_ok Tryz.func85 (by kernel_rfl) rfl (nt := 82) (rs := [.cell 6 56, .tmp 7]) rfl rfl ?_
 rcases hk with rfl | rfl | rfl | rfl | rfl
 ·obtain ⟨h1, h2⟩ := addN_say a b ha hb
  simp only [numS, if_true]
  generalize addN a b = s at *
  obtain ⟨n, ok⟩ := s
  simp only at h1 h2 hA
  by_cases hr : i64R (a + b)
  ·have hn := h2 hr
   rw [decide_eq_true hr] at h1
   subst h1 hn
   simp only [rng_yes _ hr]
   repeat' first | ((with_reducible first | refine cs ?_ ?_ | refine ws ?_ ?_) <;> intro h <;> try simp only [h]) | simp only [↓wBA, tEn, convA, seval, Int.reduceBEq] | ((with_reducible show ACalls _ _ _ _ _); refine (hA _).eq ?_)
   all_goals refine ret_is (a := _) ?_ rfl rfl
   all_goals simp only [↓wBA, tEn, convA, seval]
   all_goals simp_all [wS, vaA, vaC, emp]
  ·rw [decide_eq_false hr] at h1
   subst h1
   simp only [rng_no _ hr]
   repeat' first | ((with_reducible first | refine cs ?_ ?_ | refine ws ?_ ?_) <;> intro h <;> try simp only [h]) | simp only [↓wBA, tEn, convA, seval, Int.reduceBEq] | ((with_reducible show ACalls _ _ _ _ _); refine (hA _).eq ?_)
   all_goals refine ret_is (a := _) ?_ rfl rfl
   all_goals simp only [↓wBA, tEn, convA, seval]
   all_goals simp_all [wS, vaA, vaC, va0, emp]
 ·simp only [numS, Int.reduceEq, if_true, if_false]
  by_cases hm : b = -9223372036854775808
  ·subst hm
   by_cases ha0 : a < 0
   ·have hr : i64R (a - -9223372036854775808) := by unfold i64R at *; omega
    have d : decide (a < 0) = true := decide_eq_true ha0
    have w := wIn _ hr
    simp only [rng_yes _ hr]
    repeat' first | ((with_reducible first | refine cs ?_ ?_ | refine ws ?_ ?_) <;> intro h <;> try simp only [h]) | simp only [↓wBA, tEn, convA, seval, Int.reduceBEq, d, w]
    all_goals refine ret_is (a := _) ?_ rfl rfl
    all_goals simp only [↓wBA, tEn, convA, seval]
    all_goals simp_all [wS, vaA, vaC, emp]
   ·have hr : ¬ i64R (a - -9223372036854775808) := by unfold i64R at *; omega
    have d : decide (a < 0) = false := decide_eq_false ha0
    simp only [rng_no _ hr]
    repeat' first | ((with_reducible first | refine cs ?_ ?_ | refine ws ?_ ?_) <;> intro h <;> try simp only [h]) | simp only [↓wBA, tEn, convA, seval, Int.reduceBEq, d]
    all_goals refine ret_is (a := _) ?_ rfl rfl
    all_goals simp only [↓wBA, tEn, convA, seval]
    all_goals simp_all [wS, vaA, vaC, va0, emp]
  ·have hbm : (b == -9223372036854775808) = false := by simpa using hm
   have hb2 : i64R (0 - b) := by unfold i64R at *; omega
   have w : IntKind.i64.wrap (0 - b) = 0 - b := wIn _ hb2
   have hA2 := aaddN a (0 - b) ha hb2
   obtain ⟨h1, h2⟩ := addN_say a (0 - b) ha hb2
   have he : a + (0 - b) = a - b := by omega
   rw [he] at h1 h2
   generalize addN a (0 - b) = s at *
   obtain ⟨n, ok⟩ := s
   simp only at h1 h2 hA2
   by_cases hr : i64R (a - b)
   ·have hn := h2 hr
    rw [decide_eq_true hr] at h1
    subst h1 hn
    simp only [rng_yes _ hr]
    repeat' first | ((with_reducible first | refine cs ?_ ?_ | refine ws ?_ ?_) <;> intro h <;> try simp only [h]) | simp only [↓wBA, tEn, convA, seval, Int.reduceBEq, hbm, w] | ((with_reducible show ACalls _ _ _ _ _); refine (hA2 _).eq ?_)
    all_goals refine ret_is (a := _) ?_ rfl rfl
    all_goals simp only [↓wBA, tEn, convA, seval]
    all_goals simp_all [wS, vaA, vaC, emp]
   ·rw [decide_eq_false hr] at h1
    subst h1
    simp only [rng_no _ hr]
    repeat' first | ((with_reducible first | refine cs ?_ ?_ | refine ws ?_ ?_) <;> intro h <;> try simp only [h]) | simp only [↓wBA, tEn, convA, seval, Int.reduceBEq, hbm, w] | ((with_reducible show ACalls _ _ _ _ _); refine (hA2 _).eq ?_)
    all_goals refine ret_is (a := _) ?_ rfl rfl
    all_goals simp only [↓wBA, tEn, convA, seval]
    all_goals simp_all [wS, vaA, vaC, va0, emp]
 ·obtain ⟨h1, h2⟩ := mulN_say a b ha hb
  simp only [numS, Int.reduceEq, if_true, if_false]
  generalize mulN a b = s at *
  obtain ⟨n, ok⟩ := s
  simp only at h1 h2 hM
  by_cases hr : i64R (a * b)
  ·have hn := h2 hr
   rw [decide_eq_true hr] at h1
   subst h1 hn
   simp only [rng_yes _ hr]
   repeat' first | ((with_reducible first | refine cs ?_ ?_ | refine ws ?_ ?_) <;> intro h <;> try simp only [h]) | simp only [↓wBA, tEn, convA, seval, Int.reduceBEq] | ((with_reducible show ACalls _ _ _ _ _); refine (hM _).eq ?_)
   all_goals refine ret_is (a := _) ?_ rfl rfl
   all_goals simp only [↓wBA, tEn, convA, seval]
   all_goals simp_all [wS, vaA, vaC, emp]
  ·rw [decide_eq_false hr] at h1
   subst h1
   simp only [rng_no _ hr]
   repeat' first | ((with_reducible first | refine cs ?_ ?_ | refine ws ?_ ?_) <;> intro h <;> try simp only [h]) | simp only [↓wBA, tEn, convA, seval, Int.reduceBEq] | ((with_reducible show ACalls _ _ _ _ _); refine (hM _).eq ?_)
   all_goals refine ret_is (a := _) ?_ rfl rfl
   all_goals simp only [↓wBA, tEn, convA, seval]
   all_goals simp_all [wS, vaA, vaC, va0, emp]
 ·simp only [numS, Int.reduceEq, if_true, if_false]
  by_cases h0 : b = 0
  ·have hb0 : (b == 0) = true := by simpa using h0
   simp only [h0, if_true, failV]
   rw [h0] at hb0
   subst h0
   repeat' first | ((with_reducible first | refine cs ?_ ?_ | refine ws ?_ ?_) <;> intro h <;> try simp only [h]) | simp only [↓wBA, tEn, convA, seval, Int.reduceBEq, beq_self_eq_true]
   all_goals refine ret_is (a := _) ?_ rfl rfl
   all_goals simp only [↓wBA, tEn, convA, seval]
   all_goals simp_all [wS, vaA, vaC, va0, emp]
  ·have hb0 : (b == 0) = false := by simpa using h0
   have hv : absI b ≠ 0 := by unfold absI; split <;> omega
   have hv0 : (absI b = 0) = False := eq_false hv
   have hneg : (decide (a < 0) != decide (b < 0)) = !(decide (a < 0) == decide (b < 0)) := rfl
   have hD := hsd (IntKind.u64.wrap ((absI a).tdiv (absI b)))
   obtain ⟨h1, h2⟩ := divN_say a b ha hb h0
   simp only [h0, if_false]
   rw [hneg] at hD h1 h2
   generalize hS : sgnN (IntKind.u64.wrap ((absI a).tdiv (absI b))) (!(decide (a < 0) == decide (b < 0))) = s at *
   obtain ⟨n, ok⟩ := s
   simp only at h1 h2 hD
   by_cases hr : i64R (a.tdiv b)
   ·have hn := h2 hr
    rw [decide_eq_true hr] at h1
    subst h1
    rw [rng_yes _ hr, ← hn]
    repeat' first | ((with_reducible first | refine cs ?_ ?_ | refine ws ?_ ?_) <;> intro h <;> try simp only [h]) | simp only [↓wBA, tEn, convA, seval, Int.reduceBEq, hb0, hv0] | ((with_reducible show ACalls _ _ _ _ _); first | refine (hs1 _).eq ?_ | refine (hs2 _).eq ?_ | refine (hD _).eq ?_)
    all_goals refine ret_is (a := _) ?_ rfl rfl
    all_goals simp only [↓wBA, tEn, convA, seval]
    all_goals simp_all [wS, vaA, vaC, emp]
   ·rw [decide_eq_false hr] at h1
    subst h1
    rw [rng_no _ hr]
    repeat' first | ((with_reducible first | refine cs ?_ ?_ | refine ws ?_ ?_) <;> intro h <;> try simp only [h]) | simp only [↓wBA, tEn, convA, seval, Int.reduceBEq, hb0, hv0] | ((with_reducible show ACalls _ _ _ _ _); first | refine (hs1 _).eq ?_ | refine (hs2 _).eq ?_ | refine (hD _).eq ?_)
    all_goals refine ret_is (a := _) ?_ rfl rfl
    all_goals simp only [↓wBA, tEn, convA, seval]
    all_goals simp_all [wS, vaA, vaC, va0, emp]
 ·simp only [numS, Int.reduceEq, if_true, if_false]
  by_cases h0 : b = 0
  ·have hb0 : (b == 0) = true := by simpa using h0
   simp only [h0, if_true, failV]
   rw [h0] at hb0
   subst h0
   repeat' first | ((with_reducible first | refine cs ?_ ?_ | refine ws ?_ ?_) <;> intro h <;> try simp only [h]) | simp only [↓wBA, tEn, convA, seval, Int.reduceBEq, beq_self_eq_true]
   all_goals refine ret_is (a := _) ?_ rfl rfl
   all_goals simp only [↓wBA, tEn, convA, seval]
   all_goals simp_all [wS, vaA, vaC, va0, emp]
  ·have hb0 : (b == 0) = false := by simpa using h0
   have hv : absI b ≠ 0 := by unfold absI; split <;> omega
   have hv0 : (absI b = 0) = False := eq_false hv
   have hneg : (decide (a < 0) != decide (b < 0)) = !(decide (a < 0) == decide (b < 0)) := rfl
   have hD := hsd (IntKind.u64.wrap ((absI a).tdiv (absI b)))
   obtain ⟨h1, h2⟩ := divN_say a b ha hb h0
   simp only [h0, if_false]
   have hE := hsm ((absI a).tmod (absI b))
   have hm := modN_say a b ha hb h0
   rw [hneg] at hD
   generalize sgnN (IntKind.u64.wrap ((absI a).tdiv (absI b))) (!(decide (a < 0) == decide (b < 0))) = s at hD
   obtain ⟨n, ok⟩ := s
   generalize sgnN ((absI a).tmod (absI b)) (decide (a < 0)) = s2 at hE hm
   obtain ⟨n2, ok2⟩ := s2
   simp only at hD hE hm
   rw [← hm]
   repeat' first | ((with_reducible first | refine cs ?_ ?_ | refine ws ?_ ?_) <;> intro h <;> try simp only [h]) | simp only [↓wBA, tEn, convA, seval, Int.reduceBEq, hb0, hv0] | ((with_reducible show ACalls _ _ _ _ _); first | refine (hs1 _).eq ?_ | refine (hs2 _).eq ?_ | refine (hD _).eq ?_ | refine (hE _).eq ?_)
   all_goals refine ret_is (a := _) ?_ rfl rfl
   all_goals simp only [↓wBA, tEn, convA, seval]
   all_goals simp_all [wS, vaA, vaC, emp]
end Go.Proofs.YtcnkmandddfdmaaGreat
