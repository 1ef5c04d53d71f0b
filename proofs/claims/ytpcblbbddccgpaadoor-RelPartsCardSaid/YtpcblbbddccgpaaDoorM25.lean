/- Rows in groups by a text: a map of slices that are appended to. -/
import Derived.Test.YtpcblbbddccgpaaDoorM20
set_option linter.unusedSimpArgs false
set_option linter.unusedVariables false
set_option linter.defProp false
set_option maxRecDepth 100000
set_option maxHeartbeats 32000000
namespace Go.Proofs.YtpcblbbddccgpaaDoor
open Go.RowKit Go.MapKept
abbrev Gr := List (ByteArray × List (List Va))
def addG (k : ByteArray) (r : List Va) : Gr → Gr
 | [] => [(k, [r])]
 | (k', l) :: gs => if k' = k then (k', l ++ [r]) :: gs else (k', l) :: addG k r gs
def findG (k : ByteArray) : Gr → Option (Nat × List (List Va))
 | [] => none
 | (k', l) :: gs => if k' = k then some (0, l) else (findG k gs).map fun x => (x.1 + 1, x.2)
def esG (b : Nat) : Gr → List (Value × AV)
 | [] => []
 | (k, l) :: gs => (.string k, .own (b + 1) 1 (enVV l)) :: esG (b + 2) gs
def rsG (E : Nat) : Gr → St
 | [] => []
 | (k, l) :: gs => none :: some (.right E (l.length * 1)) :: rsG E gs
theorem rsG_len (E : Nat) : ∀ gs : Gr, (rsG E gs).length = 2 * gs.length
 | [] => rfl
 | (k, l) :: gs => by simp [rsG, rsG_len E gs]; omega
theorem esG_len : ∀ (gs : Gr) (b : Nat), (esG b gs).length = gs.length
 | [], b => rfl
 | (k, l) :: gs, b => by simp [esG, esG_len gs]
theorem findMK_G (k : ByteArray) : ∀ (gs : Gr) (b i : Nat), findMK .string (.string k) (esG b gs) i = some ((findG k gs).map fun x => (i + x.1, .own (2 * x.1 + 1 + b) 1 (enVV x.2)))
 | [], b, i => rfl
 | (k', l) :: gs, b, i => by
   simp only [esG, findMK, Instr.sameNow, findG]
   by_cases h : k' = k
   ·subst h
    have : (k' == k') = true := (bytes_beq k' k').2 rfl
    simp [this]; omega
   ·have hb : (k == k') = false := by
     cases hh : (k == k') with
     | false => rfl
     | true => rw [bytes_beq] at hh; exact (h hh.symm).elim
    rw [hb, findMK_G k gs (b + 2) (i + 1), if_neg h]
    cases findG k gs with
    | none => rfl
    | some x => simp only [Option.map_some, show i + 1 + x.1 = i + (x.1 + 1) by omega, show 2 * x.1 + 1 + (b + 2) = 2 * (x.1 + 1) + 1 + b by omega]
theorem findG_right (E : Nat) (k : ByteArray) : ∀ (gs : Gr) (j : Nat) (l : List (List Va)), findG k gs = some (j, l) → (rsG E gs)[2 * j + 1]? = some (some (.right E (l.length * 1)))
 | [], j, l, h => by simp [findG] at h
 | (k', l') :: gs, j, l, h => by
   simp only [findG] at h
   split at h
   ·simp only [Option.some.injEq, Prod.mk.injEq] at h; obtain ⟨rfl, rfl⟩ := h; rfl
   ·cases hf : findG k gs with
    | none => rw [hf] at h; simp at h
    | some x =>
      rw [hf] at h; simp at h
      obtain ⟨rfl, rfl⟩ := h
      rw [show 2 * (x.1 + 1) + 1 = (2 * x.1 + 1) + 1 + 1 by omega]
      simp only [rsG, List.getElem?_cons_succ]
      exact findG_right E k gs x.1 x.2 hf
theorem addG_old (E : Nat) (k : ByteArray) (r : List Va) : ∀ (gs : Gr) (b j : Nat) (l : List (List Va)), findG k gs = some (j, l) →
 esG b (addG k r gs) = (esG b gs).set j (.string k, .own (2 * j + 1 + b) 1 (enVV (l ++ [r]))) ∧ rsG E (addG k r gs) = (rsG E gs).set (2 * j + 1) (some (.right E ((l ++ [r]).length * 1)))
 | [], b, j, l, h => by simp [findG] at h
 | (k', l') :: gs, b, j, l, h => by
   simp only [findG] at h
   split at h
   ·rename_i hk
    simp only [Option.some.injEq, Prod.mk.injEq] at h; obtain ⟨rfl, rfl⟩ := h
    simp only [addG, hk, if_true, esG, rsG, List.set_cons_zero, Nat.mul_zero, Nat.zero_add, List.set_cons_succ]
    exact ⟨by rw [show 1 + b = b + 1 by omega], trivial⟩
   ·rename_i hk
    cases hf : findG k gs with
    | none => rw [hf] at h; simp at h
    | some x =>
      rw [hf] at h; simp at h
      obtain ⟨rfl, rfl⟩ := h
      obtain ⟨h1, h2⟩ := addG_old E k r gs (b + 2) x.1 x.2 hf
      simp only [addG, hk, if_false, esG, rsG, h1, h2]
      refine ⟨?_, ?_⟩
      ·rw [List.set_cons_succ, show 2 * (x.1 + 1) + 1 + b = 2 * x.1 + 1 + (b + 2) by omega]
      ·rw [show 2 * (x.1 + 1) + 1 = (2 * x.1 + 1) + 1 + 1 by omega]; rfl
theorem addG_new (E : Nat) (k : ByteArray) (r : List Va) : ∀ (gs : Gr) (b : Nat), findG k gs = none →
 esG b (addG k r gs) = esG b gs ++ [(.string k, .own (2 * gs.length + 1 + b) 1 (enVV [r]))] ∧ rsG E (addG k r gs) = rsG E gs ++ [none, some (.right E 1)]
 | [], b, h => by simp [addG, esG, rsG]; omega
 | (k', l') :: gs, b, h => by
   simp only [findG] at h
   split at h
   ·simp at h
   ·rename_i hk
    have hf : findG k gs = none := by cases hf : findG k gs with
     | none => rfl
     | some x => rw [hf] at h; simp at h
    obtain ⟨h1, h2⟩ := addG_new E k r gs (b + 2) hf
    simp only [addG, hk, if_false, esG, rsG, h1, h2, List.length_cons, List.cons_append]
    rw [show 2 * (gs.length + 1) + 1 + b = 2 * gs.length + 1 + (b + 2) by omega]
    exact ⟨rfl, trivial⟩
def contG (k : ByteArray) (gs : Gr) : List (List Va) := match findG k gs with
 | none => []
 | some x => x.2
theorem contG_cons (k k' : ByteArray) (l : List (List Va)) (gs : Gr) : contG k ((k', l) :: gs) = if k' = k then l else contG k gs := by
 simp only [contG, findG]
 by_cases h : k' = k
 ·simp only [h, if_true]
 ·simp only [h, if_false]
  cases findG k gs <;> rfl
theorem contG_add (k k' : ByteArray) (r : List Va) : ∀ gs : Gr, contG k (addG k' r gs) = if k' = k then contG k gs ++ [r] else contG k gs
 | [] => by
   simp only [addG, contG_cons]
   split <;> simp [contG, findG]
 | (k'', l) :: gs => by
   simp only [addG]
   split
   ·rename_i h; subst h
    simp only [contG_cons]
    split <;> rfl
   ·rename_i h
    simp only [contG_cons, contG_add k k' r gs]
    by_cases h1 : k'' = k
    ·subst h1
     have : ¬ k' = k'' := fun e => h e.symm
     simp [this]
    ·simp [h1]
def allG (kf : List Va → ByteArray) (rows : List (List Va)) : Gr := rows.foldl (fun gs r => addG (kf r) r gs) []
theorem contG_fold (kf : List Va → ByteArray) (k : ByteArray) : ∀ (rows : List (List Va)) (gs : Gr), contG k (rows.foldl (fun gs r => addG (kf r) r gs) gs) = contG k gs ++ rows.filter (fun r => decide (kf r = k))
 | [], gs => by simp
 | r :: rows, gs => by
   rw [List.foldl_cons, contG_fold kf k rows, contG_add, List.filter_cons]
   by_cases h : kf r = k <;> simp [h]
theorem contG_all (kf : List Va → ByteArray) (k : ByteArray) (rows : List (List Va)) : contG k (allG kf rows) = rows.filter (fun r => decide (kf r = k)) := by
 rw [allG, contG_fold]; rfl
theorem addG_len (k : ByteArray) (r : List Va) : ∀ gs : Gr, (addG k r gs).length ≤ gs.length + 1 ∧ ∀ x ∈ addG k r gs, ∀ q, (∀ y ∈ gs, y.2.length ≤ q) → x.2.length ≤ q + 1
 | [] => by simp [addG]
 | (k', l) :: gs => by
   simp only [addG]
   split
   ·refine ⟨by simp, fun x hx q hq => ?_⟩
    rcases List.mem_cons.1 hx with rfl | hx
    ·have := hq (k', l) (by simp); simp at this ⊢; omega
    ·have := hq x (by simp [hx]); omega
   ·obtain ⟨h1, h2⟩ := addG_len k r gs
    refine ⟨by simp; omega, fun x hx q hq => ?_⟩
    rcases List.mem_cons.1 hx with rfl | hx
    ·have := hq (k', l) (by simp); simp at this ⊢; omega
    ·exact h2 x hx q fun y hy => hq y (by simp [hy])
theorem findG_mem (k : ByteArray) : ∀ (gs : Gr) (j : Nat) (l : List (List Va)), findG k gs = some (j, l) → j < gs.length ∧ ∃ x ∈ gs, x.2 = l
 | [], j, l, h => by simp [findG] at h
 | (k', l') :: gs, j, l, h => by
   simp only [findG] at h
   split at h
   ·simp only [Option.some.injEq, Prod.mk.injEq] at h; obtain ⟨rfl, rfl⟩ := h; exact ⟨by simp, (k', l'), by simp, rfl⟩
   ·cases hf : findG k gs with
    | none => rw [hf] at h; simp at h
    | some x =>
      rw [hf] at h; simp at h
      obtain ⟨rfl, rfl⟩ := h
      obtain ⟨h1, y, h2, h3⟩ := findG_mem k gs x.1 x.2 hf
      exact ⟨by simp; omega, y, by simp [h2], h3⟩
theorem allG_len (kf : List Va → ByteArray) (rows : List (List Va)) : ∀ (i : Nat), (allG kf (rows.take i)).length ≤ i ∧ ∀ x ∈ allG kf (rows.take i), x.2.length ≤ i := by
 intro i
 induction i with
 | zero => simp [allG]
 | succ i ih =>
   by_cases h : i < rows.length
   ·have e : allG kf (rows.take (i + 1)) = addG (kf rows[i]) rows[i] (allG kf (rows.take i)) := by
     unfold allG; rw [List.take_succ_eq_append_getElem h, List.foldl_append]; rfl
    rw [e]
    obtain ⟨h1, h2⟩ := addG_len (kf rows[i]) rows[i] (allG kf (rows.take i))
    exact ⟨by omega, fun x hx => h2 x hx i ih.2⟩
   ·have e : rows.take (i + 1) = rows.take i := by rw [List.take_of_length_le (by omega), List.take_of_length_le (by omega)]
    rw [e]
    exact ⟨by omega, fun x hx => by have := ih.2 x hx; omega⟩
theorem allG_step (kf : List Va → ByteArray) (rows : List (List Va)) (i : Nat) (h : i < rows.length) : allG kf (rows.take (i + 1)) = addG (kf rows[i]) rows[i] (allG kf (rows.take i)) := by
 unfold allG; rw [List.take_succ_eq_append_getElem h, List.foldl_append]; rfl
theorem esG_tok : ∀ (gs : Gr) (b n : Nat), b + 2 * gs.length ≤ n → (esG b gs).all (fun q => tokLt n q.2) = true
 | [], b, n, h => rfl
 | (k, l) :: gs, b, n, h => by
   simp only [List.length_cons] at h
   simp only [esG, List.all_cons, tokLt, Bool.and_eq_true, decide_eq_true_eq]
   exact ⟨by omega, esG_tok gs (b + 2) n (by omega)⟩
theorem leS_rs {σ0 τ : St} {n : Nat} (E : Nat) {m m' : St} (h : leS σ0 n τ m m') : ∀ (gs : Gr), leS σ0 n τ (rsG E gs ++ m) (rsG E gs ++ m')
 | [] => by simpa [rsG] using h
 | (k, l) :: gs => by
   simp only [rsG, List.cons_append, leS, leO, true_and, and_self]
   exact leS_rs E h gs
theorem leS_rs0 {σ0 τ : St} {n : Nat} (E : Nat) (gs : Gr) : leS σ0 n τ (rsG E gs) (rsG E gs) := by
 have := leS_rs (σ0 := σ0) (τ := τ) (n := n) E (m := []) (m' := []) (by simp [leS]) gs
 simpa using this
theorem leS_rs1 {σ0 τ : St} {n : Nat} (E : Nat) (o : Option Ob) (gs : Gr) : leS σ0 n τ (rsG E gs ++ [o]) (rsG E gs) := by
 have := leS_rs (σ0 := σ0) (τ := τ) (n := n) E (m := [o]) (m' := []) (by simp [leS]) gs
 simpa using this
theorem get8 {α : Type} {a0 a1 a2 a3 a4 a5 a6 a7 : α} {l : List α} {n : Nat} : (a0 :: a1 :: a2 :: a3 :: a4 :: a5 :: a6 :: a7 :: l)[n + 8]? = l[n]? := by simp only [List.getElem?_cons_succ]
theorem set8 {α : Type} {a0 a1 a2 a3 a4 a5 a6 a7 x : α} {l : List α} {n : Nat} : (a0 :: a1 :: a2 :: a3 :: a4 :: a5 :: a6 :: a7 :: l).set (n + 8) x = a0 :: a1 :: a2 :: a3 :: a4 :: a5 :: a6 :: a7 :: l.set n x := by simp only [List.set_cons_succ]
theorem lookG (k : ByteArray) (gs : Gr) (b : Nat) : lookA .string (.slice none 0 0) (.string k) false (esG b gs) = some (match findG k gs with | none => nilA | some x => .own (2 * x.1 + 1 + b) 1 (enVV x.2)) := by
 simp only [lookA, keyOk, if_true, findMK_G]
 cases findG k gs with
 | none => rfl
 | some x => rfl
theorem updG (k : ByteArray) (gs : Gr) (b : Nat) (x : AV) : updK .string (.string k) x (esG b gs) = some (match findG k gs with | none => esG b gs ++ [(.string k, x)] | some y => (esG b gs).set y.1 (.string k, x)) := by
 simp only [updK, keyOk, if_true, findMK_G]
 cases findG k gs with
 | none => rfl
 | some x => simp
end Go.Proofs.YtpcblbbddccgpaaDoor
