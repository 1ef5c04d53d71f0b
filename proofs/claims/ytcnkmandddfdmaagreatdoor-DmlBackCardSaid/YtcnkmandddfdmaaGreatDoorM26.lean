/- Expressions read, as a plain function. -/
import Derived.Test.YtcnkmandddfdmaaGreatDoorM25
set_option linter.unusedSimpArgs false
set_option linter.unusedVariables false
set_option linter.defProp false
set_option maxRecDepth 100000
set_option maxHeartbeats 32000000
namespace Go.Proofs.YtcnkmandddfdmaaGreatDoor
open Go.RowKit
inductive Job where
 | fac (q : Rs)
 | exp (n : Int) (q : Rs)
 | lop (n : Int) (x : Ex) (c : Bool) (q : Rs)
def sMinus : ByteArray := ⟨#[45]⟩
def sDot : ByteArray := ⟨#[46]⟩
def sStar : ByteArray := ⟨#[42]⟩
def sOpen : ByteArray := ⟨#[40]⟩
def sShut : ByteArray := ⟨#[41]⟩
def sComma : ByteArray := ⟨#[44]⟩
def wNOT : ByteArray := ⟨#[78, 79, 84]⟩
def wIS : ByteArray := ⟨#[73, 83]⟩
def wNULL : ByteArray := ⟨#[78, 85, 76, 76]⟩
def wTRUE : ByteArray := ⟨#[84, 82, 85, 69]⟩
def wFALSE : ByteArray := ⟨#[70, 65, 76, 83, 69]⟩
def agL : List ByteArray := [⟨#[67, 79, 85, 78, 84]⟩, ⟨#[83, 85, 77]⟩, ⟨#[77, 73, 78]⟩, ⟨#[77, 65, 88]⟩]
theorem agL_len : agL.length = 4 := rfl
def agGo (s : ByteArray) : Nat → List ByteArray → Option Nat
 | _, [] => none
 | i, a :: l => if (s.toList == a.toList) = true then some i else agGo s (i + 1) l
def Rs.next (q : Rs) : Rs := (q.1 + 1, q.2)
def lfE (k vk vn : Int) (vs tb nm : ByteArray) : Ex := .mk k vk vn vs tb nm 0 []
def kdE (k : Int) (l : List Ex) : Ex := .mk k 0 0 emp emp emp 0 l
def facB (ts : List Tok) (rec : Job → Ex × Rs) (q : Rs) : Ex × Rs :=
 if isF ts 5 sMinus q = true then (kdE 3 [(rec (.fac q.next)).1], (rec (.fac q.next)).2)
 else if (pkF ts q).1 = 0 then (ex0, (q.1, true))
 else if (pkF ts q).1 = 3 then (lfE 1 1 (pkF ts q).2.2 emp emp emp, q.next)
 else if (pkF ts q).1 = 4 then (lfE 1 3 0 (pkF ts q).2.1 emp emp, q.next)
 else if (pkF ts q).1 = 2 then (if isF ts 5 sDot q.next = true then (lfE 2 0 0 emp (pkF ts q).2.1 (anF ts 2 q.next.next).1.2.1, (anF ts 2 q.next.next).2) else (lfE 2 0 0 emp emp (pkF ts q).2.1, q.next))
 else if ((pkF ts q).2.1.toList == wTRUE.toList) = true then (lfE 1 2 1 emp emp emp, q.next)
 else if ((pkF ts q).2.1.toList == wFALSE.toList) = true then (lfE 1 2 0 emp emp emp, q.next)
 else if ((pkF ts q).2.1.toList == wNULL.toList) = true then (lfE 1 0 0 emp emp emp, q.next)
 else if (pkF ts q).1 = 5 ∧ ((pkF ts q).2.1.toList == sOpen.toList) = true then ((rec (.exp 0 q.next)).1, wnF ts 5 sShut (rec (.exp 0 q.next)).2)
 else match agGo (pkF ts q).2.1 0 agL with
  | some i => if i = 0 ∧ isF ts 5 sStar (wnF ts 5 sOpen q.next) = true then (kdE 20 [], wnF ts 5 sShut (wnF ts 5 sOpen q.next).next) else (kdE (20 + (i : Int)) [(rec (.exp 0 (wnF ts 5 sOpen q.next))).1], wnF ts 5 sShut (rec (.exp 0 (wnF ts 5 sOpen q.next))).2)
  | none => (ex0, (q.1 + 1, true))
def lopB (ts : List Tok) (rec : Job → Ex × Rs) (n : Int) (x : Ex) (c : Bool) (q : Rs) : Ex × Rs :=
 if q.2 = true then (x, q)
 else if (bnF ts q).1 > 0 ∧ (bnF ts q).2 > n ∧ ¬ (c = true ∧ (bnF ts q).2 ≥ 4) then
  rec (.lop n (kdE (bnF ts q).1 [x, (rec (.exp (bnF ts q).2 q.next)).1]) (c || decide ((bnF ts q).2 ≤ 4)) (rec (.exp (bnF ts q).2 q.next)).2)
 else if (bnF ts q).1 = 0 ∧ n < 4 ∧ c = false ∧ isF ts 1 wIS q = true then
  rec (.lop n (kdE (if isF ts 1 wNOT q.next = true then 19 else 18) [x]) true (wnF ts 1 wNULL (psF ts 1 wNOT q.next)))
 else (x, q)
def expB (ts : List Tok) (rec : Job → Ex × Rs) (n : Int) (q : Rs) : Ex × Rs :=
 if n < 3 ∧ isF ts 1 wNOT q = true then rec (.lop n (kdE 4 [(rec (.exp 2 q.next)).1]) true (rec (.exp 2 q.next)).2)
 else rec (.lop n (rec (.fac q)).1 false (rec (.fac q)).2)
def pgF (ts : List Tok) : Nat → Job → Ex × Rs
 | 0, _ => (ex0, (0, true))
 | n + 1, .fac q => facB ts (pgF ts n) q
 | n + 1, .exp m q => expB ts (pgF ts n) m q
 | n + 1, .lop m x c q => lopB ts (pgF ts n) m x c q
def Job.at : Job → Rs
 | .fac q => q
 | .exp _ q => q
 | .lop _ _ _ q => q
def Job.need (ts : List Tok) : Job → Nat
 | .fac q => 2 * (ts.length - q.1) + 1
 | .exp _ q => 2 * (ts.length - q.1) + 2
 | .lop _ _ _ q => 2 * (ts.length - q.1) + 1
def Fwd (ts : List Tok) (q q' : Rs) : Prop := q.1 ≤ q'.1 ∧ q'.1 ≤ ts.length ∧ (q'.2 = false → q.2 = false)
theorem Fwd.refl {ts : List Tok} {q : Rs} (h : q.1 ≤ ts.length) : Fwd ts q q := ⟨Nat.le_refl _, h, id⟩
theorem Fwd.trans {ts : List Tok} {a b c : Rs} (h : Fwd ts a b) (g : Fwd ts b c) : Fwd ts a c := ⟨Nat.le_trans h.1 g.1, g.2.1, fun e => h.2.2 (g.2.2 e)⟩
theorem isF_in {ts : List Tok} {kd : Int} (hkd : kd ≠ 0) {s : ByteArray} {q : Rs} (h : isF ts kd s q = true) : q.2 = false ∧ q.1 < ts.length := by
 simp only [isF, Bool.and_eq_true, beq_iff_eq] at h
 exact pkF_in (by rw [h.1]; exact hkd)
theorem psF_pos {ts : List Tok} {kd : Int} {s : ByteArray} {q : Rs} (h : isF ts kd s q = true) : psF ts kd s q = q.next := by simp [psF, h, Rs.next]
theorem psF_neg {ts : List Tok} {kd : Int} {s : ByteArray} {q : Rs} (h : isF ts kd s q = false) : psF ts kd s q = q := by simp [psF, h]
theorem wnF_pos {ts : List Tok} {kd : Int} {s : ByteArray} {q : Rs} (h : isF ts kd s q = true) : wnF ts kd s q = q.next := by simp [wnF, h, Rs.next]
theorem wnF_neg {ts : List Tok} {kd : Int} {s : ByteArray} {q : Rs} (h : isF ts kd s q = false) : wnF ts kd s q = (q.1, true) := by simp [wnF, h]
theorem Fwd.next {ts : List Tok} {q : Rs} (h : q.1 < ts.length) : Fwd ts q q.next := ⟨Nat.le_succ _, h, id⟩
theorem Fwd.bad {ts : List Tok} {q : Rs} (h : q.1 ≤ ts.length) : Fwd ts q (q.1, true) := ⟨Nat.le_refl _, h, fun e => by simp at e⟩
theorem Fwd.ps {ts : List Tok} {kd : Int} (hkd : kd ≠ 0) (s : ByteArray) {q : Rs} (h : q.1 ≤ ts.length) : Fwd ts q (psF ts kd s q) := by
 cases hv : isF ts kd s q
 ·rw [psF_neg hv]; exact .refl h
 ·rw [psF_pos hv]; exact .next (isF_in hkd hv).2
theorem Fwd.wn {ts : List Tok} {kd : Int} (hkd : kd ≠ 0) (s : ByteArray) {q : Rs} (h : q.1 ≤ ts.length) : Fwd ts q (wnF ts kd s q) := by
 cases hv : isF ts kd s q
 ·rw [wnF_neg hv]; exact .bad h
 ·rw [wnF_pos hv]; exact .next (isF_in hkd hv).2
theorem Fwd.an {ts : List Tok} {kd : Int} (hkd : kd ≠ 0) {q : Rs} (h : q.1 ≤ ts.length) : Fwd ts q (anF ts kd q).2 := by
 unfold anF
 split
 ·rename_i e
  exact .next (pkF_in (by rw [e]; exact hkd)).2
 ·exact .bad h
theorem pgF_fwd (ts : List Tok) : ∀ (m : Nat) (j : Job), j.need ts ≤ m → j.at.1 ≤ ts.length → Fwd ts j.at (pgF ts m j).2
 | 0, j, h, _ => by cases j <;> simp only [Job.need] at h <;> omega
 | m + 1, .fac q, h, hk => by
   have ih := pgF_fwd ts m
   simp only [Job.need, Job.at] at h hk
   show Fwd ts q (facB ts (pgF ts m) q).2
   have hexp : ∀ (q' : Rs) (n : Int), q.1 < q'.1 → q'.1 ≤ ts.length → Fwd ts q' (pgF ts m (.exp n q')).2 := fun q' n h1 h2 => ih (.exp n q') (by simp only [Job.need]; omega) h2
   unfold facB
   by_cases e : isF ts 5 sMinus q = true
   ·rw [if_pos e]
    have hlt := (isF_in (by decide) e).2
    have h9 : q.1 + 1 ≤ q.next.1 := Nat.le_refl _
    exact (Fwd.next hlt).trans (ih (.fac q.next) (by simp only [Job.need]; omega) (by simp only [Job.at, Rs.next]; omega))
   rw [if_neg e]
   by_cases h0 : (pkF ts q).1 = 0
   ·rw [if_pos h0]; exact .bad hk
   rw [if_neg h0]
   have hlt := (pkF_in h0).2
   have hn : Fwd ts q q.next := .next hlt
   by_cases h3 : (pkF ts q).1 = 3
   ·rw [if_pos h3]; exact hn
   rw [if_neg h3]
   by_cases h4 : (pkF ts q).1 = 4
   ·rw [if_pos h4]; exact hn
   rw [if_neg h4]
   by_cases h2 : (pkF ts q).1 = 2
   ·rw [if_pos h2]
    by_cases e2 : isF ts 5 sDot q.next = true
    ·rw [if_pos e2]
     have hlt2 := (isF_in (by decide) e2).2
     exact hn.trans ((Fwd.next hlt2).trans (.an (by decide) (Fwd.next hlt2).2.1))
    ·rw [if_neg e2]; exact hn
   rw [if_neg h2]
   by_cases g1 : ((pkF ts q).2.1.toList == wTRUE.toList) = true
   ·rw [if_pos g1]; exact hn
   rw [if_neg g1]
   by_cases g2 : ((pkF ts q).2.1.toList == wFALSE.toList) = true
   ·rw [if_pos g2]; exact hn
   rw [if_neg g2]
   by_cases g3 : ((pkF ts q).2.1.toList == wNULL.toList) = true
   ·rw [if_pos g3]; exact hn
   rw [if_neg g3]
   by_cases g4 : (pkF ts q).1 = 5 ∧ ((pkF ts q).2.1.toList == sOpen.toList) = true
   ·rw [if_pos g4]
    have h1 := hexp q.next 0 (Nat.lt_succ_self _) hn.2.1
    exact hn.trans (h1.trans (.wn (by decide) _ h1.2.1))
   rw [if_neg g4]
   have h5 : Fwd ts q.next (wnF ts 5 sOpen q.next) := .wn (by decide) _ hn.2.1
   have h6 : Fwd ts q (wnF ts 5 sOpen q.next) := hn.trans h5
   have h7 : q.1 + 1 ≤ (wnF ts 5 sOpen q.next).1 := h5.1
   cases hag : agGo (pkF ts q).2.1 0 agL with
   | none => exact ⟨Nat.le_succ _, hlt, fun e => by simp at e⟩
   | some i =>
     by_cases e2 : i = 0 ∧ isF ts 5 sStar (wnF ts 5 sOpen q.next) = true
     ·simp only [if_pos e2]
      have hlt2 := (isF_in (by decide) e2.2).2
      have h8 : Fwd ts (wnF ts 5 sOpen q.next) (wnF ts 5 sOpen q.next).next := .next hlt2
      exact h6.trans (h8.trans (.wn (by decide) _ h8.2.1))
     ·simp only [if_neg e2]
      have h1 := hexp (wnF ts 5 sOpen q.next) 0 h7 h6.2.1
      exact h6.trans (h1.trans (.wn (by decide) _ h1.2.1))
 | m + 1, .exp n q, h, hk => by
   have ih := pgF_fwd ts m
   simp only [Job.need, Job.at] at h hk
   show Fwd ts q (expB ts (pgF ts m) n q).2
   unfold expB
   split
   ·rename_i e
    have hlt := (isF_in (by decide) e.2).2
    have hn : Fwd ts q q.next := .next hlt
    have h1 : Fwd ts q.next (pgF ts m (.exp 2 q.next)).2 := ih (.exp 2 q.next) (by simp only [Job.need, Rs.next]; omega) hn.2.1
    have h2 := hn.trans h1
    exact h2.trans (ih (.lop n _ true _) (by simp only [Job.need]; have := h2.1; omega) h2.2.1)
   ·have h1 : Fwd ts q (pgF ts m (.fac q)).2 := ih (.fac q) (by simp only [Job.need]; omega) hk
    exact h1.trans (ih (.lop n _ false _) (by simp only [Job.need]; have := h1.1; omega) h1.2.1)
 | m + 1, .lop n x c q, h, hk => by
   have ih := pgF_fwd ts m
   simp only [Job.need, Job.at] at h hk
   show Fwd ts q (lopB ts (pgF ts m) n x c q).2
   unfold lopB
   split
   ·exact .refl hk
   ·split
    ·rename_i e
     have hlt := (bnF_in (ts := ts) (q := q) (by omega)).2
     have hn : Fwd ts q q.next := .next hlt
     have h1 : Fwd ts q.next (pgF ts m (.exp (bnF ts q).2 q.next)).2 := ih (.exp _ q.next) (by simp only [Job.need, Rs.next]; omega) hn.2.1
     have h2 := hn.trans h1
     have h9 : q.1 + 1 ≤ (pgF ts m (.exp (bnF ts q).2 q.next)).2.1 := h1.1
     exact h2.trans (ih (.lop n _ _ (pgF ts m (.exp (bnF ts q).2 q.next)).2) (by simp only [Job.need]; omega) h2.2.1)
    ·split
     ·rename_i e
      have hlt := (isF_in (by decide) e.2.2.2).2
      have hn : Fwd ts q q.next := .next hlt
      have h1 : Fwd ts q.next (psF ts 1 wNOT q.next) := .ps (by decide) _ hn.2.1
      have h2 : Fwd ts (psF ts 1 wNOT q.next) (wnF ts 1 wNULL (psF ts 1 wNOT q.next)) := .wn (by decide) _ h1.2.1
      have h3 := h1.trans h2
      have h9 : q.1 + 1 ≤ (wnF ts 1 wNULL (psF ts 1 wNOT q.next)).1 := h3.1
      exact (hn.trans h3).trans (ih (.lop n _ _ (wnF ts 1 wNULL (psF ts 1 wNOT q.next))) (by simp only [Job.need]; omega) h3.2.1)
     ·exact .refl hk
end Go.Proofs.YtcnkmandddfdmaaGreatDoor
