/- Answers that the document fixes, and small functions of law 17. Filters behind filters: the plain law of RelTwice. RelLimit's plain law: how many rows of ones and zeros are told. Orders: values and rows, rows put in their order. The least row picked again and again: the rows in their order. RelTurns' plain law: a join with its sides exchanged. -/
import Derived.Test.YtpcblbbddccgpaaDoorM32
import Derived.Test.YtpcblbbddccgpaaDoorM33
import Derived.Test.YtpcblbbddccgpaaDoorM24
set_option linter.unusedSimpArgs false
set_option linter.unusedVariables false
set_option linter.defProp false
set_option maxRecDepth 100000
set_option maxHeartbeats 32000000
namespace Go.Proofs.YtpcblbbddccgpaaDoor
open Go.RowKit
def tW7 := aa wX <| aa wbu <| aa T2 <| aa T3 <| aa T22 <| aa T24 <| aa T25 <| aa T27 <| aa T31 T36
def nmV (n : Int) : Va := (1, n, emp)
def slX (n : Int) : Ex := .mk 24 0 0 emp emp emp n []
def noX (k : Int) (kids : List Ex) : Ex := .mk k 0 0 emp emp emp 0 kids
theorem anum (n : Int) (σ : St) : ACalls Tryd.prog 11 [intV .i64 n] σ fun r s => s = σ ∧ r = vaA (nmV n) := by
 refine ACalls.pureF (R := fun r => r = vaA (nmV n)) ?_ rfl σ
 refine acalls_of cx_ok dr_ok Tryd.func11 (by kernel_rfl) rfl (nt := 4) (rs := [.cell 2 24]) rfl rfl ?_
 repeat' first | ((with_reducible first | refine cs ?_ ?_ | refine ws ?_ ?_) <;> intro h <;> try simp only [h]) | simp only [↓wBA, tW7, convA, seval]
 all_goals refine ret_is (a := _) ?_ rfl rfl
 all_goals simp only [↓wBA, tW7, convA, seval]
 all_goals simp_all [wS, vaA, vaC, nmV, emp]
theorem aslot (n : Int) (σ : St) : ACalls Tryd.prog 14 [intV .i64 n] σ fun r s => s = σ ∧ r = exA (slX n) := by
 refine ACalls.pureF (R := fun r => r = exA (slX n)) ?_ rfl σ
 refine acalls_of cx_ok dr_ok Tryd.func14 (by kernel_rfl) rfl (nt := 4) (rs := [.cell 2 27]) rfl rfl ?_
 repeat' first | ((with_reducible first | refine cs ?_ ?_ | refine ws ?_ ?_) <;> intro h <;> try simp only [h]) | simp only [↓wBA, tW7, convA, seval]
 all_goals refine ret_is (a := _) ?_ rfl rfl
 all_goals simp only [↓wBA, tW7, convA, seval]
 all_goals simp_all [wS, exA, exC, exL, slX, emp]
theorem anode (k : Int) (kids : List Ex) (σ : St) : ACalls Tryd.prog 10 [intV .i64 k, .p (.sl 8 (exL kids))] σ fun r s => s = σ ∧ r = exA (noX k kids) := by
 refine ACalls.pureF (R := fun r => r = exA (noX k kids)) ?_ rfl σ
 refine acalls_of cx_ok dr_ok Tryd.func10 (by kernel_rfl) rfl (nt := 6) (rs := [.cell 4 27]) rfl rfl ?_
 repeat' first | ((with_reducible first | refine cs ?_ ?_ | refine ws ?_ ?_) <;> intro h <;> try simp only [h]) | simp only [↓wBA, tW7, convA, seval]
 all_goals refine ret_is (a := _) ?_ rfl rfl
 all_goals simp only [↓wBA, tW7, convA, seval]
 all_goals simp_all [wS, exA, exC, noX, emp]
theorem awJoin : filS (pairsS [[nmV 1], [nmV 2]] [[nmV 2, nmV 8], [nmV 1, nmV 9]]) (noX 10 [slX 0, slX 1]) = ([[nmV 1, nmV 1, nmV 9], [nmV 2, nmV 2, nmV 8]], 0) := by kernel_rfl
theorem awFil : filS [[nmV 1], [nmV 2]] (noX 14 [slX 0, .mk 1 1 1 emp emp emp 0 []]) = ([[nmV 2]], 0) := by kernel_rfl
theorem aawake (σ : St) : ACalls Tryd.prog 7 [] σ fun r s => s = σ ∧ r = boolV true := by
 refine ACalls.pureF (R := fun r => r = boolV true) ?_ rfl σ
 have hJ := ajoin [[nmV 1], [nmV 2]] [[nmV 2, nmV 8], [nmV 1, nmV 9]] 10 0 0 emp emp emp 0 [slX 0, slX 1] (by decide) (by decide) (by decide) (by decide) (by decide) (by decide)
 have hF := afilter [[nmV 1], [nmV 2]] (noX 14 [slX 0, .mk 1 1 1 emp emp emp 0 []]) ⟨by decide, by decide⟩
 have hS := asameVV [[nmV 1, nmV 1, nmV 9], [nmV 2, nmV 2, nmV 8]] [[nmV 1, nmV 1, nmV 9], [nmV 2, nmV 2, nmV 8]] (by decide) (by decide) (by decide) (by decide)
 have hkk : kidsOk (noX 10 [slX 0, slX 1]) := by
  intro y hy
  rcases List.mem_cons.1 hy with rfl | hy
  ·decide
  ·rcases List.mem_cons.1 hy with rfl | hy
   ·decide
   ·cases hy
 have hje := join_eq [[nmV 1], [nmV 2]] [[nmV 2, nmV 8], [nmV 1, nmV 9]] (noX 10 [slX 0, slX 1]) hkk
 rw [awJoin] at hje
 have hJ1 : (joinS [[nmV 1], [nmV 2]] [[nmV 2, nmV 8], [nmV 1, nmV 9]] (.mk 10 0 0 emp emp emp 0 [slX 0, slX 1])) = _ := hje
 rw [hJ1] at hJ
 rw [awFil] at hF
 have hn1 := anode 10 [slX 0, slX 1]
 have hn2 := anode 14 [slX 0, .mk 1 1 1 emp emp emp 0 []]
 have hsv : sameVV [[nmV 1, nmV 1, nmV 9], [nmV 2, nmV 2, nmV 8]] [[nmV 1, nmV 1, nmV 9], [nmV 2, nmV 2, nmV 8]] = true := decide_eq_true rfl
 rw [hsv] at hS
 simp only [exA, exC, exL, enVV, enV, vaC, slX, noX, nmV, List.map_cons, List.map_nil, emp] at hJ hF hS hn1 hn2
 refine acalls_of cx_ok dr_ok Tryd.func7 (by kernel_rfl) rfl (nt := 63) (rs := [.tmp 0]) rfl rfl ?_
 have hnum := anum
 have hslot := aslot
 simp only [exA, exC, exL, vaA, vaC, slX, nmV, List.map_cons, List.map_nil, emp, intV] at hnum hslot hJ hF hn1 hn2
 repeat' first | ((with_reducible first | refine cs ?_ ?_ | refine ws ?_ ?_) <;> intro h <;> try simp only [h]) | simp only [↓wBA, tW7, convA, seval] | ((with_reducible show ACalls _ _ _ _ _); first | ((with_reducible show ACalls _ 11 _ _ _); refine (hnum _ _).eq ?_) | ((with_reducible show ACalls _ 14 _ _ _); refine (hslot _ _).eq ?_) | ((with_reducible show ACalls _ 10 _ _ _); refine ACalls.frzArgs ?_; simp only [frzL, frzA]; refine (hn1 _).eq ?_) | ((with_reducible show ACalls _ 10 _ _ _); refine ACalls.frzArgs ?_; simp only [frzL, frzA]; refine ACalls.arg2 (by simp [nleP, nleR, nleQ]) ((hn2 _).mono ?_); rintro _ _ ⟨rfl,rfl⟩) | ((with_reducible show ACalls _ 13 _ _ _); refine ACalls.frzArgs ?_; simp only [frzL, frzA]; refine (hJ _).eq ?_) | ((with_reducible show ACalls _ 8 _ _ _); refine ACalls.frzArgs ?_; simp only [frzL, frzA]; refine (hF _).eq ?_) | ((with_reducible show ACalls _ 9 _ _ _); refine ACalls.frzArgs ?_; simp only [frzL, frzA]; refine (hS _).eq ?_))
 all_goals refine ret_is (a := _) ?_ rfl rfl
 all_goals simp only [↓wBA, tW7, convA, seval]
 all_goals simp_all [wS]
end Go.Proofs.YtpcblbbddccgpaaDoor
namespace Go.Proofs.YtpcblbbddccgpaaDoor
open Go.RowKit
theorem leastI_zero {l e : Int} (h : leastI l e = 0) : l = 0 ∧ e = 0 := by
 unfold leastI at h
 split at h <;> omega
theorem fil_zero (x : Ex) : ∀ (rows : List (List Va)) (s : List (List Va) × Int), (rows.foldl (filStep x) s).2 = 0 → s.2 = 0 ∧ (∀ r ∈ rows, (holdsV r x).2 = 0) ∧ ((rows.foldl (filStep x) s).1.length ≤ 10000 → (rows.foldl (filStep x) s).1 = s.1 ++ rows.filter fun r => (holdsV r x).1)
 | [], s, h => ⟨h, by simp, by simp⟩
 | q :: rows, s, h => by
   rw [List.foldl_cons] at h
   obtain ⟨h1, h2, h3⟩ := fil_zero x rows _ h
   obtain ⟨g1, g2⟩ := leastI_zero (l := s.2) (e := (holdsV q x).2) h1
   refine ⟨g1, fun r hr => ?_, fun hl => ?_⟩
   ·rcases List.mem_cons.1 hr with rfl | hr
    ·exact g2
    ·exact h2 r hr
   ·rw [List.foldl_cons] at hl ⊢
    have h4 := h3 hl
    rw [h4, List.filter_cons]
    have hs : (filStep x s q).1.length ≤ 10000 := by
     have := congrArg List.length h4
     rw [List.length_append] at this
     omega
    simp only [filStep] at hs ⊢
    cases hq : (holdsV q x).1 with
    | false => simp [hq]
    | true =>
      simp only [hq, true_and] at hs ⊢
      by_cases hle : s.1.length ≤ 10000
      ·simp [hle]
      ·rw [if_neg hle] at hs; omega
theorem filS_ok {rows : List (List Va)} {x : Ex} (h : (filS rows x).2 = 0) : (filS rows x).1 = rows.filter (fun r => (holdsV r x).1) ∧ (∀ r ∈ rows, (holdsV r x).2 = 0) ∧ (filS rows x).1.length ≤ 10000 := by
 unfold filS ansS at h ⊢
 split at h
 ·rename_i h0; exact (h0 h).elim
 ·rename_i h0
  split at h
  ·simp at h
  ·rename_i h1
   rw [if_neg h0, if_neg h1]
   simp only [ne_eq, Decidable.not_not] at h0
   obtain ⟨g1, g2, g3⟩ := fil_zero x rows ([], 0) h0
   have := g3 (by omega)
   simp only [List.nil_append] at this
   exact ⟨this, g2, by simp only; omega⟩
theorem filS_err {rows : List (List Va)} {x : Ex} (h : (filS rows x).2 ≠ 0) : (filS rows x).1 = [] := by
 unfold filS ansS at h ⊢
 split
 ·rfl
 ·split
  ·rfl
  ·rename_i h0 h1
   rw [if_neg h0, if_neg h1] at h
   exact (h rfl).elim
end Go.Proofs.YtpcblbbddccgpaaDoor
namespace Go.Proofs.YtpcblbbddccgpaaDoor
open Go.RowKit
theorem fil_cnt (x : Ex) : ∀ (rows : List (List Va)) (s : List (List Va) × Int), (∀ r ∈ rows, (holdsV r x).2 = 0) → s.2 = 0 → s.1.length ≤ 10001 → (rows.foldl (filStep x) s).2 = 0 ∧ (rows.foldl (filStep x) s).1.length = min (s.1.length + (rows.filter fun r => (holdsV r x).1).length) 10001
 | [], s, h, h0, hl => ⟨h0, by simp; omega⟩
 | q :: rows, s, h, h0, hl => by
   have hq := h q (by simp)
   have hst : (filStep x s q).2 = 0 := by simp only [filStep, hq, h0]; rfl
   rw [List.foldl_cons, List.filter_cons]
   cases hb : (holdsV q x).1 with
   | false =>
     have h1 : (filStep x s q).1 = s.1 := by simp [filStep, hb]
     obtain ⟨g1, g2⟩ := fil_cnt x rows (filStep x s q) (fun r hr => h r (by simp [hr])) hst (by rw [h1]; exact hl)
     refine ⟨g1, ?_⟩
     rw [g2, h1]; simp
   | true =>
     by_cases hle : s.1.length ≤ 10000
     ·have h1 : (filStep x s q).1 = s.1 ++ [q] := by simp only [filStep, hb, true_and]; rw [if_pos hle]
      obtain ⟨g1, g2⟩ := fil_cnt x rows (filStep x s q) (fun r hr => h r (by simp [hr])) hst (by rw [h1]; simp; omega)
      refine ⟨g1, ?_⟩
      rw [g2, h1]; simp; omega
     ·have h1 : (filStep x s q).1 = s.1 := by simp only [filStep, hb, true_and]; rw [if_neg hle]
      obtain ⟨g1, g2⟩ := fil_cnt x rows (filStep x s q) (fun r hr => h r (by simp [hr])) hst (by rw [h1]; exact hl)
      refine ⟨g1, ?_⟩
      rw [g2, h1]; simp; omega
theorem filS_cnt {rows : List (List Va)} {x : Ex} (h : ∀ r ∈ rows, (holdsV r x).2 = 0) {n : Nat} (hn : (rows.filter fun r => (holdsV r x).1).length = n) : (filS rows x).2 = (if n ≤ 10000 then 0 else 20) ∧ (filS rows x).1.length = if n ≤ 10000 then n else 0 := by
 obtain ⟨h1, h2⟩ := fil_cnt x rows ([], 0) h rfl (by simp)
 rw [hn] at h2
 unfold filS ansS
 rw [h1, if_neg (by simp)]
 simp only [List.length_nil, Nat.zero_add] at h2
 by_cases hle : n ≤ 10000
 ·rw [if_neg (by omega), if_pos hle, if_pos hle]; exact ⟨rfl, by simp only; omega⟩
 ·rw [if_pos (by omega), if_neg hle, if_neg hle]; exact ⟨rfl, rfl⟩
end Go.Proofs.YtpcblbbddccgpaaDoor
namespace Go.Proofs.YtpcblbbddccgpaaDoor
open Go.RowKit
section
variable {α : Type} {lt : α → α → Bool}
def Rising (lt : α → α → Bool) : List α → Prop
 | [] => True
 | x :: l => (∀ y ∈ l, lt y x = false) ∧ Rising lt l
theorem Rising.drop : ∀ {l : List α} (k : Nat), Rising lt l → Rising lt (l.drop k)
 | [], k, h => by simp [Rising]
 | x :: l, 0, h => h
 | x :: l, k + 1, h => by rw [List.drop_succ_cons]; exact Rising.drop k h.2
end
end Go.Proofs.YtpcblbbddccgpaaDoor
namespace Go.Proofs.YtpcblbbddccgpaaDoor
open Go.RowKit
section
variable {α : Type} {lt : α → α → Bool}
end
end Go.Proofs.YtpcblbbddccgpaaDoor
namespace Go.Proofs.YtpcblbbddccgpaaDoor
open Go.RowKit
def errS (x : Ex) (rows : List (List Va)) : Int := rows.foldl (fun l r => leastI l (holdsV r x).2) 0
theorem fold_err (x : Ex) : ∀ (rows : List (List Va)) (s : List (List Va) × Int), (rows.foldl (filStep x) s).2 = rows.foldl (fun l r => leastI l (holdsV r x).2) s.2
 | [], s => rfl
 | q :: rows, s => by rw [List.foldl_cons, List.foldl_cons, fold_err x rows]; rfl
theorem filS_two (x : Ex) (rows : List (List Va)) : (filS rows x).2 = if errS x rows ≠ 0 then errS x rows else if (rows.filter fun r => (holdsV r x).1).length ≤ 10000 then 0 else 20 := by
 by_cases h : errS x rows = 0
 ·rw [if_neg (by simpa using h)]
  have h0 : (rows.foldl (filStep x) ([], 0)).2 = 0 := by rw [fold_err]; exact h
  obtain ⟨_, h2, _⟩ := fil_zero x rows ([], 0) h0
  exact (filS_cnt h2 rfl).1
 ·rw [if_pos h]
  have h0 : (rows.foldl (filStep x) ([], 0)).2 = errS x rows := fold_err x rows ([], 0)
  unfold filS ansS
  rw [h0, if_pos h]
end Go.Proofs.YtpcblbbddccgpaaDoor
