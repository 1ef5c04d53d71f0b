/- Answers that the document fixes, and small functions of law 17. Filters behind filters: the plain law of RelTwice. RelLimit's plain law: how many rows of ones and zeros are told. Rows filtered, as many as an argument may have. What expressions come to over rows. -/
import Derived.Test.YtpcblbbddccgpaaDoorM29
import Derived.Test.YtpcblbbddccgpaaDoorM30
import Derived.Test.YtpcblbbddccgpaaDoorM23
set_option linter.unusedSimpArgs false
set_option linter.unusedVariables false
set_option linter.defProp false
set_option maxRecDepth 100000
set_option maxHeartbeats 32000000
namespace Go.Proofs.YtpcblbbddccgpaaDoor
open Go.RowKit
def tW7 := aa wX <| aa wbu <| aa T2 <| aa T3 <| aa T22 <| aa T24 <| aa T25 <| aa T27 <| aa T31 T36
def nmV (n : Int) : Va := (1, n, emp)
def slX (n : Int) : Ex := .mk 24 0 0 emp emp emp n []
def noX (k : Int) (kids : List Ex) : Ex := .mk k 0 0 emp emp emp 0 kids
theorem anum (n : Int) (σ : St) : ACalls Tryd.prog 11 [intV .i64 n] σ fun r s => s = σ ∧ r = vaA (nmV n) := by
 refine ACalls.pureF (R := fun r => r = vaA (nmV n)) ?_ rfl σ
 refine acalls_of cx_ok dr_ok Tryd.func11 (by kernel_rfl) rfl (nt := 4) (rs := [.cell 2 24]) rfl rfl ?_
 repeat' first | ((with_reducible first | refine cs ?_ ?_ | refine ws ?_ ?_) <;> intro h <;> try simp only [h]) | simp only [↓wBA, tW7, convA, seval]
 all_goals refine ret_is (a := _) ?_ rfl rfl
 all_goals simp only [↓wBA, tW7, convA, seval]
 all_goals simp_all [wS, vaA, vaC, nmV, emp]
theorem aslot (n : Int) (σ : St) : ACalls Tryd.prog 14 [intV .i64 n] σ fun r s => s = σ ∧ r = exA (slX n) := by
 refine ACalls.pureF (R := fun r => r = exA (slX n)) ?_ rfl σ
 refine acalls_of cx_ok dr_ok Tryd.func14 (by kernel_rfl) rfl (nt := 4) (rs := [.cell 2 27]) rfl rfl ?_
 repeat' first | ((with_reducible first | refine cs ?_ ?_ | refine ws ?_ ?_) <;> intro h <;> try simp only [h]) | simp only [↓wBA, tW7, convA, seval]
 all_goals refine ret_is (a := _) ?_ rfl rfl
 all_goals simp only [↓wBA, tW7, convA, seval]
 all_goals simp_all [wS, exA, exC, exL, slX, emp]
theorem anode (k : Int) (kids : List Ex) (σ : St) : ACalls Tryd.prog 10 [intV .i64 k, .p (.sl 8 (exL kids))] σ fun r s => s = σ ∧ r = exA (noX k kids) := by
 refine ACalls.pureF (R := fun r => r = exA (noX k kids)) ?_ rfl σ
 refine acalls_of cx_ok dr_ok Tryd.func10 (by kernel_rfl) rfl (nt := 6) (rs := [.cell 4 27]) rfl rfl ?_
 repeat' first | ((with_reducible first | refine cs ?_ ?_ | refine ws ?_ ?_) <;> intro h <;> try simp only [h]) | simp only [↓wBA, tW7, convA, seval]
 all_goals refine ret_is (a := _) ?_ rfl rfl
 all_goals simp only [↓wBA, tW7, convA, seval]
 all_goals simp_all [wS, exA, exC, noX, emp]
theorem awJoin : filS (pairsS [[nmV 1], [nmV 2]] [[nmV 2, nmV 8], [nmV 1, nmV 9]]) (noX 10 [slX 0, slX 1]) = ([[nmV 1, nmV 1, nmV 9], [nmV 2, nmV 2, nmV 8]], 0) := by kernel_rfl
theorem awFil : filS [[nmV 1], [nmV 2]] (noX 14 [slX 0, .mk 1 1 1 emp emp emp 0 []]) = ([[nmV 2]], 0) := by kernel_rfl
theorem aawake (σ : St) : ACalls Tryd.prog 7 [] σ fun r s => s = σ ∧ r = boolV true := by
 refine ACalls.pureF (R := fun r => r = boolV true) ?_ rfl σ
 have hJ := ajoin [[nmV 1], [nmV 2]] [[nmV 2, nmV 8], [nmV 1, nmV 9]] 10 0 0 emp emp emp 0 [slX 0, slX 1] (by decide) (by decide) (by decide) (by decide) (by decide) (by decide)
 have hF := afilter [[nmV 1], [nmV 2]] (noX 14 [slX 0, .mk 1 1 1 emp emp emp 0 []]) ⟨by decide, by decide⟩
 have hS := asameVV [[nmV 1, nmV 1, nmV 9], [nmV 2, nmV 2, nmV 8]] [[nmV 1, nmV 1, nmV 9], [nmV 2, nmV 2, nmV 8]] (by decide) (by decide) (by decide) (by decide)
 have hkk : kidsOk (noX 10 [slX 0, slX 1]) := by
  intro y hy
  rcases List.mem_cons.1 hy with rfl | hy
  ·decide
  ·rcases List.mem_cons.1 hy with rfl | hy
   ·decide
   ·cases hy
 have hje := join_eq [[nmV 1], [nmV 2]] [[nmV 2, nmV 8], [nmV 1, nmV 9]] (noX 10 [slX 0, slX 1]) hkk
 rw [awJoin] at hje
 have hJ1 : (joinS [[nmV 1], [nmV 2]] [[nmV 2, nmV 8], [nmV 1, nmV 9]] (.mk 10 0 0 emp emp emp 0 [slX 0, slX 1])) = _ := hje
 rw [hJ1] at hJ
 rw [awFil] at hF
 have hn1 := anode 10 [slX 0, slX 1]
 have hn2 := anode 14 [slX 0, .mk 1 1 1 emp emp emp 0 []]
 have hsv : sameVV [[nmV 1, nmV 1, nmV 9], [nmV 2, nmV 2, nmV 8]] [[nmV 1, nmV 1, nmV 9], [nmV 2, nmV 2, nmV 8]] = true := decide_eq_true rfl
 rw [hsv] at hS
 simp only [exA, exC, exL, enVV, enV, vaC, slX, noX, nmV, List.map_cons, List.map_nil, emp] at hJ hF hS hn1 hn2
 refine acalls_of cx_ok dr_ok Tryd.func7 (by kernel_rfl) rfl (nt := 63) (rs := [.tmp 0]) rfl rfl ?_
 have hnum := anum
 have hslot := aslot
 simp only [exA, exC, exL, vaA, vaC, slX, nmV, List.map_cons, List.map_nil, emp, intV] at hnum hslot hJ hF hn1 hn2
 repeat' first | ((with_reducible first | refine cs ?_ ?_ | refine ws ?_ ?_) <;> intro h <;> try simp only [h]) | simp only [↓wBA, tW7, convA, seval] | ((with_reducible show ACalls _ _ _ _ _); first | ((with_reducible show ACalls _ 11 _ _ _); refine (hnum _ _).eq ?_) | ((with_reducible show ACalls _ 14 _ _ _); refine (hslot _ _).eq ?_) | ((with_reducible show ACalls _ 10 _ _ _); refine ACalls.frzArgs ?_; simp only [frzL, frzA]; refine (hn1 _).eq ?_) | ((with_reducible show ACalls _ 10 _ _ _); refine ACalls.frzArgs ?_; simp only [frzL, frzA]; refine ACalls.arg2 (by simp [nleP, nleR, nleQ]) ((hn2 _).mono ?_); rintro _ _ ⟨rfl,rfl⟩) | ((with_reducible show ACalls _ 13 _ _ _); refine ACalls.frzArgs ?_; simp only [frzL, frzA]; refine (hJ _).eq ?_) | ((with_reducible show ACalls _ 8 _ _ _); refine ACalls.frzArgs ?_; simp only [frzL, frzA]; refine (hF _).eq ?_) | ((with_reducible show ACalls _ 9 _ _ _); refine ACalls.frzArgs ?_; simp only [frzL, frzA]; refine (hS _).eq ?_))
 all_goals refine ret_is (a := _) ?_ rfl rfl
 all_goals simp only [↓wBA, tW7, convA, seval]
 all_goals simp_all [wS]
end Go.Proofs.YtpcblbbddccgpaaDoor
namespace Go.Proofs.YtpcblbbddccgpaaDoor
open Go.RowKit
theorem leastI_zero {l e : Int} (h : leastI l e = 0) : l = 0 ∧ e = 0 := by
 unfold leastI at h
 split at h <;> omega
theorem fil_zero (x : Ex) : ∀ (rows : List (List Va)) (s : List (List Va) × Int), (rows.foldl (filStep x) s).2 = 0 → s.2 = 0 ∧ (∀ r ∈ rows, (holdsV r x).2 = 0) ∧ ((rows.foldl (filStep x) s).1.length ≤ 10000 → (rows.foldl (filStep x) s).1 = s.1 ++ rows.filter fun r => (holdsV r x).1)
 | [], s, h => ⟨h, by simp, by simp⟩
 | q :: rows, s, h => by
   rw [List.foldl_cons] at h
   obtain ⟨h1, h2, h3⟩ := fil_zero x rows _ h
   obtain ⟨g1, g2⟩ := leastI_zero (l := s.2) (e := (holdsV q x).2) h1
   refine ⟨g1, fun r hr => ?_, fun hl => ?_⟩
   ·rcases List.mem_cons.1 hr with rfl | hr
    ·exact g2
    ·exact h2 r hr
   ·rw [List.foldl_cons] at hl ⊢
    have h4 := h3 hl
    rw [h4, List.filter_cons]
    have hs : (filStep x s q).1.length ≤ 10000 := by
     have := congrArg List.length h4
     rw [List.length_append] at this
     omega
    simp only [filStep] at hs ⊢
    cases hq : (holdsV q x).1 with
    | false => simp [hq]
    | true =>
      simp only [hq, true_and] at hs ⊢
      by_cases hle : s.1.length ≤ 10000
      ·simp [hle]
      ·rw [if_neg hle] at hs; omega
theorem filS_ok {rows : List (List Va)} {x : Ex} (h : (filS rows x).2 = 0) : (filS rows x).1 = rows.filter (fun r => (holdsV r x).1) ∧ (∀ r ∈ rows, (holdsV r x).2 = 0) ∧ (filS rows x).1.length ≤ 10000 := by
 unfold filS ansS at h ⊢
 split at h
 ·rename_i h0; exact (h0 h).elim
 ·rename_i h0
  split at h
  ·simp at h
  ·rename_i h1
   rw [if_neg h0, if_neg h1]
   simp only [ne_eq, Decidable.not_not] at h0
   obtain ⟨g1, g2, g3⟩ := fil_zero x rows ([], 0) h0
   have := g3 (by omega)
   simp only [List.nil_append] at this
   exact ⟨this, g2, by simp only; omega⟩
theorem filS_err {rows : List (List Va)} {x : Ex} (h : (filS rows x).2 ≠ 0) : (filS rows x).1 = [] := by
 unfold filS ansS at h ⊢
 split
 ·rfl
 ·split
  ·rfl
  ·rename_i h0 h1
   rw [if_neg h0, if_neg h1] at h
   exact (h rfl).elim
end Go.Proofs.YtpcblbbddccgpaaDoor
namespace Go.Proofs.YtpcblbbddccgpaaDoor
open Go.RowKit
theorem fil_cnt (x : Ex) : ∀ (rows : List (List Va)) (s : List (List Va) × Int), (∀ r ∈ rows, (holdsV r x).2 = 0) → s.2 = 0 → s.1.length ≤ 10001 → (rows.foldl (filStep x) s).2 = 0 ∧ (rows.foldl (filStep x) s).1.length = min (s.1.length + (rows.filter fun r => (holdsV r x).1).length) 10001
 | [], s, h, h0, hl => ⟨h0, by simp; omega⟩
 | q :: rows, s, h, h0, hl => by
   have hq := h q (by simp)
   have hst : (filStep x s q).2 = 0 := by simp only [filStep, hq, h0]; rfl
   rw [List.foldl_cons, List.filter_cons]
   cases hb : (holdsV q x).1 with
   | false =>
     have h1 : (filStep x s q).1 = s.1 := by simp [filStep, hb]
     obtain ⟨g1, g2⟩ := fil_cnt x rows (filStep x s q) (fun r hr => h r (by simp [hr])) hst (by rw [h1]; exact hl)
     refine ⟨g1, ?_⟩
     rw [g2, h1]; simp
   | true =>
     by_cases hle : s.1.length ≤ 10000
     ·have h1 : (filStep x s q).1 = s.1 ++ [q] := by simp only [filStep, hb, true_and]; rw [if_pos hle]
      obtain ⟨g1, g2⟩ := fil_cnt x rows (filStep x s q) (fun r hr => h r (by simp [hr])) hst (by rw [h1]; simp; omega)
      refine ⟨g1, ?_⟩
      rw [g2, h1]; simp; omega
     ·have h1 : (filStep x s q).1 = s.1 := by simp only [filStep, hb, true_and]; rw [if_neg hle]
      obtain ⟨g1, g2⟩ := fil_cnt x rows (filStep x s q) (fun r hr => h r (by simp [hr])) hst (by rw [h1]; exact hl)
      refine ⟨g1, ?_⟩
      rw [g2, h1]; simp; omega
theorem filS_cnt {rows : List (List Va)} {x : Ex} (h : ∀ r ∈ rows, (holdsV r x).2 = 0) {n : Nat} (hn : (rows.filter fun r => (holdsV r x).1).length = n) : (filS rows x).2 = (if n ≤ 10000 then 0 else 20) ∧ (filS rows x).1.length = if n ≤ 10000 then n else 0 := by
 obtain ⟨h1, h2⟩ := fil_cnt x rows ([], 0) h rfl (by simp)
 rw [hn] at h2
 unfold filS ansS
 rw [h1, if_neg (by simp)]
 simp only [List.length_nil, Nat.zero_add] at h2
 by_cases hle : n ≤ 10000
 ·rw [if_neg (by omega), if_pos hle, if_pos hle]; exact ⟨rfl, by simp only; omega⟩
 ·rw [if_pos (by omega), if_neg hle, if_neg hle]; exact ⟨rfl, rfl⟩
def lmRow (i : Nat) : List Va := [nmV ((i % 2 : Nat) : Int)]
def lmRows (k : Nat) : List (List Va) := (List.range k).map lmRow
theorem lmRows_len (k : Nat) : (lmRows k).length = k := by simp [lmRows]
theorem lmRows_succ (k : Nat) : lmRows (k + 1) = lmRows k ++ [lmRow k] := by simp [lmRows, List.range_succ]
def lmYes : Ex := noX 19 [.mk 1 1 1 emp emp emp 0 []]
def lmOn : Ex := noX 10 [slX 0, slX 1]
theorem lmRow_cases (i : Nat) : lmRow i = [nmV 0] ∨ lmRow i = [nmV 1] := by
 unfold lmRow
 rcases (show i % 2 = 0 ∨ i % 2 = 1 by omega) with h | h <;> rw [h]
 ·exact .inl rfl
 ·exact .inr rfl
theorem lmY0 : holdsV [nmV 0] lmYes = (true, 0) := by kernel_rfl
theorem lmY1 : holdsV [nmV 1] lmYes = (true, 0) := by kernel_rfl
theorem lm00 : holdsV ([nmV 0] ++ [nmV 0]) lmOn = (true, 0) := by kernel_rfl
theorem lm01 : holdsV ([nmV 0] ++ [nmV 1]) lmOn = (false, 0) := by kernel_rfl
theorem lm10 : holdsV ([nmV 1] ++ [nmV 0]) lmOn = (false, 0) := by kernel_rfl
theorem lm11 : holdsV ([nmV 1] ++ [nmV 1]) lmOn = (true, 0) := by kernel_rfl
theorem lmRows_mem {k : Nat} {r : List Va} (h : r ∈ lmRows k) : r = [nmV 0] ∨ r = [nmV 1] := by
 unfold lmRows at h
 obtain ⟨i, _, rfl⟩ := List.mem_map.1 h
 exact lmRow_cases i
theorem lm_yes (k : Nat) : (∀ r ∈ lmRows k, (holdsV r lmYes).2 = 0) ∧ ((lmRows k).filter fun r => (holdsV r lmYes).1).length = k := by
 refine ⟨fun r hr => ?_, ?_⟩
 ·rcases lmRows_mem hr with rfl | rfl
  ·rw [lmY0]
  ·rw [lmY1]
 ·rw [List.filter_eq_self.2, lmRows_len]
  intro r hr
  rcases lmRows_mem hr with rfl | rfl
  ·rw [lmY0]
  ·rw [lmY1]
theorem lm_pairs_succ (k : Nat) (b : List (List Va)) : pairsS (lmRows (k + 1)) b = pairsS (lmRows k) b ++ b.map fun y => lmRow k ++ y := by
 unfold pairsS
 rw [lmRows_succ, List.flatMap_append]; simp
theorem lm_one : ∀ k : Nat, (∀ r ∈ pairsS (lmRows k) [[nmV 1]], (holdsV r lmOn).2 = 0) ∧ ((pairsS (lmRows k) [[nmV 1]]).filter fun r => (holdsV r lmOn).1).length = k / 2
 | 0 => ⟨by simp [pairsS, lmRows], by simp [pairsS, lmRows]⟩
 | k + 1 => by
   obtain ⟨h1, h2⟩ := lm_one k
   rw [lm_pairs_succ, List.filter_append, List.length_append, h2]
   simp only [List.map_cons, List.map_nil]
   rcases (show k % 2 = 0 ∨ k % 2 = 1 by omega) with h | h
   ·have hr : lmRow k = [nmV 0] := by unfold lmRow; rw [h]; rfl
    rw [hr]
    refine ⟨fun r hm => ?_, ?_⟩
    ·rcases List.mem_append.1 hm with hm | hm
     ·exact h1 r hm
     ·rw [List.mem_singleton] at hm; subst hm; rw [lm01]
    ·rw [List.filter_cons, lm01]; simp; omega
   ·have hr : lmRow k = [nmV 1] := by unfold lmRow; rw [h]; rfl
    rw [hr]
    refine ⟨fun r hm => ?_, ?_⟩
    ·rcases List.mem_append.1 hm with hm | hm
     ·exact h1 r hm
     ·rw [List.mem_singleton] at hm; subst hm; rw [lm11]
    ·rw [List.filter_cons, lm11]; simp; omega
theorem lm_two : ∀ k : Nat, (∀ r ∈ pairsS (lmRows k) [[nmV 1], [nmV 0]], (holdsV r lmOn).2 = 0) ∧ ((pairsS (lmRows k) [[nmV 1], [nmV 0]]).filter fun r => (holdsV r lmOn).1).length = k
 | 0 => ⟨by simp [pairsS, lmRows], by simp [pairsS, lmRows]⟩
 | k + 1 => by
   obtain ⟨h1, h2⟩ := lm_two k
   rw [lm_pairs_succ, List.filter_append, List.length_append, h2]
   simp only [List.map_cons, List.map_nil]
   rcases lmRow_cases k with hr | hr
   ·rw [hr]
    refine ⟨fun r hm => ?_, ?_⟩
    ·rcases List.mem_append.1 hm with hm | hm
     ·exact h1 r hm
     ·rcases List.mem_cons.1 hm with rfl | hm
      ·rw [lm01]
      ·rw [List.mem_singleton] at hm; subst hm; rw [lm00]
    ·rw [List.filter_cons, lm01, List.filter_cons, lm00]; simp
   ·rw [hr]
    refine ⟨fun r hm => ?_, ?_⟩
    ·rcases List.mem_append.1 hm with hm | hm
     ·exact h1 r hm
     ·rcases List.mem_cons.1 hm with rfl | hm
      ·rw [lm11]
      ·rw [List.mem_singleton] at hm; subst hm; rw [lm10]
    ·rw [List.filter_cons, lm11, List.filter_cons, lm10]; simp
theorem lm_kids : kidsOk lmOn := by
 intro y hy
 rcases List.mem_cons.1 hy with rfl | hy
 ·decide
 ·rcases List.mem_cons.1 hy with rfl | hy
  ·decide
  ·cases hy
theorem lm_all (k : Nat) : ((filS (lmRows k) lmYes).2 = (if k ≤ 10000 then 0 else 20) ∧ (filS (lmRows k) lmYes).1.length = if k ≤ 10000 then k else 0) ∧
 ((joinS (lmRows k) [[nmV 1]] lmOn).2 = (if k / 2 ≤ 10000 then 0 else 20) ∧ (joinS (lmRows k) [[nmV 1]] lmOn).1.length = if k / 2 ≤ 10000 then k / 2 else 0) ∧
 ((joinS (lmRows k) [[nmV 1], [nmV 0]] lmOn).2 = (if k ≤ 10000 then 0 else 20) ∧ (joinS (lmRows k) [[nmV 1], [nmV 0]] lmOn).1.length = if k ≤ 10000 then k else 0) := by
 rw [join_eq _ _ _ lm_kids, join_eq _ _ _ lm_kids]
 exact ⟨filS_cnt (lm_yes k).1 (lm_yes k).2, filS_cnt (lm_one k).1 (lm_one k).2, filS_cnt (lm_two k).1 (lm_two k).2⟩
end Go.Proofs.YtpcblbbddccgpaaDoor
namespace Go.Proofs.YtpcblbbddccgpaaDoor
open Go.RowKit
def tFl := aa wX <| aa wbu <| aa T3 <| aa T22 <| aa T27 <| aa T31 <| aa T36 T45
def OkRowsL (rows : List (List Va)) : Prop := rows.length ≤ 140737488351232 ∧ ∀ r ∈ rows, r.length ≤ 4398046511104
theorem afilterL (rows : List (List Va)) (x : Ex) (hr : OkRowsL rows) (σ : St) : ACalls Tryd.prog 8 [.p (.sl 1 (enVV rows)), exA x] σ fun r s => s = σ ∧ r = .tup [.p (.sl 1 (enVV (filS rows x).1)), intV .i64 (filS rows x).2] := by
 refine ACalls.pureF (R := fun r => r = .tup [.p (.sl 1 (enVV (filS rows x).1)), intV .i64 (filS rows x).2]) ?_ (by cases x; rfl) σ
 obtain ⟨hn, hr⟩ := hr
 have hH := fun row => aholdsV row x
 unfold filS
 generalize hst : filStep x = stp at *
 have hstp : ∀ s r, stp s r = (if (holdsV r x).1 = true ∧ s.1.length ≤ 10000 then s.1 ++ [r] else s.1, leastI s.2 (holdsV r x).2) := fun s r => by rw [← hst]; rfl
 generalize hhv : (fun r => holdsV r x) = hv at *
 have hhv' : ∀ r, holdsV r x = hv r := fun r => by rw [← hhv]
 simp only [hhv'] at hH hstp
 clear hst hhv hhv'
 obtain ⟨k, vk, vn, vs, tb, nm, s, kids⟩ := x
 simp only [exA, exC, List.map_cons, List.map_nil] at hH
 refine acalls_of cx_ok dr_ok Tryd.func8 (by kernel_rfl) rfl (nt := 41) (rs := [.tmp 4, .tmp 5]) rfl rfl ?_
 simp only [exA, exC, List.map_cons, List.map_nil]
 simp only [↓wBA, tFl, convA, seval, enVV_len]
 refine awp_loopN (rows.length) (fun i => [(7, .nown 2 1 (enVV ((rows.take i).foldl stp ([], 0)).1)), (14, intV .i64 (i : Nat)), (9, .any), (10, .any), (11, .any), (15, .any), (16, .any), (17, .any), (18, .any), (19, .any), (20, .any), (21, .any), (22, .any), (23, .any), (24, .any), (25, .any), (26, .any), (27, .any), (28, .any), (29, .any), (30, .any), (31, .any), (32, .any), (33, .any), (34, .any), (35, .any), (36, .any), (37, .any)]) (fun i => [(1, .row 1 [[intV .i64 ((rows.take i).foldl stp ([], 0)).2]]), (2, .nright 36 (((rows.take i).foldl stp ([], 0)).1.length * 1))]) (fun i => True) ?_ ?_ ?_
 ·trivial
 ·skip
  simp only [wR, Nat.reduceAdd, Nat.reduceLT, reduceIte]
  simp [wW, enVV]
 ·intro i hi _
  simp only [wR, Nat.reduceAdd, Nat.reduceLT, reduceIte]
  by_cases hlt : i < rows.length
  ·have hdec := dT (i := i) (n := rows.length) (by omega)
   have hi0 := nnI i
   have hw := wI i (by omega)
   have hg := enVV_get rows i hlt
   have hst := take_step stp ([], 0) rows i hlt
   have hrl := hr rows[i] (List.getElem_mem hlt)
   rw [hstp] at hst
   generalize hs : (rows.take i).foldl stp ([], 0) = st at *
   obtain ⟨out, l⟩ := st
   simp only at hst
   generalize hrow : rows[i] = row at *
   by_cases ho : out.length ≤ 10000
   ·have hd : decide ((out.length : Int) ≤ 10000) = true := by simp; omega
    have hlim1 := tL (n := (out.length + 1) * 24) (by omega)
    have hlim2 := lM (n := out.length + 1) (by omega)
    repeat' first | ((with_reducible first | refine cs ?_ ?_ | refine ws ?_ ?_) <;> intro h <;> try simp only [h]) | simp only [↓wBA, tFl, convA, seval, enVV_len, hdec, hi0, hg, hw, hd, hlim1, hlim2, appendA, srcA, List.length_append] | ((with_reducible show ACalls _ _ _ _ _); first | refine (hH _ _).eq ?_ | (refine (asee _ _ _ 1 rfl).mono ?_; rintro _ _ ⟨_, ⟨rfl, rfl⟩, rfl⟩; simp only [lsO]) | refine (aclone _ hrl _).eq ?_)
    all_goals refine ⟨⟨i + 1, by omega, trivial⟩, by show rows.length - (i + 1) < rows.length - i; omega, ?_⟩
    all_goals simp only [wR, Nat.reduceAdd, Nat.reduceLT, reduceIte]
    all_goals simp_all [wW, enVV]
   ·have hd : decide ((out.length : Int) ≤ 10000) = false := by simp; omega
    repeat' first | ((with_reducible first | refine cs ?_ ?_ | refine ws ?_ ?_) <;> intro h <;> try simp only [h]) | simp only [↓wBA, tFl, convA, seval, enVV_len, hdec, hi0, hg, hw, hd] | ((with_reducible show ACalls _ _ _ _ _); first | refine (hH _ _).eq ?_ | (refine (asee _ _ _ 1 rfl).mono ?_; rintro _ _ ⟨_, ⟨rfl, rfl⟩, rfl⟩; simp only [lsO]))
    all_goals refine ⟨⟨i + 1, by omega, trivial⟩, by show rows.length - (i + 1) < rows.length - i; omega, ?_⟩
    all_goals simp only [wR, Nat.reduceAdd, Nat.reduceLT, reduceIte]
    all_goals simp_all [wW, enVV]
  ·have hdec := dF (i := i) (n := rows.length) (by omega)
   have ht : rows.take i = rows := List.take_of_length_le (by omega)
   simp only [ht]
   repeat' first | ((with_reducible first | refine cs ?_ ?_ | refine ws ?_ ?_) <;> intro h <;> try simp only [h]) | simp only [↓wBA, tFl, convA, seval, enVV_len, hdec] | ((with_reducible show ACalls _ _ _ _ _); refine ACalls.frzArgs ?_; simp only [frzL, frzA]; refine (aanswer _ _ _).eq ?_)
   all_goals refine ret_is (a := _) ?_ rfl rfl
   all_goals simp only [↓wBA, tFl, convA, seval]
   all_goals simp_all [wS]
end Go.Proofs.YtpcblbbddccgpaaDoor
namespace Go.Proofs.YtpcblbbddccgpaaDoor
open Go.RowKit
theorem awp_loopX {P : Program} {C : Ctx} {fr : List AV} {σ : St} {Q : Exit → List AV → St → Prop} {c : Code} (n : Nat) (D : Nat → List (Nat × AV)) (T : Nat → St) (id : Nat) (D2 : List (Nat × AV)) (T2 : St) (hl : ∀ i, σ.length ≤ (T i).length) (hl2 : σ.length ≤ T2.length) (h2 : WeakE fr σ (setsF fr (D 0)) (T 0))
 (h3 : ∀ i, (hi : i ≤ n) → AWp P C (aDraw P C) c (setsF fr (D i)) (T i) (roundA (fun x : { i : Nat // i ≤ n } => (setsF fr (D x.1), T x.1)) (fun x => n - x.1) ⟨i, hi⟩ fun e fr' σ' => e = .exit id ∧ WeakE fr' σ' (setsF fr D2) T2))
 (h4 : Q (.exit id) (setsF fr D2) T2) : AWp P C (aDraw P C) (.loop c) fr σ Q :=
 awp_loopM (X := { i : Nat // i ≤ n }) (fun x => (setsF fr (D x.1), T x.1)) (fun x => n - x.1) ⟨0, by omega⟩ Unit (fun _ => (.exit id, setsF fr D2, T2)) (fun x => hl x.1) (fun _ => hl2) h2 (fun ⟨i, hi⟩ => AWp_mono (fun e f s h => by
  cases e with
  | normal => exact h
  | _ => exact ⟨(), h.1.symm, h.2⟩) (h3 i hi)) fun _ => h4
end Go.Proofs.YtpcblbbddccgpaaDoor
