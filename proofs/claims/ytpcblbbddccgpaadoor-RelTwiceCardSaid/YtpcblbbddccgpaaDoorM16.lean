/- Data with nil for slices of no elements. Answers that the document fixes, and small functions of law 17. Rows filtered, as many as an argument may have. Filters behind filters: the plain law of RelTwice. RelTwice. Arguments opened as data of the abstract machine, by their types. A law's walk, as the call that its row asks for. Arguments that are expressions, opened. Arguments that are rows; what a row's conditions say of the variables. A world that holds the listed tables: the witness of law 17's rows; and what the list tells of the powers of ten. -/
import Derived.Test.YtpcblbbddccgpaaDoorM08
import Derived.Test.YtpcblbbddccgpaaDoorM15
import Derived.Test.YtpcblbbddccgpaaDoorM12
import Derived.Test.YtpcblbbddccgpaaDoorM01
import Derived.ProofKit
import Derived.SizedLaws
import Derived.Deep.Slices
import Derived.Deep.MidRow
import Derived.Test.YtpcblbbddccgpaaDoorM11
import Derived.Shelf.Vars
import Derived.Stop.LaidErr
import Derived.Lib.LaidTab
import Derived.Lib.ItoaNum
import Derived.Test.YtpcblbbddccgpaaDoorM13
import Derived.Test.YtpcblbbddccgpaaDoorRows
import Derived.Lib.LaidIn
import Derived.Lib.LaidCaseMet
import Derived.PinnedBridge
import Derived.Deep.DeepWitnessRowRef
set_option linter.unusedSimpArgs false
set_option linter.unusedVariables false
set_option linter.defProp false
set_option maxRecDepth 100000
set_option maxHeartbeats 32000000
namespace Go.Proofs.YtpcblbbddccgpaaDoor
open Go.RowKit
mutual
def nleP : PV → PV → Prop
 | .v a, .v b => a = b
 | .v a, .sl _ ls => a = .slice none 0 0 ∧ ls = []
 | .sl e ls, .sl e' ls' => e = e' ∧ nleR ls ls'
 | .sl _ _, .v _ => False
def nleR : List (List PV) → List (List PV) → Prop
 | [], [] => True
 | c :: ls, c' :: ls' => nleQ c c' ∧ nleR ls ls'
 | _, _ => False
def nleQ : List PV → List PV → Prop
 | [], [] => True
 | x :: c, y :: c' => nleP x y ∧ nleQ c c'
 | _, _ => False
end
theorem nleR_len : ∀ {l m : List (List PV)}, nleR l m → l.length = m.length
 | [], [], _ => rfl
 | _ :: l, _ :: m, h => by simp only [nleR] at h; simp [nleR_len h.2]
 | [], _ :: _, h => by simp [nleR] at h
 | _ :: _, [], h => by simp [nleR] at h
theorem nleQ_len : ∀ {l m : List PV}, nleQ l m → l.length = m.length
 | [], [], _ => rfl
 | _ :: l, _ :: m, h => by simp only [nleQ] at h; simp [nleQ_len h.2]
 | [], _ :: _, h => by simp [nleQ] at h
 | _ :: _, [], h => by simp [nleQ] at h
mutual
theorem nleP.rep {w : World} {I : Nat → Nat → Prop} : ∀ {x y : PV} {u : Value}, nleP x y → PRep w I x u → PRep w I y u
 | .v a, .v b, u, h, hx => by simp only [nleP] at h; subst h; exact hx
 | .v a, .sl e ls, u, h, hx => by
   simp only [nleP] at h
   obtain ⟨rfl, rfl⟩ := h
   simp only [PRep] at hx ⊢
   exact .inl ⟨trivial, none, 0, hx.2, fun _ => rfl⟩
 | .sl e ls, .sl e' ls', u, h, hx => by
   simp only [nleP] at h
   obtain ⟨rfl, h⟩ := h
   have hl := nleR_len h
   simp only [PRep] at hx ⊢
   rcases hx with ⟨h0, h1⟩ | ⟨b, off, cap, h1, h2, h3⟩
   ·subst h0
    refine .inl ⟨?_, h1⟩
    cases ls' with
    | nil => rfl
    | cons c l => simp at hl
   ·exact .inr ⟨b, off, cap, by rw [← hl]; exact h1, by omega, nleR.rep h h3⟩
 | .sl _ _, .v _, u, h, hx => by simp [nleP] at h
theorem nleR.rep {w : World} {I : Nat → Nat → Prop} {b : Nat} : ∀ {l m : List (List PV)} {off e : Nat}, nleR l m → PRepR w I b off e l → PRepR w I b off e m
 | [], [], off, e, _, hx => hx
 | c :: l, c' :: m, off, e, h, hx => by
   simp only [nleR] at h
   simp only [PRepR] at hx ⊢
   exact ⟨by rw [← nleQ_len h.1]; exact hx.1, nleQ.rep h.1 hx.2.1, nleR.rep h.2 hx.2.2⟩
 | [], _ :: _, _, _, h, _ => by simp [nleR] at h
 | _ :: _, [], _, _, h, _ => by simp [nleR] at h
theorem nleQ.rep {w : World} {I : Nat → Nat → Prop} {b : Nat} : ∀ {l m : List PV} {off : Nat}, nleQ l m → PRepC w I b off l → PRepC w I b off m
 | [], [], off, _, hx => hx
 | x :: l, y :: m, off, h, hx => by
   simp only [nleQ] at h
   simp only [PRepC] at hx ⊢
   obtain ⟨⟨u, h1, h2, h3⟩, h4⟩ := hx
   exact ⟨⟨u, h1, h2, nleP.rep h.1 h3⟩, nleQ.rep h.2 h4⟩
 | [], _ :: _, _, h, _ => by simp [nleQ] at h
 | _ :: _, [], _, h, _ => by simp [nleQ] at h
end
theorem nleQ.args {M : View} : ∀ {l m : List PV} {us : List Value}, nleQ l m → ARepL M (l.map .p) us → ARepL M (m.map .p) us
 | [], [], us, _, hx => hx
 | x :: l, y :: m, us, h, hx => by
   simp only [nleQ] at h
   simp only [List.map_cons, ARepL] at hx ⊢
   obtain ⟨u, us', rfl, h1, h2⟩ := hx
   refine ⟨u, us', rfl, ?_, nleQ.args h.2 h2⟩
   simp only [ARep] at h1 ⊢
   exact nleP.rep h.1 h1
 | [], _ :: _, _, h, _ => by simp [nleQ] at h
 | _ :: _, [], _, h, _ => by simp [nleQ] at h
theorem ACalls.arg2 {P : Program} {f : FuncId} {a : AV} {x y : PV} {rest : List AV} {σ : St} {R : AV → St → Prop} (h : nleP x y) (hc : ACalls P f (a :: .p y :: rest) σ R) : ACalls P f (a :: .p x :: rest) σ R :=
 ⟨hc.1, fun M vs hM hv => hc.2 M vs hM (by
  simp only [ARepL] at hv ⊢
  obtain ⟨u, us', rfl, h0, u2, us2, rfl, h1, h2⟩ := hv
  refine ⟨u, _, rfl, h0, u2, us2, rfl, ?_, h2⟩
  simp only [ARep] at h1 ⊢
  exact nleP.rep h h1)⟩
end Go.Proofs.YtpcblbbddccgpaaDoor
namespace Go.Proofs.YtpcblbbddccgpaaDoor
open Go.RowKit
def tW7 := aa wX <| aa wbu <| aa T2 <| aa T3 <| aa T22 <| aa T24 <| aa T25 <| aa T27 <| aa T31 T36
def nmV (n : Int) : Va := (1, n, emp)
def slX (n : Int) : Ex := .mk 24 0 0 emp emp emp n []
def noX (k : Int) (kids : List Ex) : Ex := .mk k 0 0 emp emp emp 0 kids
theorem anum (n : Int) (σ : St) : ACalls Tryd.prog 11 [intV .i64 n] σ fun r s => s = σ ∧ r = vaA (nmV n) := by
 refine ACalls.pureF (R := fun r => r = vaA (nmV n)) ?_ rfl σ
 refine acalls_of cx_ok dr_ok Tryd.func11 (by kernel_rfl) rfl (nt := 4) (rs := [.cell 2 24]) rfl rfl ?_
 repeat' first | ((with_reducible first | refine cs ?_ ?_ | refine ws ?_ ?_) <;> intro h <;> try simp only [h]) | simp only [↓wBA, tW7, convA, seval]
 all_goals refine ret_is (a := _) ?_ rfl rfl
 all_goals simp only [↓wBA, tW7, convA, seval]
 all_goals simp_all [wS, vaA, vaC, nmV, emp]
theorem aslot (n : Int) (σ : St) : ACalls Tryd.prog 14 [intV .i64 n] σ fun r s => s = σ ∧ r = exA (slX n) := by
 refine ACalls.pureF (R := fun r => r = exA (slX n)) ?_ rfl σ
 refine acalls_of cx_ok dr_ok Tryd.func14 (by kernel_rfl) rfl (nt := 4) (rs := [.cell 2 27]) rfl rfl ?_
 repeat' first | ((with_reducible first | refine cs ?_ ?_ | refine ws ?_ ?_) <;> intro h <;> try simp only [h]) | simp only [↓wBA, tW7, convA, seval]
 all_goals refine ret_is (a := _) ?_ rfl rfl
 all_goals simp only [↓wBA, tW7, convA, seval]
 all_goals simp_all [wS, exA, exC, exL, slX, emp]
theorem anode (k : Int) (kids : List Ex) (σ : St) : ACalls Tryd.prog 10 [intV .i64 k, .p (.sl 8 (exL kids))] σ fun r s => s = σ ∧ r = exA (noX k kids) := by
 refine ACalls.pureF (R := fun r => r = exA (noX k kids)) ?_ rfl σ
 refine acalls_of cx_ok dr_ok Tryd.func10 (by kernel_rfl) rfl (nt := 6) (rs := [.cell 4 27]) rfl rfl ?_
 repeat' first | ((with_reducible first | refine cs ?_ ?_ | refine ws ?_ ?_) <;> intro h <;> try simp only [h]) | simp only [↓wBA, tW7, convA, seval]
 all_goals refine ret_is (a := _) ?_ rfl rfl
 all_goals simp only [↓wBA, tW7, convA, seval]
 all_goals simp_all [wS, exA, exC, noX, emp]
theorem awJoin : filS (pairsS [[nmV 1], [nmV 2]] [[nmV 2, nmV 8], [nmV 1, nmV 9]]) (noX 10 [slX 0, slX 1]) = ([[nmV 1, nmV 1, nmV 9], [nmV 2, nmV 2, nmV 8]], 0) := by kernel_rfl
theorem awFil : filS [[nmV 1], [nmV 2]] (noX 14 [slX 0, .mk 1 1 1 emp emp emp 0 []]) = ([[nmV 2]], 0) := by kernel_rfl
theorem aawake (σ : St) : ACalls Tryd.prog 7 [] σ fun r s => s = σ ∧ r = boolV true := by
 refine ACalls.pureF (R := fun r => r = boolV true) ?_ rfl σ
 have hJ := ajoin [[nmV 1], [nmV 2]] [[nmV 2, nmV 8], [nmV 1, nmV 9]] 10 0 0 emp emp emp 0 [slX 0, slX 1] (by decide) (by decide) (by decide) (by decide) (by decide) (by decide)
 have hF := afilter [[nmV 1], [nmV 2]] (noX 14 [slX 0, .mk 1 1 1 emp emp emp 0 []]) ⟨by decide, by decide⟩
 have hS := asameVV [[nmV 1, nmV 1, nmV 9], [nmV 2, nmV 2, nmV 8]] [[nmV 1, nmV 1, nmV 9], [nmV 2, nmV 2, nmV 8]] (by decide) (by decide) (by decide) (by decide)
 have hkk : kidsOk (noX 10 [slX 0, slX 1]) := by
  intro y hy
  rcases List.mem_cons.1 hy with rfl | hy
  ·decide
  ·rcases List.mem_cons.1 hy with rfl | hy
   ·decide
   ·cases hy
 have hje := join_eq [[nmV 1], [nmV 2]] [[nmV 2, nmV 8], [nmV 1, nmV 9]] (noX 10 [slX 0, slX 1]) hkk
 rw [awJoin] at hje
 have hJ1 : (joinS [[nmV 1], [nmV 2]] [[nmV 2, nmV 8], [nmV 1, nmV 9]] (.mk 10 0 0 emp emp emp 0 [slX 0, slX 1])) = _ := hje
 rw [hJ1] at hJ
 rw [awFil] at hF
 have hn1 := anode 10 [slX 0, slX 1]
 have hn2 := anode 14 [slX 0, .mk 1 1 1 emp emp emp 0 []]
 have hsv : sameVV [[nmV 1, nmV 1, nmV 9], [nmV 2, nmV 2, nmV 8]] [[nmV 1, nmV 1, nmV 9], [nmV 2, nmV 2, nmV 8]] = true := decide_eq_true rfl
 rw [hsv] at hS
 simp only [exA, exC, exL, enVV, enV, vaC, slX, noX, nmV, List.map_cons, List.map_nil, emp] at hJ hF hS hn1 hn2
 refine acalls_of cx_ok dr_ok Tryd.func7 (by kernel_rfl) rfl (nt := 63) (rs := [.tmp 0]) rfl rfl ?_
 have hnum := anum
 have hslot := aslot
 simp only [exA, exC, exL, vaA, vaC, slX, nmV, List.map_cons, List.map_nil, emp, intV] at hnum hslot hJ hF hn1 hn2
 repeat' first | ((with_reducible first | refine cs ?_ ?_ | refine ws ?_ ?_) <;> intro h <;> try simp only [h]) | simp only [↓wBA, tW7, convA, seval] | ((with_reducible show ACalls _ _ _ _ _); first | ((with_reducible show ACalls _ 11 _ _ _); refine (hnum _ _).eq ?_) | ((with_reducible show ACalls _ 14 _ _ _); refine (hslot _ _).eq ?_) | ((with_reducible show ACalls _ 10 _ _ _); refine ACalls.frzArgs ?_; simp only [frzL, frzA]; refine (hn1 _).eq ?_) | ((with_reducible show ACalls _ 10 _ _ _); refine ACalls.frzArgs ?_; simp only [frzL, frzA]; refine ACalls.arg2 (by simp [nleP, nleR, nleQ]) ((hn2 _).mono ?_); rintro _ _ ⟨rfl,rfl⟩) | ((with_reducible show ACalls _ 13 _ _ _); refine ACalls.frzArgs ?_; simp only [frzL, frzA]; refine (hJ _).eq ?_) | ((with_reducible show ACalls _ 8 _ _ _); refine ACalls.frzArgs ?_; simp only [frzL, frzA]; refine (hF _).eq ?_) | ((with_reducible show ACalls _ 9 _ _ _); refine ACalls.frzArgs ?_; simp only [frzL, frzA]; refine (hS _).eq ?_))
 all_goals refine ret_is (a := _) ?_ rfl rfl
 all_goals simp only [↓wBA, tW7, convA, seval]
 all_goals simp_all [wS]
end Go.Proofs.YtpcblbbddccgpaaDoor
namespace Go.Proofs.YtpcblbbddccgpaaDoor
open Go.RowKit
def tFl := aa wX <| aa wbu <| aa T3 <| aa T22 <| aa T27 <| aa T31 <| aa T36 T45
def OkRowsL (rows : List (List Va)) : Prop := rows.length ≤ 140737488351232 ∧ ∀ r ∈ rows, r.length ≤ 4398046511104
theorem afilterL (rows : List (List Va)) (x : Ex) (hr : OkRowsL rows) (σ : St) : ACalls Tryd.prog 8 [.p (.sl 1 (enVV rows)), exA x] σ fun r s => s = σ ∧ r = .tup [.p (.sl 1 (enVV (filS rows x).1)), intV .i64 (filS rows x).2] := by
 refine ACalls.pureF (R := fun r => r = .tup [.p (.sl 1 (enVV (filS rows x).1)), intV .i64 (filS rows x).2]) ?_ (by cases x; rfl) σ
 obtain ⟨hn, hr⟩ := hr
 have hH := fun row => aholdsV row x
 unfold filS
 generalize hst : filStep x = stp at *
 have hstp : ∀ s r, stp s r = (if (holdsV r x).1 = true ∧ s.1.length ≤ 10000 then s.1 ++ [r] else s.1, leastI s.2 (holdsV r x).2) := fun s r => by rw [← hst]; rfl
 generalize hhv : (fun r => holdsV r x) = hv at *
 have hhv' : ∀ r, holdsV r x = hv r := fun r => by rw [← hhv]
 simp only [hhv'] at hH hstp
 clear hst hhv hhv'
 obtain ⟨k, vk, vn, vs, tb, nm, s, kids⟩ := x
 simp only [exA, exC, List.map_cons, List.map_nil] at hH
 refine acalls_of cx_ok dr_ok Tryd.func8 (by kernel_rfl) rfl (nt := 41) (rs := [.tmp 4, .tmp 5]) rfl rfl ?_
 simp only [exA, exC, List.map_cons, List.map_nil]
 simp only [↓wBA, tFl, convA, seval, enVV_len]
 refine awp_loopN (rows.length) (fun i => [(7, .nown 2 1 (enVV ((rows.take i).foldl stp ([], 0)).1)), (14, intV .i64 (i : Nat)), (9, .any), (10, .any), (11, .any), (15, .any), (16, .any), (17, .any), (18, .any), (19, .any), (20, .any), (21, .any), (22, .any), (23, .any), (24, .any), (25, .any), (26, .any), (27, .any), (28, .any), (29, .any), (30, .any), (31, .any), (32, .any), (33, .any), (34, .any), (35, .any), (36, .any), (37, .any)]) (fun i => [(1, .row 1 [[intV .i64 ((rows.take i).foldl stp ([], 0)).2]]), (2, .nright 36 (((rows.take i).foldl stp ([], 0)).1.length * 1))]) (fun i => True) ?_ ?_ ?_
 ·trivial
 ·skip
  simp only [wR, Nat.reduceAdd, Nat.reduceLT, reduceIte]
  simp [wW, enVV]
 ·intro i hi _
  simp only [wR, Nat.reduceAdd, Nat.reduceLT, reduceIte]
  by_cases hlt : i < rows.length
  ·have hdec := dT (i := i) (n := rows.length) (by omega)
   have hi0 := nnI i
   have hw := wI i (by omega)
   have hg := enVV_get rows i hlt
   have hst := take_step stp ([], 0) rows i hlt
   have hrl := hr rows[i] (List.getElem_mem hlt)
   rw [hstp] at hst
   generalize hs : (rows.take i).foldl stp ([], 0) = st at *
   obtain ⟨out, l⟩ := st
   simp only at hst
   generalize hrow : rows[i] = row at *
   by_cases ho : out.length ≤ 10000
   ·have hd : decide ((out.length : Int) ≤ 10000) = true := by simp; omega
    have hlim1 := tL (n := (out.length + 1) * 24) (by omega)
    have hlim2 := lM (n := out.length + 1) (by omega)
    repeat' first | ((with_reducible first | refine cs ?_ ?_ | refine ws ?_ ?_) <;> intro h <;> try simp only [h]) | simp only [↓wBA, tFl, convA, seval, enVV_len, hdec, hi0, hg, hw, hd, hlim1, hlim2, appendA, srcA, List.length_append] | ((with_reducible show ACalls _ _ _ _ _); first | refine (hH _ _).eq ?_ | (refine (asee _ _ _ 1 rfl).mono ?_; rintro _ _ ⟨_, ⟨rfl, rfl⟩, rfl⟩; simp only [lsO]) | refine (aclone _ hrl _).eq ?_)
    all_goals refine ⟨⟨i + 1, by omega, trivial⟩, by show rows.length - (i + 1) < rows.length - i; omega, ?_⟩
    all_goals simp only [wR, Nat.reduceAdd, Nat.reduceLT, reduceIte]
    all_goals simp_all [wW, enVV]
   ·have hd : decide ((out.length : Int) ≤ 10000) = false := by simp; omega
    repeat' first | ((with_reducible first | refine cs ?_ ?_ | refine ws ?_ ?_) <;> intro h <;> try simp only [h]) | simp only [↓wBA, tFl, convA, seval, enVV_len, hdec, hi0, hg, hw, hd] | ((with_reducible show ACalls _ _ _ _ _); first | refine (hH _ _).eq ?_ | (refine (asee _ _ _ 1 rfl).mono ?_; rintro _ _ ⟨_, ⟨rfl, rfl⟩, rfl⟩; simp only [lsO]))
    all_goals refine ⟨⟨i + 1, by omega, trivial⟩, by show rows.length - (i + 1) < rows.length - i; omega, ?_⟩
    all_goals simp only [wR, Nat.reduceAdd, Nat.reduceLT, reduceIte]
    all_goals simp_all [wW, enVV]
  ·have hdec := dF (i := i) (n := rows.length) (by omega)
   have ht : rows.take i = rows := List.take_of_length_le (by omega)
   simp only [ht]
   repeat' first | ((with_reducible first | refine cs ?_ ?_ | refine ws ?_ ?_) <;> intro h <;> try simp only [h]) | simp only [↓wBA, tFl, convA, seval, enVV_len, hdec] | ((with_reducible show ACalls _ _ _ _ _); refine ACalls.frzArgs ?_; simp only [frzL, frzA]; refine (aanswer _ _ _).eq ?_)
   all_goals refine ret_is (a := _) ?_ rfl rfl
   all_goals simp only [↓wBA, tFl, convA, seval]
   all_goals simp_all [wS]
end Go.Proofs.YtpcblbbddccgpaaDoor
namespace Go.Proofs.YtpcblbbddccgpaaDoor
open Go.RowKit
theorem leastI_zero {l e : Int} (h : leastI l e = 0) : l = 0 ∧ e = 0 := by
 unfold leastI at h
 split at h <;> omega
theorem fil_zero (x : Ex) : ∀ (rows : List (List Va)) (s : List (List Va) × Int), (rows.foldl (filStep x) s).2 = 0 → s.2 = 0 ∧ (∀ r ∈ rows, (holdsV r x).2 = 0) ∧ ((rows.foldl (filStep x) s).1.length ≤ 10000 → (rows.foldl (filStep x) s).1 = s.1 ++ rows.filter fun r => (holdsV r x).1)
 | [], s, h => ⟨h, by simp, by simp⟩
 | q :: rows, s, h => by
   rw [List.foldl_cons] at h
   obtain ⟨h1, h2, h3⟩ := fil_zero x rows _ h
   obtain ⟨g1, g2⟩ := leastI_zero (l := s.2) (e := (holdsV q x).2) h1
   refine ⟨g1, fun r hr => ?_, fun hl => ?_⟩
   ·rcases List.mem_cons.1 hr with rfl | hr
    ·exact g2
    ·exact h2 r hr
   ·rw [List.foldl_cons] at hl ⊢
    have h4 := h3 hl
    rw [h4, List.filter_cons]
    have hs : (filStep x s q).1.length ≤ 10000 := by
     have := congrArg List.length h4
     rw [List.length_append] at this
     omega
    simp only [filStep] at hs ⊢
    cases hq : (holdsV q x).1 with
    | false => simp [hq]
    | true =>
      simp only [hq, true_and] at hs ⊢
      by_cases hle : s.1.length ≤ 10000
      ·simp [hle]
      ·rw [if_neg hle] at hs; omega
theorem filS_ok {rows : List (List Va)} {x : Ex} (h : (filS rows x).2 = 0) : (filS rows x).1 = rows.filter (fun r => (holdsV r x).1) ∧ (∀ r ∈ rows, (holdsV r x).2 = 0) ∧ (filS rows x).1.length ≤ 10000 := by
 unfold filS ansS at h ⊢
 split at h
 ·rename_i h0; exact (h0 h).elim
 ·rename_i h0
  split at h
  ·simp at h
  ·rename_i h1
   rw [if_neg h0, if_neg h1]
   simp only [ne_eq, Decidable.not_not] at h0
   obtain ⟨g1, g2, g3⟩ := fil_zero x rows ([], 0) h0
   have := g3 (by omega)
   simp only [List.nil_append] at this
   exact ⟨this, g2, by simp only; omega⟩
theorem filS_err {rows : List (List Va)} {x : Ex} (h : (filS rows x).2 ≠ 0) : (filS rows x).1 = [] := by
 unfold filS ansS at h ⊢
 split
 ·rfl
 ·split
  ·rfl
  ·rename_i h0 h1
   rw [if_neg h0, if_neg h1] at h
   exact (h rfl).elim
theorem fil_all (x : Ex) : ∀ (rows : List (List Va)) (s : List (List Va) × Int), (∀ r ∈ rows, (holdsV r x).2 = 0) → s.2 = 0 → s.1.length + (rows.filter fun r => (holdsV r x).1).length ≤ 10001 → rows.foldl (filStep x) s = (s.1 ++ rows.filter (fun r => (holdsV r x).1), 0)
 | [], s, h, h0, hl => by simp [← h0]
 | q :: rows, s, h, h0, hl => by
   have hq := h q (by simp)
   rw [List.foldl_cons, List.filter_cons]
   rw [List.filter_cons] at hl
   have hst : (filStep x s q).2 = 0 := by simp only [filStep, hq, h0]; rfl
   cases hb : (holdsV q x).1 with
   | false =>
     simp only [hb, Bool.false_eq_true, if_false] at hl ⊢
     have h1 : (filStep x s q).1 = s.1 := by simp [filStep, hb]
     rw [fil_all x rows _ (fun r hr => h r (by simp [hr])) hst (by rw [h1]; exact hl), h1]
   | true =>
     simp only [hb, if_true, List.length_cons] at hl ⊢
     have h1 : (filStep x s q).1 = s.1 ++ [q] := by
      simp only [filStep, hb, true_and]
      rw [if_pos (by omega)]
     rw [fil_all x rows _ (fun r hr => h r (by simp [hr])) hst (by rw [h1]; simp; omega), h1]
     simp
theorem filS_of {rows : List (List Va)} {x : Ex} (h : ∀ r ∈ rows, (holdsV r x).2 = 0) (hl : (rows.filter fun r => (holdsV r x).1).length ≤ 10000) : filS rows x = (rows.filter (fun r => (holdsV r x).1), 0) := by
 unfold filS
 rw [fil_all x rows ([], 0) h rfl (by simp; omega)]
 simp only [List.nil_append, ansS]
 rw [if_neg (by simp), if_neg (by simpa using hl)]
theorem fil_twice {rows : List (List Va)} {x : Ex} (h : (filS rows x).2 = 0) : filS (filS rows x).1 x = ((filS rows x).1, 0) := by
 obtain ⟨h1, h2, h3⟩ := filS_ok h
 rw [h1] at h3 ⊢
 have hf : (rows.filter fun r => (holdsV r x).1).filter (fun r => (holdsV r x).1) = rows.filter fun r => (holdsV r x).1 := by
  rw [List.filter_filter]; simp
 rw [filS_of (fun r hr => h2 r (List.mem_filter.1 hr).1) (by rw [hf]; exact h3), hf]
theorem fil_two {rows : List (List Va)} {x y : Ex} (h : (filS rows x).2 = 0) (k : (filS rows y).2 = 0) : filS (filS rows x).1 y = (rows.filter (fun r => (holdsV r x).1 && (holdsV r y).1), 0) ∧ filS (filS rows y).1 x = (rows.filter (fun r => (holdsV r x).1 && (holdsV r y).1), 0) := by
 obtain ⟨h1, h2, h3⟩ := filS_ok h
 obtain ⟨k1, k2, k3⟩ := filS_ok k
 rw [h1] at h3 ⊢
 rw [k1] at k3 ⊢
 constructor
 ·rw [filS_of (fun r hr => k2 r (List.mem_filter.1 hr).1) (by exact Nat.le_trans (List.length_filter_le _ _) h3), List.filter_filter]
  congr 2
  funext r; exact Bool.and_comm _ _
 ·rw [filS_of (fun r hr => h2 r (List.mem_filter.1 hr).1) (by exact Nat.le_trans (List.length_filter_le _ _) k3), List.filter_filter]
end Go.Proofs.YtpcblbbddccgpaaDoor
namespace Go.Proofs.YtpcblbbddccgpaaDoor
open Go.RowKit
def tTw := aa wX <| aa wbu <| aa T3 <| aa T4 <| aa T22 <| aa T27 T31
theorem filS_len (rows : List (List Va)) (x : Ex) (hr : OkRowsL rows) : OkRows (filS rows x).1 ∧ (filS rows x).1.length ≤ 10000 := by
 by_cases h : (filS rows x).2 = 0
 ·obtain ⟨h1, _, h3⟩ := filS_ok h
  refine ⟨⟨by omega, fun r hm => ?_⟩, h3⟩
  rw [h1] at hm
  exact hr.2 r (List.mem_filter.1 hm).1
 ·rw [filS_err h]
  exact ⟨⟨by simp, by simp⟩, by simp⟩
theorem atwice (rows : List (List Va)) (x y : Ex) (hr : OkRowsL rows) (σ : St) : ACalls Tryd.prog 4 [.p (.sl 1 (enVV rows)), exA x, exA y] σ fun r s => s = σ ∧ r = boolV true := by
 refine ACalls.pureF (R := fun r => r = boolV true) ?_ (by cases x; cases y; rfl) σ
 have hA := aawake
 have h1 := afilterL rows x hr
 have h2 := afilterL rows y hr
 obtain ⟨o1, l1⟩ := filS_len rows x hr
 obtain ⟨o2, l2⟩ := filS_len rows y hr
 have h3 := afilter (filS rows x).1 x o1
 have h4 := afilter (filS rows x).1 y o1
 have h5 := afilter (filS rows y).1 x o2
 have hS1 := asameVV (filS rows x).1 (filS rows x).1 o1.1 o1.1 o1.2 o1.2
 have hs1 : sameVV (filS rows x).1 (filS rows x).1 = true := decide_eq_true rfl
 rw [hs1] at hS1
 have hE := @filS_err rows x
 have hT := @fil_twice rows x
 have hW := @fil_two rows x y
 by_cases hx : (filS rows x).2 = 0
 ·have hT := hT hx
  have hz := filS_ok hx
  by_cases hy : (filS rows y).2 = 0
  ·obtain ⟨w1, w2⟩ := hW hx hy
   have hlen : (rows.filter fun r => (holdsV r x).1 && (holdsV r y).1).length ≤ 10000 := by
    have := filS_len (filS rows x).1 y ⟨Nat.le_trans o1.1 (by omega), o1.2⟩
    rw [w1] at this
    exact this.2
   have hrr : ∀ r ∈ (rows.filter fun r => (holdsV r x).1 && (holdsV r y).1), r.length ≤ 4398046511104 := fun r hm => hr.2 r (List.mem_filter.1 hm).1
   generalize (rows.filter fun r => (holdsV r x).1 && (holdsV r y).1) = w at *
   have hS2 := asameVV w w (by omega) (by omega) hrr hrr
   have hs2 : sameVV w w = true := decide_eq_true rfl
   rw [hs2] at hS2
   rw [hT] at h3
   rw [w1] at h4
   rw [w2] at h5
   rw [hx] at h1
   rw [hy] at h2
   generalize (filS rows x).1 = fx at *
   generalize (filS rows y).1 = fy at *
   obtain ⟨xk, xvk, xvn, xvs, xtb, xnm, xs, xkids⟩ := x
   obtain ⟨yk, yvk, yvn, yvs, ytb, ynm, ys, ykids⟩ := y
   simp only [exA, exC, List.map_cons, List.map_nil] at h1 h2 h3 h4 h5
   refine acalls_of cx_ok dr_ok Tryd.func4 (by kernel_rfl) rfl (nt := 72) (rs := [.tmp 6]) rfl rfl ?_
   simp only [exA, exC, List.map_cons, List.map_nil]
   repeat' first | ((with_reducible first | refine cs ?_ ?_ | refine ws ?_ ?_) <;> intro h <;> try simp only [h]) | simp only [↓wBA, tTw, convA, seval, enVV_len] | ((with_reducible show ACalls _ _ _ _ _); first | refine (hA _).eq ?_ | refine (h1 _).eq ?_ | refine (h2 _).eq ?_ | refine (h3 _).eq ?_ | refine (h4 _).eq ?_ | refine (h5 _).eq ?_ | refine (hS1 _).eq ?_ | refine (hS2 _).eq ?_)
   all_goals refine ret_is (a := _) ?_ rfl rfl
   all_goals simp only [↓wBA, tTw, convA, seval]
   all_goals simp_all [wS]
  ·have hne : ((filS rows y).2 != 0) = true := by simpa using hy
   rw [hT] at h3
   rw [hx] at h1
   generalize (filS rows x).1 = fx at *
   generalize filS rows y = fy at *
   obtain ⟨fy1, fy2⟩ := fy
   simp only at hne
   obtain ⟨xk, xvk, xvn, xvs, xtb, xnm, xs, xkids⟩ := x
   obtain ⟨yk, yvk, yvn, yvs, ytb, ynm, ys, ykids⟩ := y
   simp only [exA, exC, List.map_cons, List.map_nil] at h1 h2 h3 h4 h5
   refine acalls_of cx_ok dr_ok Tryd.func4 (by kernel_rfl) rfl (nt := 72) (rs := [.tmp 6]) rfl rfl ?_
   simp only [exA, exC, List.map_cons, List.map_nil]
   repeat' first | ((with_reducible first | refine cs ?_ ?_ | refine ws ?_ ?_) <;> intro h <;> try simp only [h]) | simp only [↓wBA, tTw, convA, seval, enVV_len, hne] | ((with_reducible show ACalls _ _ _ _ _); first | refine (hA _).eq ?_ | refine (h1 _).eq ?_ | refine (h2 _).eq ?_ | refine (h3 _).eq ?_ | refine (hS1 _).eq ?_)
   all_goals refine ret_is (a := _) ?_ rfl rfl
   all_goals simp only [↓wBA, tTw, convA, seval]
   all_goals simp_all [wS]
 ·have hne : ((filS rows x).2 != 0) = true := by simpa using hx
  rw [hE hx] at h1
  generalize (filS rows x).2 = fx at *
  obtain ⟨xk, xvk, xvn, xvs, xtb, xnm, xs, xkids⟩ := x
  obtain ⟨yk, yvk, yvn, yvs, ytb, ynm, ys, ykids⟩ := y
  simp only [exA, exC, List.map_cons, List.map_nil] at h1
  refine acalls_of cx_ok dr_ok Tryd.func4 (by kernel_rfl) rfl (nt := 72) (rs := [.tmp 6]) rfl rfl ?_
  simp only [exA, exC, List.map_cons, List.map_nil]
  repeat' first | ((with_reducible first | refine cs ?_ ?_ | refine ws ?_ ?_) <;> intro h <;> try simp only [h]) | simp only [↓wBA, tTw, convA, seval, enVV_len, hne] | ((with_reducible show ACalls _ _ _ _ _); first | refine (hA _).eq ?_ | refine (h1 _).eq ?_)
  all_goals refine ret_is (a := _) ?_ rfl rfl
  all_goals simp only [↓wBA, tTw, convA, seval]
  all_goals simp_all [wS]
end Go.Proofs.YtpcblbbddccgpaaDoor
namespace Go.Proofs.YtpcblbbddccgpaaDoor
open Go.RowKit Go.Deep Go.ChangeShapes Go.WideShapes
inductive Sh where
 | int (k : IntKind)
 | bool
 | str
 | sl (eb : Nat) (l : List Sh)
 | pred (p : PV → Prop)
mutual
def HasSh : Sh → PV → Prop
 | .int k, x => ∃ n, x = .v (.int k n) ∧ (Lit.int k n).wf = true
 | .bool, x => ∃ b, x = .v (.bool b)
 | .str, x => ∃ s, x = .v (.string s) ∧ s.size ≤ 140737488351232
 | .sl eb l, x => ∃ ls, x = .sl l.length ls ∧ ls.length * eb ≤ 140737488351232 ∧ ∀ c ∈ ls, HasShL l c
 | .pred p, x => p x
def HasShL : List Sh → List PV → Prop
 | [], c => c = []
 | s :: l, c => ∃ x c', c = x :: c' ∧ HasSh s x ∧ HasShL l c'
end
theorem HasShL.len : ∀ {l : List Sh} {c : List PV}, HasShL l c → c.length = l.length
 | [], c, h => by simp only [HasShL] at h; rw [h]; rfl
 | s :: l, c, h => by
   simp only [HasShL] at h
   obtain ⟨x, c', rfl, _, h⟩ := h
   simp [h.len]
theorem HasShL.app : ∀ {l l' : List Sh} {c c' : List PV}, HasShL l c → HasShL l' c' → HasShL (l ++ l') (c ++ c')
 | [], l', c, c', h, h' => by simp only [HasShL] at h; subst h; exact h'
 | s :: l, l', c, c', h, h' => by
   simp only [HasShL] at h
   obtain ⟨x, c1, rfl, h1, h⟩ := h
   simp only [List.cons_append, HasShL]
   exact ⟨x, _, rfl, h1, h.app h'⟩
def shFs (P : Program) (sh : TypeId → Option (List Sh)) : Nat → List Field → Option (List Sh)
 | _, [] => some []
 | off, f :: fs => match sh f.type, shFs P sh (off + P.cellsOf f.type) fs with
   | some l, some l' => if f.offset = off ∧ l.length = P.cellsOf f.type then some (l ++ l') else none
   | _, _ => none
def shOfR (P : Program) (R : TypeId → Option (List Sh)) : Nat → TypeId → Option (List Sh)
 | 0, _ => none
 | n + 1, t => match R t with
   | some l => some l
   | none => match P.underlying t with
     | some .bool => some [.bool]
     | some (.int k) => some [.int k]
     | some .string => some [.str]
     | some (.slice e) => match shOfR P R n e with
       | some l => if l.length = P.cellsOf e ∧ 0 < P.bytesOf e ∧ 0 < P.cellsOf e then some [.sl (P.bytesOf e) l] else none
       | none => none
     | some (.struct fs) => match shFs P (fun t => shOfR P R n t) 0 fs.toList with
       | some l => if l.length = P.cellsOf t then some l else none
       | none => none
     | _ => none
def shOf (P : Program) (n : Nat) (t : TypeId) : Option (List Sh) := shOfR P (fun _ => none) n t
def FitsP {H : Type} (P : Program) (t : TypeId) (d : DataW H) : Prop := ∀ n ∈ d.weights P t, n ≤ 140737488351232
theorem fitsP_of {H : Type} {P : Program} {ts : List TypeId} {ds : List (DataW H)} (h : (DataW.weightsEach P ts ds).all (· ≤ reachBytes) = true) {j : Nat} {t : TypeId} {d : DataW H} (ht : ts[j]? = some t) (hd : ds[j]? = some d) : FitsP P t d := fun n hn => by
 have := List.all_eq_true.1 h n (DataW.weights_mem_each ht hd n hn)
 have h2 : n ≤ reachBytes := by simpa using this
 exact h2
theorem FitsP.elem {H : Type} {P : Program} {t e : TypeId} {elems spare : List (DataW H)} (h : FitsP P t (.slice elems spare)) (hu : P.underlying t = some (.slice e)) {d : DataW H} (hd : d ∈ elems) : FitsP P e d := fun n hn => by
 refine h n ?_
 rw [DataW.weights]
 simp only [hu]
 refine List.mem_cons_of_mem _ (List.mem_append_left _ ?_)
 clear h hu
 induction elems with
 | nil => cases hd
 | cons x r ih =>
   rw [DataW.weightsAll]
   rcases List.mem_cons.1 hd with rfl | hd
   ·exact List.mem_append_left _ hn
   ·exact List.mem_append_right _ (ih hd)
theorem FitsP.len {H : Type} {P : Program} {t e : TypeId} {elems spare : List (DataW H)} (h : FitsP P t (.slice elems spare)) (hu : P.underlying t = some (.slice e)) : (elems.length + spare.length) * P.bytesOf e ≤ 140737488351232 := by
 refine h _ ?_
 rw [DataW.weights]
 simp [hu]
theorem FitsP.field {H : Type} {P : Program} {t : TypeId} {fs : Array Field} {parts : List (DataW H)} (h : FitsP P t (.agg parts)) (hu : P.underlying t = some (.struct fs)) {i : Nat} {f : Field} {d : DataW H} (hf : fs[i]? = some f) (hd : parts[i]? = some d) : FitsP P f.type d := fun n hn => by
 refine h n ?_
 rw [DataW.weights]
 simp only [hu]
 exact DataW.weights_mem_each (j := i) (by simp [hf]) hd n hn
theorem FitsP.str {H : Type} {P : Program} {t : TypeId} {bs : List UInt8} (h : FitsP P t (.lit (.string bs) : DataW H)) : bs.length ≤ 140737488351232 := h _ (by simp [DataW.weights])
def inH (w : World) (b o : Nat) : Prop := b < w.heap.size
def RepL (w : World) (ps : List PV) (cs : List Value) : Prop := ps.length = cs.length ∧ ∀ (i : Nat) (x : PV) (u : Value), ps[i]? = some x → cs[i]? = some u → PRep w (inH w) x u
theorem RepL.one {w : World} {x : PV} {u : Value} (h : PRep w (inH w) x u) : RepL w [x] [u] := ⟨rfl, fun i x' u' hx hu => by
 cases i with
 | zero => simp at hx hu; subst hx hu; exact h
 | succ i => simp at hx⟩
theorem RepL.app {w : World} {ps ps' : List PV} {cs cs' : List Value} (h : RepL w ps cs) (h' : RepL w ps' cs') : RepL w (ps ++ ps') (cs ++ cs') := by
 refine ⟨by simp [h.1, h'.1], fun i x u hx hu => ?_⟩
 rw [List.getElem?_append] at hx hu
 by_cases hi : i < ps.length
 ·rw [if_pos hi] at hx; rw [if_pos (by rw [← h.1]; exact hi)] at hu
  exact h.2 i x u hx hu
 ·rw [if_neg hi] at hx; rw [if_neg (by rw [← h.1]; exact hi)] at hu
  rw [h.1] at hx
  exact h'.2 _ x u hx hu
theorem spotNone {w : World} {a : Addr} {v : Value} (h : w.cell? a = some v) : a = ⟨a.block, a.off, none⟩ := by
 obtain ⟨b, o, s⟩ := a
 cases s with
 | none => rfl
 | some q => simp [World.cell?] at h; split at h <;> simp at h
section
variable {H : Type} {enc : TypeId × Value → H} {P : Program} {w : World} {held : Bool}
theorem shFs_open {sh : TypeId → Option (List Sh)} {cs : List Value} : ∀ (fl : List Field) (off : Nat) (shs : List Sh), shFs P sh off fl = some shs →
 (∀ f ∈ fl, ∀ l, sh f.type = some l → ∃ ps, HasShL l ps ∧ RepL w ps ((cs.drop f.offset).take (P.cellsOf f.type))) → ∃ ps, HasShL shs ps ∧ RepL w ps ((cs.drop off).take shs.length)
 | [], off, shs, h, _ => by
   simp only [shFs, Option.some.injEq] at h; subst h
   exact ⟨[], by simp [HasShL], by simp [RepL]⟩
 | f :: fl, off, shs, h, hf => by
   simp only [shFs] at h
   split at h
   ·rename_i l l' h1 h2
    split at h
    ·rename_i hc
     simp only [Option.some.injEq] at h; subst h
     obtain ⟨ps1, g1, g2⟩ := hf f (by simp) l h1
     obtain ⟨ps2, g3, g4⟩ := shFs_open fl _ l' h2 fun f' hf' => hf f' (by simp [hf'])
     refine ⟨ps1 ++ ps2, g1.app g3, ?_⟩
     rw [hc.1, ← hc.2] at g2
     rw [← hc.2] at g4
     rw [List.length_append, List.take_add, List.drop_drop]
     exact g2.app g4
    ·simp at h
   ·simp at h
theorem open_shR {R : TypeId → Option (List Sh)} {N : Nat} (hR : ∀ t l, R t = some l → ∀ {fuel : Nat} {cs : List Value} {d : DataW H} {p : List MemPlace}, SizeOf.sizeOf d < N → DataW.trod enc P w 0 (fun _ => true) held fuel t cs = some (d, p) → FitsP P t d → ∃ ps, HasShL l ps ∧ RepL w ps cs) :
 ∀ (n : Nat) {fuel : Nat} {t : TypeId} {cs : List Value} {d : DataW H} {p : List MemPlace} {shs : List Sh}, (SizeOf.sizeOf d < N ∨ (SizeOf.sizeOf d ≤ N ∧ R t = none)) → shOfR P R n t = some shs → DataW.trod enc P w 0 (fun _ => true) held fuel t cs = some (d, p) → FitsP P t d →
 ∃ ps, HasShL shs ps ∧ RepL w ps cs
 | 0, fuel, t, cs, d, p, shs, _, hs, _, _ => by simp [shOfR] at hs
 | n + 1, fuel, t, cs, d, p, shs, hN, hs, h, hf => by
   simp only [shOfR] at hs
   have hNle : SizeOf.sizeOf d ≤ N := hN.elim Nat.le_of_lt (·.1)
   split at hs
   ·rename_i l hl
    simp only [Option.some.injEq] at hs; subst hs
    exact hR t l hl (hN.resolve_right fun h => by rw [h.2] at hl; simp at hl) h hf
   split at hs
   ·rename_i hu
    simp only [Option.some.injEq] at hs; subst hs
    obtain ⟨b, rfl, _⟩ := DataW.trod_bool hu h
    exact ⟨[.v (.bool b)], by simp only [HasShL, HasSh]; exact ⟨_, _, rfl, ⟨b, rfl⟩, rfl⟩, RepL.one (by simp only [PRep]; exact ⟨rfl, trivial⟩)⟩
   ·rename_i k hu
    simp only [Option.some.injEq] at hs; subst hs
    obtain ⟨m, rfl, _, hw⟩ := DataW.trod_int hu h
    exact ⟨[.v (.int k m)], by simp only [HasShL, HasSh]; exact ⟨_, _, rfl, ⟨m, rfl, hw⟩, rfl⟩, RepL.one (by simp only [PRep]; exact ⟨rfl, trivial⟩)⟩
   ·rename_i hu
    simp only [Option.some.injEq] at hs; subst hs
    obtain ⟨s, rfl, hx, _⟩ := DataW.trod_string hu h
    simp only [Prod.mk.injEq] at hx
    obtain ⟨rfl, rfl⟩ := hx
    have hl := hf.str
    rw [Array.length_toList] at hl
    exact ⟨[.v (.string s)], by simp only [HasShL, HasSh]; exact ⟨_, _, rfl, ⟨s, rfl, hl⟩, rfl⟩, RepL.one (by simp only [PRep]; exact ⟨rfl, trivial⟩)⟩
   ·rename_i e hu
    split at hs
    case h_2 => simp at hs
    rename_i l hl
    split at hs
    case isFalse => simp at hs
    rename_i hc
    simp only [Option.some.injEq] at hs; subst hs
    rcases open_slice hu h with ⟨rfl, _⟩ | ⟨a, len, cap, m, q, D, Pl, rfl, _, hlc, hcm, hm, hx, hel⟩
    ·exact ⟨[.sl l.length []], by simp only [HasShL, HasSh]; exact ⟨_, _, rfl, ⟨[], rfl, by simp, by simp⟩, rfl⟩, RepL.one (by simp only [PRep]; exact .inl ⟨trivial, none, 0, rfl, fun _ => rfl⟩)⟩
    ·simp only [if_true] at hm
     subst hm
     simp only [Prod.mk.injEq] at hx
     obtain ⟨rfl, rfl⟩ := hx
     have hle := hf.len hu
     simp only [List.length_map, List.length_range] at hle
     have hlen : len * P.bytesOf e ≤ 140737488351232 := Nat.le_trans (Nat.mul_le_mul_right _ (Nat.le_add_right _ _)) hle
     have each : ∀ i, ∃ ps : List PV, i < len → HasShL l ps ∧ ∀ (j : Nat) (x : PV), ps[j]? = some x → ∃ u, w.cell? (a.add (i * P.cellsOf e + j)) = some u ∧ PRep w (inH w) x u := fun i => by
      by_cases hi : i < len
      ·obtain ⟨cs', h1, h2⟩ := hel i (by omega)
       have hmem : D i ∈ (List.range len).map D := List.mem_map.2 ⟨i, List.mem_range.2 hi, rfl⟩
       have hsz : SizeOf.sizeOf (D i) < N := by
        have h1 := List.sizeOf_lt_of_mem hmem
        simp only [DataW.slice.sizeOf_spec] at hNle
        omega
       obtain ⟨ps, h3, h4⟩ := open_shR hR n (.inl hsz) hl h2 (hf.elem hu hmem)
       obtain ⟨_, h5, h6⟩ := World.cells?_some h1
       refine ⟨ps, fun _ => ⟨h3, fun j x hx => ?_⟩⟩
       have hj : j < ps.length := (List.getElem?_eq_some_iff.1 hx).1
       have hj' : j < cs'.length := by rw [← h4.1]; exact hj
       refine ⟨cs'[j], ?_, h4.2 j x _ hx (List.getElem?_eq_getElem hj')⟩
       have := h6 j (by omega)
       rw [add_add] at this
       rw [this]; exact List.getElem?_eq_getElem hj'
      ·exact ⟨[], fun h => absurd h hi⟩
     obtain ⟨R, hR⟩ := Classical.axiomOfChoice each
     refine ⟨[.sl l.length ((List.range len).map R)], ?_, RepL.one ?_⟩
     ·simp only [HasShL, HasSh]
      refine ⟨_, _, rfl, ⟨_, rfl, by simpa using hlen, fun c hc' => ?_⟩, rfl⟩
      obtain ⟨i, hi, rfl⟩ := List.mem_map.1 hc'
      exact (hR i (List.mem_range.1 hi)).1
     ·simp only [PRep, List.length_map, List.length_range]
      by_cases h0 : len = 0
      ·subst h0; exact .inl ⟨rfl, some a, m, rfl, by simp⟩
      ·right
       have hl0 := (hR 0 (by omega)).1.len
       have hR0 : (R 0)[0]? = some ((R 0)[0]'(by rw [hl0]; omega)) := List.getElem?_eq_getElem _
       obtain ⟨u0, hu0, _⟩ := (hR 0 (by omega)).2 0 _ hR0
       rw [show a.add (0 * P.cellsOf e + 0) = a by simp [Addr.add]] at hu0
       have ha := spotNone hu0
       refine ⟨a.block, a.off, m, by rw [← ha], hlc, PRepR.of_get fun i c hc' => ?_⟩
       have hi : i < len := by have := (List.getElem?_eq_some_iff.1 hc').1; simpa using this
       have hcR : c = R i := by simpa [hi] using hc'.symm
       subst hcR
       refine ⟨(hR i hi).1.len, PRepC.of_get fun j x hx => ?_⟩
       obtain ⟨u, g1, g2⟩ := (hR i hi).2 j x hx
       rw [ha, Addr.add_mid, ← hc.1, ← Nat.add_assoc] at g1
       have hb : a.block < w.heap.size := World.block_lt_of_cell? w ⟨a.block, _, none⟩ g1
       exact ⟨u, g1, hb, g2⟩
   ·rename_i fs hu
    split at hs
    case h_2 => simp at hs
    rename_i l hl
    split at hs
    case isFalse => simp at hs
    rename_i hc
    simp only [Option.some.injEq] at hs; subst hs
    obtain ⟨xs, q, rfl, hx, hcl, hxl, hg⟩ := DataW.trod_struct hu h
    simp only [Prod.mk.injEq] at hx
    obtain ⟨rfl, rfl⟩ := hx
    obtain ⟨ps, h1, h2⟩ := shFs_open (w := w) (cs := cs) _ _ _ hl fun f hfm l' hl' => by
     obtain ⟨i, hi⟩ := List.mem_iff_getElem?.1 hfm
     have hi' : fs[i]? = some f := by simpa using hi
     have hil : i < xs.length := by rw [hxl]; exact (Array.getElem?_eq_some_iff.1 hi').1
     have hgi := hg i f hi'
     rw [List.getElem?_eq_getElem hil] at hgi
     have hsz : SizeOf.sizeOf (xs[i]).1 < N := by
      have h1 := List.sizeOf_lt_of_mem (List.mem_map.2 ⟨xs[i], List.getElem_mem hil, rfl⟩ : (xs[i]).1 ∈ xs.map (·.1))
      simp only [DataW.agg.sizeOf_spec] at hNle
      omega
     exact open_shR hR n (.inl hsz) hl' hgi (hf.field hu hi' (by simp [hil]))
    refine ⟨ps, h1, ?_⟩
    rw [List.drop_zero, hc, ← hcl, List.take_length] at h2
    exact h2
   ·simp at hs
theorem open_sh (n : Nat) {fuel : Nat} {t : TypeId} {cs : List Value} {d : DataW H} {p : List MemPlace} {shs : List Sh} (hs : shOf P n t = some shs) (h : DataW.trod enc P w 0 (fun _ => true) held fuel t cs = some (d, p)) (hf : FitsP P t d) : ∃ ps, HasShL shs ps ∧ RepL w ps cs :=
 open_shR (R := fun _ => none) (N := SizeOf.sizeOf d) (fun t l h => by simp at h) n (.inr ⟨Nat.le_refl _, rfl⟩) hs h hf
theorem open_one {n fuel : Nat} {t : TypeId} {v : Value} {d : DataW H} {p : List MemPlace} {s : Sh} (hs : shOf P n t = some [s]) (h : DataW.trod enc P w 0 (fun _ => true) held fuel t [v] = some (d, p)) (hf : FitsP P t d) : ∃ x, HasSh s x ∧ PRep w (inH w) x v := by
 obtain ⟨ps, h1, h2⟩ := open_sh n hs h hf
 simp only [HasShL] at h1
 obtain ⟨x, _, rfl, h3, rfl⟩ := h1
 exact ⟨x, h3, h2.2 0 x v rfl rfl⟩
end
end Go.Proofs.YtpcblbbddccgpaaDoor
namespace Go.Proofs.YtpcblbbddccgpaaDoor
open Go.RowKit
def startV (w : World) : View := ⟨w, inH w, fun _ => none, fun _ => none, fun _ => 0⟩
def GlobW (w : World) : Prop := ∀ x ∈ globTab, ∃ cs T, w.heap[x.1]? = some (.cells cs T (0, 0)) ∧ x.2 cs
theorem startV_match (w : World) (hG : GlobW w) : Match (startV w) [] :=
 ⟨fun t ob h => by simp [St.at] at h, fun t t' ob ob' b h => by simp [St.at] at h, fun t _ => ⟨rfl, rfl⟩, fun t b h => by simp [startV] at h, fun b o h => h, fun x hx => by
  obtain ⟨cs, T, h1, h2⟩ := hG x hx
  exact ⟨cs, T, h1, h2, fun t ob h => by simp [St.at] at h⟩⟩
theorem law_calls {P : Program} {f : FuncId} {args : List AV} (h : ∀ σ, ACalls P f args σ fun u σ' => σ' = σ ∧ u = boolV true) {W : World} {vs : List Value} (hv : ARepL (startV W) args vs) (hG : GlobW W := by intro x hx; simp [globTab] at hx) :
 Calls P f vs.toArray W fun e W' => e = .returned (.bool true) ∧ Below W.heap.size W W' :=
 ((h []).2 (startV W) vs (startV_match W hG) hv).mono fun e w' ⟨v, r, σ', M', h1, h2, h3, h4, h5, _, h6, h7⟩ => by
   subst h1 h2 h7
   rw [(rep_v h5).2]
   exact ⟨rfl, h3.below fun t ob h => by simp [St.at] at h⟩
theorem RepL.args {w : World} : ∀ {ps : List PV} {us : List Value}, RepL w ps us → ARepL (startV w) (ps.map .p) us
 | [], [], _ => by simp [ARepL]
 | x :: ps, u :: us, h => by
   simp only [List.map_cons, ARepL]
   exact ⟨u, us, rfl, by simp only [ARep]; exact h.2 0 x u rfl rfl, RepL.args ⟨by simpa using h.1, fun i y v hy hv => h.2 (i + 1) y v (by simpa using hy) (by simpa using hv)⟩⟩
 | [], _ :: _, h => by have := h.1; simp at this
 | _ :: _, [], h => by have := h.1; simp at this
theorem all_leafL : ∀ m : List PV, (m.map AV.p).all leaf = true
 | [] => rfl
 | x :: m => by simp [leaf]
theorem RepL.agg {w : World} {ps : List PV} {us : Array Value} (h : RepL w ps us.toList) : ARep (startV w) (.agg (ps.map .p)) (.agg us) := by
 simp only [ARep]
 exact ⟨all_leafL ps, us.toList, rfl, h.args⟩
end Go.Proofs.YtpcblbbddccgpaaDoor
namespace Go.Proofs.YtpcblbbddccgpaaDoor
open Go.RowKit Go.Deep Go.ChangeShapes Go.WideShapes
mutual
def okX : Ex → Prop
 | .mk k vk vn _ _ _ s kids => (i64R k ∧ i64R vk ∧ i64R vn ∧ i64R s ∧ kids.length ≤ 140737488351232) ∧ okXL kids
def okXL : List Ex → Prop
 | [] => True
 | x :: l => okX x ∧ okXL l
end
def isExs (x : PV) : Prop := ∃ l : List Ex, x = .sl 8 (exL l) ∧ l.length ≤ 140737488351232 ∧ okXL l
def exSh : List Sh := [.int .i64, .int .i64, .int .i64, .str, .str, .str, .int .i64, .pred isExs]
theorem wfI {n : Int} (h : (Lit.int .i64 n).wf = true) : i64R n := by
 simp [Lit.wf, IntKind.min, IntKind.max, IntKind.signed, IntKind.bits] at h
 unfold i64R; omega
theorem ex_sh {ps : List PV} (h : HasShL exSh ps) : ∃ x : Ex, ps = exC x ∧ okX x := by
 simp only [exSh, HasShL] at h
 obtain ⟨_, _, rfl, h1, _, _, rfl, h2, _, _, rfl, h3, _, _, rfl, h4, _, _, rfl, h5, _, _, rfl, h6, _, _, rfl, h7, _, _, rfl, h8, rfl⟩ := h
 simp only [HasSh] at h1 h2 h3 h4 h5 h6 h7 h8
 obtain ⟨k, rfl, w1⟩ := h1
 obtain ⟨vk, rfl, w2⟩ := h2
 obtain ⟨vn, rfl, w3⟩ := h3
 obtain ⟨vs, rfl, _⟩ := h4
 obtain ⟨tb, rfl, _⟩ := h5
 obtain ⟨nm, rfl, _⟩ := h6
 obtain ⟨s, rfl, w7⟩ := h7
 obtain ⟨l, rfl, hl, hk⟩ := h8
 refine ⟨.mk k vk vn vs tb nm s l, rfl, ?_⟩
 simp only [okX]
 exact ⟨⟨wfI w1, wfI w2, wfI w3, wfI w7, hl⟩, hk⟩
theorem exs_sh : ∀ ls : List (List PV), (∀ c ∈ ls, HasShL exSh c) → ∃ l : List Ex, exL l = ls ∧ okXL l
 | [], _ => ⟨[], rfl, trivial⟩
 | c :: ls, h => by
   obtain ⟨l, rfl, hl⟩ := exs_sh ls fun c hc => h c (by simp [hc])
   obtain ⟨x, rfl, hx⟩ := ex_sh (h c (by simp))
   exact ⟨x :: l, rfl, hx, hl⟩
def rL (t : TypeId) : Option (List Sh) := if t = 25 then some [.pred isExs] else none
def rE (t : TypeId) : Option (List Sh) := if t = 27 then some exSh else none
theorem sh_E : shOfR Tryd.prog rL 4 27 = some exSh := by kernel_rfl
theorem sh_L : shOfR Tryd.prog rE 3 25 = some [.sl 104 exSh] := by kernel_rfl
section
variable {H : Type} {enc : TypeId × Value → H} {w : World} {held : Bool}
theorem open_exL {N : Nat} (hE : ∀ {fuel : Nat} {cs : List Value} {d : DataW H} {p : List MemPlace}, SizeOf.sizeOf d < N → DataW.trod enc Tryd.prog w 0 (fun _ => true) held fuel 27 cs = some (d, p) → FitsP Tryd.prog 27 d → ∃ ps, HasShL exSh ps ∧ RepL w ps cs)
 {fuel : Nat} {cs : List Value} {d : DataW H} {p : List MemPlace} (hd : SizeOf.sizeOf d ≤ N) (h : DataW.trod enc Tryd.prog w 0 (fun _ => true) held fuel 25 cs = some (d, p)) (hf : FitsP Tryd.prog 25 d) : ∃ ps, HasShL [.pred isExs] ps ∧ RepL w ps cs := by
 obtain ⟨ps, h1, h2⟩ := open_shR (R := rE) (N := N) (fun t l hl fuel cs d p hs h hf => by
  unfold rE at hl
  split at hl
  ·rename_i e; subst e
   simp only [Option.some.injEq] at hl; subst hl
   exact hE hs h hf
  ·simp at hl) 3 (.inr ⟨hd, rfl⟩) sh_L h hf
 refine ⟨ps, ?_, h2⟩
 simp only [HasShL] at h1 ⊢
 obtain ⟨x, _, rfl, hx, rfl⟩ := h1
 refine ⟨x, _, rfl, ?_, rfl⟩
 rw [HasSh] at hx
 obtain ⟨ls, rfl, hl, hc⟩ := hx
 obtain ⟨l, rfl, hk⟩ := exs_sh ls hc
 rw [exL_len] at hl
 show isExs _
 exact ⟨l, rfl, by omega, hk⟩
theorem open_exN : ∀ (N : Nat) {fuel : Nat} {cs : List Value} {d : DataW H} {p : List MemPlace}, SizeOf.sizeOf d < N → DataW.trod enc Tryd.prog w 0 (fun _ => true) held fuel 27 cs = some (d, p) → FitsP Tryd.prog 27 d → ∃ ps, HasShL exSh ps ∧ RepL w ps cs
 | 0, fuel, cs, d, p, hd, h, hf => by omega
 | N + 1, fuel, cs, d, p, hd, h, hf =>
   open_shR (R := rL) (N := N) (fun t l hl fuel cs d p hs h hf => by
    unfold rL at hl
    split at hl
    ·rename_i e; subst e
     simp only [Option.some.injEq] at hl; subst hl
     exact open_exL (N := N) (fun hd h hf => open_exN N hd h hf) (Nat.le_of_lt hs) h hf
    ·simp at hl) 4 (.inr ⟨by omega, rfl⟩) sh_E h hf
theorem open_ex {fuel : Nat} {cs : List Value} {d : DataW H} {p : List MemPlace} (h : DataW.trod enc Tryd.prog w 0 (fun _ => true) held fuel 27 cs = some (d, p)) (hf : FitsP Tryd.prog 27 d) : ∃ x : Ex, okX x ∧ RepL w (exC x) cs := by
 obtain ⟨ps, h1, h2⟩ := open_exN (SizeOf.sizeOf d + 1) (Nat.lt_succ_self _) h hf
 obtain ⟨x, rfl, hx⟩ := ex_sh h1
 exact ⟨x, hx, h2⟩
end
end Go.Proofs.YtpcblbbddccgpaaDoor
namespace Go.Proofs.YtpcblbbddccgpaaDoor
open Go.RowKit
theorem valsO_sh : ∀ ls : List (List PV), (∀ c ∈ ls, HasShL [.int .i64, .int .i64, .str] c) → ∃ r : List Va, enV r = ls ∧ ∀ v ∈ r, i64R v.2.1
 | [], _ => ⟨[], rfl, by simp⟩
 | c :: ls, h => by
   obtain ⟨r, rfl, hr⟩ := valsO_sh ls fun c hc => h c (by simp [hc])
   have h0 := h c (by simp)
   simp only [HasShL, HasSh] at h0
   obtain ⟨_, _, rfl, ⟨k, rfl, _⟩, _, _, rfl, ⟨n, rfl, hn⟩, _, _, rfl, ⟨s, rfl, _⟩, rfl⟩ := h0
   refine ⟨(k, n, s) :: r, rfl, fun v hv => ?_⟩
   rcases List.mem_cons.1 hv with rfl | hv
   ·exact wfI hn
   ·exact hr v hv
theorem rowsO_sh : ∀ ls : List (List PV), (∀ c ∈ ls, HasShL [.sl 32 [.int .i64, .int .i64, .str]] c) → ∃ rows : List (List Va), enVV rows = ls ∧ ∀ r ∈ rows, r.length ≤ 4398046511104 ∧ ∀ v ∈ r, i64R v.2.1
 | [], _ => ⟨[], rfl, by simp⟩
 | c :: ls, h => by
   obtain ⟨rows, rfl, hr⟩ := rowsO_sh ls fun c hc => h c (by simp [hc])
   have h0 := h c (by simp)
   simp only [HasShL] at h0
   obtain ⟨x, _, rfl, hx, rfl⟩ := h0
   simp only [HasSh] at hx
   obtain ⟨m, rfl, hl, hm⟩ := hx
   obtain ⟨r, rfl, hv⟩ := valsO_sh m hm
   rw [enV_len] at hl
   refine ⟨r :: rows, rfl, fun q hq => ?_⟩
   rcases List.mem_cons.1 hq with rfl | hq
   ·exact ⟨by omega, hv⟩
   ·exact hr q hq
abbrev rowsSh : Sh := .sl 24 [.sl 32 [.int .i64, .int .i64, .str]]
theorem rows_arg {x : PV} (h : HasSh rowsSh x) : ∃ rows : List (List Va), x = .sl 1 (enVV rows) ∧ rows.length * 24 ≤ 140737488351232 ∧ ∀ r ∈ rows, r.length ≤ 4398046511104 ∧ ∀ v ∈ r, i64R v.2.1 := by
 rw [rowsSh, HasSh] at h
 obtain ⟨ls, rfl, hl, hc⟩ := h
 obtain ⟨rows, rfl, hr⟩ := rowsO_sh ls hc
 rw [enVV_len] at hl
 exact ⟨rows, rfl, hl, hr⟩
theorem gPow : Tryd.prog.globalNamed "internal/strconv.uint64pow10" = some 0 := by kernel_rfl
theorem globW_of {W : World} (hsh : W.ShapedOpen Tryd.prog) (ht : Lib.TabIs Tryd.prog W "internal/strconv.uint64pow10" .u64 Lib.pow10Tab) : GlobW W := by
 intro x hx
 rcases List.mem_append.1 hx with hx | hx
 ·rcases List.mem_append.1 hx with hx | hx
  ·cases hx
  ·simp only [List.mem_singleton] at hx
   subst hx
   obtain ⟨zero, t, h0⟩ : ∃ zero t, ((begin Tryd.prog (fun _ _ => 0) default).world.heap[0]?).bind Obj.row? = some (zero, t) := ⟨(List.replicate 20 (Value.int .u64 0)).toArray, 117, by kernel_rfl⟩
   obtain ⟨cs, hh, _⟩ := hsh.1 _ zero t (of_decide_eq_true (by kernel_rfl)) h0
   refine ⟨cs, t, hh, ?_⟩
   unfold Lib.TabIs World.var? at ht
   rw [gPow] at ht
   simp only [Option.bind_some, hh, Option.some.injEq] at ht
   exact ht
 ·simp only [List.mem_singleton] at hx
  subst hx
  obtain ⟨zero, t, h0, hz, hb, hc, hu⟩ : ∃ zero t, ((begin Tryd.prog (fun _ _ => 0) default).world.heap[2]?).bind Obj.row? = some (zero, t) ∧ zero.size = 1 ∧ Tryd.prog.buildable t = true ∧ Tryd.prog.cellTypes Tryd.prog.depth t = some [t] ∧ Tryd.prog.underlying t = some (.int .i64) := ⟨#[.int .i64 0], 3, by kernel_rfl, rfl, by kernel_rfl, by kernel_rfl, by kernel_rfl⟩
  obtain ⟨cs, hh, hs, _⟩ := hsh.1 _ zero t (of_decide_eq_true (by kernel_rfl)) h0
  obtain ⟨m, hm⟩ := cell_of_shapedOpen_int hsh (of_decide_eq_true (by kernel_rfl)) h0 hz hb hc hu
  refine ⟨cs, t, hh, m, ?_⟩
  rw [cell_of_row _ _ _ _ _ _ hh] at hm
  apply Array.ext_getElem?
  intro i
  rcases i with _ | i
  ·rw [hm]; rfl
  ·rw [Array.getElem?_eq_none (by omega)]; rfl
end Go.Proofs.YtpcblbbddccgpaaDoor
namespace Go.Proofs.YtpcblbbddccgpaaDoor
open Go.RowKit Go.Lib Go.Shelf
abbrev laidL : List (String × DataW Unit) := [("math/bits.deBruijn32tab", Rows.laid_math_bits_deBruijn32tab), ("math/bits.deBruijn64tab", Rows.laid_math_bits_deBruijn64tab), ("internal/strconv.uint64pow10", Rows.laid_internal_strconv_uint64pow10), ("unicode/utf8.acceptRanges", Rows.laid_unicode_utf8_acceptRanges), ("unicode.CaseRanges", Rows.laid_unicode_CaseRanges), ("unicode/utf8.first", Rows.laid_unicode_utf8_first)]
def litsOf : DataW Unit → List Value
 | .agg l => l.map fun | .lit x => x.value | _ => .bool false
 | _ => []
noncomputable def laidWorld (os : Os) : World :=
 let N := (World.settled Tryd.prog os).heap.size
 let w0 := World.holding Tryd.prog os ⟨#[.cells Lib.caseCells5 147], #[], []⟩
 let put (h : Array Obj) (g : Nat) (cs : Array Value) : Array Obj := h.modify g fun
  | .cells _ t frozen => .cells cs t frozen
  | o => o
 let h0 := put w0.heap 5 (litsOf Rows.laid_math_bits_deBruijn32tab).toArray
 let h1 := put h0 6 (litsOf Rows.laid_math_bits_deBruijn64tab).toArray
 let h2 := put h1 0 (Lib.pow10Tab.map fun z => Value.int .u64 z).toArray
 let h3 := put h2 4 ((List.range 16).flatMap fun i => [Value.int .u8 (Lib.accLo i), Value.int .u8 (Lib.accHi i)]).toArray
 let h4 := put h3 3 (Lib.firstTab.map fun z => Value.int .u8 z).toArray
 let h5 := put h4 1 #[.slice (some ⟨N, 0, none⟩) Lib.caseA.size Lib.caseA.size]
 { w0 with heap := h5 }
noncomputable abbrev N0 : Nat := (World.settled Tryd.prog default).heap.size
theorem pieceA (os : Os) (args : Array Value) : LaidIn Tryd.prog ((laidWorld os).forCall (fun _ _ => 0) ⟨#[], args, []⟩).memory [("math/bits.deBruijn32tab", Rows.laid_math_bits_deBruijn32tab), ("math/bits.deBruijn64tab", Rows.laid_math_bits_deBruijn64tab), ("internal/strconv.uint64pow10", Rows.laid_internal_strconv_uint64pow10), ("unicode/utf8.acceptRanges", Rows.laid_unicode_utf8_acceptRanges)] [5, 6, 0, 4] :=
 LaidIn.of_run _ 8 (by kernel_rfl) (by kernel_rfl) (by kernel_rfl) (by kernel_rfl)
theorem pieceB (os : Os) (args : Array Value) : LaidIn Tryd.prog ((laidWorld os).forCall (fun _ _ => 0) ⟨#[], args, []⟩).memory [("unicode/utf8.first", Lib.firstData)] [3] :=
 LaidIn.of_run _ 8 (by kernel_rfl) (by kernel_rfl) (by kernel_rfl) (by kernel_rfl)
theorem xCase : CaseExtra Tryd.prog Tryd.lays158_ren := ⟨by kernel_rfl, by kernel_rfl, by kernel_rfl, by kernel_rfl, by kernel_rfl, by kernel_rfl⟩
theorem heapV (os : Os) (args : Array Value) : ((laidWorld os).forCall (fun _ _ => 0) ⟨#[], args, []⟩).memory.heap[1]? = some (.cells #[.slice (some ⟨N0, 0, none⟩) Lib.caseA.size Lib.caseA.size] 128 (0, 0)) := by kernel_rfl
theorem heapR (os : Os) (args : Array Value) : ((laidWorld os).forCall (fun _ _ => 0) ⟨#[], args, []⟩).memory.heap[N0]? = some (.cells Lib.caseCells5 147 (0, 0)) := by kernel_rfl
theorem case_in {w : World} {R : Nat} (hgR : (1 : Nat) ≠ R) (hvar : w.heap[1]? = some (.cells #[.slice (some ⟨R, 0, none⟩) Lib.caseA.size Lib.caseA.size] 128 (0, 0))) (hblk : w.heap[R]? = some (.cells Lib.caseCells5 147 (0, 0))) : LaidIn Tryd.prog w [("unicode.CaseRanges", caseData)] [1, R] := by
 have hT := caseTab_of_block hblk
 have hread := case_slice_reads (ρ := Tryd.lays158_ren) { Tryd.lays158 with } Tryd.underlying145 xCase hT caseA_wf (by rw [caseA_size]; unfold maxLen; omega) 0
 rw [case_rows_data] at hread
 have hv : w.var? Tryd.prog "unicode.CaseRanges" = some #[.slice (some ⟨R, 0, none⟩) Lib.caseA.size Lib.caseA.size] := by simp only [World.var?, xCase.n13, Option.bind_some]; exact (by rw [show Tryd.lays158_ren.g 13 = 1 from rfl, hvar])
 refine LaidIn.one (fuel := 4) (p := MemPlace.row ⟨R, 0, none⟩ (Lib.caseA.size * 5)) _ xCase.n13 xCase.y13 hv hread ?_ ?_ ?_
 ·refine List.nodup_append.2 ⟨row_nodup _ _, row_nodup _ _, ?_⟩
  intro a ha b hb e
  obtain ⟨i, _, rfl⟩ := MemPlace.mem_row.1 ha
  obtain ⟨j, _, rfl⟩ := MemPlace.mem_row.1 hb
  simp at e
  exact hgR e.1
 ·intro b off hp
  rcases List.mem_append.1 hp with hp | hp
  ·obtain ⟨i, hi, e⟩ := MemPlace.mem_row.1 hp
   cases e
   refine ⟨⟨_, _, hvar⟩, fun u v hc => ?_⟩
   obtain rfl : i = 0 := by simp at hi; omega
   have hc' := (Lib.cell_of_heap hvar 0).symm.trans hc
   simp at hc'
  ·obtain ⟨i, hi, e⟩ := MemPlace.mem_row.1 hp
   cases e
   refine ⟨⟨_, _, hblk⟩, fun u v hc => ?_⟩
   have hlt : i / 5 < Lib.caseA.size := by rw [Nat.div_lt_iff_lt_mul (by decide)]; exact hi
   have h5 := hT (i / 5) hlt
   have c0 := h5.1
   have c1 := h5.2.1
   have c2 := h5.2.2.1
   have c3 := h5.2.2.2.1
   have c4 := h5.2.2.2.2
   clear h5 hT
   have hi5 : 0 + i = 0 + i / 5 * 5 + i % 5 := by omega
   simp only at hc
   rw [hi5] at hc
   have hm : i % 5 < 5 := Nat.mod_lt _ (by omega)
   match hk : i % 5, hm with
   | 0, _ => rw [hk, Nat.add_zero, c0] at hc; cases hc
   | 1, _ => rw [hk, c1] at hc; cases hc
   | 2, _ => rw [hk, c2] at hc; cases hc
   | 3, _ => rw [hk, c3] at hc; cases hc
   | 4, _ => rw [hk, c4] at hc; cases hc
 ·intro x hx
  rcases List.mem_append.1 hx with hx | hx
  ·obtain ⟨i, _, rfl⟩ := MemPlace.mem_row.1 hx
   exact List.mem_cons_self
  ·obtain ⟨i, _, rfl⟩ := MemPlace.mem_row.1 hx
   exact List.mem_cons_of_mem _ (List.mem_cons_self)
theorem pieceC (os : Os) (args : Array Value) : LaidIn Tryd.prog ((laidWorld os).forCall (fun _ _ => 0) ⟨#[], args, []⟩).memory [("unicode.CaseRanges", caseData)] [1, N0] :=
 case_in (of_decide_eq_true (by kernel_rfl)) (heapV os args) (heapR os args)
theorem laid_met (os : Os) (args : Array Value) : laidMet Tryd.prog laidL ((laidWorld os).forCall (fun _ _ => 0) ⟨#[], args, []⟩).memory := by
 have hB : LaidIn Tryd.prog ((laidWorld os).forCall (fun _ _ => 0) ⟨#[], args, []⟩).memory [("unicode/utf8.first", Rows.laid_unicode_utf8_first)] [3] := by
  unfold Rows.laid_unicode_utf8_first; rw [Pinned.utf8First_eq]; exact pieceB os args
 have hC : LaidIn Tryd.prog ((laidWorld os).forCall (fun _ _ => 0) ⟨#[], args, []⟩).memory [("unicode.CaseRanges", Rows.laid_unicode_CaseRanges)] [1, N0] := by
  unfold Rows.laid_unicode_CaseRanges; rw [Pinned.caseRanges_eq]; exact pieceC os args
 exact (((pieceA os args).append hC (by kernel_rfl)).append hB (by kernel_rfl)).met
theorem cellsPow : Tryd.prog.cellsOf 117 = 20 := by kernel_rfl
theorem cellsU64 : Tryd.prog.cellsOf 100 = 1 := by kernel_rfl
theorem typePow : (Tryd.prog.globals[0]?).map (·.type) = some 117 := by kernel_rfl
theorem powData : Rows.laid_internal_strconv_uint64pow10 (H := Unit) = Lib.tabData .u64 Lib.pow10Tab := by kernel_rfl
theorem pow_of {W : World} (h : laidMet Tryd.prog laidL W) : Lib.TabIs Tryd.prog W "internal/strconv.uint64pow10" .u64 Lib.pow10Tab := by
 have h2 := laidMet.tail (laidMet.tail h)
 rw [powData] at h2
 exact Lib.tabIs_of_head gPow typePow Tryd.underlying117 Tryd.underlying100 cellsU64 cellsPow h2
end Go.Proofs.YtpcblbbddccgpaaDoor
