/- Names found, types of bound expressions. cadastreref14.Find tells what the program's Find does. Types of bound expressions. Expressions bound. cadastreref14.Bind tells what the program's Bind does. -/
import Derived.Test.YtcnkmandddfdmaaGreatM19
import Derived.Test.YtcnkmandddfdmaaGreatM20
set_option linter.unusedSimpArgs false
set_option linter.unusedVariables false
set_option linter.defProp false
set_option maxRecDepth 100000
set_option maxHeartbeats 32000000
namespace Go.Proofs.YtcnkmandddfdmaaGreat
open Go.RowKit
def tBi := aa wX <| aa wbu <| aa T3 <| aa T9 <| aa T78 T111
abbrev Bc := ByteArray × ByteArray × Int
def bcC (c : Bc) : List PV := [.v (.string c.1), .v (.string c.2.1), .v (.int .i64 c.2.2)]
def enBc (l : List Bc) : List (List PV) := l.map bcC
theorem enBc_len (l : List Bc) : (enBc l).length = l.length := by simp [enBc]
theorem enBc_get (l : List Bc) (i : Nat) (h : i < l.length) : (enBc l)[i]? = some (bcC l[i]) := by simp [enBc, h]
def mBc (tb nm : ByteArray) (c : Bc) : Bool := c.2.1.toList == nm.toList && (tb.toList == emp.toList || c.1.toList == tb.toList)
def fStep (tb nm : ByteArray) (s : Nat × Int × Bool) (c : Bc) : Nat × Int × Bool := (s.1 + 1, if mBc tb nm c then (s.1 : Int) else s.2.1, s.2.2 || (mBc tb nm c && decide (0 ≤ s.2.1)))
def fGo (tb nm : ByteArray) (l : List Bc) : Nat × Int × Bool := l.foldl (fStep tb nm) (0, -1, false)
def findS (tb nm : ByteArray) (cols : List Bc) : Int × Int := if (fGo tb nm cols).2.2 = true ∨ (fGo tb nm cols).2.1 < 0 then (0, 32) else ((fGo tb nm cols).2.1, 0)
theorem fold_step {α β : Type} (f : β → α → β) (b : β) (l : List α) (i : Nat) (h : i < l.length) : (l.take (i + 1)).foldl f b = f ((l.take i).foldl f b) l[i] := by
 rw [List.take_succ_eq_append_getElem h, List.foldl_append]; rfl
theorem fGo_bad (tb nm : ByteArray) : ∀ (l : List Bc) (s : Nat × Int × Bool), s.2.2 = true → (l.foldl (fStep tb nm) s).2.2 = true
 | [], s, h => h
 | c :: l, s, h => fGo_bad tb nm l _ (by simp [fStep, h])
theorem fGo_take (tb nm : ByteArray) (l : List Bc) (i : Nat) (h : (fGo tb nm (l.take i)).2.2 = true) : (fGo tb nm l).2.2 = true := by
 have : l = l.take i ++ l.drop i := (List.take_append_drop i l).symm
 rw [fGo, this, List.foldl_append]
 exact fGo_bad tb nm _ _ h
theorem fGo_inv (tb nm : ByteArray) : ∀ (l : List Bc) (s : Nat × Int × Bool), -1 ≤ s.2.1 → s.2.1 < s.1 → (l.foldl (fStep tb nm) s).1 = s.1 + l.length ∧ -1 ≤ (l.foldl (fStep tb nm) s).2.1 ∧ (l.foldl (fStep tb nm) s).2.1 < (l.foldl (fStep tb nm) s).1
 | [], s, h1, h2 => ⟨by simp, h1, h2⟩
 | c :: l, s, h1, h2 => by
   have := fGo_inv tb nm l (fStep tb nm s c) (by simp only [fStep]; split <;> omega) (by simp only [fStep]; split <;> omega)
   simp only [List.foldl_cons, List.length_cons]
   refine ⟨?_, this.2.1, this.2.2⟩
   rw [this.1]; simp only [fStep]; omega
theorem findS_lt {tb nm : ByteArray} {cols : List Bc} (h : (findS tb nm cols).2 = 0) : 0 ≤ (findS tb nm cols).1 ∧ (findS tb nm cols).1.toNat < cols.length := by
 have := fGo_inv tb nm cols (0, -1, false) (by simp) (by simp)
 unfold findS fGo at *
 split
 ·rename_i hc; rw [if_pos hc] at h; simp at h
 ·rename_i hc; simp only [not_or] at hc; simp only; omega
theorem afind0 (tb nm : ByteArray) (cols : List Bc) (hc : cols.length ≤ 4398046511104) (σ : St) : ACalls Tryz.prog 60 [.p (.v (.string tb)), .p (.v (.string nm)), .p (.sl 3 (enBc cols))] σ fun r s => s = σ ∧ r = .tup [intV .i64 (findS tb nm cols).1, intV .i64 (findS tb nm cols).2] := by
 refine ACalls.pureF (R := fun r => r = .tup [intV .i64 (findS tb nm cols).1, intV .i64 (findS tb nm cols).2]) ?_ rfl σ
 refine acalls_of cx_ok dr_ok Tryz.func60 (by kernel_rfl) rfl (nt := 36) (rs := [.tmp 6, .tmp 7]) rfl rfl ?_
 simp only [↓wBA, tBi, convA, seval, enBc_len]
 refine awp_loopN (cols.length) (fun i => [(8, intV .i64 (fGo tb nm (cols.take i)).2.1), (13, intV .i64 (i : Nat)), (6, .any), (7, .any), (9, .any), (10, .any), (14, .any), (15, .any), (16, .any), (17, .any), (18, .any), (19, .any), (20, .any), (21, .any), (22, .any), (23, .any), (24, .any), (25, .any), (26, .any), (27, .any), (28, .any), (29, .any), (30, .any), (31, .any), (32, .any), (33, .any), (34, .any), (35, .any)]) (fun i => []) (fun i => (fGo tb nm (cols.take i)).2.2 = false) ?_ ?_ ?_
 ·rfl
 ·skip
  simp only [wR, Nat.reduceAdd, Nat.reduceLT, reduceIte]
  simp [wW, fGo]
 ·intro i hi hI
  simp only [wR, Nat.reduceAdd, Nat.reduceLT, reduceIte]
  by_cases hlt : i < cols.length
  ·have hdec := dT (i := i) (n := cols.length) (by omega)
   have hi0 := nnI i
   have hw := wI i (by omega)
   have hg := enBc_get cols i hlt
   have hst : fGo tb nm (cols.take (i + 1)) = fStep tb nm (fGo tb nm (cols.take i)) cols[i] := fold_step _ _ _ _ hlt
   have hbad := fGo_take tb nm cols (i + 1)
   have hinv := fGo_inv tb nm (cols.take i) (0, -1, false) (by simp) (by simp)
   change (fGo tb nm (cols.take i)).1 = _ ∧ _ at hinv
   have hidx : (fGo tb nm (cols.take i)).1 = i := by rw [hinv.1]; simp; omega
   have hfin : (fGo tb nm cols).2.2 = true → findS tb nm cols = (0, 32) := fun h => by unfold findS; rw [if_pos (.inl h)]
   rcases hc : cols[i] with ⟨c1, c2, c3⟩
   rw [hc] at hst hg
   simp only [bcC] at hg
   repeat' first | ((with_reducible first | refine cs ?_ ?_ | refine ws ?_ ?_) <;> intro h <;> try simp only [h]) | simp only [↓wBA, tBi, convA, seval, enBc_len, hdec, hi0, hg, hw, binStr]
   all_goals first
    | (refine ⟨⟨i + 1, by omega, ?_⟩, by show cols.length - (i + 1) < cols.length - i; omega, ?_⟩
       ·rw [hst]; simp_all [fStep, mBc, emp]
       ·simp only [setsF_cons, setsF_nil, setsO_cons, setsO_nil, List.set_cons_zero, List.set_cons_succ, St.put, hst]
        simp_all [WeakE, Weak, leL, leT, leM, leG, leA, leC, leS, leO, tokLt, tokLtL, intV, boolV, fStep, mBc, emp])
    | skip
   all_goals have hb : (fGo tb nm cols).2.2 = true := hbad (by rw [hst]; simp_all [fStep, mBc, emp])
   all_goals have hf := hfin hb
   all_goals simp only [hf]
   all_goals refine ret_is (a := _) ?_ rfl rfl
   all_goals simp only [↓wBA, tBi, convA, seval]
   all_goals simp_all [wS]
  ·have hdec := dF (i := i) (n := cols.length) (by omega)
   have ht : cols.take i = cols := List.take_of_length_le (by omega)
   rw [ht] at hI
   simp only [ht]
   repeat' first | ((with_reducible first | refine cs ?_ ?_ | refine ws ?_ ?_) <;> intro h <;> try simp only [h]) | simp only [↓wBA, tBi, convA, seval, enBc_len, hdec]
   all_goals refine ret_is (a := _) ?_ rfl rfl
   all_goals simp only [↓wBA, tBi, convA, seval]
   all_goals simp_all [wS, findS]
   all_goals grind
end Go.Proofs.YtcnkmandddfdmaaGreat
namespace Go.Proofs.YtcnkmandddfdmaaGreat
open Go.RowKit
def tFn := aa wX <| aa wbu <| aa T3 <| aa T9 <| aa T80 T114
def sufS (tb nm : ByteArray) : List Bc → Nat → Int × Int
 | [], _ => (0, 0)
 | c :: l, k => if mBc tb nm c then ((sufS tb nm l (k + 1)).1 + 1, (k : Int)) else sufS tb nm l (k + 1)
theorem sufS_n (tb nm : ByteArray) : ∀ (l : List Bc) (k : Nat), 0 ≤ (sufS tb nm l k).1 ∧ (sufS tb nm l k).1 ≤ l.length
 | [], k => by simp [sufS]
 | c :: l, k => by
   have := sufS_n tb nm l (k + 1)
   simp only [sufS, List.length_cons]
   split <;> first | omega | (simp only; omega)
theorem fGo_suf (tb nm : ByteArray) : ∀ (l : List Bc) (k : Nat) (a : Int) (b : Bool),
 ((sufS tb nm l k).1 = 0 → (l.foldl (fStep tb nm) (k, a, b)).2.1 = a ∧ (l.foldl (fStep tb nm) (k, a, b)).2.2 = b) ∧
 ((sufS tb nm l k).1 = 1 → (l.foldl (fStep tb nm) (k, a, b)).2.1 = (sufS tb nm l k).2 ∧ (l.foldl (fStep tb nm) (k, a, b)).2.2 = (b || decide (0 ≤ a)) ∧ 0 ≤ (sufS tb nm l k).2) ∧
 (2 ≤ (sufS tb nm l k).1 → (l.foldl (fStep tb nm) (k, a, b)).2.2 = true)
 | [], k, a, b => by simp [sufS]
 | c :: l, k, a, b => by
   have hn := sufS_n tb nm l (k + 1)
   rw [List.foldl_cons]
   by_cases hm : mBc tb nm c = true
   ·have hst : fStep tb nm (k, a, b) c = (k + 1, (k : Int), b || decide (0 ≤ a)) := by simp [fStep, hm]
    rw [hst]
    obtain ⟨h1, h2, h3⟩ := fGo_suf tb nm l (k + 1) (k : Int) (b || decide (0 ≤ a))
    simp only [sufS, hm, if_true]
    refine ⟨fun h => by omega, fun h => ?_, fun h => ?_⟩
    ·obtain ⟨g1, g2⟩ := h1 (by omega)
     exact ⟨g1, g2, by omega⟩
    ·by_cases h4 : (sufS tb nm l (k + 1)).1 = 1
     ·rw [(h2 h4).2.1, decide_eq_true (show (0 : Int) ≤ (k : Int) by omega), Bool.or_true]
     ·exact h3 (by omega)
   ·have hm' : mBc tb nm c = false := by simpa using hm
    have hst : fStep tb nm (k, a, b) c = (k + 1, a, b) := by simp [fStep, hm']
    rw [hst]
    simp only [sufS, hm', Bool.false_eq_true, if_false]
    exact fGo_suf tb nm l (k + 1) a b
theorem findS_suf (tb nm : ByteArray) (cols : List Bc) : findS tb nm cols = if (sufS tb nm cols 0).1 ≠ 1 then (0, 32) else ((sufS tb nm cols 0).2, 0) := by
 obtain ⟨h1, h2, h3⟩ := fGo_suf tb nm cols 0 (-1) false
 have hn := sufS_n tb nm cols 0
 unfold findS fGo
 by_cases h : (sufS tb nm cols 0).1 = 1
 ·obtain ⟨g1, g2, g3⟩ := h2 h
  have hc : ¬ ((cols.foldl (fStep tb nm) (0, -1, false)).2.2 = true ∨ (cols.foldl (fStep tb nm) (0, -1, false)).2.1 < 0) := by
   rw [g1, g2]; simp; omega
  rw [if_neg hc, if_neg (by simp [h]), g1]
 ·rw [if_pos h]
  by_cases h0 : (sufS tb nm cols 0).1 = 0
  ·rw [if_pos (.inr (by rw [(h1 h0).1]; decide))]
  ·rw [if_pos (.inl (h3 (by omega)))]
theorem afindR (tb nm : ByteArray) (cols : List Bc) (hc : cols.length ≤ 4398046511104) (σ : St) : ACalls Tryz.prog 81 [.p (.v (.string tb)), .p (.v (.string nm)), .p (.sl 3 (enBc cols))] σ fun r s => s = σ ∧ r = .tup [intV .i64 (findS tb nm cols).1, intV .i64 (findS tb nm cols).2] := by
 refine ACalls.pureF (R := fun r => r = .tup [intV .i64 (findS tb nm cols).1, intV .i64 (findS tb nm cols).2]) ?_ rfl σ
 rw [findS_suf]
 have w0 : IntKind.i64.wrap ((cols.length : Int) - 1) = (cols.length : Int) - 1 := wrap_i64 (by omega) (by omega)
 refine acalls_of cx_ok dr_ok Tryz.func81 (by kernel_rfl) rfl (nt := 41) (rs := [.tmp 6, .tmp 7]) rfl rfl ?_
 repeat' first | ((with_reducible first | refine cs ?_ ?_ | refine ws ?_ ?_) <;> intro h <;> try simp only [h]) | simp only [↓wBA, tFn, convA, seval, enBc_len, w0]
 refine awp_loopN (cols.length) (fun j => [(8, intV .i64 (sufS tb nm (cols.drop (cols.length - j)) (cols.length - j)).1), (9, intV .i64 (sufS tb nm (cols.drop (cols.length - j)) (cols.length - j)).2), (10, intV .i64 ((cols.length : Int) - 1 - (j : Nat))), (14, .any), (15, .any), (16, .any), (17, .any), (18, .any), (19, .any), (20, .any), (21, .any), (22, .any), (23, .any), (24, .any), (25, .any), (26, .any), (27, .any), (28, .any), (29, .any), (30, .any), (31, .any), (32, .any), (33, .any), (34, .any), (35, .any), (36, .any), (37, .any), (38, .any), (39, .any), (40, .any)]) (fun j => []) (fun j => True) ?_ ?_ ?_
 ·trivial
 ·skip
  simp only [wR, Nat.reduceAdd, Nat.reduceLT, reduceIte]
  simp [wW, sufS]
 ·intro j hj _
  simp only [wR, Nat.reduceAdd, Nat.reduceLT, reduceIte]
  by_cases hlt : j < cols.length
  ·have hdec : decide ((cols.length : Int) - 1 - (j : Int) ≥ 0) = true := by simp; omega
   have hi0 : ((0 : Int) ≤ (cols.length : Int) - 1 - (j : Int)) = True := eq_true (by omega)
   have htn : ((cols.length : Int) - 1 - (j : Int)).toNat = cols.length - 1 - j := by omega
   have hw : IntKind.i64.wrap ((cols.length : Int) - 1 - (j : Int) - 1) = (cols.length : Int) - 1 - ((j + 1 : Nat) : Int) := by rw [wrap_i64 (by omega) (by omega)]; simp; omega
   have hlt2 : cols.length - 1 - j < cols.length := by omega
   have hg := enBc_get cols (cols.length - 1 - j) hlt2
   have hd : cols.drop (cols.length - (j + 1)) = cols[cols.length - 1 - j] :: cols.drop (cols.length - j) := by
    have e1 : cols.length - (j + 1) = cols.length - 1 - j := by omega
    have e2 : cols.length - j = cols.length - 1 - j + 1 := by omega
    rw [e1, e2]; exact List.drop_eq_getElem_cons hlt2
   have hk : cols.length - (j + 1) + 1 = cols.length - j := by omega
   have hkc : ((cols.length - (j + 1) : Nat) : Int) = (cols.length : Int) - 1 - (j : Int) := by omega
   have hst : sufS tb nm (cols.drop (cols.length - (j + 1))) (cols.length - (j + 1)) = if mBc tb nm cols[cols.length - 1 - j] then ((sufS tb nm (cols.drop (cols.length - j)) (cols.length - j)).1 + 1, (cols.length : Int) - 1 - (j : Int)) else sufS tb nm (cols.drop (cols.length - j)) (cols.length - j) := by
    rw [hd]; simp only [sufS, hk, hkc]
   have hn := sufS_n tb nm (cols.drop (cols.length - j)) (cols.length - j)
   rw [List.length_drop] at hn
   generalize sufS tb nm (cols.drop (cols.length - j)) (cols.length - j) = st at *
   obtain ⟨n, at'⟩ := st
   simp only at hn hst
   have hwn : IntKind.i64.wrap (n + 1) = n + 1 := wrap_i64 (by omega) (by omega)
   rcases hcc : cols[cols.length - 1 - j] with ⟨c1, c2, c3⟩
   rw [hcc] at hg hst
   simp only [bcC] at hg
   have hmv : mBc tb nm (c1, c2, c3) = (c2.toList == nm.toList && (tb.toList == (⟨#[]⟩ : ByteArray).toList || c1.toList == tb.toList)) := rfl
   rcases (show (c2.toList == nm.toList) = false ∨ (c2.toList == nm.toList) = true by cases (c2.toList == nm.toList) <;> simp) with q1 | q1
   ·simp only [q1, Bool.false_and] at hmv
    simp only [hmv, Bool.false_eq_true, if_false] at hst
    repeat' first | ((with_reducible first | refine cs ?_ ?_ | refine ws ?_ ?_) <;> intro h <;> try simp only [h]) | simp only [↓wBA, tFn, convA, seval, enBc_len, hdec, hi0, htn, hg, hw, binStr, q1]
    refine ⟨⟨j + 1, by omega, ?_⟩, by show cols.length - (j + 1) < cols.length - j; omega, ?_⟩
    ·trivial
    ·simp only [hst]
     simp [wW]
   ·rcases (show (tb.toList == (⟨#[]⟩ : ByteArray).toList) = false ∨ (tb.toList == (⟨#[]⟩ : ByteArray).toList) = true by cases (tb.toList == (⟨#[]⟩ : ByteArray).toList) <;> simp) with q2 | q2
    ·rcases (show (c1.toList == tb.toList) = false ∨ (c1.toList == tb.toList) = true by cases (c1.toList == tb.toList) <;> simp) with q3 | q3
     ·simp only [q1, q2, q3, Bool.true_and, Bool.or_self] at hmv
      simp only [hmv, Bool.false_eq_true, if_false] at hst
      repeat' first | ((with_reducible first | refine cs ?_ ?_ | refine ws ?_ ?_) <;> intro h <;> try simp only [h]) | simp only [↓wBA, tFn, convA, seval, enBc_len, hdec, hi0, htn, hg, hw, binStr, q1, q2, q3]
      refine ⟨⟨j + 1, by omega, ?_⟩, by show cols.length - (j + 1) < cols.length - j; omega, ?_⟩
      ·trivial
      ·simp only [hst]
       simp [wW]
     ·simp only [q1, q2, q3, Bool.true_and, Bool.or_true] at hmv
      simp only [hmv, if_true] at hst
      repeat' first | ((with_reducible first | refine cs ?_ ?_ | refine ws ?_ ?_) <;> intro h <;> try simp only [h]) | simp only [↓wBA, tFn, convA, seval, enBc_len, hdec, hi0, htn, hg, hw, hwn, binStr, q1, q2, q3]
      refine ⟨⟨j + 1, by omega, ?_⟩, by show cols.length - (j + 1) < cols.length - j; omega, ?_⟩
      ·trivial
      ·simp only [hst]
       simp [wW]
    ·simp only [q1, q2, Bool.true_and, Bool.true_or] at hmv
     simp only [hmv, if_true] at hst
     repeat' first | ((with_reducible first | refine cs ?_ ?_ | refine ws ?_ ?_) <;> intro h <;> try simp only [h]) | simp only [↓wBA, tFn, convA, seval, enBc_len, hdec, hi0, htn, hg, hw, hwn, binStr, q1, q2]
     refine ⟨⟨j + 1, by omega, ?_⟩, by show cols.length - (j + 1) < cols.length - j; omega, ?_⟩
     ·trivial
     ·simp only [hst]
      simp [wW]
  ·have hdec : decide ((cols.length : Int) - 1 - (j : Int) ≥ 0) = false := by simp; omega
   have hj0 : cols.length - j = 0 := by omega
   simp only [hj0, List.drop_zero]
   generalize sufS tb nm cols 0 = st at *
   obtain ⟨n, at'⟩ := st
   by_cases hn1 : n = 1
   ·subst hn1
    simp only [ne_eq, not_true_eq_false, if_false]
    repeat' first | ((with_reducible first | refine cs ?_ ?_ | refine ws ?_ ?_) <;> intro h <;> try simp only [h]) | simp only [↓wBA, tFn, convA, seval, hdec, bne_self_eq_false]
    all_goals refine ret_is (a := _) ?_ rfl rfl
    all_goals simp only [↓wBA, tFn, convA, seval]
    all_goals simp_all [wS]
   ·have t1 : (n != 1) = true := by simpa using hn1
    simp only [ne_eq, hn1, not_false_eq_true, if_true]
    repeat' first | ((with_reducible first | refine cs ?_ ?_ | refine ws ?_ ?_) <;> intro h <;> try simp only [h]) | simp only [↓wBA, tFn, convA, seval, hdec, t1]
    all_goals refine ret_is (a := _) ?_ rfl rfl
    all_goals simp only [↓wBA, tFn, convA, seval]
    all_goals simp_all [wS]
end Go.Proofs.YtcnkmandddfdmaaGreat
namespace Go.Proofs.YtcnkmandddfdmaaGreat
open Go.RowKit
def pl61_12Bt : Plan := (.det 0 (.det 1 (.det 2 (.det 3 (.det 4 (.det 5 (.det 6 (.det 7 (.fin 8 (.det 9 (.det 10 .done)))))))))))
def tBt := aa wX <| aa wbu <| aa T3 <| aa T4 <| aa T62 T106
def enI (l : List Int) : List (List PV) := l.map fun n => [.v (.int .i64 n)]
theorem enI_len (l : List Int) : (enI l).length = l.length := by simp [enI]
theorem enI_get (l : List Int) (i : Nat) (h : i < l.length) : (enI l)[i]? = some [.v (.int .i64 l[i])] := by simp [enI, h]
def idxP {α : Type} (p : α → Bool) (l : List α) : Int := match l.findIdx? p with
 | some i => (i : Nat)
 | none => -1
theorem idxP_at {α : Type} (p : α → Bool) (l : List α) (i : Nat) (h : i < l.length) (h1 : ∀ j (hj : j < i), p (l[j]'(by omega)) = false) (h2 : p l[i] = true) : idxP p l = (i : Nat) := by
 unfold idxP
 have : l.findIdx? p = some i := by
  rw [List.findIdx?_eq_some_iff_getElem]
  exact ⟨h, h2, fun j hj => by simp [h1 j hj]⟩
 rw [this]
theorem idxP_none {α : Type} (p : α → Bool) (l : List α) (h1 : ∀ j (hj : j < l.length), p l[j] = false) : idxP p l = -1 := by
 unfold idxP
 have : l.findIdx? p = none := by
  rw [List.findIdx?_eq_none_iff]
  intro x hx
  obtain ⟨j, hj, rfl⟩ := List.getElem_of_mem hx
  exact h1 j hj
 rw [this]
theorem idxP_ge {α : Type} (p : α → Bool) (l : List α) : decide (idxP p l ≥ 0) = l.any p := by
 unfold idxP
 split
 ·rename_i i h
  have := List.findIdx?_eq_some_iff_getElem.1 h
  obtain ⟨h1, h2, _⟩ := this
  have : l.any p = true := List.any_eq_true.2 ⟨_, List.getElem_mem h1, h2⟩
  rw [this]; simp
 ·rename_i h
  rw [List.findIdx?_eq_none_iff] at h
  have : l.any p = false := by rw [List.any_eq_false]; intro x hx; simp [h x hx]
  rw [this]; simp
def nuO (t : Int) (_ : Nat) : Ob := .row 1 [[intV .i64 t]]
theorem nuP (t : Int) (u : Nat) : PlainOb (nuO t u) := ⟨fun g => by simp [renOb, nuO, renL, renA, intV], fun n => by simp [tokOb, nuO, tokLtL, tokLt, intV], 1, _, rfl⟩
def badT (t k : Int) : Bool := k != t && k != 0
theorem abadT (t k : Int) : OCalls (nuO t) 90 (fun p => [intV .i64 k, .mp p 1 0 0]) 0 fun r _ => r = boolV (badT t k) := by
 refine OCalls.mono (R := fun r s' => r = boolV (badT t k) ∧ s' = 0) (OCalls.of (nuP t) (fun t => rfl) rfl ?_) fun r s h => h.1
 refine acalls_of cx_ok dr_ok Tryz.func90 (by kernel_rfl) rfl (nt := 9) (rs := [.tmp 3]) rfl rfl ?_
 simp only [nuO]
 repeat' first | ((with_reducible first | refine cs ?_ ?_ | refine ws ?_ ?_) <;> intro h <;> try simp only [h]) | simp only [↓wBA, tBt, convA, seval]
 all_goals refine ret_obI (a := _) (b := _) (nuP _ _) ?_ rfl rfl
 all_goals simp only [↓wBA, tBt, convA, seval]
 all_goals simp_all [wS, nuO, badT]
theorem aidxT (t : Int) (ts : List Int) (hl : ts.length ≤ 4398046511104) : OCalls (nuO t) 112 (fun p => [.p (.sl 1 (enI ts)), .fn 90 [] [.mp p 1 0 0]]) 0 fun r _ => r = intV .i64 (idxP (badT t) ts) := by
 refine OCalls.mono (R := fun r s' => r = intV .i64 (idxP (badT t) ts) ∧ s' = 0) (OCalls.of (nuP t) (fun t => rfl) rfl ?_) fun r s h => h.1
 have hB := fun k => abadT t k
 refine acalls_of cx_ok dr_ok Tryz.func112 (by kernel_rfl) rfl (nt := 17) (rs := [.tmp 4]) rfl rfl ?_
 simp only [nuO]
 simp only [↓wBA, tBt, convA, seval, enI_len]
 refine awp_loopN (ts.length) (fun i => [(8, intV .i64 (i : Nat)), (4, .any), (5, .any), (9, .any), (10, .any), (11, .any), (12, .any), (13, .any), (14, .any), (15, .any), (16, .any), (17, .any), (18, .any)]) (fun i => []) (fun i => ∀ j (hj : j < i) (hj' : j < ts.length), badT t ts[j] = false) ?_ ?_ ?_
 ·intro j hj; omega
 ·skip
  simp only [wR, Nat.reduceAdd, Nat.reduceLT, reduceIte]
  simp [wW]
 ·intro i hi hI
  simp only [wR, Nat.reduceAdd, Nat.reduceLT, reduceIte]
  by_cases hlt : i < ts.length
  ·have hdec := dT (i := i) (n := ts.length) (by omega)
   have hi0 := nnI i
   have hw := wI i (by omega)
   have hg := enI_get ts i hlt
   repeat' first | ((with_reducible first | refine cs ?_ ?_ | refine ws ?_ ?_) <;> intro h <;> try simp only [h]) | simp only [↓wBA, tBt, convA, seval, enI_len, hdec, hi0, hg, hw] | ((with_reducible show ACalls _ _ _ _ _); refine (hB _ _ 0 rfl).mono ?_; rintro _ _ ⟨_, rfl, rfl⟩; simp only [nuO])
   ·have hix := idxP_at (badT t) ts i hlt (fun j hj => hI j hj (by omega)) h
    simp only [hix]
    all_goals refine ret_obI (a := _) (b := _) (nuP _ _) ?_ rfl rfl
    all_goals simp only [↓wBA, tBt, convA, seval]
    all_goals simp_all [wS, nuO]
   ·skip
    refine ⟨⟨i + 1, by omega, ?_⟩, by show ts.length - (i + 1) < ts.length - i; omega, ?_⟩
    ·intro j hj hj'
     by_cases e : j = i
     ·subst e; exact h
     ·exact hI j (by omega) hj'
    ·skip
     simp only [wR, Nat.reduceAdd, Nat.reduceLT, reduceIte]
     simp [wW]
  ·have hdec := dF (i := i) (n := ts.length) (by omega)
   have hix := idxP_none (badT t) ts (fun j hj => hI j (by omega) hj)
   simp only [hix]
   repeat' first | ((with_reducible first | refine cs ?_ ?_ | refine ws ?_ ?_) <;> intro h <;> try simp only [h]) | simp only [↓wBA, tBt, convA, seval, enI_len, hdec]
   all_goals refine ret_obI (a := _) (b := _) (nuP _ _) ?_ rfl rfl
   all_goals simp only [↓wBA, tBt, convA, seval]
   all_goals simp_all [wS, nuO]
theorem acontT (t : Int) (ts : List Int) (hl : ts.length ≤ 4398046511104) : OCalls (nuO t) 89 (fun p => [.p (.sl 1 (enI ts)), .fn 90 [] [.mp p 1 0 0]]) 0 fun r _ => r = boolV (ts.any (badT t)) := by
 refine OCalls.mono (R := fun r s' => r = boolV (ts.any (badT t)) ∧ s' = 0) (OCalls.of (nuP t) (fun t => rfl) rfl ?_) fun r s h => h.1
 have hB := aidxT t ts hl
 refine acalls_of cx_ok dr_ok Tryz.func89 (by kernel_rfl) rfl (nt := 7) (rs := [.tmp 4]) rfl rfl ?_
 simp only [nuO]
 repeat' first | ((with_reducible first | refine cs ?_ ?_ | refine ws ?_ ?_) <;> intro h <;> try simp only [h]) | simp only [↓wBA, tBt, convA, seval, idxP_ge] | ((with_reducible show ACalls _ _ _ _ _); refine (hB _ 0 rfl).mono ?_; rintro _ _ ⟨_, rfl, rfl⟩; simp only [nuO])
 all_goals refine ret_obI (a := _) (b := _) (nuP _ _) ?_ rfl rfl
 all_goals simp only [↓wBA, tBt, convA, seval]
 all_goals simp_all [wS, nuO]
def tyO (ts : List Int) (_ : Nat) : Ob := .row 1 [[.p (.sl 1 (enI ts))]]
theorem tyP (ts : List Int) (u : Nat) : PlainOb (tyO ts u) := ⟨fun g => by simp [renOb, tyO, renL, renA], fun n => by simp [tokOb, tyO, tokLtL, tokLt], 1, _, rfl⟩
def onlyS (t : Int) (ts : List Int) : Bool := !ts.any (badT t)
theorem aonly (t : Int) (ts : List Int) (hl : ts.length ≤ 4398046511104) : OCalls (tyO ts) 88 (fun p => [intV .i64 t, .mp p 1 0 0]) 0 fun r _ => r = boolV (onlyS t ts) := by
 refine OCalls.mono (R := fun r s' => r = boolV (onlyS t ts) ∧ s' = 0) (OCalls.of (tyP ts) (fun t => rfl) rfl ?_) fun r s h => h.1
 have hB := acontT t ts hl
 refine acalls_of cx_ok dr_ok Tryz.func88 (by kernel_rfl) rfl (nt := 6) (rs := [.tmp 3]) rfl rfl ?_
 simp only [tyO]
 repeat' first | ((with_reducible first | refine cs ?_ ?_ | refine ws ?_ ?_) <;> intro h <;> try simp only [h]) | simp only [↓wBA, tBt, convA, seval] | ((with_reducible show ACalls _ _ _ _ _); refine (hB _ 1 rfl).mono ?_; rintro _ _ ⟨_, rfl, rfl⟩; simp only [nuO])
 all_goals refine ret_obI (a := _) (b := _) (tyP _ _) ?_ rfl rfl
 all_goals simp only [↓wBA, tBt, convA, seval]
 all_goals simp_all [wS, tyO, onlyS]
def typedS (k : Int) (ts : List Int) : Int × Bool :=
 if k = 3 ∨ (5 ≤ k ∧ k ≤ 9) then (1, onlyS 1 ts)
 else if k = 4 ∨ k = 16 ∨ k = 17 then (2, onlyS 2 ts)
 else if k = 18 ∨ k = 19 then (2, true)
 else (2, onlyS (if ts.getD 1 0 > ts.getD 0 0 then ts.getD 1 0 else ts.getD 0 0) ts)
theorem atyped (k : Int) (ts : List Int) (hl : ts.length ≤ 4398046511104) (hk : 2 ≤ ts.length ∨ k = 3 ∨ k = 4 ∨ k = 18 ∨ k = 19) (σ : St) : ACalls Tryz.prog 61 [intV .i64 k, .p (.sl 1 (enI ts))] σ fun r s => s = σ ∧ r = .tup [intV .i64 (typedS k ts).1, boolV (typedS k ts).2] := by
 refine ACalls.pureF (R := fun r => r = .tup [intV .i64 (typedS k ts).1, boolV (typedS k ts).2]) ?_ rfl σ
 have hB := fun t => aonly t ts hl
 have hm : ∀ n m : Int, (if m > n then m else n) = if m > n then m else n := fun _ _ => rfl
 have hd0 : 2 ≤ ts.length → (enI ts)[(0 : Nat)]? = some [.v (.int .i64 (ts.getD 0 0))] := fun h => by rw [enI_get ts 0 (by omega)]; simp [List.getD, show 0 < ts.length by omega]
 have hd1 : 2 ≤ ts.length → (enI ts)[(1 : Nat)]? = some [.v (.int .i64 (ts.getD 1 0))] := fun h => by rw [enI_get ts 1 (by omega)]; simp [List.getD, show 1 < ts.length by omega]
 refine acalls_of cx_ok dr_ok Tryz.func61 (by kernel_rfl) rfl (nt := 40) (rs := [.tmp 4, .tmp 5]) rfl rfl ?_
 by_cases h2 : 2 ≤ ts.length
 ·have e0 := hd0 h2
  have e1 := hd1 h2
  clear hd0 hd1
  repeat' first | ((with_reducible first | refine cs ?_ ?_ | refine ws ?_ ?_ | refine wd ?_ ?_ | refine wu ?_ ?_) <;> intro h <;> try simp only [h]) | simp only [↓wBA, tBt, convA, seval, pl61_12Bt, e0, e1] | ((with_reducible show ACalls _ _ _ _ _); refine (hB _ _ 0 rfl).mono ?_; rintro _ _ ⟨_, rfl, rfl⟩; simp only [tyO]) | (with_reducible refine dP pl61_12Bt 11 (some 33) (by decide) (by kernel_rfl) ?_)
  all_goals refine ret_is (a := _) ?_ rfl rfl
  all_goals simp only [↓wBA, tBt, convA, seval]
  all_goals simp_all [wS, typedS]
  all_goals grind
 ·have hk' : k = 3 ∨ k = 4 ∨ k = 18 ∨ k = 19 := by omega
  clear hd0 hd1
  rcases hk' with rfl | rfl | rfl | rfl
  ·skip
   repeat' first | ((with_reducible first | refine cs ?_ ?_ | refine ws ?_ ?_ | refine wd ?_ ?_ | refine wu ?_ ?_) <;> intro h <;> try simp only [h]) | simp only [↓wBA, tBt, convA, seval, pl61_12Bt, Int.reduceBEq, decide_true] | ((with_reducible show ACalls _ _ _ _ _); refine (hB _ _ 0 rfl).mono ?_; rintro _ _ ⟨_, rfl, rfl⟩; simp only [tyO]) | (with_reducible refine dP pl61_12Bt 11 (some 33) (by decide) (by kernel_rfl) ?_)
   all_goals refine ret_is (a := _) ?_ rfl rfl
   all_goals simp only [↓wBA, tBt, convA, seval]
   all_goals simp_all [wS, typedS]
  ·skip
   repeat' first | ((with_reducible first | refine cs ?_ ?_ | refine ws ?_ ?_ | refine wd ?_ ?_ | refine wu ?_ ?_) <;> intro h <;> try simp only [h]) | simp only [↓wBA, tBt, convA, seval, pl61_12Bt, Int.reduceBEq, Int.reduceGE, Int.reduceLE, decide_true, decide_false] | ((with_reducible show ACalls _ _ _ _ _); refine (hB _ _ 0 rfl).mono ?_; rintro _ _ ⟨_, rfl, rfl⟩; simp only [tyO]) | (with_reducible refine dP pl61_12Bt 11 (some 33) (by decide) (by kernel_rfl) ?_)
   all_goals refine ret_is (a := _) ?_ rfl rfl
   all_goals simp only [↓wBA, tBt, convA, seval]
   all_goals simp_all [wS, typedS]
  ·skip
   repeat' first | ((with_reducible first | refine cs ?_ ?_ | refine ws ?_ ?_ | refine wd ?_ ?_ | refine wu ?_ ?_) <;> intro h <;> try simp only [h]) | simp only [↓wBA, tBt, convA, seval, pl61_12Bt, Int.reduceBEq, Int.reduceGE, Int.reduceLE, decide_true, decide_false] | (with_reducible refine dP pl61_12Bt 11 (some 33) (by decide) (by kernel_rfl) ?_)
   all_goals refine ret_is (a := _) ?_ rfl rfl
   all_goals simp only [↓wBA, tBt, convA, seval]
   all_goals simp_all [wS, typedS]
  ·skip
   repeat' first | ((with_reducible first | refine cs ?_ ?_ | refine ws ?_ ?_ | refine wd ?_ ?_ | refine wu ?_ ?_) <;> intro h <;> try simp only [h]) | simp only [↓wBA, tBt, convA, seval, pl61_12Bt, Int.reduceBEq, Int.reduceGE, Int.reduceLE, decide_true, decide_false] | (with_reducible refine dP pl61_12Bt 11 (some 33) (by decide) (by kernel_rfl) ?_)
   all_goals refine ret_is (a := _) ?_ rfl rfl
   all_goals simp only [↓wBA, tBt, convA, seval]
   all_goals simp_all [wS, typedS]
end Go.Proofs.YtcnkmandddfdmaaGreat
namespace Go.Proofs.YtcnkmandddfdmaaGreat
open Go.RowKit
def pl29_3Bd : Plan := (.det 0 (.det 1 (.det 2 (.det 3 (.det 4 (.act 5 (.det 6 .done)))))))
def pl29_6Bd : Plan := (.det 0 (.det 1 (.det 2 (.det 3 (.det 4 (.det 5 (.det 6 (.det 7 (.act 8 (.det 9 (.det 10 .done)))))))))))
def pl29_13Bd : Plan := (.det 0 (.det 1 (.det 2 (.det 3 (.det 4 (.det 5 (.det 6 (.act 7 (.det 8 (.det 9 .done))))))))))
def tBd := aa wX <| aa wbu <| aa T3 <| aa T4 <| aa T9 <| aa T33 <| aa T39 <| aa T56 <| aa T62 <| aa T70 <| aa T78 T111
abbrev BR := Ex × Int × Int
def bErr (e : Int) : BR := (ex0, 0, e)
mutual
def bndS (cols : List Bc) : Ex → BR
 | .mk k vk vn vs tb nm s kids =>
   if aggB k = true then bErr 33
   else if (kids.length : Int) ≠ kidsB k then bErr 1
   else if k = 1 then (if okV (vk, vn, vs) = true then (.mk 1 vk vn vs emp emp 0 [], vk, 0) else bErr 1)
   else if k = 2 then (if (findS tb nm cols).2 ≠ 0 then bErr (findS tb nm cols).2 else (.mk 24 0 0 emp emp emp (findS tb nm cols).1 [], (cols.getD (findS tb nm cols).1.toNat (emp, emp, 0)).2.2, 0))
   else if (bndL cols kids).2.2 ≠ 0 then bErr (bndL cols kids).2.2
   else if (typedS k (bndL cols kids).2.1).2 = false then bErr 33
   else (.mk k 0 0 emp emp emp 0 (bndL cols kids).1, (typedS k (bndL cols kids).2.1).1, 0)
def bndL (cols : List Bc) : List Ex → List Ex × List Int × Int
 | [] => ([], [], 0)
 | x :: l => if (bndS cols x).2.2 ≠ 0 then ([], [], (bndS cols x).2.2) else ((bndS cols x).1 :: (bndL cols l).1, (bndS cols x).2.1 :: (bndL cols l).2.1, (bndL cols l).2.2)
end
def BindOK (cols : List Bc) (x : Ex) : Prop := ∀ σ, ACalls Tryz.prog 29 [exA x, .p (.sl 3 (enBc cols))] σ fun r s => s = σ ∧ r = .tup [exA (bndS cols x).1, intV .i64 (bndS cols x).2.1, intV .i64 (bndS cols x).2.2]
theorem bndL_bad (cols : List Bc) : ∀ (l : List Ex) (i : Nat) (h : i < l.length), (∀ j (hj : j < i), (bndS cols (l[j]'(by omega))).2.2 = 0) → (bndS cols l[i]).2.2 ≠ 0 → (bndL cols l).2.2 = (bndS cols l[i]).2.2
 | [], i, h, _, _ => by simp at h
 | x :: l, 0, h, _, h2 => by simp only [bndL, List.getElem_cons_zero] at h2 ⊢; rw [if_pos h2]
 | x :: l, i + 1, h, h1, h2 => by
   have h0 := h1 0 (by omega)
   simp only [List.getElem_cons_zero] at h0
   simp only [bndL, List.getElem_cons_succ] at h2 ⊢
   rw [if_neg (by simp [h0])]
   exact bndL_bad cols l i (by simpa using h) (fun j hj => by have := h1 (j + 1) (by omega); simpa using this) h2
theorem bndL_ok (cols : List Bc) : ∀ (l : List Ex), (∀ j (hj : j < l.length), (bndS cols l[j]).2.2 = 0) → bndL cols l = (l.map fun x => (bndS cols x).1, l.map fun x => (bndS cols x).2.1, 0)
 | [], _ => rfl
 | x :: l, h => by
   have h0 := h 0 (by simp)
   simp only [List.getElem_cons_zero] at h0
   have ih := bndL_ok cols l fun j hj => by have := h (j + 1) (by simpa using hj); simpa using this
   simp only [bndL, h0, ih, ne_eq, not_true_eq_false, if_false, List.map_cons]
theorem exL_at : ∀ (l : List Ex) (i : Nat) (h : i < l.length), (exL l)[i]? = some (exC l[i])
 | [], i, h => by simp at h
 | x :: l, 0, h => by simp [exL]
 | x :: l, i + 1, h => by simp only [exL, List.getElem?_cons_succ, List.getElem_cons_succ]; exact exL_at l i (by simpa using h)
theorem exC_mk (x : Ex) : ∃ a b c d e f g h, exC x = [.v (.int .i64 a), .v (.int .i64 b), .v (.int .i64 c), .v (.string d), .v (.string e), .v (.string f), .v (.int .i64 g), .sl 8 h] := by
 obtain ⟨a, b, c, d, e, f, g, h⟩ := x
 exact ⟨_, _, _, _, _, _, _, _, rfl⟩
def zsF (cols : List Bc) (l : List Ex) : List Ex := l.map fun x => (bndS cols x).1
def tsF (cols : List Bc) (l : List Ex) : List Int := l.map fun x => (bndS cols x).2.1
theorem zsF_len (cols : List Bc) (l : List Ex) : (zsF cols l).length = l.length := by simp [zsF]
theorem tsF_len (cols : List Bc) (l : List Ex) : (tsF cols l).length = l.length := by simp [tsF]
theorem zsF_succ (cols : List Bc) (l : List Ex) (i : Nat) (h : i < l.length) : exL (zsF cols (l.take (i + 1))) = exL (zsF cols (l.take i)) ++ [exC (bndS cols l[i]).1] := by
 rw [List.take_succ_eq_append_getElem h, zsF, List.map_append, exL_app]; rfl
theorem tsF_succ (cols : List Bc) (l : List Ex) (i : Nat) (h : i < l.length) : enI (tsF cols (l.take (i + 1))) = enI (tsF cols (l.take i)) ++ [[.v (.int .i64 (bndS cols l[i]).2.1)]] := by
 rw [List.take_succ_eq_append_getElem h, tsF, enI, List.map_append, List.map_append]; rfl
theorem nilSl_ne (e : Nat) (l : List (List PV)) (h : l ≠ []) : nilSl e l = .sl e l := by
 cases l with
 | nil => exact (h rfl).elim
 | cons x l => rfl
theorem bind_of (cols : List Bc) (hc : cols.length ≤ 4398046511104) (k vk vn : Int) (vs tb nm : ByteArray) (s : Int) (kids : List Ex) (ih : ∀ y ∈ kids, BindOK cols y) : BindOK cols (.mk k vk vn vs tb nm s kids) := by
 intro σ
 refine ACalls.pureF (R := fun r => r = .tup [exA (bndS cols (.mk k vk vn vs tb nm s kids)).1, intV .i64 (bndS cols (.mk k vk vn vs tb nm s kids)).2.1, intV .i64 (bndS cols (.mk k vk vn vs tb nm s kids)).2.2]) ?_ rfl σ
 refine acalls_of cx_ok dr_ok Tryz.func29 (by kernel_rfl) rfl (nt := 118) (rs := [.cell 4 70, .tmp 5, .tmp 6]) rfl rfl ?_
 simp only [exA, exC, List.map_cons, List.map_nil, bndS]
 by_cases hagg : aggB k = true
 ·simp only [hagg, if_true]
  repeat' first | ((with_reducible first | refine cs ?_ ?_ | refine ws ?_ ?_ | refine wd ?_ ?_ | refine wu ?_ ?_) <;> intro h <;> try simp only [h]) | simp only [↓wBA, tBd, convA, seval, pl29_3Bd, pl29_6Bd, pl29_13Bd, hagg] | ((with_reducible show ACalls _ _ _ _ _); refine (aaggB _ _).eq ?_; simp only [hagg]) | (with_reducible refine dP pl29_3Bd 7 (some 22) (by decide) (by kernel_rfl) ?_) | (with_reducible refine dP pl29_6Bd 11 (some 39) (by decide) (by kernel_rfl) ?_) | (with_reducible refine dP pl29_13Bd 10 (some 69) (by decide) (by kernel_rfl) ?_)
  all_goals refine ret_is (a := _) ?_ rfl rfl
  all_goals simp only [↓wBA, tBd, convA, seval]
  all_goals simp_all [wS, bErr, ex0, exC, exL, emp]
 ·have hagg' : aggB k = false := by simpa using hagg
  simp only [hagg', Bool.false_eq_true, if_false]
  by_cases hkn : (kids.length : Int) = kidsB k
  ·have hd : ((kids.length : Int) != kidsB k) = false := by simp [hkn]
   rw [if_neg (by simpa using hkn)]
   have hkl : kids.length ≤ 2 := by have : kidsB k ≤ 2 := by unfold kidsB; split <;> (try split) <;> (try split) <;> omega
                                    omega
   by_cases h1 : k = 1
   ·subst h1
    simp only [if_true]
    repeat' first | ((with_reducible first | refine cs ?_ ?_ | refine ws ?_ ?_ | refine wd ?_ ?_ | refine wu ?_ ?_) <;> intro h <;> try simp only [h]) | simp only [↓wBA, tBd, convA, seval, pl29_3Bd, pl29_6Bd, pl29_13Bd, exL_len, hd, Int.reduceBEq] | ((with_reducible show ACalls _ _ _ _ _); first | (refine (aaggB _ _).eq ?_; simp only [hagg']) | refine (akidsB _ _).eq ?_ | refine (aokV (_, _, _) _).eq ?_) | (with_reducible refine dP pl29_3Bd 7 (some 22) (by decide) (by kernel_rfl) ?_) | (with_reducible refine dP pl29_6Bd 11 (some 39) (by decide) (by kernel_rfl) ?_) | (with_reducible refine dP pl29_13Bd 10 (some 69) (by decide) (by kernel_rfl) ?_)
    all_goals refine ret_is (a := _) ?_ rfl rfl
    all_goals simp only [↓wBA, tBd, convA, seval]
    all_goals simp_all [wS, bErr, ex0, exC, exL, emp]
   ·have h1' : (k == 1) = false := by simpa using h1
    rw [if_neg h1]
    by_cases h2 : k = 2
    ·subst h2
     simp only [if_true]
     by_cases hf : (findS tb nm cols).2 = 0
     ·obtain ⟨hf1, hf2⟩ := findS_lt hf
      have hg := enBc_get cols _ hf2
      have hge : cols.getD (findS tb nm cols).1.toNat (emp, emp, 0) = cols[(findS tb nm cols).1.toNat] := by simp [List.getD, hf2]
      rw [if_neg (by simpa using hf)]
      have hfd : ((findS tb nm cols).2 != 0) = false := by simp [hf]
      have hi0 : ((0 : Int) ≤ (findS tb nm cols).1) = True := eq_true hf1
      rw [hge]
      rcases hcc : cols[(findS tb nm cols).1.toNat] with ⟨c1, c2, c3⟩
      rw [hcc] at hg
      simp only [bcC] at hg
      repeat' first | ((with_reducible first | refine cs ?_ ?_ | refine ws ?_ ?_ | refine wd ?_ ?_ | refine wu ?_ ?_) <;> intro h <;> try simp only [h]) | simp only [↓wBA, tBd, convA, seval, pl29_3Bd, pl29_6Bd, pl29_13Bd, exL_len, hd, Int.reduceBEq, hfd, hi0, hg] | ((with_reducible show ACalls _ _ _ _ _); first | (refine (aaggB _ _).eq ?_; simp only [hagg']) | refine (akidsB _ _).eq ?_ | refine (afind0 _ _ _ hc _).eq ?_) | (with_reducible refine dP pl29_3Bd 7 (some 22) (by decide) (by kernel_rfl) ?_) | (with_reducible refine dP pl29_6Bd 11 (some 39) (by decide) (by kernel_rfl) ?_) | (with_reducible refine dP pl29_13Bd 10 (some 69) (by decide) (by kernel_rfl) ?_)
      all_goals refine ret_is (a := _) ?_ rfl rfl
      all_goals simp only [↓wBA, tBd, convA, seval]
      all_goals simp_all [wS, bErr, ex0, exC, exL, emp]
     ·rw [if_pos hf]
      have hfd : ((findS tb nm cols).2 != 0) = true := by simpa using hf
      repeat' first | ((with_reducible first | refine cs ?_ ?_ | refine ws ?_ ?_ | refine wd ?_ ?_ | refine wu ?_ ?_) <;> intro h <;> try simp only [h]) | simp only [↓wBA, tBd, convA, seval, pl29_3Bd, pl29_6Bd, pl29_13Bd, exL_len, hd, Int.reduceBEq, hfd] | ((with_reducible show ACalls _ _ _ _ _); first | (refine (aaggB _ _).eq ?_; simp only [hagg']) | refine (akidsB _ _).eq ?_ | refine (afind0 _ _ _ hc _).eq ?_) | (with_reducible refine dP pl29_3Bd 7 (some 22) (by decide) (by kernel_rfl) ?_) | (with_reducible refine dP pl29_6Bd 11 (some 39) (by decide) (by kernel_rfl) ?_) | (with_reducible refine dP pl29_13Bd 10 (some 69) (by decide) (by kernel_rfl) ?_)
      all_goals refine ret_is (a := _) ?_ rfl rfl
      all_goals simp only [↓wBA, tBd, convA, seval]
      all_goals simp_all [wS, bErr, ex0, exC, exL, emp]
    ·have h2' : (k == 2) = false := by simpa using h2
     rw [if_neg h2]
     have hk2 : 1 ≤ kids.length ∧ ((2 ≤ kids.length) ∨ k = 3 ∨ k = 4 ∨ k = 18 ∨ k = 19) := by
      unfold kidsB at hkn
      rw [if_neg (by omega)] at hkn
      split at hkn
      ·omega
      ·split at hkn <;> omega
     clear hkn
     simp only [↓wBA, tBd, convA, seval, exL_len]
     refine (aaggB _ _).mono ?_
     rintro _ _ ⟨rfl, rfl⟩
     simp only [hagg']
     repeat' first | ((with_reducible first | refine cs ?_ ?_ | refine ws ?_ ?_ | refine wd ?_ ?_ | refine wu ?_ ?_) <;> intro h <;> try simp only [h]) | simp only [↓wBA, tBd, convA, seval, pl29_3Bd, pl29_6Bd, pl29_13Bd, exL_len, hd, h1', h2'] | ((with_reducible show ACalls _ _ _ _ _); refine (akidsB _ _).eq ?_) | (with_reducible refine dP pl29_3Bd 7 (some 22) (by decide) (by kernel_rfl) ?_) | (with_reducible refine dP pl29_6Bd 11 (some 39) (by decide) (by kernel_rfl) ?_) | (with_reducible refine dP pl29_13Bd 10 (some 69) (by decide) (by kernel_rfl) ?_)
     refine awp_loopN (kids.length) (fun i => [(10, .nown 4 1 (enI (tsF cols (kids.take i)))), (82, intV .i64 (i : Nat)), (5, .any), (6, .any), (12, .any), (13, .any), (14, .any), (15, .any), (83, .any), (84, .any), (85, .any), (86, .any), (87, .any), (88, .any), (89, .any), (90, .any), (91, .any), (92, .any), (93, .any), (94, .any), (95, .any), (96, .any), (97, .any), (98, .any), (99, .any), (100, .any), (101, .any), (102, .any), (103, .any), (104, .any), (105, .any), (106, .any), (107, .any)]) (fun i => [(2, .row 8 [[.p (.v (.int .i64 k)), .p (.v (.int .i64 0)), .p (.v (.int .i64 0)), .p (.v (.string emp)), .p (.v (.string emp)), .p (.v (.string emp)), .p (.v (.int .i64 0)), .nown 3 8 (exL (zsF cols (kids.take i)))]]), (3, .nright 70 (i * 8)), (4, .nright 3 (i * 1))]) (fun i => ∀ j (hj : j < i) (hj' : j < kids.length), (bndS cols kids[j]).2.2 = 0) ?_ ?_ ?_
     ·intro j hj; omega
     ·skip
      simp only [wR, Nat.reduceAdd, Nat.reduceLT, reduceIte]
      simp [wW, zsF, tsF, exL, enI, emp]
     ·intro i hi hI
      simp only [wR, Nat.reduceAdd, Nat.reduceLT, reduceIte]
      by_cases hlt : i < kids.length
      ·have hdec := dT (i := i) (n := kids.length) (by omega)
       have hi0 := nnI i
       have hw := wI i (by omega)
       have hg := exL_at kids i hlt
       have ihi := ih kids[i] (List.getElem_mem hlt)
       have hz1 := zsF_succ cols kids i hlt
       have ht1 := tsF_succ cols kids i hlt
       have hzl : (exL (zsF cols (kids.take i))).length = i := by rw [exL_len, zsF_len]; simp; omega
       have htl : (enI (tsF cols (kids.take i))).length = i := by rw [enI_len, tsF_len]; simp; omega
       obtain ⟨a1, a2, a3, a4, a5, a6, a7, a8, hz⟩ := exC_mk (bndS cols kids[i]).1
       have hbad := bndL_bad cols kids i hlt (fun j hj => hI j hj (by omega))
       have hlim1 := tL (n := (i + 1) * 104) (by omega)
       have hlim2 := lM (n := i + 1) (by omega)
       have hlim3 := tL (n := (i + 1) * 8) (by omega)
       rw [hz] at hz1
       generalize hte : (bndS cols kids[i]).2.2 = te at *
       generalize htt : (bndS cols kids[i]).2.1 = tt at *
       simp only [BindOK, exA, hz, List.map_cons, List.map_nil, hte, htt] at ihi
       repeat' first | ((with_reducible first | refine cs ?_ ?_ | refine ws ?_ ?_ | refine wd ?_ ?_ | refine wu ?_ ?_) <;> intro h <;> try simp only [h]) | simp only [↓wBA, tBd, convA, seval, pl29_3Bd, pl29_6Bd, pl29_13Bd, exL_len, hdec, hi0, hg, hw, hzl, htl, hlim1, hlim2, hlim3, appendA, srcA, List.length_append, exC_len, List.length_map] | ((with_reducible show ACalls _ _ _ _ _); refine (ihi _).eq ?_) | (with_reducible refine dP pl29_3Bd 7 (some 22) (by decide) (by kernel_rfl) ?_) | (with_reducible refine dP pl29_6Bd 11 (some 39) (by decide) (by kernel_rfl) ?_) | (with_reducible refine dP pl29_13Bd 10 (some 69) (by decide) (by kernel_rfl) ?_)
       ·have hne : ¬ te = 0 := by simpa using h
        have hb := hbad hne
        simp only [hb, hne, ne_eq, not_false_eq_true, if_true]
        all_goals refine ret_is (a := _) ?_ rfl rfl
        all_goals simp only [↓wBA, tBd, convA, seval]
        all_goals simp_all [wS, bErr, ex0, exC, exL, emp]
       ·have he0 : te = 0 := by simpa using h
        refine ⟨⟨i + 1, by omega, ?_⟩, by show kids.length - (i + 1) < kids.length - i; omega, ?_⟩
        ·intro j hj hj'
         by_cases e : j = i
         ·subst e; rw [hte]; exact he0
         ·exact hI j (by omega) hj'
        ·simp only [hz1, ht1]
         simp [wW]
      ·have hdec := dF (i := i) (n := kids.length) (by omega)
       have ht : kids.take i = kids := List.take_of_length_le (by omega)
       have hie : i = kids.length := by omega
       have hok : bndL cols kids = (zsF cols kids, tsF cols kids, 0) := bndL_ok cols kids (fun j hj => hI j (by omega) hj)
       rw [hok]
       simp only [ht, ne_eq, not_true_eq_false, if_false]
       have hne : nilSl 1 (enI (tsF cols kids)) = .sl 1 (enI (tsF cols kids)) := nilSl_ne _ _ (by intro h; have := congrArg List.length h; rw [enI_len, tsF_len, List.length_nil] at this; omega)
       have hT := atyped k (tsF cols kids) (by rw [tsF_len]; omega) (by rw [tsF_len]; exact hk2.2)
       rcases hty : typedS k (tsF cols kids) with ⟨t, ok⟩
       simp only [hty] at hT
       cases ok
       all_goals simp only [if_true, Bool.true_eq_false, if_false]
       ·skip
        repeat' first | ((with_reducible first | refine cs ?_ ?_ | refine ws ?_ ?_ | refine wd ?_ ?_ | refine wu ?_ ?_) <;> intro h <;> try simp only [h]) | simp only [↓wBA, tBd, convA, seval, pl29_3Bd, pl29_6Bd, pl29_13Bd, exL_len, hdec] | ((with_reducible show ACalls _ _ _ _ _); refine ACalls.frzArgs ?_; simp only [frzL, frzA, hne]; refine (hT _).eq ?_) | (with_reducible refine dP pl29_3Bd 7 (some 22) (by decide) (by kernel_rfl) ?_) | (with_reducible refine dP pl29_6Bd 11 (some 39) (by decide) (by kernel_rfl) ?_) | (with_reducible refine dP pl29_13Bd 10 (some 69) (by decide) (by kernel_rfl) ?_)
        all_goals refine ret_is (a := _) ?_ rfl rfl
        all_goals simp only [↓wBA, tBd, convA, seval]
        all_goals simp_all [wS, bErr, ex0, exC, exL, emp]
       ·skip
        repeat' first | ((with_reducible first | refine cs ?_ ?_ | refine ws ?_ ?_ | refine wd ?_ ?_ | refine wu ?_ ?_) <;> intro h <;> try simp only [h]) | simp only [↓wBA, tBd, convA, seval, pl29_3Bd, pl29_6Bd, pl29_13Bd, exL_len, hdec] | ((with_reducible show ACalls _ _ _ _ _); refine ACalls.frzArgs ?_; simp only [frzL, frzA, hne]; refine (hT _).eq ?_) | (with_reducible refine dP pl29_3Bd 7 (some 22) (by decide) (by kernel_rfl) ?_) | (with_reducible refine dP pl29_6Bd 11 (some 39) (by decide) (by kernel_rfl) ?_) | (with_reducible refine dP pl29_13Bd 10 (some 69) (by decide) (by kernel_rfl) ?_)
        all_goals refine ret_is (a := _) ?_ rfl rfl
        all_goals simp only [↓wBA, tBd, convA, seval]
        all_goals simp_all [wS, bErr, ex0, exC, exL, emp]
  ·have hd : ((kids.length : Int) != kidsB k) = true := by simpa using hkn
   rw [if_pos hkn]
   repeat' first | ((with_reducible first | refine cs ?_ ?_ | refine ws ?_ ?_ | refine wd ?_ ?_ | refine wu ?_ ?_) <;> intro h <;> try simp only [h]) | simp only [↓wBA, tBd, convA, seval, pl29_3Bd, pl29_6Bd, pl29_13Bd, exL_len, hd] | ((with_reducible show ACalls _ _ _ _ _); first | (refine (aaggB _ _).eq ?_; simp only [hagg']) | refine (akidsB _ _).eq ?_) | (with_reducible refine dP pl29_3Bd 7 (some 22) (by decide) (by kernel_rfl) ?_) | (with_reducible refine dP pl29_6Bd 11 (some 39) (by decide) (by kernel_rfl) ?_) | (with_reducible refine dP pl29_13Bd 10 (some 69) (by decide) (by kernel_rfl) ?_)
   all_goals refine ret_is (a := _) ?_ rfl rfl
   all_goals simp only [↓wBA, tBd, convA, seval]
   all_goals simp_all [wS, bErr, ex0, exC, exL, emp]
mutual
theorem abind (cols : List Bc) (hc : cols.length ≤ 4398046511104) : ∀ x : Ex, BindOK cols x
 | .mk k vk vn vs tb nm s kids => bind_of cols hc k vk vn vs tb nm s kids (abindL cols hc kids)
theorem abindL (cols : List Bc) (hc : cols.length ≤ 4398046511104) : ∀ (l : List Ex), ∀ y ∈ l, BindOK cols y
 | [], y, hy => by simp at hy
 | x :: l, y, hy => by
   by_cases e : y = x
   ·rw [e]; exact abind cols hc x
   ·exact abindL cols hc l y ((List.mem_cons.1 hy).resolve_left e)
end
end Go.Proofs.YtcnkmandddfdmaaGreat
namespace Go.Proofs.YtcnkmandddfdmaaGreat
open Go.RowKit
def pl54_8Br : Plan := (.det 0 (.det 1 (.det 2 (.det 3 (.det 4 (.det 5 (.act 6 (.det 7 (.det 8 .done)))))))))
def pl54_13Br : Plan := (.det 0 (.det 1 (.det 2 (.det 3 (.det 4 (.det 5 (.det 6 (.act 7 (.det 8 (.det 9 .done))))))))))
def tBr := aa wX <| aa wbu <| aa T3 <| aa T4 <| aa T9 <| aa T33 <| aa T39 <| aa T56 <| aa T70 <| aa T80 <| aa T114 T149
def BrOK (cols : List Bc) (x : Ex) : Prop := ∀ σ, ACalls Tryz.prog 54 [exA x, .p (.sl 3 (enBc cols))] σ fun r s => s = σ ∧ r = .tup [exA (bndS cols x).1, intV .i64 (bndS cols x).2.1, intV .i64 (bndS cols x).2.2]
theorem bndS_none (cols : List Bc) (k vk vn : Int) (vs tb nm : ByteArray) (s : Int) : bndS cols (.mk k vk vn vs tb nm s []) = if aggB k = true then bErr 33 else if k = 1 then (if okV (vk, vn, vs) = true then (.mk 1 vk vn vs emp emp 0 [], vk, 0) else bErr 1) else if k = 2 then (if (findS tb nm cols).2 ≠ 0 then bErr (findS tb nm cols).2 else (.mk 24 0 0 emp emp emp (findS tb nm cols).1 [], (cols.getD (findS tb nm cols).1.toNat (emp, emp, 0)).2.2, 0)) else bErr 1 := by
 simp only [bndS, List.length_nil]
 by_cases ha : aggB k = true
 ·rw [if_pos ha, if_pos ha]
 rw [if_neg ha, if_neg ha]
 by_cases h1 : k = 1
 ·subst h1
  rw [if_neg (by decide)]; simp
 ·by_cases h2 : k = 2
  ·subst h2
   rw [if_neg (by decide)]; simp
  ·have : (((0 : Nat) : Int)) ≠ kidsB k := by
    unfold kidsB
    rw [if_neg (by omega)]
    split
    ·decide
    ·split <;> decide
   rw [if_pos this, if_neg h1, if_neg h2]
theorem aBind0 (cols : List Bc) (hc : cols.length ≤ 4398046511104) (k vk vn : Int) (vs tb nm : ByteArray) (s : Int) : BrOK cols (.mk k vk vn vs tb nm s []) := fun σ => by
 refine ACalls.pureF (R := fun r => r = .tup [exA (bndS cols (.mk k vk vn vs tb nm s [])).1, intV .i64 (bndS cols (.mk k vk vn vs tb nm s [])).2.1, intV .i64 (bndS cols (.mk k vk vn vs tb nm s [])).2.2]) ?_ rfl σ
 rw [bndS_none]
 have hO := aokR (vk, vn, vs)
 have hF := afindR tb nm cols hc
 have hlt := @findS_lt tb nm cols
 simp only [vaA, vaC, List.map_cons, List.map_nil] at hO
 have n00 : (((0 : Nat) : Int) == 0) = true := rfl
 have n01 : (((0 : Nat) : Int) == 1) = false := rfl
 have n03 : (((0 : Nat) : Int) != 2) = true := rfl
 refine acalls_of cx_ok dr_ok Tryz.func54 (by kernel_rfl) rfl (nt := 225) (rs := [.cell 4 70, .tmp 5, .tmp 6]) rfl rfl ?_
 simp only [exA, exC, exL, List.map_cons, List.map_nil]
 by_cases h20 : k ≥ 20
 ·have t20 : decide (k ≥ 20) = true := decide_eq_true h20
  by_cases h23 : k ≤ 23
  ·have t23 : decide (k ≤ 23) = true := decide_eq_true h23
   rw [if_pos (by unfold aggB; simp; omega)]
   repeat' first | ((with_reducible first | refine cs ?_ ?_ | refine ws ?_ ?_ | refine wd ?_ ?_ | refine wu ?_ ?_) <;> intro h <;> try simp only [h]) | simp only [↓wBA, tBr, convA, seval, pl54_8Br, pl54_13Br, List.length_nil, t20, t23] | (with_reducible refine dP pl54_8Br 9 (some 49) (by decide) (by kernel_rfl) ?_) | (with_reducible refine dP pl54_13Br 10 (some 76) (by decide) (by kernel_rfl) ?_)
   all_goals refine ret_is (a := _) ?_ rfl rfl
   all_goals simp only [↓wBA, tBr, convA, seval]
   all_goals simp_all [wS, bErr, ex0, exC, exL, emp]
  ·have t23 : decide (k ≤ 23) = false := decide_eq_false h23
   have e1 : (k == 1) = false := by simp; omega
   have e2 : (k == 2) = false := by simp; omega
   rw [if_neg (by unfold aggB; simp; omega), if_neg (by omega), if_neg (by omega)]
   repeat' first | ((with_reducible first | refine cs ?_ ?_ | refine ws ?_ ?_ | refine wd ?_ ?_ | refine wu ?_ ?_) <;> intro h <;> try simp only [h]) | simp only [↓wBA, tBr, convA, seval, pl54_8Br, pl54_13Br, List.length_nil, t20, t23, e1, e2, n00, n01, n03] | (with_reducible refine dP pl54_8Br 9 (some 49) (by decide) (by kernel_rfl) ?_) | (with_reducible refine dP pl54_13Br 10 (some 76) (by decide) (by kernel_rfl) ?_)
   all_goals refine ret_is (a := _) ?_ rfl rfl
   all_goals simp only [↓wBA, tBr, convA, seval]
   all_goals simp_all [wS, bErr, ex0, exC, exL, emp]
 have t20 : decide (k ≥ 20) = false := decide_eq_false h20
 rw [if_neg (by unfold aggB; simp; omega)]
 by_cases k1 : k = 1
 ·subst k1
  rw [if_pos rfl]
  cases hv : okV (vk, vn, vs)
  ·rw [hv] at hO
   repeat' first | ((with_reducible first | refine cs ?_ ?_ | refine ws ?_ ?_ | refine wd ?_ ?_ | refine wu ?_ ?_) <;> intro h <;> try simp only [h]) | simp only [↓wBA, tBr, convA, seval, pl54_8Br, pl54_13Br, List.length_nil, Int.reduceBEq, t20, n00, n01, n03] | ((with_reducible show ACalls _ _ _ _ _); refine (hO _).eq ?_) | (with_reducible refine dP pl54_8Br 9 (some 49) (by decide) (by kernel_rfl) ?_) | (with_reducible refine dP pl54_13Br 10 (some 76) (by decide) (by kernel_rfl) ?_)
   all_goals refine ret_is (a := _) ?_ rfl rfl
   all_goals simp only [↓wBA, tBr, convA, seval]
   all_goals simp_all [wS, bErr, ex0, exC, exL, emp]
  ·rw [hv] at hO
   repeat' first | ((with_reducible first | refine cs ?_ ?_ | refine ws ?_ ?_ | refine wd ?_ ?_ | refine wu ?_ ?_) <;> intro h <;> try simp only [h]) | simp only [↓wBA, tBr, convA, seval, pl54_8Br, pl54_13Br, List.length_nil, Int.reduceBEq, t20, n00, n01, n03] | ((with_reducible show ACalls _ _ _ _ _); refine (hO _).eq ?_) | (with_reducible refine dP pl54_8Br 9 (some 49) (by decide) (by kernel_rfl) ?_) | (with_reducible refine dP pl54_13Br 10 (some 76) (by decide) (by kernel_rfl) ?_)
   all_goals refine ret_is (a := _) ?_ rfl rfl
   all_goals simp only [↓wBA, tBr, convA, seval]
   all_goals simp_all [wS, bErr, ex0, exC, exL, emp]
 have e1 : (k == 1) = false := by simpa using k1
 rw [if_neg k1]
 by_cases k2 : k = 2
 ·subst k2
  rw [if_pos rfl]
  have hcols : ∀ i : Nat, i < cols.length → (cols.getD i (emp, emp, 0)) = cols.getD i (emp, emp, 0) := fun _ _ => rfl
  generalize findS tb nm cols = fr at *
  obtain ⟨at', e⟩ := fr
  simp only at hF hlt
  by_cases he : e = 0
  ·subst he
   obtain ⟨g0, g1⟩ := hlt rfl
   have hi0 : ((0 : Int) ≤ at') = True := eq_true g0
   have hg := enBc_get cols at'.toNat g1
   have hgd : cols.getD at'.toNat (emp, emp, 0) = cols[at'.toNat] := by simp [List.getD, g1]
   simp only [ne_eq, not_true_eq_false, if_false, hgd]
   generalize cols[at'.toNat] = w at *
   obtain ⟨w1, w2, w3⟩ := w
   simp only [bcC] at hg
   repeat' first | ((with_reducible first | refine cs ?_ ?_ | refine ws ?_ ?_ | refine wd ?_ ?_ | refine wu ?_ ?_) <;> intro h <;> try simp only [h]) | simp only [↓wBA, tBr, convA, seval, pl54_8Br, pl54_13Br, List.length_nil, Int.reduceBEq, t20, n00, n01, n03, bne_self_eq_false, hi0, hg] | ((with_reducible show ACalls _ _ _ _ _); refine (hF _).eq ?_) | (with_reducible refine dP pl54_8Br 9 (some 49) (by decide) (by kernel_rfl) ?_) | (with_reducible refine dP pl54_13Br 10 (some 76) (by decide) (by kernel_rfl) ?_)
   all_goals refine ret_is (a := _) ?_ rfl rfl
   all_goals simp only [↓wBA, tBr, convA, seval]
   all_goals simp_all [wS, bErr, ex0, exC, exL, emp]
  ·have he' : (e != 0) = true := by simpa using he
   simp only [ne_eq, he, not_false_eq_true, if_true]
   repeat' first | ((with_reducible first | refine cs ?_ ?_ | refine ws ?_ ?_ | refine wd ?_ ?_ | refine wu ?_ ?_) <;> intro h <;> try simp only [h]) | simp only [↓wBA, tBr, convA, seval, pl54_8Br, pl54_13Br, List.length_nil, Int.reduceBEq, t20, n00, n01, n03, he'] | ((with_reducible show ACalls _ _ _ _ _); refine (hF _).eq ?_) | (with_reducible refine dP pl54_8Br 9 (some 49) (by decide) (by kernel_rfl) ?_) | (with_reducible refine dP pl54_13Br 10 (some 76) (by decide) (by kernel_rfl) ?_)
   all_goals refine ret_is (a := _) ?_ rfl rfl
   all_goals simp only [↓wBA, tBr, convA, seval]
   all_goals simp_all [wS, bErr, ex0, exC, exL, emp]
 have e2 : (k == 2) = false := by simpa using k2
 rw [if_neg k2]
 repeat' first | ((with_reducible first | refine cs ?_ ?_ | refine ws ?_ ?_ | refine wd ?_ ?_ | refine wu ?_ ?_) <;> intro h <;> try simp only [h]) | simp only [↓wBA, tBr, convA, seval, pl54_8Br, pl54_13Br, List.length_nil, Int.reduceBEq, t20, e1, e2, n00, n01, n03] | (with_reducible refine dP pl54_8Br 9 (some 49) (by decide) (by kernel_rfl) ?_) | (with_reducible refine dP pl54_13Br 10 (some 76) (by decide) (by kernel_rfl) ?_)
 all_goals refine ret_is (a := _) ?_ rfl rfl
 all_goals simp only [↓wBA, tBr, convA, seval]
 all_goals simp_all [wS, bErr, ex0, exC, exL, emp]
end Go.Proofs.YtcnkmandddfdmaaGreat
