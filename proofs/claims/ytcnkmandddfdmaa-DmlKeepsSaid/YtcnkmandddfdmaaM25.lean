/- Names found, types of bound expressions. Types of bound expressions. -/
import Derived.Test.YtcnkmandddfdmaaM22
set_option linter.unusedSimpArgs false
set_option linter.unusedVariables false
set_option linter.defProp false
set_option maxRecDepth 100000
set_option maxHeartbeats 32000000
namespace Go.Proofs.Ytcnkmandddfdmaa
open Go.RowKit
def tBi := aa wX <| aa wbu <| aa T3 <| aa T9 <| aa T66 T93
abbrev Bc := ByteArray × ByteArray × Int
def bcC (c : Bc) : List PV := [.v (.string c.1), .v (.string c.2.1), .v (.int .i64 c.2.2)]
def enBc (l : List Bc) : List (List PV) := l.map bcC
theorem enBc_len (l : List Bc) : (enBc l).length = l.length := by simp [enBc]
theorem enBc_get (l : List Bc) (i : Nat) (h : i < l.length) : (enBc l)[i]? = some (bcC l[i]) := by simp [enBc, h]
def mBc (tb nm : ByteArray) (c : Bc) : Bool := c.2.1.toList == nm.toList && (tb.toList == emp.toList || c.1.toList == tb.toList)
def fStep (tb nm : ByteArray) (s : Nat × Int × Bool) (c : Bc) : Nat × Int × Bool := (s.1 + 1, if mBc tb nm c then (s.1 : Int) else s.2.1, s.2.2 || (mBc tb nm c && decide (0 ≤ s.2.1)))
def fGo (tb nm : ByteArray) (l : List Bc) : Nat × Int × Bool := l.foldl (fStep tb nm) (0, -1, false)
def findS (tb nm : ByteArray) (cols : List Bc) : Int × Int := if (fGo tb nm cols).2.2 = true ∨ (fGo tb nm cols).2.1 < 0 then (0, 32) else ((fGo tb nm cols).2.1, 0)
theorem fold_step {α β : Type} (f : β → α → β) (b : β) (l : List α) (i : Nat) (h : i < l.length) : (l.take (i + 1)).foldl f b = f ((l.take i).foldl f b) l[i] := by
 rw [List.take_succ_eq_append_getElem h, List.foldl_append]; rfl
theorem fGo_bad (tb nm : ByteArray) : ∀ (l : List Bc) (s : Nat × Int × Bool), s.2.2 = true → (l.foldl (fStep tb nm) s).2.2 = true
 | [], s, h => h
 | c :: l, s, h => fGo_bad tb nm l _ (by simp [fStep, h])
theorem fGo_take (tb nm : ByteArray) (l : List Bc) (i : Nat) (h : (fGo tb nm (l.take i)).2.2 = true) : (fGo tb nm l).2.2 = true := by
 have : l = l.take i ++ l.drop i := (List.take_append_drop i l).symm
 rw [fGo, this, List.foldl_append]
 exact fGo_bad tb nm _ _ h
theorem fGo_inv (tb nm : ByteArray) : ∀ (l : List Bc) (s : Nat × Int × Bool), -1 ≤ s.2.1 → s.2.1 < s.1 → (l.foldl (fStep tb nm) s).1 = s.1 + l.length ∧ -1 ≤ (l.foldl (fStep tb nm) s).2.1 ∧ (l.foldl (fStep tb nm) s).2.1 < (l.foldl (fStep tb nm) s).1
 | [], s, h1, h2 => ⟨by simp, h1, h2⟩
 | c :: l, s, h1, h2 => by
   have := fGo_inv tb nm l (fStep tb nm s c) (by simp only [fStep]; split <;> omega) (by simp only [fStep]; split <;> omega)
   simp only [List.foldl_cons, List.length_cons]
   refine ⟨?_, this.2.1, this.2.2⟩
   rw [this.1]; simp only [fStep]; omega
theorem findS_lt {tb nm : ByteArray} {cols : List Bc} (h : (findS tb nm cols).2 = 0) : 0 ≤ (findS tb nm cols).1 ∧ (findS tb nm cols).1.toNat < cols.length := by
 have := fGo_inv tb nm cols (0, -1, false) (by simp) (by simp)
 unfold findS fGo at *
 split
 ·rename_i hc; rw [if_pos hc] at h; simp at h
 ·rename_i hc; simp only [not_or] at hc; simp only; omega
theorem afind0 (tb nm : ByteArray) (cols : List Bc) (hc : cols.length ≤ 4398046511104) (σ : St) : ACalls Try.prog 60 [.p (.v (.string tb)), .p (.v (.string nm)), .p (.sl 3 (enBc cols))] σ fun r s => s = σ ∧ r = .tup [intV .i64 (findS tb nm cols).1, intV .i64 (findS tb nm cols).2] := by
 refine ACalls.pureF (R := fun r => r = .tup [intV .i64 (findS tb nm cols).1, intV .i64 (findS tb nm cols).2]) ?_ rfl σ
 refine acalls_of cx_ok dr_ok Try.func60 (by kernel_rfl) rfl (nt := 36) (rs := [.tmp 6, .tmp 7]) rfl rfl ?_
 simp only [↓wBA, tBi, convA, seval, enBc_len]
 refine awp_loopN (cols.length) (fun i => [(8, intV .i64 (fGo tb nm (cols.take i)).2.1), (13, intV .i64 (i : Nat)), (6, .any), (7, .any), (9, .any), (10, .any), (14, .any), (15, .any), (16, .any), (17, .any), (18, .any), (19, .any), (20, .any), (21, .any), (22, .any), (23, .any), (24, .any), (25, .any), (26, .any), (27, .any), (28, .any), (29, .any), (30, .any), (31, .any), (32, .any), (33, .any), (34, .any), (35, .any)]) (fun i => []) (fun i => (fGo tb nm (cols.take i)).2.2 = false) ?_ ?_ ?_
 ·rfl
 ·skip
  simp only [wR, Nat.reduceAdd, Nat.reduceLT, reduceIte]
  simp [wW, fGo]
 ·intro i hi hI
  simp only [wR, Nat.reduceAdd, Nat.reduceLT, reduceIte]
  by_cases hlt : i < cols.length
  ·have hdec := dT (i := i) (n := cols.length) (by omega)
   have hi0 := nnI i
   have hw := wI i (by omega)
   have hg := enBc_get cols i hlt
   have hst : fGo tb nm (cols.take (i + 1)) = fStep tb nm (fGo tb nm (cols.take i)) cols[i] := fold_step _ _ _ _ hlt
   have hbad := fGo_take tb nm cols (i + 1)
   have hinv := fGo_inv tb nm (cols.take i) (0, -1, false) (by simp) (by simp)
   change (fGo tb nm (cols.take i)).1 = _ ∧ _ at hinv
   have hidx : (fGo tb nm (cols.take i)).1 = i := by rw [hinv.1]; simp; omega
   have hfin : (fGo tb nm cols).2.2 = true → findS tb nm cols = (0, 32) := fun h => by unfold findS; rw [if_pos (.inl h)]
   rcases hc : cols[i] with ⟨c1, c2, c3⟩
   rw [hc] at hst hg
   simp only [bcC] at hg
   repeat' first | ((with_reducible first | refine cs ?_ ?_ | refine ws ?_ ?_) <;> intro h <;> try simp only [h]) | simp only [↓wBA, tBi, convA, seval, enBc_len, hdec, hi0, hg, hw, binStr]
   all_goals first
    | (refine ⟨⟨i + 1, by omega, ?_⟩, by show cols.length - (i + 1) < cols.length - i; omega, ?_⟩
       ·rw [hst]; simp_all [fStep, mBc, emp]
       ·simp only [setsF_cons, setsF_nil, setsO_cons, setsO_nil, List.set_cons_zero, List.set_cons_succ, St.put, hst]
        simp_all [WeakE, Weak, leL, leT, leM, leG, leA, leC, leS, leO, tokLt, tokLtL, intV, boolV, fStep, mBc, emp])
    | skip
   all_goals have hb : (fGo tb nm cols).2.2 = true := hbad (by rw [hst]; simp_all [fStep, mBc, emp])
   all_goals have hf := hfin hb
   all_goals simp only [hf]
   all_goals refine ret_is (a := _) ?_ rfl rfl
   all_goals simp only [↓wBA, tBi, convA, seval]
   all_goals simp_all [wS]
  ·have hdec := dF (i := i) (n := cols.length) (by omega)
   have ht : cols.take i = cols := List.take_of_length_le (by omega)
   rw [ht] at hI
   simp only [ht]
   repeat' first | ((with_reducible first | refine cs ?_ ?_ | refine ws ?_ ?_) <;> intro h <;> try simp only [h]) | simp only [↓wBA, tBi, convA, seval, enBc_len, hdec]
   all_goals refine ret_is (a := _) ?_ rfl rfl
   all_goals simp only [↓wBA, tBi, convA, seval]
   all_goals simp_all [wS, findS]
   all_goals grind
end Go.Proofs.Ytcnkmandddfdmaa
namespace Go.Proofs.Ytcnkmandddfdmaa
open Go.RowKit
def pl61_12Bt : Plan := (.det 0 (.det 1 (.det 2 (.det 3 (.det 4 (.det 5 (.det 6 (.det 7 (.fin 8 (.det 9 (.det 10 .done)))))))))))
def tBt := aa wX <| aa wbu <| aa T3 <| aa T4 <| aa T61 T124
def enI (l : List Int) : List (List PV) := l.map fun n => [.v (.int .i64 n)]
theorem enI_len (l : List Int) : (enI l).length = l.length := by simp [enI]
theorem enI_get (l : List Int) (i : Nat) (h : i < l.length) : (enI l)[i]? = some [.v (.int .i64 l[i])] := by simp [enI, h]
def idxP {α : Type} (p : α → Bool) (l : List α) : Int := match l.findIdx? p with
 | some i => (i : Nat)
 | none => -1
theorem idxP_at {α : Type} (p : α → Bool) (l : List α) (i : Nat) (h : i < l.length) (h1 : ∀ j (hj : j < i), p (l[j]'(by omega)) = false) (h2 : p l[i] = true) : idxP p l = (i : Nat) := by
 unfold idxP
 have : l.findIdx? p = some i := by
  rw [List.findIdx?_eq_some_iff_getElem]
  exact ⟨h, h2, fun j hj => by simp [h1 j hj]⟩
 rw [this]
theorem idxP_none {α : Type} (p : α → Bool) (l : List α) (h1 : ∀ j (hj : j < l.length), p l[j] = false) : idxP p l = -1 := by
 unfold idxP
 have : l.findIdx? p = none := by
  rw [List.findIdx?_eq_none_iff]
  intro x hx
  obtain ⟨j, hj, rfl⟩ := List.getElem_of_mem hx
  exact h1 j hj
 rw [this]
theorem idxP_ge {α : Type} (p : α → Bool) (l : List α) : decide (idxP p l ≥ 0) = l.any p := by
 unfold idxP
 split
 ·rename_i i h
  have := List.findIdx?_eq_some_iff_getElem.1 h
  obtain ⟨h1, h2, _⟩ := this
  have : l.any p = true := List.any_eq_true.2 ⟨_, List.getElem_mem h1, h2⟩
  rw [this]; simp
 ·rename_i h
  rw [List.findIdx?_eq_none_iff] at h
  have : l.any p = false := by rw [List.any_eq_false]; intro x hx; simp [h x hx]
  rw [this]; simp
def nuO (t : Int) (_ : Nat) : Ob := .row 1 [[intV .i64 t]]
theorem nuP (t : Int) (u : Nat) : PlainOb (nuO t u) := ⟨fun g => by simp [renOb, nuO, renL, renA, intV], fun n => by simp [tokOb, nuO, tokLtL, tokLt, intV], 1, _, rfl⟩
def badT (t k : Int) : Bool := k != t && k != 0
theorem abadT (t k : Int) : OCalls (nuO t) 74 (fun p => [intV .i64 k, .mp p 1 0 0]) 0 fun r _ => r = boolV (badT t k) := by
 refine OCalls.mono (R := fun r s' => r = boolV (badT t k) ∧ s' = 0) (OCalls.of (nuP t) (fun t => rfl) rfl ?_) fun r s h => h.1
 refine acalls_of cx_ok dr_ok Try.func74 (by kernel_rfl) rfl (nt := 9) (rs := [.tmp 3]) rfl rfl ?_
 simp only [nuO]
 repeat' first | ((with_reducible first | refine cs ?_ ?_ | refine ws ?_ ?_) <;> intro h <;> try simp only [h]) | simp only [↓wBA, tBt, convA, seval]
 all_goals refine ret_obI (a := _) (b := _) (nuP _ _) ?_ rfl rfl
 all_goals simp only [↓wBA, tBt, convA, seval]
 all_goals simp_all [wS, nuO, badT]
theorem aidxT (t : Int) (ts : List Int) (hl : ts.length ≤ 4398046511104) : OCalls (nuO t) 81 (fun p => [.p (.sl 1 (enI ts)), .fn 74 [] [.mp p 1 0 0]]) 0 fun r _ => r = intV .i64 (idxP (badT t) ts) := by
 refine OCalls.mono (R := fun r s' => r = intV .i64 (idxP (badT t) ts) ∧ s' = 0) (OCalls.of (nuP t) (fun t => rfl) rfl ?_) fun r s h => h.1
 have hB := fun k => abadT t k
 refine acalls_of cx_ok dr_ok Try.func81 (by kernel_rfl) rfl (nt := 17) (rs := [.tmp 4]) rfl rfl ?_
 simp only [nuO]
 simp only [↓wBA, tBt, convA, seval, enI_len]
 refine awp_loopN (ts.length) (fun i => [(8, intV .i64 (i : Nat)), (4, .any), (5, .any), (9, .any), (10, .any), (11, .any), (12, .any), (13, .any), (14, .any), (15, .any), (16, .any), (17, .any), (18, .any)]) (fun i => []) (fun i => ∀ j (hj : j < i) (hj' : j < ts.length), badT t ts[j] = false) ?_ ?_ ?_
 ·intro j hj; omega
 ·skip
  simp only [wR, Nat.reduceAdd, Nat.reduceLT, reduceIte]
  simp [wW]
 ·intro i hi hI
  simp only [wR, Nat.reduceAdd, Nat.reduceLT, reduceIte]
  by_cases hlt : i < ts.length
  ·have hdec := dT (i := i) (n := ts.length) (by omega)
   have hi0 := nnI i
   have hw := wI i (by omega)
   have hg := enI_get ts i hlt
   repeat' first | ((with_reducible first | refine cs ?_ ?_ | refine ws ?_ ?_) <;> intro h <;> try simp only [h]) | simp only [↓wBA, tBt, convA, seval, enI_len, hdec, hi0, hg, hw] | ((with_reducible show ACalls _ _ _ _ _); refine (hB _ _ 0 rfl).mono ?_; rintro _ _ ⟨_, rfl, rfl⟩; simp only [nuO])
   ·have hix := idxP_at (badT t) ts i hlt (fun j hj => hI j hj (by omega)) h
    simp only [hix]
    all_goals refine ret_obI (a := _) (b := _) (nuP _ _) ?_ rfl rfl
    all_goals simp only [↓wBA, tBt, convA, seval]
    all_goals simp_all [wS, nuO]
   ·skip
    refine ⟨⟨i + 1, by omega, ?_⟩, by show ts.length - (i + 1) < ts.length - i; omega, ?_⟩
    ·intro j hj hj'
     by_cases e : j = i
     ·subst e; exact h
     ·exact hI j (by omega) hj'
    ·skip
     simp only [wR, Nat.reduceAdd, Nat.reduceLT, reduceIte]
     simp [wW]
  ·have hdec := dF (i := i) (n := ts.length) (by omega)
   have hix := idxP_none (badT t) ts (fun j hj => hI j (by omega) hj)
   simp only [hix]
   repeat' first | ((with_reducible first | refine cs ?_ ?_ | refine ws ?_ ?_) <;> intro h <;> try simp only [h]) | simp only [↓wBA, tBt, convA, seval, enI_len, hdec]
   all_goals refine ret_obI (a := _) (b := _) (nuP _ _) ?_ rfl rfl
   all_goals simp only [↓wBA, tBt, convA, seval]
   all_goals simp_all [wS, nuO]
theorem acontT (t : Int) (ts : List Int) (hl : ts.length ≤ 4398046511104) : OCalls (nuO t) 73 (fun p => [.p (.sl 1 (enI ts)), .fn 74 [] [.mp p 1 0 0]]) 0 fun r _ => r = boolV (ts.any (badT t)) := by
 refine OCalls.mono (R := fun r s' => r = boolV (ts.any (badT t)) ∧ s' = 0) (OCalls.of (nuP t) (fun t => rfl) rfl ?_) fun r s h => h.1
 have hB := aidxT t ts hl
 refine acalls_of cx_ok dr_ok Try.func73 (by kernel_rfl) rfl (nt := 7) (rs := [.tmp 4]) rfl rfl ?_
 simp only [nuO]
 repeat' first | ((with_reducible first | refine cs ?_ ?_ | refine ws ?_ ?_) <;> intro h <;> try simp only [h]) | simp only [↓wBA, tBt, convA, seval, idxP_ge] | ((with_reducible show ACalls _ _ _ _ _); refine (hB _ 0 rfl).mono ?_; rintro _ _ ⟨_, rfl, rfl⟩; simp only [nuO])
 all_goals refine ret_obI (a := _) (b := _) (nuP _ _) ?_ rfl rfl
 all_goals simp only [↓wBA, tBt, convA, seval]
 all_goals simp_all [wS, nuO]
def tyO (ts : List Int) (_ : Nat) : Ob := .row 1 [[.p (.sl 1 (enI ts))]]
theorem tyP (ts : List Int) (u : Nat) : PlainOb (tyO ts u) := ⟨fun g => by simp [renOb, tyO, renL, renA], fun n => by simp [tokOb, tyO, tokLtL, tokLt], 1, _, rfl⟩
def onlyS (t : Int) (ts : List Int) : Bool := !ts.any (badT t)
theorem aonly (t : Int) (ts : List Int) (hl : ts.length ≤ 4398046511104) : OCalls (tyO ts) 72 (fun p => [intV .i64 t, .mp p 1 0 0]) 0 fun r _ => r = boolV (onlyS t ts) := by
 refine OCalls.mono (R := fun r s' => r = boolV (onlyS t ts) ∧ s' = 0) (OCalls.of (tyP ts) (fun t => rfl) rfl ?_) fun r s h => h.1
 have hB := acontT t ts hl
 refine acalls_of cx_ok dr_ok Try.func72 (by kernel_rfl) rfl (nt := 6) (rs := [.tmp 3]) rfl rfl ?_
 simp only [tyO]
 repeat' first | ((with_reducible first | refine cs ?_ ?_ | refine ws ?_ ?_) <;> intro h <;> try simp only [h]) | simp only [↓wBA, tBt, convA, seval] | ((with_reducible show ACalls _ _ _ _ _); refine (hB _ 1 rfl).mono ?_; rintro _ _ ⟨_, rfl, rfl⟩; simp only [nuO])
 all_goals refine ret_obI (a := _) (b := _) (tyP _ _) ?_ rfl rfl
 all_goals simp only [↓wBA, tBt, convA, seval]
 all_goals simp_all [wS, tyO, onlyS]
def typedS (k : Int) (ts : List Int) : Int × Bool :=
 if k = 3 ∨ (5 ≤ k ∧ k ≤ 9) then (1, onlyS 1 ts)
 else if k = 4 ∨ k = 16 ∨ k = 17 then (2, onlyS 2 ts)
 else if k = 18 ∨ k = 19 then (2, true)
 else (2, onlyS (if ts.getD 1 0 > ts.getD 0 0 then ts.getD 1 0 else ts.getD 0 0) ts)
theorem atyped (k : Int) (ts : List Int) (hl : ts.length ≤ 4398046511104) (hk : 2 ≤ ts.length ∨ k = 3 ∨ k = 4 ∨ k = 18 ∨ k = 19) (σ : St) : ACalls Try.prog 61 [intV .i64 k, .p (.sl 1 (enI ts))] σ fun r s => s = σ ∧ r = .tup [intV .i64 (typedS k ts).1, boolV (typedS k ts).2] := by
 refine ACalls.pureF (R := fun r => r = .tup [intV .i64 (typedS k ts).1, boolV (typedS k ts).2]) ?_ rfl σ
 have hB := fun t => aonly t ts hl
 have hm : ∀ n m : Int, (if m > n then m else n) = if m > n then m else n := fun _ _ => rfl
 have hd0 : 2 ≤ ts.length → (enI ts)[(0 : Nat)]? = some [.v (.int .i64 (ts.getD 0 0))] := fun h => by rw [enI_get ts 0 (by omega)]; simp [List.getD, show 0 < ts.length by omega]
 have hd1 : 2 ≤ ts.length → (enI ts)[(1 : Nat)]? = some [.v (.int .i64 (ts.getD 1 0))] := fun h => by rw [enI_get ts 1 (by omega)]; simp [List.getD, show 1 < ts.length by omega]
 refine acalls_of cx_ok dr_ok Try.func61 (by kernel_rfl) rfl (nt := 40) (rs := [.tmp 4, .tmp 5]) rfl rfl ?_
 by_cases h2 : 2 ≤ ts.length
 ·have e0 := hd0 h2
  have e1 := hd1 h2
  clear hd0 hd1
  repeat' first | ((with_reducible first | refine cs ?_ ?_ | refine ws ?_ ?_ | refine wd ?_ ?_ | refine wu ?_ ?_) <;> intro h <;> try simp only [h]) | simp only [↓wBA, tBt, convA, seval, pl61_12Bt, e0, e1] | ((with_reducible show ACalls _ _ _ _ _); refine (hB _ _ 0 rfl).mono ?_; rintro _ _ ⟨_, rfl, rfl⟩; simp only [tyO]) | (with_reducible refine dP pl61_12Bt 11 (some 33) (by decide) (by kernel_rfl) ?_)
  all_goals refine ret_is (a := _) ?_ rfl rfl
  all_goals simp only [↓wBA, tBt, convA, seval]
  all_goals simp_all [wS, typedS]
  all_goals grind
 ·have hk' : k = 3 ∨ k = 4 ∨ k = 18 ∨ k = 19 := by omega
  clear hd0 hd1
  rcases hk' with rfl | rfl | rfl | rfl
  ·skip
   repeat' first | ((with_reducible first | refine cs ?_ ?_ | refine ws ?_ ?_ | refine wd ?_ ?_ | refine wu ?_ ?_) <;> intro h <;> try simp only [h]) | simp only [↓wBA, tBt, convA, seval, pl61_12Bt, Int.reduceBEq, decide_true] | ((with_reducible show ACalls _ _ _ _ _); refine (hB _ _ 0 rfl).mono ?_; rintro _ _ ⟨_, rfl, rfl⟩; simp only [tyO]) | (with_reducible refine dP pl61_12Bt 11 (some 33) (by decide) (by kernel_rfl) ?_)
   all_goals refine ret_is (a := _) ?_ rfl rfl
   all_goals simp only [↓wBA, tBt, convA, seval]
   all_goals simp_all [wS, typedS]
  ·skip
   repeat' first | ((with_reducible first | refine cs ?_ ?_ | refine ws ?_ ?_ | refine wd ?_ ?_ | refine wu ?_ ?_) <;> intro h <;> try simp only [h]) | simp only [↓wBA, tBt, convA, seval, pl61_12Bt, Int.reduceBEq, Int.reduceGE, Int.reduceLE, decide_true, decide_false] | ((with_reducible show ACalls _ _ _ _ _); refine (hB _ _ 0 rfl).mono ?_; rintro _ _ ⟨_, rfl, rfl⟩; simp only [tyO]) | (with_reducible refine dP pl61_12Bt 11 (some 33) (by decide) (by kernel_rfl) ?_)
   all_goals refine ret_is (a := _) ?_ rfl rfl
   all_goals simp only [↓wBA, tBt, convA, seval]
   all_goals simp_all [wS, typedS]
  ·skip
   repeat' first | ((with_reducible first | refine cs ?_ ?_ | refine ws ?_ ?_ | refine wd ?_ ?_ | refine wu ?_ ?_) <;> intro h <;> try simp only [h]) | simp only [↓wBA, tBt, convA, seval, pl61_12Bt, Int.reduceBEq, Int.reduceGE, Int.reduceLE, decide_true, decide_false] | (with_reducible refine dP pl61_12Bt 11 (some 33) (by decide) (by kernel_rfl) ?_)
   all_goals refine ret_is (a := _) ?_ rfl rfl
   all_goals simp only [↓wBA, tBt, convA, seval]
   all_goals simp_all [wS, typedS]
  ·skip
   repeat' first | ((with_reducible first | refine cs ?_ ?_ | refine ws ?_ ?_ | refine wd ?_ ?_ | refine wu ?_ ?_) <;> intro h <;> try simp only [h]) | simp only [↓wBA, tBt, convA, seval, pl61_12Bt, Int.reduceBEq, Int.reduceGE, Int.reduceLE, decide_true, decide_false] | (with_reducible refine dP pl61_12Bt 11 (some 33) (by decide) (by kernel_rfl) ?_)
   all_goals refine ret_is (a := _) ?_ rfl rfl
   all_goals simp only [↓wBA, tBt, convA, seval]
   all_goals simp_all [wS, typedS]
end Go.Proofs.Ytcnkmandddfdmaa
