/- Types of bound expressions. dml: the numbers of columns, the scope. -/
import Derived.Test.YtcnkmandddfdmaaGreatDoorM33
set_option linter.unusedSimpArgs false
set_option linter.unusedVariables false
set_option linter.defProp false
set_option maxRecDepth 100000
set_option maxHeartbeats 32000000
namespace Go.Proofs.YtcnkmandddfdmaaGreatDoor
open Go.RowKit
def pl90_12Bt : Plan := (.det 0 (.det 1 (.det 2 (.det 3 (.det 4 (.det 5 (.det 6 (.det 7 (.fin 8 (.det 9 (.det 10 .done)))))))))))
def tBt := aa wX <| aa wbu <| aa T3 <| aa T4 <| aa T79 T162
def enI (l : List Int) : List (List PV) := l.map fun n => [.v (.int .i64 n)]
theorem enI_len (l : List Int) : (enI l).length = l.length := by simp [enI]
theorem enI_get (l : List Int) (i : Nat) (h : i < l.length) : (enI l)[i]? = some [.v (.int .i64 l[i])] := by simp [enI, h]
def idxP {α : Type} (p : α → Bool) (l : List α) : Int := match l.findIdx? p with
 | some i => (i : Nat)
 | none => -1
theorem idxP_at {α : Type} (p : α → Bool) (l : List α) (i : Nat) (h : i < l.length) (h1 : ∀ j (hj : j < i), p (l[j]'(by omega)) = false) (h2 : p l[i] = true) : idxP p l = (i : Nat) := by
 unfold idxP
 have : l.findIdx? p = some i := by
  rw [List.findIdx?_eq_some_iff_getElem]
  exact ⟨h, h2, fun j hj => by simp [h1 j hj]⟩
 rw [this]
theorem idxP_none {α : Type} (p : α → Bool) (l : List α) (h1 : ∀ j (hj : j < l.length), p l[j] = false) : idxP p l = -1 := by
 unfold idxP
 have : l.findIdx? p = none := by
  rw [List.findIdx?_eq_none_iff]
  intro x hx
  obtain ⟨j, hj, rfl⟩ := List.getElem_of_mem hx
  exact h1 j hj
 rw [this]
theorem idxP_ge {α : Type} (p : α → Bool) (l : List α) : decide (idxP p l ≥ 0) = l.any p := by
 unfold idxP
 split
 ·rename_i i h
  have := List.findIdx?_eq_some_iff_getElem.1 h
  obtain ⟨h1, h2, _⟩ := this
  have : l.any p = true := List.any_eq_true.2 ⟨_, List.getElem_mem h1, h2⟩
  rw [this]; simp
 ·rename_i h
  rw [List.findIdx?_eq_none_iff] at h
  have : l.any p = false := by rw [List.any_eq_false]; intro x hx; simp [h x hx]
  rw [this]; simp
def nuO (t : Int) (_ : Nat) : Ob := .row 1 [[intV .i64 t]]
theorem nuP (t : Int) (u : Nat) : PlainOb (nuO t u) := ⟨fun g => by simp [renOb, nuO, renL, renA, intV], fun n => by simp [tokOb, nuO, tokLtL, tokLt, intV], 1, _, rfl⟩
def badT (t k : Int) : Bool := k != t && k != 0
theorem abadT (t k : Int) : OCalls (nuO t) 111 (fun p => [intV .i64 k, .mp p 1 0 0]) 0 fun r _ => r = boolV (badT t k) := by
 refine OCalls.mono (R := fun r s' => r = boolV (badT t k) ∧ s' = 0) (OCalls.of (nuP t) (fun t => rfl) rfl ?_) fun r s h => h.1
 refine acalls_of cx_ok dr_ok Tryz.func111 (by kernel_rfl) rfl (nt := 9) (rs := [.tmp 3]) rfl rfl ?_
 simp only [nuO]
 repeat' first | ((with_reducible first | refine cs ?_ ?_ | refine ws ?_ ?_) <;> intro h <;> try simp only [h]) | simp only [↓wBA, tBt, convA, seval]
 all_goals refine ret_obI (a := _) (b := _) (nuP _ _) ?_ rfl rfl
 all_goals simp only [↓wBA, tBt, convA, seval]
 all_goals simp_all [wS, nuO, badT]
theorem aidxT (t : Int) (ts : List Int) (hl : ts.length ≤ 4398046511104) : OCalls (nuO t) 127 (fun p => [.p (.sl 1 (enI ts)), .fn 111 [] [.mp p 1 0 0]]) 0 fun r _ => r = intV .i64 (idxP (badT t) ts) := by
 refine OCalls.mono (R := fun r s' => r = intV .i64 (idxP (badT t) ts) ∧ s' = 0) (OCalls.of (nuP t) (fun t => rfl) rfl ?_) fun r s h => h.1
 have hB := fun k => abadT t k
 refine acalls_of cx_ok dr_ok Tryz.func127 (by kernel_rfl) rfl (nt := 17) (rs := [.tmp 4]) rfl rfl ?_
 simp only [nuO]
 simp only [↓wBA, tBt, convA, seval, enI_len]
 refine awp_loopN (ts.length) (fun i => [(8, intV .i64 (i : Nat)), (4, .any), (5, .any), (9, .any), (10, .any), (11, .any), (12, .any), (13, .any), (14, .any), (15, .any), (16, .any), (17, .any), (18, .any)]) (fun i => []) (fun i => ∀ j (hj : j < i) (hj' : j < ts.length), badT t ts[j] = false) ?_ ?_ ?_
 ·intro j hj; omega
 ·skip
  simp only [wR, Nat.reduceAdd, Nat.reduceLT, reduceIte]
  simp [wW]
 ·intro i hi hI
  simp only [wR, Nat.reduceAdd, Nat.reduceLT, reduceIte]
  by_cases hlt : i < ts.length
  ·have hdec := dT (i := i) (n := ts.length) (by omega)
   have hi0 := nnI i
   have hw := wI i (by omega)
   have hg := enI_get ts i hlt
   repeat' first | ((with_reducible first | refine cs ?_ ?_ | refine ws ?_ ?_) <;> intro h <;> try simp only [h]) | simp only [↓wBA, tBt, convA, seval, enI_len, hdec, hi0, hg, hw] | ((with_reducible show ACalls _ _ _ _ _); refine (hB _ _ 0 rfl).mono ?_; rintro _ _ ⟨_, rfl, rfl⟩; simp only [nuO])
   ·have hix := idxP_at (badT t) ts i hlt (fun j hj => hI j hj (by omega)) h
    simp only [hix]
    all_goals refine ret_obI (a := _) (b := _) (nuP _ _) ?_ rfl rfl
    all_goals simp only [↓wBA, tBt, convA, seval]
    all_goals simp_all [wS, nuO]
   ·skip
    refine ⟨⟨i + 1, by omega, ?_⟩, by show ts.length - (i + 1) < ts.length - i; omega, ?_⟩
    ·intro j hj hj'
     by_cases e : j = i
     ·subst e; exact h
     ·exact hI j (by omega) hj'
    ·skip
     simp only [wR, Nat.reduceAdd, Nat.reduceLT, reduceIte]
     simp [wW]
  ·have hdec := dF (i := i) (n := ts.length) (by omega)
   have hix := idxP_none (badT t) ts (fun j hj => hI j (by omega) hj)
   simp only [hix]
   repeat' first | ((with_reducible first | refine cs ?_ ?_ | refine ws ?_ ?_) <;> intro h <;> try simp only [h]) | simp only [↓wBA, tBt, convA, seval, enI_len, hdec]
   all_goals refine ret_obI (a := _) (b := _) (nuP _ _) ?_ rfl rfl
   all_goals simp only [↓wBA, tBt, convA, seval]
   all_goals simp_all [wS, nuO]
theorem acontT (t : Int) (ts : List Int) (hl : ts.length ≤ 4398046511104) : OCalls (nuO t) 110 (fun p => [.p (.sl 1 (enI ts)), .fn 111 [] [.mp p 1 0 0]]) 0 fun r _ => r = boolV (ts.any (badT t)) := by
 refine OCalls.mono (R := fun r s' => r = boolV (ts.any (badT t)) ∧ s' = 0) (OCalls.of (nuP t) (fun t => rfl) rfl ?_) fun r s h => h.1
 have hB := aidxT t ts hl
 refine acalls_of cx_ok dr_ok Tryz.func110 (by kernel_rfl) rfl (nt := 7) (rs := [.tmp 4]) rfl rfl ?_
 simp only [nuO]
 repeat' first | ((with_reducible first | refine cs ?_ ?_ | refine ws ?_ ?_) <;> intro h <;> try simp only [h]) | simp only [↓wBA, tBt, convA, seval, idxP_ge] | ((with_reducible show ACalls _ _ _ _ _); refine (hB _ 0 rfl).mono ?_; rintro _ _ ⟨_, rfl, rfl⟩; simp only [nuO])
 all_goals refine ret_obI (a := _) (b := _) (nuP _ _) ?_ rfl rfl
 all_goals simp only [↓wBA, tBt, convA, seval]
 all_goals simp_all [wS, nuO]
def tyO (ts : List Int) (_ : Nat) : Ob := .row 1 [[.p (.sl 1 (enI ts))]]
theorem tyP (ts : List Int) (u : Nat) : PlainOb (tyO ts u) := ⟨fun g => by simp [renOb, tyO, renL, renA], fun n => by simp [tokOb, tyO, tokLtL, tokLt], 1, _, rfl⟩
def onlyS (t : Int) (ts : List Int) : Bool := !ts.any (badT t)
theorem aonly (t : Int) (ts : List Int) (hl : ts.length ≤ 4398046511104) : OCalls (tyO ts) 109 (fun p => [intV .i64 t, .mp p 1 0 0]) 0 fun r _ => r = boolV (onlyS t ts) := by
 refine OCalls.mono (R := fun r s' => r = boolV (onlyS t ts) ∧ s' = 0) (OCalls.of (tyP ts) (fun t => rfl) rfl ?_) fun r s h => h.1
 have hB := acontT t ts hl
 refine acalls_of cx_ok dr_ok Tryz.func109 (by kernel_rfl) rfl (nt := 6) (rs := [.tmp 3]) rfl rfl ?_
 simp only [tyO]
 repeat' first | ((with_reducible first | refine cs ?_ ?_ | refine ws ?_ ?_) <;> intro h <;> try simp only [h]) | simp only [↓wBA, tBt, convA, seval] | ((with_reducible show ACalls _ _ _ _ _); refine (hB _ 1 rfl).mono ?_; rintro _ _ ⟨_, rfl, rfl⟩; simp only [nuO])
 all_goals refine ret_obI (a := _) (b := _) (tyP _ _) ?_ rfl rfl
 all_goals simp only [↓wBA, tBt, convA, seval]
 all_goals simp_all [wS, tyO, onlyS]
def typedS (k : Int) (ts : List Int) : Int × Bool :=
 if k = 3 ∨ (5 ≤ k ∧ k ≤ 9) then (1, onlyS 1 ts)
 else if k = 4 ∨ k = 16 ∨ k = 17 then (2, onlyS 2 ts)
 else if k = 18 ∨ k = 19 then (2, true)
 else (2, onlyS (if ts.getD 1 0 > ts.getD 0 0 then ts.getD 1 0 else ts.getD 0 0) ts)
theorem atyped (k : Int) (ts : List Int) (hl : ts.length ≤ 4398046511104) (hk : 2 ≤ ts.length ∨ k = 3 ∨ k = 4 ∨ k = 18 ∨ k = 19) (σ : St) : ACalls Tryz.prog 90 [intV .i64 k, .p (.sl 1 (enI ts))] σ fun r s => s = σ ∧ r = .tup [intV .i64 (typedS k ts).1, boolV (typedS k ts).2] := by
 refine ACalls.pureF (R := fun r => r = .tup [intV .i64 (typedS k ts).1, boolV (typedS k ts).2]) ?_ rfl σ
 have hB := fun t => aonly t ts hl
 have hm : ∀ n m : Int, (if m > n then m else n) = if m > n then m else n := fun _ _ => rfl
 have hd0 : 2 ≤ ts.length → (enI ts)[(0 : Nat)]? = some [.v (.int .i64 (ts.getD 0 0))] := fun h => by rw [enI_get ts 0 (by omega)]; simp [List.getD, show 0 < ts.length by omega]
 have hd1 : 2 ≤ ts.length → (enI ts)[(1 : Nat)]? = some [.v (.int .i64 (ts.getD 1 0))] := fun h => by rw [enI_get ts 1 (by omega)]; simp [List.getD, show 1 < ts.length by omega]
 refine acalls_of cx_ok dr_ok Tryz.func90 (by kernel_rfl) rfl (nt := 40) (rs := [.tmp 4, .tmp 5]) rfl rfl ?_
 by_cases h2 : 2 ≤ ts.length
 ·have e0 := hd0 h2
  have e1 := hd1 h2
  clear hd0 hd1
  repeat' first | ((with_reducible first | refine cs ?_ ?_ | refine ws ?_ ?_ | refine wd ?_ ?_ | refine wu ?_ ?_) <;> intro h <;> try simp only [h]) | simp only [↓wBA, tBt, convA, seval, pl90_12Bt, e0, e1] | ((with_reducible show ACalls _ _ _ _ _); refine (hB _ _ 0 rfl).mono ?_; rintro _ _ ⟨_, rfl, rfl⟩; simp only [tyO]) | (with_reducible refine dP pl90_12Bt 11 (some 33) (by decide) (by kernel_rfl) ?_)
  all_goals refine ret_is (a := _) ?_ rfl rfl
  all_goals simp only [↓wBA, tBt, convA, seval]
  all_goals simp_all [wS, typedS]
  all_goals grind
 ·have hk' : k = 3 ∨ k = 4 ∨ k = 18 ∨ k = 19 := by omega
  clear hd0 hd1
  rcases hk' with rfl | rfl | rfl | rfl
  ·skip
   repeat' first | ((with_reducible first | refine cs ?_ ?_ | refine ws ?_ ?_ | refine wd ?_ ?_ | refine wu ?_ ?_) <;> intro h <;> try simp only [h]) | simp only [↓wBA, tBt, convA, seval, pl90_12Bt, Int.reduceBEq, decide_true] | ((with_reducible show ACalls _ _ _ _ _); refine (hB _ _ 0 rfl).mono ?_; rintro _ _ ⟨_, rfl, rfl⟩; simp only [tyO]) | (with_reducible refine dP pl90_12Bt 11 (some 33) (by decide) (by kernel_rfl) ?_)
   all_goals refine ret_is (a := _) ?_ rfl rfl
   all_goals simp only [↓wBA, tBt, convA, seval]
   all_goals simp_all [wS, typedS]
  ·skip
   repeat' first | ((with_reducible first | refine cs ?_ ?_ | refine ws ?_ ?_ | refine wd ?_ ?_ | refine wu ?_ ?_) <;> intro h <;> try simp only [h]) | simp only [↓wBA, tBt, convA, seval, pl90_12Bt, Int.reduceBEq, Int.reduceGE, Int.reduceLE, decide_true, decide_false] | ((with_reducible show ACalls _ _ _ _ _); refine (hB _ _ 0 rfl).mono ?_; rintro _ _ ⟨_, rfl, rfl⟩; simp only [tyO]) | (with_reducible refine dP pl90_12Bt 11 (some 33) (by decide) (by kernel_rfl) ?_)
   all_goals refine ret_is (a := _) ?_ rfl rfl
   all_goals simp only [↓wBA, tBt, convA, seval]
   all_goals simp_all [wS, typedS]
  ·skip
   repeat' first | ((with_reducible first | refine cs ?_ ?_ | refine ws ?_ ?_ | refine wd ?_ ?_ | refine wu ?_ ?_) <;> intro h <;> try simp only [h]) | simp only [↓wBA, tBt, convA, seval, pl90_12Bt, Int.reduceBEq, Int.reduceGE, Int.reduceLE, decide_true, decide_false] | (with_reducible refine dP pl90_12Bt 11 (some 33) (by decide) (by kernel_rfl) ?_)
   all_goals refine ret_is (a := _) ?_ rfl rfl
   all_goals simp only [↓wBA, tBt, convA, seval]
   all_goals simp_all [wS, typedS]
  ·skip
   repeat' first | ((with_reducible first | refine cs ?_ ?_ | refine ws ?_ ?_ | refine wd ?_ ?_ | refine wu ?_ ?_) <;> intro h <;> try simp only [h]) | simp only [↓wBA, tBt, convA, seval, pl90_12Bt, Int.reduceBEq, Int.reduceGE, Int.reduceLE, decide_true, decide_false] | (with_reducible refine dP pl90_12Bt 11 (some 33) (by decide) (by kernel_rfl) ?_)
   all_goals refine ret_is (a := _) ?_ rfl rfl
   all_goals simp only [↓wBA, tBt, convA, seval]
   all_goals simp_all [wS, typedS]
end Go.Proofs.YtcnkmandddfdmaaGreatDoor
namespace Go.Proofs.YtcnkmandddfdmaaGreatDoor
open Go.RowKit
def tDa := aa wX <| aa wbu <| aa T3 <| aa T9 <| aa T22 <| aa T24 <| aa T29 <| aa T44 <| aa T79 T128
abbrev Tc := ByteArray × Int × Bool × Bool
def tcC (c : Tc) : List PV := [.v (.string c.1), .v (.int .i64 c.2.1), .v (.bool c.2.2.1), .v (.bool c.2.2.2)]
def enTc (l : List Tc) : List (List PV) := l.map tcC
theorem enTc_len (l : List Tc) : (enTc l).length = l.length := by simp [enTc]
theorem enTc_get (l : List Tc) (i : Nat) (h : i < l.length) : (enTc l)[i]? = some (tcC l[i]) := by simp [enTc, h]
def tbA (nm : ByteArray) (cols : List Tc) : AV := .agg [.p (.v (.string nm)), .p (.sl 4 (enTc cols))]
def enN (l : List ByteArray) : List (List PV) := l.map fun s => [.v (.string s)]
theorem enN_len (l : List ByteArray) : (enN l).length = l.length := by simp [enN]
theorem enN_get (l : List ByteArray) (i : Nat) (h : i < l.length) : (enN l)[i]? = some [.v (.string l[i])] := by simp [enN, h]
def txO (s : ByteArray) (_ : Nat) : Ob := .row 1 [[.p (.v (.string s))]]
theorem txP (s : ByteArray) (u : Nat) : PlainOb (txO s u) := ⟨fun g => by simp [renOb, txO, renL, renA], fun n => by simp [tokOb, txO, tokLtL, tokLt], 1, _, rfl⟩
def isN (s : ByteArray) (c : Tc) : Bool := c.1.toList == s.toList
theorem aisN (s : ByteArray) (c : Tc) : OCalls (txO s) 60 (fun p => [.agg ((tcC c).map .p), .mp p 1 0 0]) 0 fun r _ => r = boolV (isN s c) := by
 refine OCalls.mono (R := fun r s' => r = boolV (isN s c) ∧ s' = 0) (OCalls.of (txP s) (fun t => rfl) rfl ?_) fun r s h => h.1
 obtain ⟨c1, c2, c3, c4⟩ := c
 refine acalls_of cx_ok dr_ok Tryz.func60 (by kernel_rfl) rfl (nt := 6) (rs := [.tmp 3]) rfl rfl ?_
 simp only [txO, tcC, List.map_cons, List.map_nil]
 repeat' first | ((with_reducible first | refine cs ?_ ?_ | refine ws ?_ ?_) <;> intro h <;> try simp only [h]) | simp only [↓wBA, tDa, convA, seval, binStr]
 all_goals refine ret_obI (a := _) (b := _) (txP _ _) ?_ rfl rfl
 all_goals simp only [↓wBA, tDa, convA, seval]
 all_goals simp_all [wS, txO, isN]
theorem aidxN (s : ByteArray) (cols : List Tc) (hl : cols.length ≤ 4398046511104) : OCalls (txO s) 59 (fun p => [.p (.sl 4 (enTc cols)), .fn 60 [] [.mp p 1 0 0]]) 0 fun r _ => r = intV .i64 (idxP (isN s) cols) := by
 refine OCalls.mono (R := fun r s' => r = intV .i64 (idxP (isN s) cols) ∧ s' = 0) (OCalls.of (txP s) (fun t => rfl) rfl ?_) fun r s h => h.1
 have hB := fun c => aisN s c
 refine acalls_of cx_ok dr_ok Tryz.func59 (by kernel_rfl) rfl (nt := 17) (rs := [.tmp 4]) rfl rfl ?_
 simp only [txO]
 simp only [↓wBA, tDa, convA, seval, enTc_len]
 refine awp_loopN (cols.length) (fun i => [(8, intV .i64 (i : Nat)), (4, .any), (5, .any), (9, .any), (10, .any), (11, .any), (12, .any), (13, .any), (14, .any), (15, .any), (16, .any), (17, .any), (18, .any)]) (fun i => []) (fun i => ∀ j (hj : j < i) (hj' : j < cols.length), isN s cols[j] = false) ?_ ?_ ?_
 ·intro j hj; omega
 ·skip
  simp only [wR, Nat.reduceAdd, Nat.reduceLT, reduceIte]
  simp [wW]
 ·intro i hi hI
  simp only [wR, Nat.reduceAdd, Nat.reduceLT, reduceIte]
  by_cases hlt : i < cols.length
  ·have hdec := dT (i := i) (n := cols.length) (by omega)
   have hi0 := nnI i
   have hw := wI i (by omega)
   have hg := enTc_get cols i hlt
   have htl : (tcC cols[i]).length = 4 := rfl
   repeat' first | ((with_reducible first | refine cs ?_ ?_ | refine ws ?_ ?_) <;> intro h <;> try simp only [h]) | simp only [↓wBA, tDa, convA, seval, enTc_len, hdec, hi0, hg, hw, htl, List.length_map] | ((with_reducible show ACalls _ _ _ _ _); refine (hB _ _ 0 rfl).mono ?_; rintro _ _ ⟨_, rfl, rfl⟩; simp only [txO])
   ·have hix := idxP_at (isN s) cols i hlt (fun j hj => hI j hj (by omega)) h
    simp only [hix]
    all_goals refine ret_obI (a := _) (b := _) (txP _ _) ?_ rfl rfl
    all_goals simp only [↓wBA, tDa, convA, seval]
    all_goals simp_all [wS, txO]
   ·skip
    refine ⟨⟨i + 1, by omega, ?_⟩, by show cols.length - (i + 1) < cols.length - i; omega, ?_⟩
    ·intro j hj hj'
     by_cases e : j = i
     ·subst e; exact h
     ·exact hI j (by omega) hj'
    ·skip
     simp only [wR, Nat.reduceAdd, Nat.reduceLT, reduceIte]
     simp [wW]
  ·have hdec := dF (i := i) (n := cols.length) (by omega)
   have hix := idxP_none (isN s) cols (fun j hj => hI j (by omega) hj)
   simp only [hix]
   repeat' first | ((with_reducible first | refine cs ?_ ?_ | refine ws ?_ ?_) <;> intro h <;> try simp only [h]) | simp only [↓wBA, tDa, convA, seval, enTc_len, hdec]
   all_goals refine ret_obI (a := _) (b := _) (txP _ _) ?_ rfl rfl
   all_goals simp only [↓wBA, tDa, convA, seval]
   all_goals simp_all [wS, txO]
theorem nilSl_len (l : List Int) : lenA cx 79 (.p (nilSl 1 (enI l))) = some l.length := by
 cases l with
 | nil => simp [nilSl, enI, lenA, ck_79, elemsA]
 | cons t ts => simp [nilSl, enI, lenA, ck_79, elemsA]
theorem aindexI (l : List Int) (hl : l.length ≤ 4398046511104) (n : Int) (σ : St) : ACalls Tryz.prog 86 [.p (nilSl 1 (enI l)), intV .i64 n] σ fun r s => s = σ ∧ r = intV .i64 (idxP (fun m => n == m) l) := by
 refine ACalls.pureF (R := fun r => r = intV .i64 (idxP (fun m => n == m) l)) ?_ rfl σ
 refine acalls_of cx_ok dr_ok Tryz.func86 (by kernel_rfl) rfl (nt := 17) (rs := [.tmp 4]) rfl rfl ?_
 simp only [↓wBA, tDa, convA, seval, nilSl_len]
 refine awp_loopN (l.length) (fun i => [(8, intV .i64 (i : Nat)), (4, .any), (5, .any), (9, .any), (10, .any), (11, .any), (12, .any), (13, .any), (14, .any), (15, .any), (16, .any), (17, .any), (18, .any)]) (fun i => []) (fun i => ∀ j (hj : j < i) (hj' : j < l.length), (n == l[j]) = false) ?_ ?_ ?_
 ·intro j hj; omega
 ·skip
  simp only [wR, Nat.reduceAdd, Nat.reduceLT, reduceIte]
  simp [wW]
 ·intro i hi hI
  simp only [wR, Nat.reduceAdd, Nat.reduceLT, reduceIte]
  by_cases hlt : i < l.length
  ·have hdec := dT (i := i) (n := l.length) (by omega)
   have hi0 := nnI i
   have hw := wI i (by omega)
   have hg := enI_get l i hlt
   have hnl : nilSl 1 (enI l) = .sl 1 (enI l) := by cases l with | nil => simp at hlt | cons a l => rfl
   repeat' first | ((with_reducible first | refine cs ?_ ?_ | refine ws ?_ ?_) <;> intro h <;> try simp only [h]) | simp only [↓wBA, tDa, convA, seval, enI_len, hdec, hi0, hg, hw, hnl]
   ·have hix := idxP_at (fun m => n == m) l i hlt (fun j hj => hI j hj (by omega)) h
    simp only [hix]
    all_goals refine ret_is (a := _) ?_ rfl rfl
    all_goals simp only [↓wBA, tDa, convA, seval]
    all_goals simp_all [wS]
   ·skip
    refine ⟨⟨i + 1, by omega, ?_⟩, by show l.length - (i + 1) < l.length - i; omega, ?_⟩
    ·intro j hj hj'
     by_cases e : j = i
     ·subst e; exact h
     ·exact hI j (by omega) hj'
    ·skip
     simp only [wR, Nat.reduceAdd, Nat.reduceLT, reduceIte]
     simp [wW]
  ·have hdec := dF (i := i) (n := l.length) (by omega)
   have hix := idxP_none (fun m => n == m) l (fun j hj => hI j (by omega) hj)
   simp only [hix]
   repeat' first | ((with_reducible first | refine cs ?_ ?_ | refine ws ?_ ?_) <;> intro h <;> try simp only [h]) | simp only [↓wBA, tDa, convA, seval, hdec]
   all_goals refine ret_is (a := _) ?_ rfl rfl
   all_goals simp only [↓wBA, tDa, convA, seval]
   all_goals simp_all [wS]
theorem acontI (l : List Int) (hl : l.length ≤ 4398046511104) (n : Int) (σ : St) : ACalls Tryz.prog 61 [.p (nilSl 1 (enI l)), intV .i64 n] σ fun r s => s = σ ∧ r = boolV (l.any fun m => n == m) := by
 refine ACalls.pureF (R := fun r => r = boolV (l.any fun m => n == m)) ?_ rfl σ
 refine acalls_of cx_ok dr_ok Tryz.func61 (by kernel_rfl) rfl (nt := 7) (rs := [.tmp 4]) rfl rfl ?_
 repeat' first | ((with_reducible first | refine cs ?_ ?_ | refine ws ?_ ?_) <;> intro h <;> try simp only [h]) | simp only [↓wBA, tDa, convA, seval, idxP_ge] | ((with_reducible show ACalls _ _ _ _ _); refine (aindexI l hl _ _).eq ?_)
 all_goals refine ret_is (a := _) ?_ rfl rfl
 all_goals simp only [↓wBA, tDa, convA, seval]
 all_goals simp_all [wS]
def tStep (cols : List Tc) (s : List Int × Bool) (n : ByteArray) : List Int × Bool := (s.1 ++ [idxP (isN n) cols], s.2 || decide (idxP (isN n) cols < 0) || s.1.any fun m => idxP (isN n) cols == m)
def tGo (cols : List Tc) (names : List ByteArray) : List Int × Bool := names.foldl (tStep cols) ([], false)
def tgtS (names : List ByteArray) (cols : List Tc) : List Int × Int := if (tGo cols names).2 = true then ([], 32) else ((tGo cols names).1, 0)
theorem tGo_bad (cols : List Tc) : ∀ (l : List ByteArray) (s : List Int × Bool), s.2 = true → (l.foldl (tStep cols) s).2 = true
 | [], s, h => h
 | c :: l, s, h => tGo_bad cols l _ (by simp [tStep, h])
theorem tGo_take (cols : List Tc) (l : List ByteArray) (i : Nat) (h : (tGo cols (l.take i)).2 = true) : (tGo cols l).2 = true := by
 have : l = l.take i ++ l.drop i := (List.take_append_drop i l).symm
 rw [tGo, this, List.foldl_append]
 exact tGo_bad cols _ _ h
theorem tGo_len (cols : List Tc) : ∀ (l : List ByteArray) (s : List Int × Bool), (l.foldl (tStep cols) s).1.length = s.1.length + l.length
 | [], s => by simp
 | c :: l, s => by rw [List.foldl_cons, tGo_len cols l]; simp [tStep]; omega
theorem atargets (names : List ByteArray) (nm : ByteArray) (cols : List Tc) (hn : names.length ≤ 4398046511104) (hl : cols.length ≤ 4398046511104) (σ : St) : ACalls Tryz.prog 31 [.p (.sl 1 (enN names)), tbA nm cols] σ fun r s => s = σ ∧ r = .tup [.p (.sl 1 (enI (tgtS names cols).1)), intV .i64 (tgtS names cols).2] := by
 refine ACalls.pureF (R := fun r => r = .tup [.p (.sl 1 (enI (tgtS names cols).1)), intV .i64 (tgtS names cols).2]) ?_ rfl σ
 refine acalls_of cx_ok dr_ok Tryz.func31 (by kernel_rfl) rfl (nt := 31) (rs := [.tmp 4, .tmp 5]) rfl rfl ?_
 simp only [tbA]
 simp only [↓wBA, tDa, convA, seval, enN_len]
 refine awp_loopN (names.length) (fun i => [(6, .nown 1 1 (enI (tGo cols (names.take i)).1)), (12, intV .i64 (i : Nat)), (4, .any), (5, .any), (8, .any), (9, .any), (13, .any), (14, .any), (15, .any), (16, .any), (17, .any), (18, .any), (19, .any), (20, .any), (21, .any), (22, .any), (23, .any), (24, .any), (25, .any), (26, .any), (27, .any), (28, .any), (29, .any), (30, .any), (31, .any)]) (fun i => [(1, .nright 3 (i * 1))]) (fun i => (tGo cols (names.take i)).2 = false) ?_ ?_ ?_
 ·rfl
 ·skip
  simp only [wR, Nat.reduceAdd, Nat.reduceLT, reduceIte]
  simp [wW, tGo, enI]
 ·intro i hi hI
  simp only [wR, Nat.reduceAdd, Nat.reduceLT, reduceIte]
  by_cases hlt : i < names.length
  ·have hdec := dT (i := i) (n := names.length) (by omega)
   have hi0 := nnI i
   have hw := wI i (by omega)
   have hg := enN_get names i hlt
   have hst : tGo cols (names.take (i + 1)) = tStep cols (tGo cols (names.take i)) names[i] := fold_step _ _ _ _ hlt
   have hbad := tGo_take cols names (i + 1)
   have hfin : (tGo cols names).2 = true → tgtS names cols = ([], 32) := fun h => by unfold tgtS; rw [if_pos h]
   have htl : (tGo cols (names.take i)).1.length = i := by rw [tGo, tGo_len]; simp; omega
   have hF := aidxN names[i] cols hl
   have hC := acontI (tGo cols (names.take i)).1 (by omega)
   have hlim1 := tL (n := (i + 1) * 8) (by omega)
   have hlim2 := lM (n := i + 1) (by omega)
   repeat' first | ((with_reducible first | refine cs ?_ ?_ | refine ws ?_ ?_) <;> intro h <;> try simp only [h]) | simp only [↓wBA, tDa, convA, seval, enN_len, hdec, hi0, hg, hw, enI_len, htl, hlim1, hlim2, appendA, srcA, List.length_append] | ((with_reducible show ACalls _ _ _ _ _); first | (refine (hF _ 2 rfl).mono ?_; rintro _ _ ⟨_, rfl, rfl⟩; simp only [txO]) | (refine ACalls.frzArgs ?_; simp only [frzL, frzA]; refine (hC _ _).eq ?_))
   ·have hb := hbad (by rw [hst]; simp_all [tStep])
    simp only [hfin hb]
    all_goals refine ret_is (a := _) ?_ rfl rfl
    all_goals simp only [↓wBA, tDa, convA, seval]
    all_goals simp_all [wS, enI]
   ·skip
    refine ⟨⟨i + 1, by omega, ?_⟩, by show names.length - (i + 1) < names.length - i; omega, ?_⟩
    ·rw [hst]; simp_all [tStep]
    ·simp only [hst, tStep]
     simp [wW, enI]
   ·have hb := hbad (by rw [hst]; simp_all [tStep])
    simp only [hfin hb]
    all_goals refine ret_is (a := _) ?_ rfl rfl
    all_goals simp only [↓wBA, tDa, convA, seval]
    all_goals simp_all [wS, enI]
  ·have hdec := dF (i := i) (n := names.length) (by omega)
   have ht : names.take i = names := List.take_of_length_le (by omega)
   rw [ht] at hI
   simp only [ht]
   repeat' first | ((with_reducible first | refine cs ?_ ?_ | refine ws ?_ ?_) <;> intro h <;> try simp only [h]) | simp only [↓wBA, tDa, convA, seval, hdec]
   all_goals refine ret_is (a := _) ?_ rfl rfl
   all_goals simp only [↓wBA, tDa, convA, seval]
   all_goals simp_all [wS, tgtS]
end Go.Proofs.YtcnkmandddfdmaaGreatDoor
