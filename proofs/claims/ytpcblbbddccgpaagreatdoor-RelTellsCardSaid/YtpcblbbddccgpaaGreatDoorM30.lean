/- cadastreref12: an expression of one kid. The reference's Ok is the program's. Rows compared. -/
import Derived.Test.YtpcblbbddccgpaaGreatDoorM28
import Derived.Test.YtpcblbbddccgpaaGreatDoorM29
import Derived.Test.YtpcblbbddccgpaaGreatDoorM21
import Derived.Test.YtpcblbbddccgpaaGreatDoorM23
set_option linter.unusedSimpArgs false
set_option linter.unusedVariables false
set_option linter.defProp false
set_option maxRecDepth 100000
set_option maxHeartbeats 32000000
namespace Go.Proofs.YtpcblbbddccgpaaGreatDoor
open Go.RowKit
def tEo := aa wX <| aa wbu <| aa T2 <| aa T3 <| aa T4 <| aa T24 <| aa T25 <| aa T27 <| aa T30 T39
theorem exL_one (x : Ex) : exL [x] = [exC x] := rfl
theorem atruthR (b : Bool) (σ : St) : ACalls Tryz.prog 35 [boolV b] σ fun r s => s = σ ∧ r = vaA (trV b) := by
 refine ACalls.pureF (R := fun r => r = vaA (trV b)) ?_ rfl σ
 refine acalls_of cx_ok dr_ok Tryz.func35 (by kernel_rfl) rfl (nt := 7) (rs := [.cell 2 24]) rfl rfl ?_
 cases b
 ·skip
  repeat' first | ((with_reducible first | refine cs ?_ ?_ | refine ws ?_ ?_) <;> intro h <;> try simp only [h]) | simp only [↓wBA, tEo, convA, seval]
  all_goals refine ret_is (a := _) ?_ rfl rfl
  all_goals simp only [↓wBA, tEo, convA, seval]
  all_goals simp_all [wS, vaA, vaC, trV, emp]
 ·skip
  repeat' first | ((with_reducible first | refine cs ?_ ?_ | refine ws ?_ ?_) <;> intro h <;> try simp only [h]) | simp only [↓wBA, tEo, convA, seval]
  all_goals refine ret_is (a := _) ?_ rfl rfl
  all_goals simp only [↓wBA, tEo, convA, seval]
  all_goals simp_all [wS, vaA, vaC, trV, emp]
def EvOK (row : List Va) (x : Ex) : Prop := ∀ σ, ACalls Tryz.prog 30 [exA x, .p (.sl 3 (enV row))] σ fun r s => s = σ ∧ r = .tup [vaA (evalV row x).1, intV .i64 (evalV row x).2]
theorem aoneR (row : List Va) (k vk vn : Int) (vs tb nm : ByteArray) (s : Int) (x : Ex) (hk : k = 3 ∨ k = 4 ∨ k = 18 ∨ k = 19) (ih : EvOK row x) (hr : i64R (evalV row x).1.2.1) (σ : St) : ACalls Tryz.prog 38 [exA (.mk k vk vn vs tb nm s [x]), .p (.sl 3 (enV row))] σ fun r st => st = σ ∧ r = .tup [vaA (evalV row (.mk k vk vn vs tb nm s [x])).1, intV .i64 (evalV row (.mk k vk vn vs tb nm s [x])).2] := by
 refine ACalls.pureF (R := fun r => r = .tup [vaA (evalV row (.mk k vk vn vs tb nm s [x])).1, intV .i64 (evalV row (.mk k vk vn vs tb nm s [x])).2]) ?_ rfl σ
 have hk1 : kidsV k = 1 := by rcases hk with rfl | rfl | rfl | rfl <;> rfl
 rw [evalV_one, if_neg (by simp [hk1])]
 unfold EvOK at ih
 generalize evalV row x = q at *
 obtain ⟨⟨v1, v2, v3⟩, e⟩ := q
 obtain ⟨x1, x2, x3, x4, x5, x6, x7, x8⟩ := x
 simp only at hr
 simp only [exA, exC, vaA, vaC, List.map_cons, List.map_nil] at ih
 have hn := anumber 6 0 v2 (.inr (.inl rfl)) (by decide) hr
 refine acalls_of cx_ok dr_ok Tryz.func38 (by kernel_rfl) rfl (nt := 69) (rs := [.cell 4 24, .tmp 5]) rfl rfl ?_
 simp only [exA, exC, exL_one, List.map_cons, List.map_nil]
 by_cases he : e = 0
 ·subst he
  simp only [ne_eq, not_true_eq_false, if_false]
  rcases hk with rfl | rfl | rfl | rfl
  ·simp only [oneV, Int.reduceEq, if_false, false_and, false_or]
   by_cases z : v1 = 0
   ·have z' : (v1 == 0) = true := by simpa using z
    simp only [z, if_true, clV, ne_eq, not_true_eq_false, if_false]
    subst z
    repeat' first | ((with_reducible first | refine cs ?_ ?_ | refine ws ?_ ?_) <;> intro h <;> try simp only [h]) | simp only [↓wBA, tEo, convA, seval, Int.reduceBEq, beq_self_eq_true, bne_self_eq_false] | ((with_reducible show ACalls _ _ _ _ _); refine (ih _).eq ?_)
    all_goals refine ret_is (a := _) ?_ rfl rfl
    all_goals simp only [↓wBA, tEo, convA, seval]
    all_goals simp_all [wS, vaA, vaC, va0, emp]
   ·have z' : (v1 == 0) = false := by simpa using z
    simp only [z, if_false]
    by_cases o : v1 = 1
    ·subst o
     simp only [numS, Int.reduceEq, if_true, if_false] at hn
     simp only [ne_eq, not_true_eq_false, if_false]
     by_cases m : v2 = -9223372036854775808
     ·have hb : ¬ i64R (0 - v2) := by unfold i64R; omega
      rw [rng_no _ hb] at hn
      simp only [m, if_true, failV, clV, ne_eq, Int.reduceEq, not_false_eq_true]
      subst m
      simp only [vaA, vaC, va0, List.map_cons, List.map_nil] at hn
      repeat' first | ((with_reducible first | refine cs ?_ ?_ | refine ws ?_ ?_) <;> intro h <;> try simp only [h]) | simp only [↓wBA, tEo, convA, seval, Int.reduceBEq, bne_self_eq_false] | ((with_reducible show ACalls _ _ _ _ _); first | refine (ih _).eq ?_ | refine (hn _).eq ?_)
      all_goals refine ret_is (a := _) ?_ rfl rfl
      all_goals simp only [↓wBA, tEo, convA, seval]
      all_goals simp_all [wS, vaA, vaC, va0, emp]
     ·have hb : i64R (0 - v2) := by unfold i64R at *; omega
      rw [rng_yes _ hb] at hn
      have hw := wIn _ hb
      simp only [m, if_false, clV, ne_eq, not_true_eq_false, hw]
      simp only [vaA, vaC, List.map_cons, List.map_nil] at hn
      repeat' first | ((with_reducible first | refine cs ?_ ?_ | refine ws ?_ ?_) <;> intro h <;> try simp only [h]) | simp only [↓wBA, tEo, convA, seval, Int.reduceBEq, bne_self_eq_false] | ((with_reducible show ACalls _ _ _ _ _); first | refine (ih _).eq ?_ | refine (hn _).eq ?_)
      all_goals refine ret_is (a := _) ?_ rfl rfl
      all_goals simp only [↓wBA, tEo, convA, seval]
      all_goals simp_all [wS, vaA, vaC, va0, emp]
    ·have o' : (v1 == 1) = false := by simpa using o
     simp only [o, ne_eq, not_false_eq_true, if_true, failV, clV, Int.reduceEq]
     repeat' first | ((with_reducible first | refine cs ?_ ?_ | refine ws ?_ ?_) <;> intro h <;> try simp only [h]) | simp only [↓wBA, tEo, convA, seval, Int.reduceBEq, z', o', bne_self_eq_false] | ((with_reducible show ACalls _ _ _ _ _); refine (ih _).eq ?_)
     all_goals refine ret_is (a := _) ?_ rfl rfl
     all_goals simp only [↓wBA, tEo, convA, seval]
     all_goals simp_all [wS, vaA, vaC, va0, emp]
  ·simp only [oneV, Int.reduceEq, if_false, true_and, true_or, if_true]
   by_cases z : v1 = 0
   ·have z' : (v1 == 0) = true := by simpa using z
    simp only [z, if_true, clV, ne_eq, not_true_eq_false, if_false]
    subst z
    repeat' first | ((with_reducible first | refine cs ?_ ?_ | refine ws ?_ ?_) <;> intro h <;> try simp only [h]) | simp only [↓wBA, tEo, convA, seval, Int.reduceBEq, beq_self_eq_true, bne_self_eq_false] | ((with_reducible show ACalls _ _ _ _ _); refine (ih _).eq ?_)
    all_goals refine ret_is (a := _) ?_ rfl rfl
    all_goals simp only [↓wBA, tEo, convA, seval]
    all_goals simp_all [wS, vaA, vaC, va0, emp]
   ·have z' : (v1 == 0) = false := by simpa using z
    simp only [z, if_false]
    by_cases o : v1 = 2
    ·subst o
     simp only [if_true, clV, ne_eq, not_true_eq_false, if_false]
     have hd : decide (v2 = 0) = (v2 == 0) := rfl
     rw [show (trV (decide (v2 = 0))) = trV (v2 == 0) from rfl]
     have hT := atruthR (v2 == 0)
     generalize trV (v2 == 0) = w at *
     obtain ⟨w1, w2, w3⟩ := w
     simp only [vaA, vaC, List.map_cons, List.map_nil] at hT
     repeat' first | ((with_reducible first | refine cs ?_ ?_ | refine ws ?_ ?_) <;> intro h <;> try simp only [h]) | simp only [↓wBA, tEo, convA, seval, Int.reduceBEq, bne_self_eq_false] | ((with_reducible show ACalls _ _ _ _ _); first | refine (ih _).eq ?_ | refine (hT _).eq ?_)
     all_goals refine ret_is (a := _) ?_ rfl rfl
     all_goals simp only [↓wBA, tEo, convA, seval]
     all_goals simp_all [wS, vaA, vaC, va0, emp]
    ·have o' : (v1 == 2) = false := by simpa using o
     simp only [o, if_false, failV, clV, ne_eq, Int.reduceEq, not_false_eq_true, if_true]
     repeat' first | ((with_reducible first | refine cs ?_ ?_ | refine ws ?_ ?_) <;> intro h <;> try simp only [h]) | simp only [↓wBA, tEo, convA, seval, Int.reduceBEq, z', o', bne_self_eq_false] | ((with_reducible show ACalls _ _ _ _ _); refine (ih _).eq ?_)
     all_goals refine ret_is (a := _) ?_ rfl rfl
     all_goals simp only [↓wBA, tEo, convA, seval]
     all_goals simp_all [wS, vaA, vaC, va0, emp]
  ·simp only [oneV, Int.reduceEq, if_true, if_false, clV, ne_eq, not_true_eq_false]
   have hT := fun b => atruthR b
   have hb : (v1 == 0) = ((v1 == 0) == true) := by cases (v1 == 0) <;> rfl
   have hT2 := atruthR ((v1 == 0))
   rw [show trV (decide (v1 = 0)) = trV ((v1 == 0)) from rfl]
   rw [hb] at hT2 ⊢
   generalize trV ((v1 == 0) == true) = w at *
   obtain ⟨w1, w2, w3⟩ := w
   simp only [vaA, vaC, List.map_cons, List.map_nil] at hT2
   repeat' first | ((with_reducible first | refine cs ?_ ?_ | refine ws ?_ ?_) <;> intro h <;> try simp only [h]) | simp only [↓wBA, tEo, convA, seval, Int.reduceBEq, bne_self_eq_false] | ((with_reducible show ACalls _ _ _ _ _); first | refine (ih _).eq ?_ | refine (hT2 _).eq ?_)
   all_goals refine ret_is (a := _) ?_ rfl rfl
   all_goals simp only [↓wBA, tEo, convA, seval]
   all_goals simp_all [wS, vaA, vaC, va0, emp]
  ·simp only [oneV, Int.reduceEq, if_true, if_false, clV, ne_eq, not_true_eq_false]
   have hT := fun b => atruthR b
   have hb : (!(v1 == 0)) = ((v1 == 0) == false) := by cases (v1 == 0) <;> rfl
   have hT2 := atruthR (!(v1 == 0))
   rw [show trV (decide (¬v1 = 0)) = trV (!(v1 == 0)) from congrArg trV (by cases hq : (v1 == 0) <;> simp at hq <;> simp [hq])]
   rw [hb] at hT2 ⊢
   generalize trV ((v1 == 0) == false) = w at *
   obtain ⟨w1, w2, w3⟩ := w
   simp only [vaA, vaC, List.map_cons, List.map_nil] at hT2
   repeat' first | ((with_reducible first | refine cs ?_ ?_ | refine ws ?_ ?_) <;> intro h <;> try simp only [h]) | simp only [↓wBA, tEo, convA, seval, Int.reduceBEq, bne_self_eq_false] | ((with_reducible show ACalls _ _ _ _ _); first | refine (ih _).eq ?_ | refine (hT2 _).eq ?_)
   all_goals refine ret_is (a := _) ?_ rfl rfl
   all_goals simp only [↓wBA, tEo, convA, seval]
   all_goals simp_all [wS, vaA, vaC, va0, emp]
 ·have he' : (e != 0) = true := by simpa using he
  simp only [ne_eq, he, not_false_eq_true, if_true]
  repeat' first | ((with_reducible first | refine cs ?_ ?_ | refine ws ?_ ?_) <;> intro h <;> try simp only [h]) | simp only [↓wBA, tEo, convA, seval, he'] | ((with_reducible show ACalls _ _ _ _ _); refine (ih _).eq ?_)
  all_goals refine ret_is (a := _) ?_ rfl rfl
  all_goals simp only [↓wBA, tEo, convA, seval]
  all_goals simp_all [wS, vaA, vaC, va0, emp]
end Go.Proofs.YtpcblbbddccgpaaGreatDoor
namespace Go.Proofs.YtpcblbbddccgpaaGreatDoor
open Go.RowKit
def tSo := aa wX <| aa wbu <| aa T2 <| aa T3 <| aa T9 T24
theorem fdiv2 (n : Int) : (n.fdiv 2 = 0) = (n = 0 ∨ n = 1) := by
 rw [Int.fdiv_eq_ediv_of_nonneg _ (by decide)]
 apply propext
 omega
theorem list_nil {s : ByteArray} : (s.toList = []) = (s.size = 0) := by
 rw [ba_list]
 apply propext
 constructor
 ·intro h; have := congrArg List.length h; simpa using this
 ·intro h; apply List.eq_nil_of_length_eq_zero; simpa using h
theorem aokR (v : Va) (σ : St) : ACalls Tryz.prog 37 [vaA v] σ fun r s => s = σ ∧ r = boolV (okV v) := by
 refine ACalls.pureF (R := fun r => r = boolV (okV v)) ?_ rfl σ
 obtain ⟨k, n, t⟩ := v
 refine acalls_of cx_ok dr_ok Tryz.func37 (by kernel_rfl) rfl (nt := 57) (rs := [.tmp 2]) rfl rfl ?_
 simp only [vaA, vaC, List.map_cons, List.map_nil]
 repeat' first | ((with_reducible first | refine cs ?_ ?_ | refine ws ?_ ?_) <;> intro h <;> try simp only [h]) | simp only [↓wBA, tSo, convA, seval, binStr]
 all_goals refine ret_is (a := _) ?_ rfl rfl
 all_goals simp only [↓wBA, tSo, convA, seval]
 all_goals simp_all [wS, okV, emp, fdiv2, list_nil]
 all_goals (try omega)
 all_goals grind
end Go.Proofs.YtpcblbbddccgpaaGreatDoor
namespace Go.Proofs.YtpcblbbddccgpaaGreatDoor
open Go.RowKit
def pl27_6Sa : Plan := (.det 0 (.det 1 (.det 2 (.det 3 (.det 4 (.det 5 (.det 6 (.det 7 (.det 8 .done)))))))))
def pl10_6Sa : Plan := (.det 0 (.det 1 (.det 2 (.det 3 (.det 4 (.det 5 (.det 6 (.det 7 (.fin 8 (.det 9 .done))))))))))
def tSa := aa wX <| aa wbu <| aa T3 <| aa T4 <| aa T22 <| aa T24 T39
theorem ba_ext {a b : ByteArray} (h : a.toList = b.toList) : a = b := by
 rw [ba_list, ba_list] at h
 cases a; cases b
 congr
 exact Array.toList_inj.1 h
def sameVV (a b : List (List Va)) : Bool := decide (a = b)
theorem va_eq (a1 a2 b1 b2 : Int) (a3 b3 : ByteArray) : (a1 == b1 && ((a2 == b2) && ((a3.toList == b3.toList) && true))) = decide (((a1, a2, a3) : Va) = (b1, b2, b3)) := by
 by_cases h : ((a1, a2, a3) : Va) = (b1, b2, b3)
 ·cases h; simp
 ·rw [decide_eq_false h]
  by_cases h1 : a1 = b1
  ·by_cases h2 : a2 = b2
   ·have h3 : a3.toList ≠ b3.toList := fun e => h (by rw [h1, h2, ba_ext e])
    simp [h3]
   ·simp [h2]
  ·simp [h1]
def sameV (a b : List Va) : Bool := decide (a = b)
theorem asameV (a b : List Va) (ha : a.length ≤ 4398046511104) (hb : b.length ≤ 4398046511104) (σ : St) : ACalls Tryz.prog 27 [.p (.sl 3 (enV a)), .p (.sl 3 (enV b))] σ fun r s => s = σ ∧ r = boolV (sameV a b) := by
 refine ACalls.pureF (R := fun r => r = boolV (sameV a b)) ?_ rfl σ
 refine acalls_of cx_ok dr_ok Tryz.func27 (by kernel_rfl) rfl (nt := 24) (rs := [.tmp 4]) rfl rfl ?_
 by_cases hab : a.length = b.length
 ·have d : ((a.length : Int) != (b.length : Int)) = false := by simp [hab]
  repeat' first | ((with_reducible first | refine cs ?_ ?_ | refine ws ?_ ?_ | refine wd ?_ ?_ | refine wu ?_ ?_) <;> intro h <;> try simp only [h]) | simp only [↓wBA, tSa, convA, seval, pl27_6Sa, enV_len, d] | (with_reducible refine dP pl27_6Sa 9 (some 17) (by decide) (by kernel_rfl) ?_)
  refine awp_loopN (a.length) (fun i => [(5, intV .i64 (i : Nat)), (4, .any), (11, .any), (12, .any), (13, .any), (14, .any), (15, .any), (16, .any), (17, .any), (18, .any), (19, .any), (20, .any), (21, .any), (22, .any), (23, .any), (24, .any), (25, .any)]) (fun i => []) (fun i => a.take i = b.take i) ?_ ?_ ?_
  ·rfl
  ·skip
   simp only [wR, Nat.reduceAdd, Nat.reduceLT, reduceIte]
   simp [wW]
  ·intro i hi hI
   simp only [wR, Nat.reduceAdd, Nat.reduceLT, reduceIte]
   by_cases hlt : i < a.length
   ·have hdec := dT (i := i) (n := a.length) (by omega)
    have hi0 := nnI i
    have hw := wI i (by omega)
    have hltb : i < b.length := by omega
    have hg := enV_get a i hlt
    have hgb := enV_get b i hltb
    have hta := List.take_succ_eq_append_getElem hlt
    have htb := List.take_succ_eq_append_getElem hltb
    have hfin : a[i] ≠ b[i] → sameV a b = false := fun h => decide_eq_false fun e => h (by subst e; rfl)
    rcases hai : a[i] with ⟨a1, a2, a3⟩
    rcases hbi : b[i] with ⟨b1, b2, b3⟩
    rw [hai] at hg hta hfin
    rw [hbi] at hgb htb hfin
    simp only [vaC] at hg hgb
    have hv := va_eq a1 a2 b1 b2 a3 b3
    repeat' first | ((with_reducible first | refine cs ?_ ?_ | refine ws ?_ ?_ | refine wd ?_ ?_ | refine wu ?_ ?_) <;> intro h <;> try simp only [h]) | simp only [↓wBA, tSa, convA, seval, pl27_6Sa, enV_len, hdec, hi0, hw, hg, hgb, hv] | (with_reducible refine dP pl27_6Sa 9 (some 17) (by decide) (by kernel_rfl) ?_)
    ·have hf := hfin (by intro e; rw [decide_eq_true e] at h; simp at h)
     simp only [hf]
     all_goals refine ret_is (a := _) ?_ rfl rfl
     all_goals simp only [↓wBA, tSa, convA, seval]
     all_goals simp_all [wS]
    ·skip
     refine ⟨⟨i + 1, by omega, ?_⟩, by show a.length - (i + 1) < a.length - i; omega, ?_⟩
     ·rw [hta, htb, hI]; congr 1; simpa using h
     ·skip
      simp only [wR, Nat.reduceAdd, Nat.reduceLT, reduceIte]
      simp [wW]
   ·have hdec := dF (i := i) (n := a.length) (by omega)
    have hs : sameV a b = true := decide_eq_true (by rw [List.take_of_length_le (by omega), List.take_of_length_le (by omega)] at hI; exact hI)
    simp only [hs]
    repeat' first | ((with_reducible first | refine cs ?_ ?_ | refine ws ?_ ?_ | refine wd ?_ ?_ | refine wu ?_ ?_) <;> intro h <;> try simp only [h]) | simp only [↓wBA, tSa, convA, seval, pl27_6Sa, enV_len, hdec] | (with_reducible refine dP pl27_6Sa 9 (some 17) (by decide) (by kernel_rfl) ?_)
    all_goals refine ret_is (a := _) ?_ rfl rfl
    all_goals simp only [↓wBA, tSa, convA, seval]
    all_goals simp_all [wS]
 ·have d : ((a.length : Int) != (b.length : Int)) = true := by simp; omega
  have hs : sameV a b = false := decide_eq_false fun e => hab (by rw [e])
  simp only [hs]
  repeat' first | ((with_reducible first | refine cs ?_ ?_ | refine ws ?_ ?_ | refine wd ?_ ?_ | refine wu ?_ ?_) <;> intro h <;> try simp only [h]) | simp only [↓wBA, tSa, convA, seval, pl27_6Sa, enV_len, d] | (with_reducible refine dP pl27_6Sa 9 (some 17) (by decide) (by kernel_rfl) ?_)
  all_goals refine ret_is (a := _) ?_ rfl rfl
  all_goals simp only [↓wBA, tSa, convA, seval]
  all_goals simp_all [wS]
theorem asameVV (a b : List (List Va)) (ha : a.length ≤ 4398046511104) (hb : b.length ≤ 4398046511104) (hra : ∀ r ∈ a, r.length ≤ 4398046511104) (hrb : ∀ r ∈ b, r.length ≤ 4398046511104) (σ : St) : ACalls Tryz.prog 10 [.p (.sl 1 (enVV a)), .p (.sl 1 (enVV b))] σ fun r s => s = σ ∧ r = boolV (sameVV a b) := by
 refine ACalls.pureF (R := fun r => r = boolV (sameVV a b)) ?_ rfl σ
 refine acalls_of cx_ok dr_ok Tryz.func10 (by kernel_rfl) rfl (nt := 25) (rs := [.tmp 4]) rfl rfl ?_
 by_cases hab : a.length = b.length
 ·have d : ((a.length : Int) != (b.length : Int)) = false := by simp [hab]
  repeat' first | ((with_reducible first | refine cs ?_ ?_ | refine ws ?_ ?_ | refine wd ?_ ?_ | refine wu ?_ ?_) <;> intro h <;> try simp only [h]) | simp only [↓wBA, tSa, convA, seval, pl10_6Sa, enVV_len, d] | (with_reducible refine dP pl10_6Sa 10 (some 17) (by decide) (by kernel_rfl) ?_)
  refine awp_loopN (a.length) (fun i => [(5, intV .i64 (i : Nat)), (4, .any), (11, .any), (12, .any), (13, .any), (14, .any), (15, .any), (16, .any), (17, .any), (18, .any), (19, .any), (20, .any), (21, .any), (22, .any), (23, .any), (24, .any), (25, .any), (26, .any)]) (fun i => []) (fun i => a.take i = b.take i) ?_ ?_ ?_
  ·rfl
  ·skip
   simp only [wR, Nat.reduceAdd, Nat.reduceLT, reduceIte]
   simp [wW]
  ·intro i hi hI
   simp only [wR, Nat.reduceAdd, Nat.reduceLT, reduceIte]
   by_cases hlt : i < a.length
   ·have hdec := dT (i := i) (n := a.length) (by omega)
    have hi0 := nnI i
    have hw := wI i (by omega)
    have hltb : i < b.length := by omega
    have hg := enVV_get a i hlt
    have hgb := enVV_get b i hltb
    have hta := List.take_succ_eq_append_getElem hlt
    have htb := List.take_succ_eq_append_getElem hltb
    have hfin : a[i] ≠ b[i] → sameVV a b = false := fun h => decide_eq_false fun e => h (by subst e; rfl)
    have hS := asameV a[i] b[i] (hra _ (List.getElem_mem hlt)) (hrb _ (List.getElem_mem hltb))
    repeat' first | ((with_reducible first | refine cs ?_ ?_ | refine ws ?_ ?_ | refine wd ?_ ?_ | refine wu ?_ ?_) <;> intro h <;> try simp only [h]) | simp only [↓wBA, tSa, convA, seval, pl10_6Sa, enVV_len, hdec, hi0, hw, hg, hgb] | ((with_reducible show ACalls _ _ _ _ _); refine (hS _).eq ?_) | (with_reducible refine dP pl10_6Sa 10 (some 17) (by decide) (by kernel_rfl) ?_)
    all_goals first
     | (refine ⟨⟨i + 1, by omega, ?_⟩, by show a.length - (i + 1) < a.length - i; omega, ?_⟩
        ·rw [hta, htb, hI]; congr 1; simpa [sameV] using h
        ·simp [wW])
     | (have hf := hfin (by intro e; simp [sameV, e] at h)
        simp only [hf]
        refine ret_is (a := _) ?_ rfl rfl
        simp only [resA, resL, resV, List.getD_cons_zero, List.getD_cons_succ]
        simp_all [leT, leG, leA, leC, leM, leaf, tokLt, tokLtL, intV, boolV, nilA, nilSl]
        done)
   ·have hdec := dF (i := i) (n := a.length) (by omega)
    have hs : sameVV a b = true := decide_eq_true (by rw [List.take_of_length_le (by omega), List.take_of_length_le (by omega)] at hI; exact hI)
    simp only [hs]
    repeat' first | ((with_reducible first | refine cs ?_ ?_ | refine ws ?_ ?_ | refine wd ?_ ?_ | refine wu ?_ ?_) <;> intro h <;> try simp only [h]) | simp only [↓wBA, tSa, convA, seval, pl10_6Sa, enVV_len, hdec] | (with_reducible refine dP pl10_6Sa 10 (some 17) (by decide) (by kernel_rfl) ?_)
    all_goals refine ret_is (a := _) ?_ rfl rfl
    all_goals simp only [↓wBA, tSa, convA, seval]
    all_goals simp_all [wS]
 ·have d : ((a.length : Int) != (b.length : Int)) = true := by simp; omega
  have hs : sameVV a b = false := decide_eq_false fun e => hab (by rw [e])
  simp only [hs]
  repeat' first | ((with_reducible first | refine cs ?_ ?_ | refine ws ?_ ?_ | refine wd ?_ ?_ | refine wu ?_ ?_) <;> intro h <;> try simp only [h]) | simp only [↓wBA, tSa, convA, seval, pl10_6Sa, enVV_len, d] | (with_reducible refine dP pl10_6Sa 10 (some 17) (by decide) (by kernel_rfl) ?_)
  all_goals refine ret_is (a := _) ?_ rfl rfl
  all_goals simp only [↓wBA, tSa, convA, seval]
  all_goals simp_all [wS]
end Go.Proofs.YtpcblbbddccgpaaGreatDoor
