/- cadastreref12: an expression of one kid. The reference's Ok is the program's. Rows cloned. Rows compared. cadastreref12: AND and OR. cadastreref01.Compare. -/
import Derived.Test.YtcnkmandddfdmaaGreatM19
import Derived.Test.YtcnkmandddfdmaaGreatM10
set_option linter.unusedSimpArgs false
set_option linter.unusedVariables false
set_option linter.defProp false
set_option maxRecDepth 100000
set_option maxHeartbeats 32000000
namespace Go.Proofs.YtcnkmandddfdmaaGreat
open Go.RowKit
def tEo := aa wX <| aa wbu <| aa T2 <| aa T3 <| aa T4 <| aa T33 <| aa T39 <| aa T56 <| aa T58 T70
theorem exL_one (x : Ex) : exL [x] = [exC x] := rfl
theorem atruthR (b : Bool) (σ : St) : ACalls Tryz.prog 63 [boolV b] σ fun r s => s = σ ∧ r = vaA (trV b) := by
 refine ACalls.pureF (R := fun r => r = vaA (trV b)) ?_ rfl σ
 refine acalls_of cx_ok dr_ok Tryz.func63 (by kernel_rfl) rfl (nt := 7) (rs := [.cell 2 56]) rfl rfl ?_
 cases b
 ·skip
  repeat' first | ((with_reducible first | refine cs ?_ ?_ | refine ws ?_ ?_) <;> intro h <;> try simp only [h]) | simp only [↓wBA, tEo, convA, seval]
  all_goals refine ret_is (a := _) ?_ rfl rfl
  all_goals simp only [↓wBA, tEo, convA, seval]
  all_goals simp_all [wS, vaA, vaC, trV, emp]
 ·skip
  repeat' first | ((with_reducible first | refine cs ?_ ?_ | refine ws ?_ ?_) <;> intro h <;> try simp only [h]) | simp only [↓wBA, tEo, convA, seval]
  all_goals refine ret_is (a := _) ?_ rfl rfl
  all_goals simp only [↓wBA, tEo, convA, seval]
  all_goals simp_all [wS, vaA, vaC, trV, emp]
def EvOK (row : List Va) (x : Ex) : Prop := ∀ σ, ACalls Tryz.prog 55 [exA x, .p (.sl 3 (enV row))] σ fun r s => s = σ ∧ r = .tup [vaA (evalV row x).1, intV .i64 (evalV row x).2]
theorem aoneR (row : List Va) (k vk vn : Int) (vs tb nm : ByteArray) (s : Int) (x : Ex) (hk : k = 3 ∨ k = 4 ∨ k = 18 ∨ k = 19) (ih : EvOK row x) (hr : i64R (evalV row x).1.2.1) (σ : St) : ACalls Tryz.prog 83 [exA (.mk k vk vn vs tb nm s [x]), .p (.sl 3 (enV row))] σ fun r st => st = σ ∧ r = .tup [vaA (evalV row (.mk k vk vn vs tb nm s [x])).1, intV .i64 (evalV row (.mk k vk vn vs tb nm s [x])).2] := by
 refine ACalls.pureF (R := fun r => r = .tup [vaA (evalV row (.mk k vk vn vs tb nm s [x])).1, intV .i64 (evalV row (.mk k vk vn vs tb nm s [x])).2]) ?_ rfl σ
 have hk1 : kidsV k = 1 := by rcases hk with rfl | rfl | rfl | rfl <;> rfl
 rw [evalV_one, if_neg (by simp [hk1])]
 unfold EvOK at ih
 generalize evalV row x = q at *
 obtain ⟨⟨v1, v2, v3⟩, e⟩ := q
 obtain ⟨x1, x2, x3, x4, x5, x6, x7, x8⟩ := x
 simp only at hr
 simp only [exA, exC, vaA, vaC, List.map_cons, List.map_nil] at ih
 have hn := anumber 6 0 v2 (.inr (.inl rfl)) (by decide) hr
 refine acalls_of cx_ok dr_ok Tryz.func83 (by kernel_rfl) rfl (nt := 69) (rs := [.cell 4 56, .tmp 5]) rfl rfl ?_
 simp only [exA, exC, exL_one, List.map_cons, List.map_nil]
 by_cases he : e = 0
 ·subst he
  simp only [ne_eq, not_true_eq_false, if_false]
  rcases hk with rfl | rfl | rfl | rfl
  ·simp only [oneV, Int.reduceEq, if_false, false_and, false_or]
   by_cases z : v1 = 0
   ·have z' : (v1 == 0) = true := by simpa using z
    simp only [z, if_true, clV, ne_eq, not_true_eq_false, if_false]
    subst z
    repeat' first | ((with_reducible first | refine cs ?_ ?_ | refine ws ?_ ?_) <;> intro h <;> try simp only [h]) | simp only [↓wBA, tEo, convA, seval, Int.reduceBEq, beq_self_eq_true, bne_self_eq_false] | ((with_reducible show ACalls _ _ _ _ _); refine (ih _).eq ?_)
    all_goals refine ret_is (a := _) ?_ rfl rfl
    all_goals simp only [↓wBA, tEo, convA, seval]
    all_goals simp_all [wS, vaA, vaC, va0, emp]
   ·have z' : (v1 == 0) = false := by simpa using z
    simp only [z, if_false]
    by_cases o : v1 = 1
    ·subst o
     simp only [numS, Int.reduceEq, if_true, if_false] at hn
     simp only [ne_eq, not_true_eq_false, if_false]
     by_cases m : v2 = -9223372036854775808
     ·have hb : ¬ i64R (0 - v2) := by unfold i64R; omega
      rw [rng_no _ hb] at hn
      simp only [m, if_true, failV, clV, ne_eq, Int.reduceEq, not_false_eq_true]
      subst m
      simp only [vaA, vaC, va0, List.map_cons, List.map_nil] at hn
      repeat' first | ((with_reducible first | refine cs ?_ ?_ | refine ws ?_ ?_) <;> intro h <;> try simp only [h]) | simp only [↓wBA, tEo, convA, seval, Int.reduceBEq, bne_self_eq_false] | ((with_reducible show ACalls _ _ _ _ _); first | refine (ih _).eq ?_ | refine (hn _).eq ?_)
      all_goals refine ret_is (a := _) ?_ rfl rfl
      all_goals simp only [↓wBA, tEo, convA, seval]
      all_goals simp_all [wS, vaA, vaC, va0, emp]
     ·have hb : i64R (0 - v2) := by unfold i64R at *; omega
      rw [rng_yes _ hb] at hn
      have hw := wIn _ hb
      simp only [m, if_false, clV, ne_eq, not_true_eq_false, hw]
      simp only [vaA, vaC, List.map_cons, List.map_nil] at hn
      repeat' first | ((with_reducible first | refine cs ?_ ?_ | refine ws ?_ ?_) <;> intro h <;> try simp only [h]) | simp only [↓wBA, tEo, convA, seval, Int.reduceBEq, bne_self_eq_false] | ((with_reducible show ACalls _ _ _ _ _); first | refine (ih _).eq ?_ | refine (hn _).eq ?_)
      all_goals refine ret_is (a := _) ?_ rfl rfl
      all_goals simp only [↓wBA, tEo, convA, seval]
      all_goals simp_all [wS, vaA, vaC, va0, emp]
    ·have o' : (v1 == 1) = false := by simpa using o
     simp only [o, ne_eq, not_false_eq_true, if_true, failV, clV, Int.reduceEq]
     repeat' first | ((with_reducible first | refine cs ?_ ?_ | refine ws ?_ ?_) <;> intro h <;> try simp only [h]) | simp only [↓wBA, tEo, convA, seval, Int.reduceBEq, z', o', bne_self_eq_false] | ((with_reducible show ACalls _ _ _ _ _); refine (ih _).eq ?_)
     all_goals refine ret_is (a := _) ?_ rfl rfl
     all_goals simp only [↓wBA, tEo, convA, seval]
     all_goals simp_all [wS, vaA, vaC, va0, emp]
  ·simp only [oneV, Int.reduceEq, if_false, true_and, true_or, if_true]
   by_cases z : v1 = 0
   ·have z' : (v1 == 0) = true := by simpa using z
    simp only [z, if_true, clV, ne_eq, not_true_eq_false, if_false]
    subst z
    repeat' first | ((with_reducible first | refine cs ?_ ?_ | refine ws ?_ ?_) <;> intro h <;> try simp only [h]) | simp only [↓wBA, tEo, convA, seval, Int.reduceBEq, beq_self_eq_true, bne_self_eq_false] | ((with_reducible show ACalls _ _ _ _ _); refine (ih _).eq ?_)
    all_goals refine ret_is (a := _) ?_ rfl rfl
    all_goals simp only [↓wBA, tEo, convA, seval]
    all_goals simp_all [wS, vaA, vaC, va0, emp]
   ·have z' : (v1 == 0) = false := by simpa using z
    simp only [z, if_false]
    by_cases o : v1 = 2
    ·subst o
     simp only [if_true, clV, ne_eq, not_true_eq_false, if_false]
     have hd : decide (v2 = 0) = (v2 == 0) := rfl
     rw [show (trV (decide (v2 = 0))) = trV (v2 == 0) from rfl]
     have hT := atruthR (v2 == 0)
     generalize trV (v2 == 0) = w at *
     obtain ⟨w1, w2, w3⟩ := w
     simp only [vaA, vaC, List.map_cons, List.map_nil] at hT
     repeat' first | ((with_reducible first | refine cs ?_ ?_ | refine ws ?_ ?_) <;> intro h <;> try simp only [h]) | simp only [↓wBA, tEo, convA, seval, Int.reduceBEq, bne_self_eq_false] | ((with_reducible show ACalls _ _ _ _ _); first | refine (ih _).eq ?_ | refine (hT _).eq ?_)
     all_goals refine ret_is (a := _) ?_ rfl rfl
     all_goals simp only [↓wBA, tEo, convA, seval]
     all_goals simp_all [wS, vaA, vaC, va0, emp]
    ·have o' : (v1 == 2) = false := by simpa using o
     simp only [o, if_false, failV, clV, ne_eq, Int.reduceEq, not_false_eq_true, if_true]
     repeat' first | ((with_reducible first | refine cs ?_ ?_ | refine ws ?_ ?_) <;> intro h <;> try simp only [h]) | simp only [↓wBA, tEo, convA, seval, Int.reduceBEq, z', o', bne_self_eq_false] | ((with_reducible show ACalls _ _ _ _ _); refine (ih _).eq ?_)
     all_goals refine ret_is (a := _) ?_ rfl rfl
     all_goals simp only [↓wBA, tEo, convA, seval]
     all_goals simp_all [wS, vaA, vaC, va0, emp]
  ·simp only [oneV, Int.reduceEq, if_true, if_false, clV, ne_eq, not_true_eq_false]
   have hT := fun b => atruthR b
   have hb : (v1 == 0) = ((v1 == 0) == true) := by cases (v1 == 0) <;> rfl
   have hT2 := atruthR ((v1 == 0))
   rw [show trV (decide (v1 = 0)) = trV ((v1 == 0)) from rfl]
   rw [hb] at hT2 ⊢
   generalize trV ((v1 == 0) == true) = w at *
   obtain ⟨w1, w2, w3⟩ := w
   simp only [vaA, vaC, List.map_cons, List.map_nil] at hT2
   repeat' first | ((with_reducible first | refine cs ?_ ?_ | refine ws ?_ ?_) <;> intro h <;> try simp only [h]) | simp only [↓wBA, tEo, convA, seval, Int.reduceBEq, bne_self_eq_false] | ((with_reducible show ACalls _ _ _ _ _); first | refine (ih _).eq ?_ | refine (hT2 _).eq ?_)
   all_goals refine ret_is (a := _) ?_ rfl rfl
   all_goals simp only [↓wBA, tEo, convA, seval]
   all_goals simp_all [wS, vaA, vaC, va0, emp]
  ·simp only [oneV, Int.reduceEq, if_true, if_false, clV, ne_eq, not_true_eq_false]
   have hT := fun b => atruthR b
   have hb : (!(v1 == 0)) = ((v1 == 0) == false) := by cases (v1 == 0) <;> rfl
   have hT2 := atruthR (!(v1 == 0))
   rw [show trV (decide (¬v1 = 0)) = trV (!(v1 == 0)) from congrArg trV (by cases hq : (v1 == 0) <;> simp at hq <;> simp [hq])]
   rw [hb] at hT2 ⊢
   generalize trV ((v1 == 0) == false) = w at *
   obtain ⟨w1, w2, w3⟩ := w
   simp only [vaA, vaC, List.map_cons, List.map_nil] at hT2
   repeat' first | ((with_reducible first | refine cs ?_ ?_ | refine ws ?_ ?_) <;> intro h <;> try simp only [h]) | simp only [↓wBA, tEo, convA, seval, Int.reduceBEq, bne_self_eq_false] | ((with_reducible show ACalls _ _ _ _ _); first | refine (ih _).eq ?_ | refine (hT2 _).eq ?_)
   all_goals refine ret_is (a := _) ?_ rfl rfl
   all_goals simp only [↓wBA, tEo, convA, seval]
   all_goals simp_all [wS, vaA, vaC, va0, emp]
 ·have he' : (e != 0) = true := by simpa using he
  simp only [ne_eq, he, not_false_eq_true, if_true]
  repeat' first | ((with_reducible first | refine cs ?_ ?_ | refine ws ?_ ?_) <;> intro h <;> try simp only [h]) | simp only [↓wBA, tEo, convA, seval, he'] | ((with_reducible show ACalls _ _ _ _ _); refine (ih _).eq ?_)
  all_goals refine ret_is (a := _) ?_ rfl rfl
  all_goals simp only [↓wBA, tEo, convA, seval]
  all_goals simp_all [wS, vaA, vaC, va0, emp]
end Go.Proofs.YtcnkmandddfdmaaGreat
namespace Go.Proofs.YtcnkmandddfdmaaGreat
open Go.RowKit
def tSo := aa wX <| aa wbu <| aa T2 <| aa T3 <| aa T9 T56
theorem fdiv2 (n : Int) : (n.fdiv 2 = 0) = (n = 0 ∨ n = 1) := by
 rw [Int.fdiv_eq_ediv_of_nonneg _ (by decide)]
 apply propext
 omega
theorem list_nil {s : ByteArray} : (s.toList = []) = (s.size = 0) := by
 rw [ba_list]
 apply propext
 constructor
 ·intro h; have := congrArg List.length h; simpa using this
 ·intro h; apply List.eq_nil_of_length_eq_zero; simpa using h
theorem aokR (v : Va) (σ : St) : ACalls Tryz.prog 19 [vaA v] σ fun r s => s = σ ∧ r = boolV (okV v) := by
 refine ACalls.pureF (R := fun r => r = boolV (okV v)) ?_ rfl σ
 obtain ⟨k, n, t⟩ := v
 refine acalls_of cx_ok dr_ok Tryz.func19 (by kernel_rfl) rfl (nt := 57) (rs := [.tmp 2]) rfl rfl ?_
 simp only [vaA, vaC, List.map_cons, List.map_nil]
 repeat' first | ((with_reducible first | refine cs ?_ ?_ | refine ws ?_ ?_) <;> intro h <;> try simp only [h]) | simp only [↓wBA, tSo, convA, seval, binStr]
 all_goals refine ret_is (a := _) ?_ rfl rfl
 all_goals simp only [↓wBA, tSo, convA, seval]
 all_goals simp_all [wS, okV, emp, fdiv2, list_nil]
 all_goals (try omega)
 all_goals grind
end Go.Proofs.YtcnkmandddfdmaaGreat
namespace Go.Proofs.YtcnkmandddfdmaaGreat
open Go.RowKit
def tCl := aa wX <| aa wbu T58
theorem enV_cons (v : Va) (l : List Va) : enV (v :: l) = vaC v :: enV l := rfl
theorem aclone (l : List Va) (hl : l.length ≤ 4398046511104) (σ : St) : ACalls Tryz.prog 51 [.p (.sl 3 (enV l))] σ fun r s => s = σ ∧ r = .p (.sl 3 (enV l)) := by
 refine ACalls.pureF (R := fun r => r = .p (.sl 3 (enV l))) ?_ rfl σ
 cases l with
 | nil =>
   refine ACalls.nilSplit ?_ fun ad c => ?_
   ·skip
    refine acalls_of cx_ok dr_ok Tryz.func51 (by kernel_rfl) rfl (nt := 7) (rs := [.tmp 2]) rfl rfl ?_
    repeat' first | ((with_reducible first | refine cs ?_ ?_ | refine ws ?_ ?_) <;> intro h <;> try simp only [h]) | simp only [↓wBA, tCl, convA, seval, appendA, srcA]
    all_goals refine ret_is (a := _) ?_ rfl rfl
    all_goals simp only [↓wBA, tCl, convA, seval]
    all_goals simp_all [wS, enV]
   ·skip
    refine acalls_of cx_ok dr_ok Tryz.func51 (by kernel_rfl) rfl (nt := 7) (rs := [.tmp 2]) rfl rfl ?_
    have hlim2 : (0 ≤ maxLen) = True := eq_true (Nat.zero_le _)
    repeat' first | ((with_reducible first | refine cs ?_ ?_ | refine ws ?_ ?_) <;> intro h <;> try simp only [h]) | simp only [↓wBA, tCl, convA, seval, appendA, srcA, hlim2, Nat.zero_le, Nat.zero_mul]
    all_goals refine ret_is (a := _) ?_ rfl rfl
    all_goals simp only [↓wBA, tCl, convA, seval]
    all_goals simp_all [wS, enV]
 | cons v l =>
   simp only [List.length_cons] at hl
   have hlim1 := tL (n := (l.length + 1) * 32) (by omega)
   have hlim2 := lM (n := l.length + 1) (by omega)
   refine acalls_of cx_ok dr_ok Tryz.func51 (by kernel_rfl) rfl (nt := 7) (rs := [.tmp 2]) rfl rfl ?_
   simp only [enV_cons]
   repeat' first | ((with_reducible first | refine cs ?_ ?_ | refine ws ?_ ?_) <;> intro h <;> try simp only [h]) | simp only [↓wBA, tCl, convA, seval, appendA, srcA, enV_len, hlim1, hlim2]
   all_goals refine ret_is (a := _) ?_ rfl rfl
   all_goals simp only [↓wBA, tCl, convA, seval]
   all_goals simp_all [wS, enV]
def cxM : Ctx := { cx with muts := [58 * 100000 + 7] }
theorem cxM_ok : cxM.ok Tryz.prog := cx_ok
theorem drM_ok : DrawOk Tryz.prog (aDraw Tryz.prog cxM) := aDraw_ok cxM_ok (by kernel_rfl)
theorem kindM (t : TypeId) : cxM.kind t = cx.kind t := nr rfl
theorem tyM (t : TypeId) : cxM.ty t = cx.ty t := nr rfl
theorem mutsM : cxM.muts = [58 * 100000 + 7] := nr rfl
theorem get_concat {σ : St} {x : Option Ob} : (σ ++ [x])[σ.length]? = some x := by simp
theorem set_concat {σ : St} {x y : Option Ob} : (σ ++ [x]).set σ.length y = σ ++ [y] := by simp
theorem len_concat {σ : St} {x : Option Ob} : (σ ++ [x]).length = σ.length + 1 := by simp
theorem app_concat {σ : St} {x y : Option Ob} : σ ++ [x] ++ [y] = σ ++ [x, y] := by simp
def muR (l : List Va) : List (List AV) := l.map fun v => (vaC v).map .p
theorem muR_len (l : List Va) : (muR l).length = l.length := by simp [muR]
theorem acloneM (v : Va) (l : List Va) (hl : l.length + 1 ≤ 4398046511104) (σ : St) : ACalls Tryz.prog 51 [.p (.sl 3 (enV (v :: l)))] σ fun r s => r = .ms (σ.length + 1) 3 0 (l.length + 1) ∧ s = σ ++ [none, some (.row 3 (muR (v :: l)))] := by
 have hlim1 := tL (n := (l.length + 1) * 32) (by omega)
 have hlim2 := lM (n := l.length + 1) (by omega)
 refine acalls_of cxM_ok drM_ok Tryz.func51 (by kernel_rfl) rfl (nt := 7) (rs := [.tmp 2]) rfl rfl ?_
 simp only [enV_cons]
 repeat' first | ((with_reducible first | refine cs ?_ ?_ | refine ws ?_ ?_) <;> intro h <;> try simp only [h]) | simp only [↓wBA, tCl, convA, seval, appendM, srcA, enV_len, hlim1, hlim2, kindM, tyM, mutsM, get_concat, set_concat, len_concat, app_concat]
 refine ⟨.inl rfl, _, _, _, rfl, .inl ⟨rfl, rfl⟩, by simp, rfl, ?_⟩
 simp [muR, enV]
end Go.Proofs.YtcnkmandddfdmaaGreat
namespace Go.Proofs.YtcnkmandddfdmaaGreat
open Go.RowKit
def pl32_6Sa : Plan := (.det 0 (.det 1 (.det 2 (.det 3 (.det 4 (.det 5 (.det 6 (.det 7 (.det 8 .done)))))))))
def pl10_6Sa : Plan := (.det 0 (.det 1 (.det 2 (.det 3 (.det 4 (.det 5 (.det 6 (.det 7 (.fin 8 (.det 9 .done))))))))))
def tSa := aa wX <| aa wbu <| aa T3 <| aa T4 <| aa T25 <| aa T56 T58
theorem ba_ext {a b : ByteArray} (h : a.toList = b.toList) : a = b := by
 rw [ba_list, ba_list] at h
 cases a; cases b
 congr
 exact Array.toList_inj.1 h
def sameVV (a b : List (List Va)) : Bool := decide (a = b)
theorem va_eq (a1 a2 b1 b2 : Int) (a3 b3 : ByteArray) : (a1 == b1 && ((a2 == b2) && ((a3.toList == b3.toList) && true))) = decide (((a1, a2, a3) : Va) = (b1, b2, b3)) := by
 by_cases h : ((a1, a2, a3) : Va) = (b1, b2, b3)
 ·cases h; simp
 ·rw [decide_eq_false h]
  by_cases h1 : a1 = b1
  ·by_cases h2 : a2 = b2
   ·have h3 : a3.toList ≠ b3.toList := fun e => h (by rw [h1, h2, ba_ext e])
    simp [h3]
   ·simp [h2]
  ·simp [h1]
def sameV (a b : List Va) : Bool := decide (a = b)
theorem asameV (a b : List Va) (ha : a.length ≤ 4398046511104) (hb : b.length ≤ 4398046511104) (σ : St) : ACalls Tryz.prog 32 [.p (.sl 3 (enV a)), .p (.sl 3 (enV b))] σ fun r s => s = σ ∧ r = boolV (sameV a b) := by
 refine ACalls.pureF (R := fun r => r = boolV (sameV a b)) ?_ rfl σ
 refine acalls_of cx_ok dr_ok Tryz.func32 (by kernel_rfl) rfl (nt := 24) (rs := [.tmp 4]) rfl rfl ?_
 by_cases hab : a.length = b.length
 ·have d : ((a.length : Int) != (b.length : Int)) = false := by simp [hab]
  repeat' first | ((with_reducible first | refine cs ?_ ?_ | refine ws ?_ ?_ | refine wd ?_ ?_ | refine wu ?_ ?_) <;> intro h <;> try simp only [h]) | simp only [↓wBA, tSa, convA, seval, pl32_6Sa, enV_len, d] | (with_reducible refine dP pl32_6Sa 9 (some 17) (by decide) (by kernel_rfl) ?_)
  refine awp_loopN (a.length) (fun i => [(5, intV .i64 (i : Nat)), (4, .any), (11, .any), (12, .any), (13, .any), (14, .any), (15, .any), (16, .any), (17, .any), (18, .any), (19, .any), (20, .any), (21, .any), (22, .any), (23, .any), (24, .any), (25, .any)]) (fun i => []) (fun i => a.take i = b.take i) ?_ ?_ ?_
  ·rfl
  ·skip
   simp only [wR, Nat.reduceAdd, Nat.reduceLT, reduceIte]
   simp [wW]
  ·intro i hi hI
   simp only [wR, Nat.reduceAdd, Nat.reduceLT, reduceIte]
   by_cases hlt : i < a.length
   ·have hdec := dT (i := i) (n := a.length) (by omega)
    have hi0 := nnI i
    have hw := wI i (by omega)
    have hltb : i < b.length := by omega
    have hg := enV_get a i hlt
    have hgb := enV_get b i hltb
    have hta := List.take_succ_eq_append_getElem hlt
    have htb := List.take_succ_eq_append_getElem hltb
    have hfin : a[i] ≠ b[i] → sameV a b = false := fun h => decide_eq_false fun e => h (by subst e; rfl)
    rcases hai : a[i] with ⟨a1, a2, a3⟩
    rcases hbi : b[i] with ⟨b1, b2, b3⟩
    rw [hai] at hg hta hfin
    rw [hbi] at hgb htb hfin
    simp only [vaC] at hg hgb
    have hv := va_eq a1 a2 b1 b2 a3 b3
    repeat' first | ((with_reducible first | refine cs ?_ ?_ | refine ws ?_ ?_ | refine wd ?_ ?_ | refine wu ?_ ?_) <;> intro h <;> try simp only [h]) | simp only [↓wBA, tSa, convA, seval, pl32_6Sa, enV_len, hdec, hi0, hw, hg, hgb, hv] | (with_reducible refine dP pl32_6Sa 9 (some 17) (by decide) (by kernel_rfl) ?_)
    ·have hf := hfin (by intro e; rw [decide_eq_true e] at h; simp at h)
     simp only [hf]
     all_goals refine ret_is (a := _) ?_ rfl rfl
     all_goals simp only [↓wBA, tSa, convA, seval]
     all_goals simp_all [wS]
    ·skip
     refine ⟨⟨i + 1, by omega, ?_⟩, by show a.length - (i + 1) < a.length - i; omega, ?_⟩
     ·rw [hta, htb, hI]; congr 1; simpa using h
     ·skip
      simp only [wR, Nat.reduceAdd, Nat.reduceLT, reduceIte]
      simp [wW]
   ·have hdec := dF (i := i) (n := a.length) (by omega)
    have hs : sameV a b = true := decide_eq_true (by rw [List.take_of_length_le (by omega), List.take_of_length_le (by omega)] at hI; exact hI)
    simp only [hs]
    repeat' first | ((with_reducible first | refine cs ?_ ?_ | refine ws ?_ ?_ | refine wd ?_ ?_ | refine wu ?_ ?_) <;> intro h <;> try simp only [h]) | simp only [↓wBA, tSa, convA, seval, pl32_6Sa, enV_len, hdec] | (with_reducible refine dP pl32_6Sa 9 (some 17) (by decide) (by kernel_rfl) ?_)
    all_goals refine ret_is (a := _) ?_ rfl rfl
    all_goals simp only [↓wBA, tSa, convA, seval]
    all_goals simp_all [wS]
 ·have d : ((a.length : Int) != (b.length : Int)) = true := by simp; omega
  have hs : sameV a b = false := decide_eq_false fun e => hab (by rw [e])
  simp only [hs]
  repeat' first | ((with_reducible first | refine cs ?_ ?_ | refine ws ?_ ?_ | refine wd ?_ ?_ | refine wu ?_ ?_) <;> intro h <;> try simp only [h]) | simp only [↓wBA, tSa, convA, seval, pl32_6Sa, enV_len, d] | (with_reducible refine dP pl32_6Sa 9 (some 17) (by decide) (by kernel_rfl) ?_)
  all_goals refine ret_is (a := _) ?_ rfl rfl
  all_goals simp only [↓wBA, tSa, convA, seval]
  all_goals simp_all [wS]
theorem asameVV (a b : List (List Va)) (ha : a.length ≤ 4398046511104) (hb : b.length ≤ 4398046511104) (hra : ∀ r ∈ a, r.length ≤ 4398046511104) (hrb : ∀ r ∈ b, r.length ≤ 4398046511104) (σ : St) : ACalls Tryz.prog 10 [.p (.sl 1 (enVV a)), .p (.sl 1 (enVV b))] σ fun r s => s = σ ∧ r = boolV (sameVV a b) := by
 refine ACalls.pureF (R := fun r => r = boolV (sameVV a b)) ?_ rfl σ
 refine acalls_of cx_ok dr_ok Tryz.func10 (by kernel_rfl) rfl (nt := 25) (rs := [.tmp 4]) rfl rfl ?_
 by_cases hab : a.length = b.length
 ·have d : ((a.length : Int) != (b.length : Int)) = false := by simp [hab]
  repeat' first | ((with_reducible first | refine cs ?_ ?_ | refine ws ?_ ?_ | refine wd ?_ ?_ | refine wu ?_ ?_) <;> intro h <;> try simp only [h]) | simp only [↓wBA, tSa, convA, seval, pl10_6Sa, enVV_len, d] | (with_reducible refine dP pl10_6Sa 10 (some 17) (by decide) (by kernel_rfl) ?_)
  refine awp_loopN (a.length) (fun i => [(5, intV .i64 (i : Nat)), (4, .any), (11, .any), (12, .any), (13, .any), (14, .any), (15, .any), (16, .any), (17, .any), (18, .any), (19, .any), (20, .any), (21, .any), (22, .any), (23, .any), (24, .any), (25, .any), (26, .any)]) (fun i => []) (fun i => a.take i = b.take i) ?_ ?_ ?_
  ·rfl
  ·skip
   simp only [wR, Nat.reduceAdd, Nat.reduceLT, reduceIte]
   simp [wW]
  ·intro i hi hI
   simp only [wR, Nat.reduceAdd, Nat.reduceLT, reduceIte]
   by_cases hlt : i < a.length
   ·have hdec := dT (i := i) (n := a.length) (by omega)
    have hi0 := nnI i
    have hw := wI i (by omega)
    have hltb : i < b.length := by omega
    have hg := enVV_get a i hlt
    have hgb := enVV_get b i hltb
    have hta := List.take_succ_eq_append_getElem hlt
    have htb := List.take_succ_eq_append_getElem hltb
    have hfin : a[i] ≠ b[i] → sameVV a b = false := fun h => decide_eq_false fun e => h (by subst e; rfl)
    have hS := asameV a[i] b[i] (hra _ (List.getElem_mem hlt)) (hrb _ (List.getElem_mem hltb))
    repeat' first | ((with_reducible first | refine cs ?_ ?_ | refine ws ?_ ?_ | refine wd ?_ ?_ | refine wu ?_ ?_) <;> intro h <;> try simp only [h]) | simp only [↓wBA, tSa, convA, seval, pl10_6Sa, enVV_len, hdec, hi0, hw, hg, hgb] | ((with_reducible show ACalls _ _ _ _ _); refine (hS _).eq ?_) | (with_reducible refine dP pl10_6Sa 10 (some 17) (by decide) (by kernel_rfl) ?_)
    all_goals first
     | (refine ⟨⟨i + 1, by omega, ?_⟩, by show a.length - (i + 1) < a.length - i; omega, ?_⟩
        ·rw [hta, htb, hI]; congr 1; simpa [sameV] using h
        ·simp [wW])
     | (have hf := hfin (by intro e; simp [sameV, e] at h)
        simp only [hf]
        refine ret_is (a := _) ?_ rfl rfl
        simp only [resA, resL, resV, List.getD_cons_zero, List.getD_cons_succ]
        simp_all [leT, leG, leA, leC, leM, leaf, tokLt, tokLtL, intV, boolV, nilA, nilSl]
        done)
   ·have hdec := dF (i := i) (n := a.length) (by omega)
    have hs : sameVV a b = true := decide_eq_true (by rw [List.take_of_length_le (by omega), List.take_of_length_le (by omega)] at hI; exact hI)
    simp only [hs]
    repeat' first | ((with_reducible first | refine cs ?_ ?_ | refine ws ?_ ?_ | refine wd ?_ ?_ | refine wu ?_ ?_) <;> intro h <;> try simp only [h]) | simp only [↓wBA, tSa, convA, seval, pl10_6Sa, enVV_len, hdec] | (with_reducible refine dP pl10_6Sa 10 (some 17) (by decide) (by kernel_rfl) ?_)
    all_goals refine ret_is (a := _) ?_ rfl rfl
    all_goals simp only [↓wBA, tSa, convA, seval]
    all_goals simp_all [wS]
 ·have d : ((a.length : Int) != (b.length : Int)) = true := by simp; omega
  have hs : sameVV a b = false := decide_eq_false fun e => hab (by rw [e])
  simp only [hs]
  repeat' first | ((with_reducible first | refine cs ?_ ?_ | refine ws ?_ ?_ | refine wd ?_ ?_ | refine wu ?_ ?_) <;> intro h <;> try simp only [h]) | simp only [↓wBA, tSa, convA, seval, pl10_6Sa, enVV_len, d] | (with_reducible refine dP pl10_6Sa 10 (some 17) (by decide) (by kernel_rfl) ?_)
  all_goals refine ret_is (a := _) ?_ rfl rfl
  all_goals simp only [↓wBA, tSa, convA, seval]
  all_goals simp_all [wS]
end Go.Proofs.YtcnkmandddfdmaaGreat
namespace Go.Proofs.YtcnkmandddfdmaaGreat
open Go.RowKit
open Nat renaming reduceBEq → ZA, reducePow → ZB, reduceAdd → ZC, reduceSub → ZD, reduceMul → ZE, reduceEqDiff → ZF, reduceLeDiff → ZG, reduceLT → ZH
open Int renaming reduceLT → ZI, reduceLE → ZJ, reduceToNat → ZK
def tEg := aa wX <| aa wbu <| aa T3 <| aa T4 <| aa T33 <| aa T39 <| aa T56 <| aa T58 T70
theorem eqV_eq {a b : Va} (h : eqV a b = true) : a = b := by
 obtain ⟨a1, a2, a3⟩ := a
 obtain ⟨b1, b2, b3⟩ := b
 simp only [eqV, decide_eq_true_eq] at h
 obtain ⟨h1, h2, h3⟩ := h
 rw [h1, h2, ba_ext h3]
theorem eqV_cells (a1 a2 b1 b2 : Int) (a3 b3 : ByteArray) : (a1 == b1 && ((a2 == b2) && ((a3.toList == b3.toList) && true))) = eqV (a1, a2, a3) (b1, b2, b3) := by
 rw [Bool.eq_iff_iff]; simp [eqV]
theorem ok_null {v : Va} (h : okV v = true) (h0 : v.1 = 0) : v = va0 := by
 obtain ⟨k, n, t⟩ := v
 simp only at h0; subst h0
 simp only [okV, if_true, Bool.and_eq_true, decide_eq_true_eq, beq_iff_eq] at h
 rw [h.1, ba_ext h.2]; rfl
theorem ok_bool {v : Va} (h : okV v = true) (h0 : v.1 = 2) : v = trV true ∨ v = trV false := by
 obtain ⟨k, n, t⟩ := v
 simp only at h0; subst h0
 simp only [okV, Int.reduceEq, if_true, if_false, Bool.and_eq_true, beq_iff_eq, fdiv2] at h
 obtain ⟨h1, h2⟩ := h
 rw [ba_ext h2]
 rcases h1 with rfl | rfl
 ·exact .inr rfl
 ·exact .inl rfl
theorem someV_no {v : Va} (h : someV v = false) : v.1 = 0 ∨ v.1 = 2 := by
 simp only [someV, decide_eq_false_iff_not] at h
 omega
def nulN (za zb : Bool) (i : Nat) : Bool := (decide (1 ≤ i) && za) || (decide (2 ≤ i) && zb)
theorem exL_two (x y : Ex) : exL [x, y] = [exC x, exC y] := rfl
theorem alogicR (row : List Va) (k vk vn : Int) (vs tb nm : ByteArray) (s : Int) (x y : Ex) (hk : k = 16 ∨ k = 17) (ihx : EvOK row x) (ihy : EvOK row y) (fx : fine (evalV row x)) (fy : fine (evalV row y)) (σ : St) : ACalls Tryz.prog 84 [exA (.mk k vk vn vs tb nm s [x, y]), .p (.sl 3 (enV row))] σ fun r st => st = σ ∧ r = .tup [vaA (evalV row (.mk k vk vn vs tb nm s [x, y])).1, intV .i64 (evalV row (.mk k vk vn vs tb nm s [x, y])).2] := by
 refine ACalls.pureF (R := fun r => r = .tup [vaA (evalV row (.mk k vk vn vs tb nm s [x, y])).1, intV .i64 (evalV row (.mk k vk vn vs tb nm s [x, y])).2]) ?_ rfl σ
 have hk1 : kidsV k = 2 := by rcases hk with rfl | rfl <;> rfl
 have hk2 : 16 ≤ k := by omega
 rw [evalV_log _ _ _ _ _ _ _ _ _ _ hk2, if_neg (by simp [hk1])]
 unfold EvOK at ihx ihy
 generalize evalV row x = q at *
 generalize evalV row y = p at *
 obtain ⟨⟨a1, a2, a3⟩, ea⟩ := q
 obtain ⟨⟨b1, b2, b3⟩, eb⟩ := p
 obtain ⟨x1, x2, x3, x4, x5, x6, x7, x8⟩ := x
 obtain ⟨y1, y2, y3, y4, y5, y6, y7, y8⟩ := y
 simp only [exA, exC, vaA, vaC, List.map_cons, List.map_nil] at ihx ihy
 have hT := atruthR (k == 17)
 have hT2 := atruthR (k == 16)
 have hk17 : decide (k = 17) = (k == 17) := rfl
 have hk1617 : (k == 16) = !(k == 17) := by rcases hk with rfl | rfl <;> rfl
 generalize hfin : (if ea ≠ 0 then ((va0, ea) : Va × Int) else match logA k (a1, a2, a3) 0 with
  | some r => clV r
  | none => if eb ≠ 0 then (va0, eb) else clV (logB k (a1, a2, a3) (b1, b2, b3) 0)) = fin at *
 have f1 : ea ≠ 0 → fin = (va0, ea) := fun h => by rw [← hfin, if_pos h]
 have f2 : ea = 0 → someV (a1, a2, a3) = true → fin = (va0, 33) := fun h h2 => by
  rw [← hfin, if_neg (by simp [h])]; simp [logA, h2, failV, clV]
 have f3 : ea = 0 → someV (a1, a2, a3) = false → eqV (a1, a2, a3) (trV (k == 17)) = true → fin = (trV (k == 17), 0) := fun h h2 h3 => by
  rw [← hfin, if_neg (by simp [h])]; simp [logA, h2, h3, hk17, clV]; exact eqV_eq h3
 have f4 : ea = 0 → someV (a1, a2, a3) = false → eqV (a1, a2, a3) (trV (k == 17)) = false → fin = if eb ≠ 0 then (va0, eb) else clV (logB k (a1, a2, a3) (b1, b2, b3) 0) := fun h h2 h3 => by
  rw [← hfin, if_neg (by simp [h])]; simp [logA, h2, h3, hk17]
 have f5 : ea = 0 → someV (a1, a2, a3) = false → eqV (a1, a2, a3) (trV (k == 17)) = false → eb = 0 → someV (b1, b2, b3) = true → fin = (va0, 33) := fun h h2 h3 h4 h5 => by
  rw [f4 h h2 h3, if_neg (by simp [h4])]; simp [logB, h5, failV, clV]
 have f6 : ea = 0 → someV (a1, a2, a3) = false → eqV (a1, a2, a3) (trV (k == 17)) = false → eb = 0 → someV (b1, b2, b3) = false → eqV (b1, b2, b3) (trV (k == 17)) = true → fin = (trV (k == 17), 0) := fun h h2 h3 h4 h5 h6 => by
  rw [f4 h h2 h3, if_neg (by simp [h4])]; simp [logB, h5, h6, hk17, clV]; exact eqV_eq h6
 have f7 : ea = 0 → someV (a1, a2, a3) = false → eqV (a1, a2, a3) (trV (k == 17)) = false → eb = 0 → someV (b1, b2, b3) = false → eqV (b1, b2, b3) (trV (k == 17)) = false → fin = if ((a1 == 0) || (b1 == 0)) = true then (va0, 0) else (trV (k == 16), 0) := fun h h2 h3 h4 h5 h6 => by
  have g1 := (fx h).1
  have g2 := (fy h4).1
  rw [f4 h h2 h3, if_neg (by simp [h4])]
  simp only [logB, h5, hk17, h6, Bool.false_eq_true, and_false, if_false, clV]
  by_cases z1 : a1 = 0
  ·have := ok_null g1 z1
   simp only at this
   rw [if_pos z1, this]; simp [z1]
  ·rw [if_neg z1]
   by_cases z2 : b1 = 0
   ·have := ok_null g2 z2
    simp only at this
    rw [this]; simp [z2]
   ·have hb := someV_no h5
    simp only [z2, false_or] at hb
    have z3 : (b1 == 0) = false := by simpa using z2
    have z4 : (a1 == 0) = false := by simpa using z1
    rw [z3, z4, hk1617]
    rcases ok_bool g2 hb with e | e
    ·simp only at e
     rw [e] at h6 ⊢
     cases hq : (k == 17) with
     | true => rw [hq] at h6; simp [eqV, trV] at h6
     | false => rfl
    ·simp only at e
     rw [e] at h6 ⊢
     cases hq : (k == 17) with
     | false => rw [hq] at h6; simp [eqV, trV] at h6
     | true => rfl
 clear hfin fx fy
 obtain ⟨za, hza⟩ : ∃ z, (a1 == 0) = z := ⟨_, rfl⟩
 obtain ⟨zb, hzb⟩ : ∃ z, (b1 == 0) = z := ⟨_, rfl⟩
 rw [hza, hzb] at f7
 generalize trV (k == 17) = st at *
 generalize trV (k == 16) = st2 at *
 obtain ⟨t1, t2, t3⟩ := st
 obtain ⟨r1, r2, r3⟩ := st2
 simp only [vaA, vaC, List.map_cons, List.map_nil] at hT hT2
 have ca := eqV_cells a1 a2 t1 t2 a3 t3
 have cb := eqV_cells b1 b2 t1 t2 b3 t3
 have c0 : ((0 : Nat) : Int) = 0 := rfl
 have c1 : ((1 : Nat) : Int) = 1 := rfl
 have c2 : ((2 : Nat) : Int) = 2 := rfl
 have w0 : IntKind.i64.wrap (0 + 1) = 1 := by decide
 have w1 : IntKind.i64.wrap (1 + 1) = 2 := by decide
 have d0 : decide ((0 : Int) < 2) = true := by decide
 have d1 : decide ((1 : Int) < 2) = true := by decide
 have d2 : decide ((2 : Int) < 2) = false := by decide
 have b0 : nulN za zb 0 = false := by simp [nulN]
 have b1' : nulN za zb 1 = za := by simp [nulN]
 have b2' : nulN za zb 2 = (za || zb) := by simp [nulN]
 refine acalls_of cx_ok dr_ok Tryz.func84 (by kernel_rfl) rfl (nt := 56) (rs := [.cell 4 56, .tmp 5]) rfl rfl ?_
 simp only [exA, exC, exL_two, List.map_cons, List.map_nil]
 repeat' first | ((with_reducible first | refine cs ?_ ?_ | refine ws ?_ ?_) <;> intro h <;> try simp only [h]) | simp only [↓wBA, tEg, convA, ZA, reduceIte, reduceCtorEq, ZB, ZC, ZD, ZE, ZF, ZG, ZH, ZI, ZJ, ZK] | ((with_reducible show ACalls _ _ _ _ _); refine (hT _).eq ?_)
 refine awp_loopN (2) (fun i => [(7, boolV (nulN za zb i)), (8, intV .i64 (i : Nat)), (5, .any), (9, .any), (10, .any), (15, .any), (16, .any), (17, .any), (18, .any), (19, .any), (20, .any), (21, .any), (22, .any), (23, .any), (24, .any), (25, .any), (26, .any), (27, .any), (28, .any), (29, .any), (30, .any), (31, .any), (32, .any), (33, .any), (34, .any), (35, .any), (36, .any), (37, .any), (38, .any), (39, .any), (40, .any), (41, .any), (42, .any), (43, .any), (44, .any), (45, .any), (46, .any), (47, .any), (48, .any), (49, .any), (50, .any), (51, .any)]) (fun i => []) (fun i => (1 ≤ i → ea = 0 ∧ someV (a1, a2, a3) = false ∧ eqV (a1, a2, a3) (t1, t2, t3) = false) ∧ (2 ≤ i → eb = 0 ∧ someV (b1, b2, b3) = false ∧ eqV (b1, b2, b3) (t1, t2, t3) = false)) ?_ ?_ ?_
 ·exact ⟨fun h => by omega, fun h => by omega⟩
 ·skip
  simp only [wR, Nat.reduceAdd, Nat.reduceLT, reduceIte]
  simp [wW, b0, nulN]
 ·intro i hi hI
  simp only [wR, Nat.reduceAdd, Nat.reduceLT, reduceIte]
  have h3 : i = 0 ∨ i = 1 ∨ i = 2 := by omega
  rcases h3 with rfl | rfl | rfl
  ·skip
   by_cases e0 : ea = 0
   ·subst e0
    rcases (show someV (a1, a2, a3) = false ∨ someV (a1, a2, a3) = true by cases someV (a1, a2, a3) <;> simp) with hs | hs
    ·rcases someV_no hs with q0 | q2
     ·have t0 : (a1 != 0) = false := by simp at q0; simp [q0]
      rcases (show eqV (a1, a2, a3) (t1, t2, t3) = false ∨ eqV (a1, a2, a3) (t1, t2, t3) = true by cases eqV (a1, a2, a3) (t1, t2, t3) <;> simp) with hq | hq
      ·skip
       repeat' first | ((with_reducible first | refine cs ?_ ?_ | refine ws ?_ ?_) <;> intro h <;> try simp only [h]) | simp only [↓wBA, tEg, convA, ZA, reduceIte, reduceCtorEq, ZB, ZC, ZD, ZE, ZF, ZG, ZH, ZI, ZJ, ZK, c0, c1, c2, d0, w0, bne_self_eq_false, t0, ca, hq, b0, hza] | ((with_reducible show ACalls _ _ _ _ _); refine (ihx _).eq ?_)
       refine ⟨⟨0 + 1, by omega, ?_⟩, by show 2 - (0 + 1) < 2 - 0; omega, ?_⟩
       ·exact ⟨fun _ => ⟨rfl, hs, hq⟩, fun h => by omega⟩
       ·skip
        simp [wW, hza, b1', c1]
      ·rw [f3 rfl hs hq]
       repeat' first | ((with_reducible first | refine cs ?_ ?_ | refine ws ?_ ?_) <;> intro h <;> try simp only [h]) | simp only [↓wBA, tEg, convA, ZA, reduceIte, reduceCtorEq, ZB, ZC, ZD, ZE, ZF, ZG, ZH, ZI, ZJ, ZK, c0, c1, c2, d0, w0, bne_self_eq_false, t0, ca, hq, b0, hza] | ((with_reducible show ACalls _ _ _ _ _); refine (ihx _).eq ?_)
       all_goals refine ret_is (a := _) ?_ rfl rfl
       all_goals simp only [↓wBA, tEg, convA, ZA, reduceIte, reduceCtorEq, ZB, ZC, ZD, ZE, ZF, ZG, ZH, ZI, ZJ, ZK]
       all_goals simp_all [wS, vaA, vaC, va0, emp]
     ·have t0 : (a1 != 0) = true := by simp at q2; simp [q2]
      have t2' : (a1 != 2) = false := by simp at q2; simp [q2]
      rcases (show eqV (a1, a2, a3) (t1, t2, t3) = false ∨ eqV (a1, a2, a3) (t1, t2, t3) = true by cases eqV (a1, a2, a3) (t1, t2, t3) <;> simp) with hq | hq
      ·skip
       repeat' first | ((with_reducible first | refine cs ?_ ?_ | refine ws ?_ ?_) <;> intro h <;> try simp only [h]) | simp only [↓wBA, tEg, convA, ZA, reduceIte, reduceCtorEq, ZB, ZC, ZD, ZE, ZF, ZG, ZH, ZI, ZJ, ZK, c0, c1, c2, d0, w0, bne_self_eq_false, t0, t2', ca, hq, b0, hza] | ((with_reducible show ACalls _ _ _ _ _); refine (ihx _).eq ?_)
       refine ⟨⟨0 + 1, by omega, ?_⟩, by show 2 - (0 + 1) < 2 - 0; omega, ?_⟩
       ·exact ⟨fun _ => ⟨rfl, hs, hq⟩, fun h => by omega⟩
       ·skip
        simp [wW, hza, b1', c1]
      ·rw [f3 rfl hs hq]
       repeat' first | ((with_reducible first | refine cs ?_ ?_ | refine ws ?_ ?_) <;> intro h <;> try simp only [h]) | simp only [↓wBA, tEg, convA, ZA, reduceIte, reduceCtorEq, ZB, ZC, ZD, ZE, ZF, ZG, ZH, ZI, ZJ, ZK, c0, c1, c2, d0, w0, bne_self_eq_false, t0, t2', ca, hq, b0, hza] | ((with_reducible show ACalls _ _ _ _ _); refine (ihx _).eq ?_)
       all_goals refine ret_is (a := _) ?_ rfl rfl
       all_goals simp only [↓wBA, tEg, convA, ZA, reduceIte, reduceCtorEq, ZB, ZC, ZD, ZE, ZF, ZG, ZH, ZI, ZJ, ZK]
       all_goals simp_all [wS, vaA, vaC, va0, emp]
    ·have t0 : (a1 != 0) = true := by simp [someV] at hs; simp [hs]
     have t2' : (a1 != 2) = true := by simp [someV] at hs; simp [hs]
     rw [f2 rfl hs]
     repeat' first | ((with_reducible first | refine cs ?_ ?_ | refine ws ?_ ?_) <;> intro h <;> try simp only [h]) | simp only [↓wBA, tEg, convA, ZA, reduceIte, reduceCtorEq, ZB, ZC, ZD, ZE, ZF, ZG, ZH, ZI, ZJ, ZK, c0, c1, c2, d0, w0, bne_self_eq_false, t0, t2', b0] | ((with_reducible show ACalls _ _ _ _ _); refine (ihx _).eq ?_)
     all_goals refine ret_is (a := _) ?_ rfl rfl
     all_goals simp only [↓wBA, tEg, convA, ZA, reduceIte, reduceCtorEq, ZB, ZC, ZD, ZE, ZF, ZG, ZH, ZI, ZJ, ZK]
     all_goals simp_all [wS, vaA, vaC, va0, emp]
   ·have e0' : (ea != 0) = true := by simpa using e0
    rw [f1 e0]
    repeat' first | ((with_reducible first | refine cs ?_ ?_ | refine ws ?_ ?_) <;> intro h <;> try simp only [h]) | simp only [↓wBA, tEg, convA, ZA, reduceIte, reduceCtorEq, ZB, ZC, ZD, ZE, ZF, ZG, ZH, ZI, ZJ, ZK, c0, c1, c2, d0, w0, e0', b0] | ((with_reducible show ACalls _ _ _ _ _); refine (ihx _).eq ?_)
    all_goals refine ret_is (a := _) ?_ rfl rfl
    all_goals simp only [↓wBA, tEg, convA, ZA, reduceIte, reduceCtorEq, ZB, ZC, ZD, ZE, ZF, ZG, ZH, ZI, ZJ, ZK]
    all_goals simp_all [wS, vaA, vaC, va0, emp]
  ·skip
   obtain ⟨rfl, ha1, ha2⟩ := hI.1 (by omega)
   by_cases e0 : eb = 0
   ·subst e0
    rcases (show someV (b1, b2, b3) = false ∨ someV (b1, b2, b3) = true by cases someV (b1, b2, b3) <;> simp) with hs | hs
    ·rcases someV_no hs with q0 | q2
     ·have t0 : (b1 != 0) = false := by simp at q0; simp [q0]
      rcases (show eqV (b1, b2, b3) (t1, t2, t3) = false ∨ eqV (b1, b2, b3) (t1, t2, t3) = true by cases eqV (b1, b2, b3) (t1, t2, t3) <;> simp) with hq | hq
      ·skip
       cases za
       ·skip
        repeat' first | ((with_reducible first | refine cs ?_ ?_ | refine ws ?_ ?_) <;> intro h <;> try simp only [h]) | simp only [↓wBA, tEg, convA, ZA, reduceIte, reduceCtorEq, ZB, ZC, ZD, ZE, ZF, ZG, ZH, ZI, ZJ, ZK, c0, c1, c2, d1, w1, bne_self_eq_false, t0, cb, hq, b1', hzb] | ((with_reducible show ACalls _ _ _ _ _); refine (ihy _).eq ?_)
        refine ⟨⟨1 + 1, by omega, ?_⟩, by show 2 - (1 + 1) < 2 - 1; omega, ?_⟩
        ·exact ⟨fun _ => hI.1 (by omega), fun _ => ⟨rfl, hs, hq⟩⟩
        ·skip
         simp [wW, hzb, b2', c2]
       ·skip
        repeat' first | ((with_reducible first | refine cs ?_ ?_ | refine ws ?_ ?_) <;> intro h <;> try simp only [h]) | simp only [↓wBA, tEg, convA, ZA, reduceIte, reduceCtorEq, ZB, ZC, ZD, ZE, ZF, ZG, ZH, ZI, ZJ, ZK, c0, c1, c2, d1, w1, bne_self_eq_false, t0, cb, hq, b1', hzb] | ((with_reducible show ACalls _ _ _ _ _); refine (ihy _).eq ?_)
        refine ⟨⟨1 + 1, by omega, ?_⟩, by show 2 - (1 + 1) < 2 - 1; omega, ?_⟩
        ·exact ⟨fun _ => hI.1 (by omega), fun _ => ⟨rfl, hs, hq⟩⟩
        ·skip
         simp [wW, hzb, b2', c2]
      ·rw [f6 rfl ha1 ha2 rfl hs hq]
       repeat' first | ((with_reducible first | refine cs ?_ ?_ | refine ws ?_ ?_) <;> intro h <;> try simp only [h]) | simp only [↓wBA, tEg, convA, ZA, reduceIte, reduceCtorEq, ZB, ZC, ZD, ZE, ZF, ZG, ZH, ZI, ZJ, ZK, c0, c1, c2, d1, w1, bne_self_eq_false, t0, cb, hq, b1', hzb] | ((with_reducible show ACalls _ _ _ _ _); refine (ihy _).eq ?_)
       all_goals refine ret_is (a := _) ?_ rfl rfl
       all_goals simp only [↓wBA, tEg, convA, ZA, reduceIte, reduceCtorEq, ZB, ZC, ZD, ZE, ZF, ZG, ZH, ZI, ZJ, ZK]
       all_goals simp_all [wS, vaA, vaC, va0, emp]
     ·have t0 : (b1 != 0) = true := by simp at q2; simp [q2]
      have t2' : (b1 != 2) = false := by simp at q2; simp [q2]
      rcases (show eqV (b1, b2, b3) (t1, t2, t3) = false ∨ eqV (b1, b2, b3) (t1, t2, t3) = true by cases eqV (b1, b2, b3) (t1, t2, t3) <;> simp) with hq | hq
      ·skip
       cases za
       ·skip
        repeat' first | ((with_reducible first | refine cs ?_ ?_ | refine ws ?_ ?_) <;> intro h <;> try simp only [h]) | simp only [↓wBA, tEg, convA, ZA, reduceIte, reduceCtorEq, ZB, ZC, ZD, ZE, ZF, ZG, ZH, ZI, ZJ, ZK, c0, c1, c2, d1, w1, bne_self_eq_false, t0, t2', cb, hq, b1', hzb] | ((with_reducible show ACalls _ _ _ _ _); refine (ihy _).eq ?_)
        refine ⟨⟨1 + 1, by omega, ?_⟩, by show 2 - (1 + 1) < 2 - 1; omega, ?_⟩
        ·exact ⟨fun _ => hI.1 (by omega), fun _ => ⟨rfl, hs, hq⟩⟩
        ·skip
         simp [wW, hzb, b2', c2]
       ·skip
        repeat' first | ((with_reducible first | refine cs ?_ ?_ | refine ws ?_ ?_) <;> intro h <;> try simp only [h]) | simp only [↓wBA, tEg, convA, ZA, reduceIte, reduceCtorEq, ZB, ZC, ZD, ZE, ZF, ZG, ZH, ZI, ZJ, ZK, c0, c1, c2, d1, w1, bne_self_eq_false, t0, t2', cb, hq, b1', hzb] | ((with_reducible show ACalls _ _ _ _ _); refine (ihy _).eq ?_)
        refine ⟨⟨1 + 1, by omega, ?_⟩, by show 2 - (1 + 1) < 2 - 1; omega, ?_⟩
        ·exact ⟨fun _ => hI.1 (by omega), fun _ => ⟨rfl, hs, hq⟩⟩
        ·skip
         simp [wW, hzb, b2', c2]
      ·rw [f6 rfl ha1 ha2 rfl hs hq]
       repeat' first | ((with_reducible first | refine cs ?_ ?_ | refine ws ?_ ?_) <;> intro h <;> try simp only [h]) | simp only [↓wBA, tEg, convA, ZA, reduceIte, reduceCtorEq, ZB, ZC, ZD, ZE, ZF, ZG, ZH, ZI, ZJ, ZK, c0, c1, c2, d1, w1, bne_self_eq_false, t0, t2', cb, hq, b1', hzb] | ((with_reducible show ACalls _ _ _ _ _); refine (ihy _).eq ?_)
       all_goals refine ret_is (a := _) ?_ rfl rfl
       all_goals simp only [↓wBA, tEg, convA, ZA, reduceIte, reduceCtorEq, ZB, ZC, ZD, ZE, ZF, ZG, ZH, ZI, ZJ, ZK]
       all_goals simp_all [wS, vaA, vaC, va0, emp]
    ·have t0 : (b1 != 0) = true := by simp [someV] at hs; simp [hs]
     have t2' : (b1 != 2) = true := by simp [someV] at hs; simp [hs]
     rw [f5 rfl ha1 ha2 rfl hs]
     repeat' first | ((with_reducible first | refine cs ?_ ?_ | refine ws ?_ ?_) <;> intro h <;> try simp only [h]) | simp only [↓wBA, tEg, convA, ZA, reduceIte, reduceCtorEq, ZB, ZC, ZD, ZE, ZF, ZG, ZH, ZI, ZJ, ZK, c0, c1, c2, d1, w1, bne_self_eq_false, t0, t2', b1'] | ((with_reducible show ACalls _ _ _ _ _); refine (ihy _).eq ?_)
     all_goals refine ret_is (a := _) ?_ rfl rfl
     all_goals simp only [↓wBA, tEg, convA, ZA, reduceIte, reduceCtorEq, ZB, ZC, ZD, ZE, ZF, ZG, ZH, ZI, ZJ, ZK]
     all_goals simp_all [wS, vaA, vaC, va0, emp]
   ·have e0' : (eb != 0) = true := by simpa using e0
    rw [f4 rfl ha1 ha2, if_pos e0]
    repeat' first | ((with_reducible first | refine cs ?_ ?_ | refine ws ?_ ?_) <;> intro h <;> try simp only [h]) | simp only [↓wBA, tEg, convA, ZA, reduceIte, reduceCtorEq, ZB, ZC, ZD, ZE, ZF, ZG, ZH, ZI, ZJ, ZK, c0, c1, c2, d1, w1, e0', b1'] | ((with_reducible show ACalls _ _ _ _ _); refine (ihy _).eq ?_)
    all_goals refine ret_is (a := _) ?_ rfl rfl
    all_goals simp only [↓wBA, tEg, convA, ZA, reduceIte, reduceCtorEq, ZB, ZC, ZD, ZE, ZF, ZG, ZH, ZI, ZJ, ZK]
    all_goals simp_all [wS, vaA, vaC, va0, emp]
  ·obtain ⟨rfl, ha1, ha2⟩ := hI.1 (by omega)
   obtain ⟨rfl, hb1, hb2⟩ := hI.2 (by omega)
   rw [f7 rfl ha1 ha2 rfl hb1 hb2]
   cases hzz : (za || zb)
   ·simp only [Bool.false_eq_true, if_false]
    repeat' first | ((with_reducible first | refine cs ?_ ?_ | refine ws ?_ ?_) <;> intro h <;> try simp only [h]) | simp only [↓wBA, tEg, convA, ZA, reduceIte, reduceCtorEq, ZB, ZC, ZD, ZE, ZF, ZG, ZH, ZI, ZJ, ZK, c0, c1, c2, d2, b2', hzz] | ((with_reducible show ACalls _ _ _ _ _); refine (hT2 _).eq ?_)
    all_goals refine ret_is (a := _) ?_ rfl rfl
    all_goals simp only [↓wBA, tEg, convA, ZA, reduceIte, reduceCtorEq, ZB, ZC, ZD, ZE, ZF, ZG, ZH, ZI, ZJ, ZK]
    all_goals simp_all [wS, vaA, vaC, va0, emp]
   ·simp only [if_true]
    repeat' first | ((with_reducible first | refine cs ?_ ?_ | refine ws ?_ ?_) <;> intro h <;> try simp only [h]) | simp only [↓wBA, tEg, convA, ZA, reduceIte, reduceCtorEq, ZB, ZC, ZD, ZE, ZF, ZG, ZH, ZI, ZJ, ZK, c0, c1, c2, d2, b2', hzz]
    all_goals refine ret_is (a := _) ?_ rfl rfl
    all_goals simp only [↓wBA, tEg, convA, ZA, reduceIte, reduceCtorEq, ZB, ZC, ZD, ZE, ZF, ZG, ZH, ZI, ZJ, ZK]
    all_goals simp_all [wS, vaA, vaC, va0, emp]
end Go.Proofs.YtcnkmandddfdmaaGreat
namespace Go.Proofs.YtcnkmandddfdmaaGreat
open Go.RowKit
def tEc := aa wX <| aa wbu <| aa T2 <| aa T3 <| aa T9 T56
theorem bytesLess_self : ∀ l : List UInt8, Op.bytesLess l l = false
 | [] => rfl
 | b :: l => by simp [Op.bytesLess, bytesLess_self l]
theorem acmpR (a b : Va) (σ : St) : ACalls Tryz.prog 86 [vaA a, vaA b] σ fun r s => s = σ ∧ r = intV .i64 (cmpV a b) := by
 refine ACalls.pureF (R := fun r => r = intV .i64 (cmpV a b)) ?_ rfl σ
 obtain ⟨a1, a2, a3⟩ := a
 obtain ⟨b1, b2, b3⟩ := b
 have ce := eqV_cells a1 a2 b1 b2 a3 b3
 refine acalls_of cx_ok dr_ok Tryz.func86 (by kernel_rfl) rfl (nt := 39) (rs := [.tmp 4]) rfl rfl ?_
 simp only [vaA, vaC, List.map_cons, List.map_nil]
 rcases (show eqV (a1, a2, a3) (b1, b2, b3) = false ∨ eqV (a1, a2, a3) (b1, b2, b3) = true by cases eqV (a1, a2, a3) (b1, b2, b3) <;> simp) with hq | hq
 ·rcases Int.lt_trichotomy a1 b1 with h1 | h1 | h1
  ·have d1 : decide (a1 < b1) = true := by simpa using h1
   have hc : cmpV (a1, a2, a3) (b1, b2, b3) = -1 := by simp [cmpV, cmpI, h1]
   rw [hc]
   repeat' first | ((with_reducible first | refine cs ?_ ?_ | refine ws ?_ ?_) <;> intro h <;> try simp only [h]) | simp only [↓wBA, tEc, convA, seval, ce, hq, d1]
   all_goals refine ret_is (a := _) ?_ rfl rfl
   all_goals simp only [↓wBA, tEc, convA, seval]
   all_goals simp_all [wS]
  ·subst h1
   have d1 : decide (a1 < a1) = false := by simp
   rcases Int.lt_trichotomy a2 b2 with h2 | h2 | h2
   ·have d2 : decide (a2 < b2) = true := by simpa using h2
    have hc : cmpV (a1, a2, a3) (a1, b2, b3) = -1 := by simp [cmpV, cmpI, h2]
    rw [hc]
    repeat' first | ((with_reducible first | refine cs ?_ ?_ | refine ws ?_ ?_) <;> intro h <;> try simp only [h]) | simp only [↓wBA, tEc, convA, seval, ce, hq, d1, d2, beq_self_eq_true]
    all_goals refine ret_is (a := _) ?_ rfl rfl
    all_goals simp only [↓wBA, tEc, convA, seval]
    all_goals simp_all [wS]
   ·subst h2
    have d2 : decide (a2 < a2) = false := by simp
    have hne : ¬ a3.toList = b3.toList := fun e => by simp [eqV, e] at hq
    rcases (show Op.bytesLess a3.toList b3.toList = false ∨ Op.bytesLess a3.toList b3.toList = true by cases Op.bytesLess a3.toList b3.toList <;> simp) with hb | hb
    ·have hc : cmpV (a1, a2, a3) (a1, a2, b3) = 1 := by simp [cmpV, cmpI, cmpS, hb, hne]
     rw [hc]
     repeat' first | ((with_reducible first | refine cs ?_ ?_ | refine ws ?_ ?_) <;> intro h <;> try simp only [h]) | simp only [↓wBA, tEc, convA, seval, ce, hq, d1, d2, beq_self_eq_true, binStr, hb]
     all_goals refine ret_is (a := _) ?_ rfl rfl
     all_goals simp only [↓wBA, tEc, convA, seval]
     all_goals simp_all [wS]
    ·have hc : cmpV (a1, a2, a3) (a1, a2, b3) = -1 := by simp [cmpV, cmpI, cmpS, hb]
     rw [hc]
     repeat' first | ((with_reducible first | refine cs ?_ ?_ | refine ws ?_ ?_) <;> intro h <;> try simp only [h]) | simp only [↓wBA, tEc, convA, seval, ce, hq, d1, d2, beq_self_eq_true, binStr, hb]
     all_goals refine ret_is (a := _) ?_ rfl rfl
     all_goals simp only [↓wBA, tEc, convA, seval]
     all_goals simp_all [wS]
   ·have d2 : decide (a2 < b2) = false := by simp; omega
    have e2 : (a2 == b2) = false := by simp; omega
    have hc : cmpV (a1, a2, a3) (a1, b2, b3) = 1 := by
     have g1 : ¬ a2 < b2 := by omega
     simp [cmpV, cmpI, g1, h2]
    rw [hc]
    repeat' first | ((with_reducible first | refine cs ?_ ?_ | refine ws ?_ ?_) <;> intro h <;> try simp only [h]) | simp only [↓wBA, tEc, convA, seval, ce, hq, d1, d2, e2, beq_self_eq_true]
    all_goals refine ret_is (a := _) ?_ rfl rfl
    all_goals simp only [↓wBA, tEc, convA, seval]
    all_goals simp_all [wS]
  ·have d1 : decide (a1 < b1) = false := by simp; omega
   have e1 : (a1 == b1) = false := by simp; omega
   have hc : cmpV (a1, a2, a3) (b1, b2, b3) = 1 := by
    have g1 : ¬ a1 < b1 := by omega
    simp [cmpV, cmpI, g1, h1]
   rw [hc]
   repeat' first | ((with_reducible first | refine cs ?_ ?_ | refine ws ?_ ?_) <;> intro h <;> try simp only [h]) | simp only [↓wBA, tEc, convA, seval, ce, hq, d1, e1]
   all_goals refine ret_is (a := _) ?_ rfl rfl
   all_goals simp only [↓wBA, tEc, convA, seval]
   all_goals simp_all [wS]
 ·have he := eqV_eq hq
  have hc : cmpV (a1, a2, a3) (b1, b2, b3) = 0 := by rw [← he]; simp [cmpV, cmpI, cmpS, bytesLess_self]
  rw [hc]
  repeat' first | ((with_reducible first | refine cs ?_ ?_ | refine ws ?_ ?_) <;> intro h <;> try simp only [h]) | simp only [↓wBA, tEc, convA, seval, ce, hq]
  all_goals refine ret_is (a := _) ?_ rfl rfl
  all_goals simp only [↓wBA, tEc, convA, seval]
  all_goals simp_all [wS]
end Go.Proofs.YtcnkmandddfdmaaGreat
