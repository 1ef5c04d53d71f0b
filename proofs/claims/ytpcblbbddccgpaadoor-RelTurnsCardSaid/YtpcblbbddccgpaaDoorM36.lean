/- cadastreref15.Top: rows in their order. -/
import Derived.Test.YtpcblbbddccgpaaDoorM35
import Derived.Test.YtpcblbbddccgpaaDoorM32
set_option linter.unusedSimpArgs false
set_option linter.unusedVariables false
set_option linter.defProp false
set_option maxRecDepth 100000
set_option maxHeartbeats 32000000
namespace Go.Proofs.YtpcblbbddccgpaaDoor
open Go.RowKit
def pl35_4Tp : Plan := (.det 0 (.det 1 (.det 2 (.det 3 (.det 4 (.det 5 (.det 6 (.det 7 (.fin 8 (.det 9 .done))))))))))
def pl27_4Tp : Plan := (.det 0 (.det 1 (.det 2 (.det 3 (.det 4 (.det 5 (.det 6 (.det 7 (.fin 8 (.det 9 .done))))))))))
def tTp := aa wX <| aa wbu <| aa T3 <| aa T4 <| aa T24 <| aa T36 T58
theorem cmpR_drop : ∀ (a b : List Va) (i : Nat), a.take i = b.take i → i ≤ a.length → i ≤ b.length → cmpR a b = cmpR (a.drop i) (b.drop i)
 | a, b, 0, _, _, _ => rfl
 | x :: a, y :: b, i + 1, h, h1, h2 => by
   simp only [List.take_succ_cons, List.cons.injEq] at h
   obtain ⟨rfl, h⟩ := h
   have : cmpR (x :: a) (x :: b) = cmpR a b := by simp [cmpR, cmpV_z.2]
   rw [this, List.drop_succ_cons, List.drop_succ_cons]
   exact cmpR_drop a b i h (by simpa using h1) (by simpa using h2)
 | [], _, i + 1, _, h, _ => by simp at h
 | _ :: _, [], i + 1, _, _, h => by simp at h
theorem arowsR (a b : List Va) (ha : a.length ≤ 4398046511104) (hb : b.length ≤ 4398046511104) (σ : St) : ACalls Tryd.prog 35 [.p (.sl 3 (enV a)), .p (.sl 3 (enV b))] σ fun r s => s = σ ∧ r = intV .i64 (cmpR a b) := by
 refine ACalls.pureF (R := fun r => r = intV .i64 (cmpR a b)) ?_ rfl σ
 have hC := acmpR
 refine acalls_of cx_ok dr_ok Tryd.func35 (by kernel_rfl) rfl (nt := 41) (rs := [.tmp 4]) rfl rfl ?_
 repeat' first | ((with_reducible first | refine cs ?_ ?_ | refine ws ?_ ?_ | refine wd ?_ ?_ | refine wu ?_ ?_) <;> intro h <;> try simp only [h]) | simp only [↓wBA, tTp, convA, seval, pl35_4Tp, enV_len] | (with_reducible refine dP pl35_4Tp 10 (some 19) (by decide) (by kernel_rfl) ?_)
 refine awp_loopN (min a.length b.length) (fun i => [(5, intV .i64 (i : Nat)), (4, .any), (6, .any), (7, .any), (8, .any), (9, .any), (10, .any), (11, .any), (12, .any), (13, .any), (14, .any), (15, .any), (16, .any), (17, .any), (18, .any), (19, .any), (20, .any), (21, .any), (22, .any), (23, .any), (24, .any), (25, .any), (26, .any), (27, .any), (28, .any), (29, .any), (30, .any)]) (fun i => []) (fun i => a.take i = b.take i) ?_ ?_ ?_
 ·rfl
 ·skip
  simp only [wR, Nat.reduceAdd, Nat.reduceLT, reduceIte]
  simp [wW]
 ·intro i hi hI
  simp only [wR, Nat.reduceAdd, Nat.reduceLT, reduceIte]
  have hia : i ≤ a.length := by omega
  have hib : i ≤ b.length := by omega
  have hcd := cmpR_drop a b i hI hia hib
  by_cases hla : i < a.length
  ·have hdec := dT (i := i) (n := a.length) (by omega)
   by_cases hlb : i < b.length
   ·have hdec2 := dT (i := i) (n := b.length) (by omega)
    have hi0 := nnI i
    have hw := wI i (by omega)
    have hg := enV_get a i hla
    have hgb := enV_get b i hlb
    have hC' := hC a[i] b[i]
    have hta := List.take_succ_eq_append_getElem hla
    have htb := List.take_succ_eq_append_getElem hlb
    rw [List.drop_eq_getElem_cons hla, List.drop_eq_getElem_cons hlb] at hcd
    generalize a[i] = x at *
    generalize b[i] = y at *
    obtain ⟨x1, x2, x3⟩ := x
    obtain ⟨y1, y2, y3⟩ := y
    by_cases hxy : cmpV (x1, x2, x3) (y1, y2, y3) = 0
    ·have hn : (cmpV (x1, x2, x3) (y1, y2, y3) != 0) = false := by simpa using hxy
     have hxe := cmpV_z.1 hxy
     simp only [vaA, vaC, List.map_cons, List.map_nil] at hC' hg hgb
     repeat' first | ((with_reducible first | refine cs ?_ ?_ | refine ws ?_ ?_ | refine wd ?_ ?_ | refine wu ?_ ?_) <;> intro h <;> try simp only [h]) | simp only [↓wBA, tTp, convA, seval, pl35_4Tp, enV_len, hdec, hdec2, hi0, hw, hg, hgb, hn] | ((with_reducible show ACalls _ _ _ _ _); refine (hC' _).eq ?_) | (with_reducible refine dP pl35_4Tp 10 (some 19) (by decide) (by kernel_rfl) ?_)
     refine ⟨⟨i + 1, by omega, ?_⟩, by show min a.length b.length - (i + 1) < min a.length b.length - i; omega, ?_⟩
     ·rw [hta, htb, hI, hxe]
     ·skip
      simp only [wR, Nat.reduceAdd, Nat.reduceLT, reduceIte]
      simp [wW]
    ·have hn : (cmpV (x1, x2, x3) (y1, y2, y3) != 0) = true := by simpa using hxy
     have hr : cmpR a b = cmpV (x1, x2, x3) (y1, y2, y3) := by rw [hcd]; simp only [cmpR]; rw [if_pos hxy]
     rw [hr]
     simp only [vaA, vaC, List.map_cons, List.map_nil] at hC' hg hgb
     repeat' first | ((with_reducible first | refine cs ?_ ?_ | refine ws ?_ ?_ | refine wd ?_ ?_ | refine wu ?_ ?_) <;> intro h <;> try simp only [h]) | simp only [↓wBA, tTp, convA, seval, pl35_4Tp, enV_len, hdec, hdec2, hi0, hw, hg, hgb, hn] | ((with_reducible show ACalls _ _ _ _ _); refine (hC' _).eq ?_) | (with_reducible refine dP pl35_4Tp 10 (some 19) (by decide) (by kernel_rfl) ?_)
     all_goals refine ret_is (a := _) ?_ rfl rfl
     all_goals simp only [↓wBA, tTp, convA, seval]
     all_goals simp_all [wS]
   ·have hdec2 := dF (i := i) (n := b.length) (by omega)
    have h1 := dF (i := a.length) (n := b.length) (by omega)
    have h2 : decide ((a.length : Int) > (b.length : Int)) = true := by simp; omega
    have hr : cmpR a b = 1 := by
     rw [hcd, List.drop_eq_getElem_cons hla, List.drop_eq_nil_of_le (show b.length ≤ i by omega)]; rfl
    rw [hr]
    repeat' first | ((with_reducible first | refine cs ?_ ?_ | refine ws ?_ ?_ | refine wd ?_ ?_ | refine wu ?_ ?_) <;> intro h <;> try simp only [h]) | simp only [↓wBA, tTp, convA, seval, pl35_4Tp, enV_len, hdec, hdec2, h1, h2] | (with_reducible refine dP pl35_4Tp 10 (some 19) (by decide) (by kernel_rfl) ?_)
    all_goals refine ret_is (a := _) ?_ rfl rfl
    all_goals simp only [↓wBA, tTp, convA, seval]
    all_goals simp_all [wS]
  ·have hdec := dF (i := i) (n := a.length) (by omega)
   by_cases hlb : a.length < b.length
   ·have h1 := dT (i := a.length) (n := b.length) (by omega)
    have hr : cmpR a b = -1 := by
     rw [hcd, List.drop_eq_nil_of_le (show a.length ≤ i by omega), List.drop_eq_getElem_cons (show i < b.length by omega)]; rfl
    rw [hr]
    repeat' first | ((with_reducible first | refine cs ?_ ?_ | refine ws ?_ ?_ | refine wd ?_ ?_ | refine wu ?_ ?_) <;> intro h <;> try simp only [h]) | simp only [↓wBA, tTp, convA, seval, pl35_4Tp, enV_len, hdec, h1] | (with_reducible refine dP pl35_4Tp 10 (some 19) (by decide) (by kernel_rfl) ?_)
    all_goals refine ret_is (a := _) ?_ rfl rfl
    all_goals simp only [↓wBA, tTp, convA, seval]
    all_goals simp_all [wS]
   ·have h1 := dF (i := a.length) (n := b.length) (by omega)
    have h2 : decide ((a.length : Int) > (b.length : Int)) = false := by simp; omega
    have hr : cmpR a b = 0 := by
     rw [hcd, List.drop_eq_nil_of_le (show a.length ≤ i by omega), List.drop_eq_nil_of_le (show b.length ≤ i by omega)]; rfl
    rw [hr]
    repeat' first | ((with_reducible first | refine cs ?_ ?_ | refine ws ?_ ?_ | refine wd ?_ ?_ | refine wu ?_ ?_) <;> intro h <;> try simp only [h]) | simp only [↓wBA, tTp, convA, seval, pl35_4Tp, enV_len, hdec, h1, h2] | (with_reducible refine dP pl35_4Tp 10 (some 19) (by decide) (by kernel_rfl) ?_)
    all_goals refine ret_is (a := _) ?_ rfl rfl
    all_goals simp only [↓wBA, tTp, convA, seval]
    all_goals simp_all [wS]
theorem aahead (a b : List Va) (ha : a.length ≤ 4398046511104) (hb : b.length ≤ 4398046511104) (σ : St) : ACalls Tryd.prog 27 [.p (.sl 3 (enV a)), .p (.sl 3 []), .p (.sl 3 (enV b)), .p (.sl 3 []), .p (.v (.slice none 0 0))] σ fun r s => s = σ ∧ r = boolV (ltR a b) := by
 refine ACalls.pureF (R := fun r => r = boolV (ltR a b)) ?_ rfl σ
 have hR := arowsR a b ha hb
 rw [← cmpR_lt]
 refine acalls_of cx_ok dr_ok Tryd.func27 (by kernel_rfl) rfl (nt := 36) (rs := [.tmp 10]) rfl rfl ?_
 repeat' first | ((with_reducible first | refine cs ?_ ?_ | refine ws ?_ ?_ | refine wd ?_ ?_ | refine wu ?_ ?_) <;> intro h <;> try simp only [h]) | simp only [↓wBA, tTp, convA, seval, pl27_4Tp, enV_len] | (with_reducible refine dP pl27_4Tp 10 (some 19) (by decide) (by kernel_rfl) ?_)
 refine awp_loopN (0) (fun i => [(11, intV .i64 (i : Nat)), (10, .any), (12, .any), (13, .any), (14, .any), (15, .any), (16, .any), (17, .any), (18, .any), (19, .any), (20, .any), (21, .any), (22, .any), (23, .any), (24, .any), (25, .any), (26, .any), (27, .any), (28, .any), (29, .any), (30, .any), (31, .any), (32, .any), (33, .any), (34, .any), (35, .any), (36, .any)]) (fun i => []) (fun i => True) ?_ ?_ ?_
 ·trivial
 ·skip
  simp only [wR, Nat.reduceAdd, Nat.reduceLT, reduceIte]
  simp [wW]
 ·intro i hi _
  obtain rfl : i = 0 := by omega
  simp only [wR, Nat.reduceAdd, Nat.reduceLT, reduceIte]
  repeat' first | ((with_reducible first | refine cs ?_ ?_ | refine ws ?_ ?_ | refine wd ?_ ?_ | refine wu ?_ ?_) <;> intro h <;> try simp only [h]) | simp only [↓wBA, tTp, convA, seval, pl27_4Tp, enV_len] | ((with_reducible show ACalls _ _ _ _ _); refine (hR _).eq ?_) | (with_reducible refine dP pl27_4Tp 10 (some 19) (by decide) (by kernel_rfl) ?_)
  all_goals refine ret_is (a := _) ?_ rfl rfl
  all_goals simp only [↓wBA, tTp, convA, seval]
  all_goals simp_all [wS]
theorem amay (l : List Va) (hl : l.length ≤ 4398046511104) (σ : St) : ACalls Tryd.prog 26 [.p (.sl 3 (enV l))] σ fun r s => s = σ ∧ r = boolV (l.all okV) := by
 refine ACalls.pureF (R := fun r => r = boolV (l.all okV)) ?_ rfl σ
 have hO := aokR
 refine acalls_of cx_ok dr_ok Tryd.func26 (by kernel_rfl) rfl (nt := 15) (rs := [.tmp 2]) rfl rfl ?_
 repeat' first | ((with_reducible first | refine cs ?_ ?_ | refine ws ?_ ?_) <;> intro h <;> try simp only [h]) | simp only [↓wBA, tTp, convA, seval, enV_len]
 refine awp_loopN (l.length) (fun i => [(3, intV .i64 (i : Nat)), (2, .any), (4, .any), (5, .any), (6, .any), (7, .any), (8, .any), (9, .any), (10, .any), (11, .any), (12, .any), (13, .any), (14, .any), (15, .any)]) (fun i => []) (fun i => (l.take i).all okV = true) ?_ ?_ ?_
 ·rfl
 ·skip
  simp only [wR, Nat.reduceAdd, Nat.reduceLT, reduceIte]
  simp [wW]
 ·intro i hi hI
  simp only [wR, Nat.reduceAdd, Nat.reduceLT, reduceIte]
  by_cases hlt : i < l.length
  ·have hdec := dT (i := i) (n := l.length) (by omega)
   have hi0 := nnI i
   have hw := wI i (by omega)
   have hg := enV_get l i hlt
   have hta := List.take_succ_eq_append_getElem hlt
   have hO' := hO l[i]
   have hmem : l[i] ∈ l := List.getElem_mem hlt
   generalize l[i] = x at *
   obtain ⟨x1, x2, x3⟩ := x
   simp only [vaA, vaC, List.map_cons, List.map_nil] at hO' hg
   cases hx : okV (x1, x2, x3) with
   | true =>
     rw [hx] at hO'
     repeat' first | ((with_reducible first | refine cs ?_ ?_ | refine ws ?_ ?_) <;> intro h <;> try simp only [h]) | simp only [↓wBA, tTp, convA, seval, enV_len, hdec, hi0, hw, hg] | ((with_reducible show ACalls _ _ _ _ _); refine (hO' _).eq ?_)
     refine ⟨⟨i + 1, by omega, ?_⟩, by show l.length - (i + 1) < l.length - i; omega, ?_⟩
     ·rw [hta, List.all_append, hI]; simp [hx]
     ·skip
      simp only [wR, Nat.reduceAdd, Nat.reduceLT, reduceIte]
      simp [wW]
   | false =>
     rw [hx] at hO'
     have hr : l.all okV = false := by
      cases h : l.all okV with
      | false => rfl
      | true => rw [List.all_eq_true.1 h _ hmem] at hx; cases hx
     rw [hr]
     repeat' first | ((with_reducible first | refine cs ?_ ?_ | refine ws ?_ ?_) <;> intro h <;> try simp only [h]) | simp only [↓wBA, tTp, convA, seval, enV_len, hdec, hi0, hw, hg] | ((with_reducible show ACalls _ _ _ _ _); refine (hO' _).eq ?_)
     all_goals refine ret_is (a := _) ?_ rfl rfl
     all_goals simp only [↓wBA, tTp, convA, seval]
     all_goals simp_all [wS]
  ·have hdec := dF (i := i) (n := l.length) (by omega)
   rw [List.take_of_length_le (by omega)] at hI
   rw [hI]
   repeat' first | ((with_reducible first | refine cs ?_ ?_ | refine ws ?_ ?_) <;> intro h <;> try simp only [h]) | simp only [↓wBA, tTp, convA, seval, enV_len, hdec]
   all_goals refine ret_is (a := _) ?_ rfl rfl
   all_goals simp only [↓wBA, tTp, convA, seval]
   all_goals simp_all [wS]
end Go.Proofs.YtpcblbbddccgpaaDoor
