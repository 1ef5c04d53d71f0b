/- A number's bytes, the lowest first. Values written. Do values fit into a record? cadastreref01.Put, cadastreref21.Fits tell what the program's do. -/
import Derived.Test.YtcnkmandddfdmaaGreatM19
import Derived.Test.YtcnkmandddfdmaaGreatM20
set_option linter.unusedSimpArgs false
set_option linter.unusedVariables false
set_option linter.defProp false
set_option maxRecDepth 100000
set_option maxHeartbeats 32000000
namespace Go.Proofs.YtcnkmandddfdmaaGreat
open Go.RowKit
def tEi := aa wX <| aa wbu <| aa T3 <| aa T5 <| aa T145 T165
def eiB (u : Int) (i : Nat) : List PV := [.v (.int .u8 (IntKind.u8.wrap (u.fdiv (2 ^ (8 * i)))))]
def eightP (u : Int) (n : Nat) : List (List PV) := (List.range n).map (eiB u)
theorem eightP_len (u : Int) (n : Nat) : (eightP u n).length = n := by simp [eightP]
theorem eightP_succ (u : Int) (n : Nat) : eightP u (n + 1) = eightP u n ++ [eiB u n] := by simp [eightP, List.range_succ]
theorem aeight (u : Int) (σ : St) : ACalls Tryz.prog 106 [.p (.v (.int .u64 u)), boolV false] σ fun r s => s = σ ∧ r = .p (.sl 1 (eightP u 8)) := by
 obtain ⟨l8, hl8⟩ : ∃ l8, l8 = eightP u 8 := ⟨_, rfl⟩
 rw [← hl8]
 refine ACalls.pureF (R := fun r => r = .p (.sl 1 l8)) ?_ rfl σ
 refine acalls_of cx_ok dr_ok Tryz.func106 (by kernel_rfl) rfl (nt := 21) (rs := [.tmp 4]) rfl rfl ?_
 repeat' first | ((with_reducible first | refine cs ?_ ?_ | refine ws ?_ ?_) <;> intro h <;> try simp only [h]) | simp only [↓wBA, tEi, convA, seval]
 refine awp_loopN (8) (fun i => [(5, .nown 0 1 (eightP u i)), (7, intV .i64 (i : Nat)), (6, .any), (8, .any), (9, .any), (10, .any), (11, .any), (12, .any), (13, .any), (14, .any), (15, .any), (16, .any), (17, .any), (18, .any), (19, .any), (20, .any), (21, .any)]) (fun i => [(0, .nright 5 (i * 1))]) (fun i => True) ?_ ?_ ?_
 ·trivial
 ·skip
  simp only [wR, Nat.reduceAdd, Nat.reduceLT, reduceIte]
  simp [wW, eightP]
 ·intro i hi _
  simp only [wR, Nat.reduceAdd, Nat.reduceLT, reduceIte]
  by_cases hlt : i < 8
  ·have hdec : decide ((i : Int) < 8) = true := by simp; omega
   have hw := wI i (by omega)
   have hm : IntKind.i64.wrap (8 * (i : Int)) = ((8 * i : Nat) : Int) := by rw [wrap_i64 (by omega) (by omega)]; simp
   have hs0 : (((8 * i : Nat) : Int) < 0) = False := eq_false (by omega)
   have hmin : min (8 * i) 64 = 8 * i := by omega
   have hst := eightP_succ u i
   have htl := eightP_len u i
   have hlim1 := tL (n := (i + 1) * 1) (by omega)
   have hlim2 := lM (n := i + 1) (by omega)
   simp only [eiB] at hst
   repeat' first | ((with_reducible first | refine cs ?_ ?_ | refine ws ?_ ?_) <;> intro h <;> try simp only [h]) | simp only [↓wBA, tEi, convA, seval, hdec, hw, hm, hs0, htl, hlim1, hlim2, appendA, srcA, List.length_append, Int.toNat_natCast, IntKind.bits, hmin]
   refine ⟨⟨i + 1, by omega, ?_⟩, by show 8 - (i + 1) < 8 - i; omega, ?_⟩
   ·trivial
   ·simp only [hst]
    simp [wW]
  ·have hi8 : i = 8 := by omega
   subst hi8
   simp only [← hl8]
   have hdec : decide (((8 : Nat) : Int) < 8) = false := by decide
   repeat' first | ((with_reducible first | refine cs ?_ ?_ | refine ws ?_ ?_) <;> intro h <;> try simp only [h]) | simp only [↓wBA, tEi, convA, seval, hdec]
   all_goals refine ret_is (a := _) ?_ rfl rfl
   all_goals simp only [↓wBA, tEi, convA, seval]
   all_goals simp_all [wS]
end Go.Proofs.YtcnkmandddfdmaaGreat
namespace Go.Proofs.YtcnkmandddfdmaaGreat
open Go.RowKit
def pl80_16Pv : Plan := (.det 0 (.det 1 (.det 2 (.det 3 (.det 4 (.det 7 (.det 8 (.act 5 (.act 6 (.fin 9 (.det 10 .done)))))))))))
def tPv := aa wX <| aa wbu <| aa T2 <| aa T3 <| aa T4 <| aa T5 <| aa T9 <| aa T56 <| aa T58 <| aa T145 T165
def byP (n : Int) : List PV := [.v (.int .u8 (IntKind.u8.wrap n))]
def putV (v : Va) : List (List PV) := byP v.1 :: (if v.1 = 1 then eightP (IntKind.u64.wrap v.2.1) 8 else if v.1 = 2 then [byP v.2.1] else if v.1 = 3 then byP (v.2.2.size : Nat) :: bytesP v.2.2 else [])
def putL (n : Nat) (l : List Va) : List (List PV) := byP (n : Nat) :: (l.map putV).flatten
def putR (l : List Va) : List (List PV) × Int := if l.length > 255 then ([], 3) else if l.all okV = true then (putL l.length l, 0) else ([], 1)
theorem bytesP_len (s : ByteArray) : (bytesP s).length = s.size := by unfold bytesP; rw [List.length_map, Array.length_toList]; rfl
theorem putV_len (v : Va) (h : okV v = true) : (putV v).length ≤ 66 := by
 obtain ⟨k, n, t⟩ := v
 simp only [putV, okV] at *
 split
 ·simp [eightP_len]
 ·split
  ·simp
  ·split
   ·rename_i h1 h2 h3
    subst h3
    simp at h
    simp [bytesP_len]
    omega
   ·simp
theorem putL_len (n : Nat) : ∀ l : List Va, (∀ v ∈ l, okV v = true) → (putL n l).length ≤ 1 + l.length * 66
 | [], _ => by simp [putL]
 | v :: l, h => by
   have := putL_len n l fun x hx => h x (by simp [hx])
   have h1 := putV_len v (h v (by simp))
   simp only [putL, List.map_cons, List.flatten_cons, List.length_cons, List.length_append] at *
   omega
theorem putL_succ (n : Nat) (l : List Va) (i : Nat) (h : i < l.length) : putL n (l.take (i + 1)) = putL n (l.take i) ++ putV l[i] := by
 rw [List.take_succ_eq_append_getElem h]
 simp only [putL, List.map_append, List.flatten_append, List.map_cons, List.map_nil, List.flatten_cons, List.flatten_nil, List.append_nil, List.cons_append]
theorem aput (l : List Va) (σ : St) : ACalls Tryz.prog 80 [.p (.sl 3 (enV l))] σ fun r s => s = σ ∧ r = .tup [.p (.sl 1 (putR l).1), intV .i64 (putR l).2] := by
 refine ACalls.pureF (R := fun r => r = .tup [.p (.sl 1 (putR l).1), intV .i64 (putR l).2]) ?_ rfl σ
 refine acalls_of cx_ok dr_ok Tryz.func80 (by kernel_rfl) rfl (nt := 60) (rs := [.tmp 2, .tmp 3]) rfl rfl ?_
 unfold putR
 by_cases h255 : l.length > 255
 ·have hd : decide ((l.length : Int) > 255) = true := by simp; omega
  rw [if_pos h255]
  repeat' first | ((with_reducible first | refine cs ?_ ?_ | refine ws ?_ ?_ | refine wd ?_ ?_ | refine wu ?_ ?_) <;> intro h <;> try simp only [h]) | simp only [↓wBA, tPv, convA, seval, pl80_16Pv, enV_len, hd] | (with_reducible refine dP pl80_16Pv 11 (some 49) (by decide) (by kernel_rfl) ?_)
  all_goals refine ret_is (a := _) ?_ rfl rfl
  all_goals simp only [↓wBA, tPv, convA, seval]
  all_goals simp_all [wS]
 ·have hd : decide ((l.length : Int) > 255) = false := by simp; omega
  rw [if_neg h255]
  repeat' first | ((with_reducible first | refine cs ?_ ?_ | refine ws ?_ ?_ | refine wd ?_ ?_ | refine wu ?_ ?_) <;> intro h <;> try simp only [h]) | simp only [↓wBA, tPv, convA, seval, pl80_16Pv, enV_len, hd] | (with_reducible refine dP pl80_16Pv 11 (some 49) (by decide) (by kernel_rfl) ?_)
  refine awp_loopN (l.length) (fun i => [(4, .own 0 1 (putL l.length (l.take i))), (16, intV .i64 (i : Nat)), (2, .any), (3, .any), (6, .any), (17, .any), (18, .any), (19, .any), (20, .any), (21, .any), (22, .any), (23, .any), (24, .any), (25, .any), (26, .any), (27, .any), (28, .any), (29, .any), (30, .any), (31, .any), (32, .any), (33, .any), (34, .any), (35, .any), (36, .any), (37, .any), (38, .any), (39, .any), (40, .any), (41, .any), (42, .any), (43, .any), (44, .any), (45, .any), (46, .any), (47, .any), (48, .any), (49, .any), (50, .any), (51, .any), (52, .any), (53, .any), (54, .any), (55, .any), (56, .any), (57, .any), (58, .any), (59, .any)]) (fun i => [(0, .right 5 ((putL l.length (l.take i)).length * 1))]) (fun i => ∀ v ∈ l.take i, okV v = true) ?_ ?_ ?_
  ·simp
  ·skip
   simp only [wR, Nat.reduceAdd, Nat.reduceLT, reduceIte]
   simp [wW, putL, byP]
  ·intro i hi hI
   simp only [wR, Nat.reduceAdd, Nat.reduceLT, reduceIte]
   by_cases hlt : i < l.length
   ·have hdec := dT (i := i) (n := l.length) (by omega)
    have hi0 := nnI i
    have hw := wI i (by omega)
    have hg := enV_get l i hlt
    have hst := putL_succ l.length l i hlt
    have hpl := putL_len l.length (l.take i) hI
    have htl : (l.take i).length = i := by simp; omega
    rw [htl] at hpl
    have hnext : okV l[i] = true → ∀ v ∈ l.take (i + 1), okV v = true := fun h v hv => by
     rw [List.take_succ_eq_append_getElem hlt] at hv
     rcases List.mem_append.1 hv with h1 | h1
     ·exact hI v h1
     ·simp at h1; subst h1; exact h
    have hbad : okV l[i] = false → l.all okV = false := fun h => by
     rw [List.all_eq_false]; exact ⟨_, List.getElem_mem hlt, by simp [h]⟩
    have hvl := putV_len l[i]
    have hok := aokV l[i]
    generalize hcur : putL l.length (l.take i) = cur at *
    generalize hvi : l[i] = v at *
    obtain ⟨k, n, t⟩ := v
    simp only [vaA, vaC, List.map_cons, List.map_nil] at hok hg
    cases hb : okV (k, n, t) with
    | false =>
      rw [hb] at hok
      have hf := hbad hb
      simp only [hf, Bool.false_eq_true, if_false]
      repeat' first | ((with_reducible first | refine cs ?_ ?_ | refine ws ?_ ?_ | refine wd ?_ ?_ | refine wu ?_ ?_) <;> intro h <;> try simp only [h]) | simp only [↓wBA, tPv, convA, seval, pl80_16Pv, enV_len, hdec, hi0, hg] | ((with_reducible show ACalls _ _ _ _ _); refine (hok _).eq ?_) | (with_reducible refine dP pl80_16Pv 11 (some 49) (by decide) (by kernel_rfl) ?_)
      all_goals refine ret_is (a := _) ?_ rfl rfl
      all_goals simp only [↓wBA, tPv, convA, seval]
      all_goals simp_all [wS]
    | true =>
      rw [hb] at hok
      have hv66 := hvl hb
      have hA1 := tL (n := (cur.length + 1) * 1) (by omega)
      have hB1 := lM (n := cur.length + 1) (by omega)
      have hA2 := tL (n := (cur.length + 2) * 1) (by omega)
      have hB2 := lM (n := cur.length + 2) (by omega)
      have hA9 := tL (n := (cur.length + 9) * 1) (by omega)
      have hB9 := lM (n := cur.length + 9) (by omega)
      by_cases h1 : k = 1
      ·subst h1
       simp only [putV, Int.reduceEq, if_true, if_false] at hst
       repeat' first | ((with_reducible first | refine cs ?_ ?_ | refine ws ?_ ?_ | refine wd ?_ ?_ | refine wu ?_ ?_) <;> intro h <;> try simp only [h]) | simp only [↓wBA, tPv, convA, seval, pl80_16Pv, enV_len, hdec, hi0, hg, hw, hA1, hB1, hA2, hB2, hA9, hB9, eightP_len, appendA, srcA, List.length_append, List.length_cons, List.length_nil, Nat.add_assoc, Int.reduceBEq] | ((with_reducible show ACalls _ _ _ _ _); first | refine (hok _).eq ?_ | refine (aeight _ _).eq ?_) | (with_reducible refine dP pl80_16Pv 11 (some 49) (by decide) (by kernel_rfl) ?_)
       refine ⟨⟨i + 1, by omega, ?_⟩, by show l.length - (i + 1) < l.length - i; omega, ?_⟩
       ·exact hnext hb
       ·simp only [hst]
        simp [wW, byP, List.append_assoc, eightP_len, bytesP_len, Nat.add_assoc]
      by_cases h2 : k = 2
      ·subst h2
       simp only [putV, Int.reduceEq, if_true, if_false] at hst
       repeat' first | ((with_reducible first | refine cs ?_ ?_ | refine ws ?_ ?_ | refine wd ?_ ?_ | refine wu ?_ ?_) <;> intro h <;> try simp only [h]) | simp only [↓wBA, tPv, convA, seval, pl80_16Pv, enV_len, hdec, hi0, hg, hw, hA1, hB1, hA2, hB2, hA9, hB9, eightP_len, appendA, srcA, List.length_append, List.length_cons, List.length_nil, Nat.add_assoc, Int.reduceBEq] | ((with_reducible show ACalls _ _ _ _ _); first | refine (hok _).eq ?_ | refine (aeight _ _).eq ?_) | (with_reducible refine dP pl80_16Pv 11 (some 49) (by decide) (by kernel_rfl) ?_)
       refine ⟨⟨i + 1, by omega, ?_⟩, by show l.length - (i + 1) < l.length - i; omega, ?_⟩
       ·exact hnext hb
       ·simp only [hst]
        simp [wW, byP, List.append_assoc, eightP_len, bytesP_len, Nat.add_assoc]
      by_cases h3 : k = 3
      ·subst h3
       simp only [putV, Int.reduceEq, if_true, if_false] at hst
       have ht64 : t.size ≤ 64 := by simp [okV] at hb; omega
       have hA3 := tL (n := (cur.length + (2 + t.size)) * 1) (by omega)
       have hB3 := lM (n := cur.length + (2 + t.size)) (by omega)
       repeat' first | ((with_reducible first | refine cs ?_ ?_ | refine ws ?_ ?_ | refine wd ?_ ?_ | refine wu ?_ ?_) <;> intro h <;> try simp only [h]) | simp only [↓wBA, tPv, convA, seval, pl80_16Pv, enV_len, hdec, hi0, hg, hw, hA1, hB1, hA2, hB2, hA9, hB9, eightP_len, appendA, srcA, List.length_append, List.length_cons, List.length_nil, Nat.add_assoc, Int.reduceBEq, hA3, hB3, bytesP_len, bm_appendS, app_str, ne_eq, not_false_eq_true] | ((with_reducible show ACalls _ _ _ _ _); first | refine (hok _).eq ?_ | refine (aeight _ _).eq ?_) | (with_reducible refine dP pl80_16Pv 11 (some 49) (by decide) (by kernel_rfl) ?_)
       refine ⟨⟨i + 1, by omega, ?_⟩, by show l.length - (i + 1) < l.length - i; omega, ?_⟩
       ·exact hnext hb
       ·simp only [hst]
        simp [wW, byP, List.append_assoc, eightP_len, bytesP_len, Nat.add_assoc]
        omega
      simp only [putV, h1, h2, h3, if_false] at hst
      have e1 : (k == 1) = false := by simpa using h1
      have e2 : (k == 2) = false := by simpa using h2
      have e3 : (k == 3) = false := by simpa using h3
      repeat' first | ((with_reducible first | refine cs ?_ ?_ | refine ws ?_ ?_ | refine wd ?_ ?_ | refine wu ?_ ?_) <;> intro h <;> try simp only [h]) | simp only [↓wBA, tPv, convA, seval, pl80_16Pv, enV_len, hdec, hi0, hg, hw, hA1, hB1, hA2, hB2, hA9, hB9, eightP_len, appendA, srcA, List.length_append, List.length_cons, List.length_nil, Nat.add_assoc, Int.reduceBEq, e1, e2, e3] | ((with_reducible show ACalls _ _ _ _ _); first | refine (hok _).eq ?_ | refine (aeight _ _).eq ?_) | (with_reducible refine dP pl80_16Pv 11 (some 49) (by decide) (by kernel_rfl) ?_)
      refine ⟨⟨i + 1, by omega, ?_⟩, by show l.length - (i + 1) < l.length - i; omega, ?_⟩
      ·exact hnext hb
      ·simp only [hst]
       simp [wW, byP, Nat.add_assoc]
   ·have hdec := dF (i := i) (n := l.length) (by omega)
    have ht : l.take i = l := List.take_of_length_le (by omega)
    rw [ht] at hI
    have hall : l.all okV = true := List.all_eq_true.2 hI
    simp only [ht, hall, if_true]
    repeat' first | ((with_reducible first | refine cs ?_ ?_ | refine ws ?_ ?_ | refine wd ?_ ?_ | refine wu ?_ ?_) <;> intro h <;> try simp only [h]) | simp only [↓wBA, tPv, convA, seval, pl80_16Pv, enV_len, hdec] | (with_reducible refine dP pl80_16Pv 11 (some 49) (by decide) (by kernel_rfl) ?_)
    all_goals refine ret_is (a := _) ?_ rfl rfl
    all_goals simp only [↓wBA, tPv, convA, seval]
    all_goals simp_all [wS]
end Go.Proofs.YtcnkmandddfdmaaGreat
namespace Go.Proofs.YtcnkmandddfdmaaGreat
open Go.RowKit
def tFt := aa wX <| aa wbu <| aa T3 <| aa T39 <| aa T58 T145
def fitsV (l : List Va) : Bool := decide ((putR l).2 = 0) && decide ((putR l).1.length ≤ 392)
theorem afits (l : List Va) (σ : St) : ACalls Tryz.prog 53 [.p (.sl 3 (enV l))] σ fun r s => s = σ ∧ r = boolV (fitsV l) := by
 refine ACalls.pureF (R := fun r => r = boolV (fitsV l)) ?_ rfl σ
 have hP := aput l
 unfold fitsV
 generalize putR l = q at *
 obtain ⟨b, e⟩ := q
 simp only at hP
 refine acalls_of cx_ok dr_ok Tryz.func53 (by kernel_rfl) rfl (nt := 16) (rs := [.tmp 2]) rfl rfl ?_
 by_cases he : e = 0
 ·subst he
  repeat' first | ((with_reducible first | refine cs ?_ ?_ | refine ws ?_ ?_) <;> intro h <;> try simp only [h]) | simp only [↓wBA, tFt, convA, seval, beq_self_eq_true] | ((with_reducible show ACalls _ _ _ _ _); refine (hP _).eq ?_)
  all_goals refine ret_is (a := _) ?_ rfl rfl
  all_goals simp only [↓wBA, tFt, convA, seval]
  all_goals simp_all [wS]
  all_goals (try simp)
  all_goals (try omega)
 ·have he' : (e == 0) = false := by simpa using he
  repeat' first | ((with_reducible first | refine cs ?_ ?_ | refine ws ?_ ?_) <;> intro h <;> try simp only [h]) | simp only [↓wBA, tFt, convA, seval, he'] | ((with_reducible show ACalls _ _ _ _ _); refine (hP _).eq ?_)
  all_goals refine ret_is (a := _) ?_ rfl rfl
  all_goals simp only [↓wBA, tFt, convA, seval]
  all_goals simp_all [wS]
  all_goals (try simp [he])
end Go.Proofs.YtcnkmandddfdmaaGreat
namespace Go.Proofs.YtcnkmandddfdmaaGreat
open Go.RowKit
def tPu := aa wX <| aa wbu <| aa T2 <| aa T3 <| aa T4 <| aa T5 <| aa T9 <| aa T39 <| aa T56 <| aa T58 <| aa T145 T165
theorem w8_mod (x : Int) (h : 0 ≤ x) : IntKind.u8.wrap (x.tmod 256) = IntKind.u8.wrap x := by
 rw [Int.tmod_eq_emod_of_nonneg h]
 simp [IntKind.wrap, IntKind.bits, IntKind.signed]
theorem w64_in (x : Int) (h : 0 ≤ x) (h' : x < 18446744073709551616) : IntKind.u64.wrap x = x := by
 simp [IntKind.wrap, IntKind.bits, IntKind.signed]; omega
theorem w64_r (x : Int) : 0 ≤ IntKind.u64.wrap x ∧ IntKind.u64.wrap x < 18446744073709551616 := by
 simp [IntKind.wrap, IntKind.bits, IntKind.signed]; omega
theorem fdiv_up (u : Int) (hu : 0 ≤ u) (i : Nat) : (u.fdiv (2 ^ (8 * i))).tdiv 256 = u.fdiv (2 ^ (8 * (i + 1))) := by
 have hp : (0 : Int) < 2 ^ (8 * i) := Int.pow_pos (by decide)
 have e : (2 : Int) ^ (8 * (i + 1)) = 2 ^ (8 * i) * 256 := by rw [Nat.mul_add, Int.pow_add]; rfl
 have hp' : (0 : Int) < 2 ^ (8 * (i + 1)) := Int.pow_pos (by decide)
 rw [Int.fdiv_eq_ediv_of_nonneg _ (Int.le_of_lt hp), Int.fdiv_eq_ediv_of_nonneg _ (Int.le_of_lt hp'), e, Int.tdiv_eq_ediv_of_nonneg (Int.ediv_nonneg hu (Int.le_of_lt hp)), Int.ediv_ediv_of_nonneg (Int.le_of_lt hp)]
theorem fdiv_r (u : Int) (hu : 0 ≤ u) (hu' : u < 18446744073709551616) (i : Nat) : 0 ≤ u.fdiv (2 ^ (8 * i)) ∧ u.fdiv (2 ^ (8 * i)) < 18446744073709551616 := by
 have hp : (0 : Int) < 2 ^ (8 * i) := Int.pow_pos (by decide)
 rw [Int.fdiv_eq_ediv_of_nonneg _ (Int.le_of_lt hp)]
 exact ⟨Int.ediv_nonneg hu (Int.le_of_lt hp), Int.lt_of_le_of_lt (Int.ediv_le_self _ hu) hu'⟩
theorem aeightR (u : Int) (hu : 0 ≤ u) (hu' : u < 18446744073709551616) (σ : St) : ACalls Tryz.prog 111 [.p (.v (.int .u64 u))] σ fun r s => s = σ ∧ r = .p (.sl 1 (eightP u 8)) := by
 obtain ⟨l8, hl8⟩ : ∃ l8, l8 = eightP u 8 := ⟨_, rfl⟩
 rw [← hl8]
 refine ACalls.pureF (R := fun r => r = .p (.sl 1 l8)) ?_ rfl σ
 have hu0 : u.fdiv (2 ^ (8 * 0)) = u := by simp
 refine acalls_of cx_ok dr_ok Tryz.func111 (by kernel_rfl) rfl (nt := 17) (rs := [.tmp 2]) rfl rfl ?_
 repeat' first | ((with_reducible first | refine cs ?_ ?_ | refine ws ?_ ?_) <;> intro h <;> try simp only [h]) | simp only [↓wBA, tPu, convA, seval]
 refine awp_loopN (8) (fun i => [(3, .nown 0 1 (eightP u i)), (0, .p (.v (.int .u64 (u.fdiv (2 ^ (8 * i)))))), (4, intV .i64 (i : Nat)), (5, .any), (6, .any), (7, .any), (8, .any), (9, .any), (10, .any), (11, .any), (12, .any), (13, .any), (14, .any), (15, .any), (16, .any)]) (fun i => [(0, .nright 5 (i * 1))]) (fun i => True) ?_ ?_ ?_
 ·trivial
 ·skip
  simp only [wR, Nat.reduceAdd, Nat.reduceLT, reduceIte]
  simp [wW, eightP]
 ·intro i hi _
  simp only [wR, Nat.reduceAdd, Nat.reduceLT, reduceIte]
  by_cases hlt : i < 8
  ·have hdec : decide ((i : Int) < 8) = true := by simp; omega
   have hw := wI i (by omega)
   have hst := eightP_succ u i
   have htl := eightP_len u i
   have hlim1 := tL (n := (i + 1) * 1) (by omega)
   have hlim2 := lM (n := i + 1) (by omega)
   have z256 : ((256 : Int) = 0) = False := eq_false (by decide)
   obtain ⟨r1, r2⟩ := fdiv_r u hu hu' i
   obtain ⟨r3, r4⟩ := fdiv_r u hu hu' (i + 1)
   have hq : IntKind.u64.wrap ((u.fdiv (2 ^ (8 * i))).tdiv 256) = u.fdiv (2 ^ (8 * (i + 1))) := by rw [fdiv_up u hu i]; exact w64_in _ r3 r4
   have hm := w8_mod _ r1
   simp only [eiB] at hst
   generalize hq1 : u.fdiv (2 ^ (8 * (i + 1))) = q1 at *
   generalize u.fdiv (2 ^ (8 * i)) = q at *
   repeat' first | ((with_reducible first | refine cs ?_ ?_ | refine ws ?_ ?_) <;> intro h <;> try simp only [h]) | simp only [↓wBA, tPu, convA, seval, hdec, hw, htl, hlim1, hlim2, appendA, srcA, List.length_append, z256, hq, hm]
   refine ⟨⟨i + 1, by omega, ?_⟩, by show 8 - (i + 1) < 8 - i; omega, ?_⟩
   ·trivial
   ·simp only [hst, hq1]
    simp [wW]
  ·have hi8 : i = 8 := by omega
   subst hi8
   simp only [← hl8]
   have hdec : decide (((8 : Nat) : Int) < 8) = false := by decide
   repeat' first | ((with_reducible first | refine cs ?_ ?_ | refine ws ?_ ?_) <;> intro h <;> try simp only [h]) | simp only [↓wBA, tPu, convA, seval, hdec]
   all_goals refine ret_is (a := _) ?_ rfl rfl
   all_goals simp only [↓wBA, tPu, convA, seval]
   all_goals simp_all [wS]
theorem aeightW (n : Int) (σ : St) : ACalls Tryz.prog 111 [.p (.v (.int .u64 (IntKind.u64.wrap n)))] σ fun r s => s = σ ∧ r = .p (.sl 1 (eightP (IntKind.u64.wrap n) 8)) := aeightR _ (w64_r n).1 (w64_r n).2 σ
theorem aputR (l : List Va) (σ : St) : ACalls Tryz.prog 87 [.p (.sl 3 (enV l))] σ fun r s => s = σ ∧ r = .tup [.p (.sl 1 (putR l).1), intV .i64 (putR l).2] := by
 refine ACalls.pureF (R := fun r => r = .tup [.p (.sl 1 (putR l).1), intV .i64 (putR l).2]) ?_ rfl σ
 refine acalls_of cx_ok dr_ok Tryz.func87 (by kernel_rfl) rfl (nt := 64) (rs := [.tmp 2, .tmp 3]) rfl rfl ?_
 unfold putR
 by_cases h255 : l.length > 255
 ·have hd : decide ((l.length : Int) > 255) = true := by simp; omega
  rw [if_pos h255]
  repeat' first | ((with_reducible first | refine cs ?_ ?_ | refine ws ?_ ?_) <;> intro h <;> try simp only [h]) | simp only [↓wBA, tPu, convA, seval, enV_len, hd]
  all_goals refine ret_is (a := _) ?_ rfl rfl
  all_goals simp only [↓wBA, tPu, convA, seval]
  all_goals simp_all [wS]
 ·have hd : decide ((l.length : Int) > 255) = false := by simp; omega
  rw [if_neg h255]
  repeat' first | ((with_reducible first | refine cs ?_ ?_ | refine ws ?_ ?_) <;> intro h <;> try simp only [h]) | simp only [↓wBA, tPu, convA, seval, enV_len, hd]
  refine awp_loopN (l.length) (fun i => [(4, .own 0 1 (putL l.length (l.take i))), (5, intV .i64 (i : Nat)), (2, .any), (3, .any), (6, .any), (14, .any), (15, .any), (16, .any), (17, .any), (18, .any), (19, .any), (20, .any), (21, .any), (22, .any), (23, .any), (24, .any), (25, .any), (26, .any), (27, .any), (28, .any), (29, .any), (30, .any), (31, .any), (32, .any), (33, .any), (34, .any), (35, .any), (36, .any), (37, .any), (38, .any), (39, .any), (40, .any), (41, .any), (42, .any), (43, .any), (44, .any), (45, .any), (46, .any), (47, .any), (48, .any), (49, .any), (50, .any), (51, .any), (52, .any), (53, .any), (54, .any), (55, .any), (56, .any), (57, .any), (58, .any), (59, .any), (60, .any), (61, .any), (62, .any), (63, .any)]) (fun i => [(0, .right 5 ((putL l.length (l.take i)).length * 1))]) (fun i => ∀ v ∈ l.take i, okV v = true) ?_ ?_ ?_
  ·simp
  ·skip
   simp only [wR, Nat.reduceAdd, Nat.reduceLT, reduceIte]
   simp [wW, putL, byP]
  ·intro i hi hI
   simp only [wR, Nat.reduceAdd, Nat.reduceLT, reduceIte]
   by_cases hlt : i < l.length
   ·have hdec := dT (i := i) (n := l.length) (by omega)
    have hi0 := nnI i
    have hw := wI i (by omega)
    have hg := enV_get l i hlt
    have hst := putL_succ l.length l i hlt
    have hpl := putL_len l.length (l.take i) hI
    have htl : (l.take i).length = i := by simp; omega
    rw [htl] at hpl
    have hnext : okV l[i] = true → ∀ v ∈ l.take (i + 1), okV v = true := fun h v hv => by
     rw [List.take_succ_eq_append_getElem hlt] at hv
     rcases List.mem_append.1 hv with h1 | h1
     ·exact hI v h1
     ·simp at h1; subst h1; exact h
    have hbad : okV l[i] = false → l.all okV = false := fun h => by
     rw [List.all_eq_false]; exact ⟨_, List.getElem_mem hlt, by simp [h]⟩
    have hvl := putV_len l[i]
    have hok := aokR l[i]
    generalize hcur : putL l.length (l.take i) = cur at *
    generalize hvi : l[i] = v at *
    obtain ⟨k, n, t⟩ := v
    simp only [vaA, vaC, List.map_cons, List.map_nil] at hok hg
    cases hb : okV (k, n, t) with
    | false =>
      rw [hb] at hok
      have hf := hbad hb
      simp only [hf, Bool.false_eq_true, if_false]
      repeat' first | ((with_reducible first | refine cs ?_ ?_ | refine ws ?_ ?_) <;> intro h <;> try simp only [h]) | simp only [↓wBA, tPu, convA, seval, enV_len, hdec, hi0, hg] | ((with_reducible show ACalls _ _ _ _ _); refine (hok _).eq ?_)
      all_goals refine ret_is (a := _) ?_ rfl rfl
      all_goals simp only [↓wBA, tPu, convA, seval]
      all_goals simp_all [wS]
    | true =>
      rw [hb] at hok
      have hv66 := hvl hb
      have hA1 := tL (n := (cur.length + 1) * 1) (by omega)
      have hB1 := lM (n := cur.length + 1) (by omega)
      have hA2 := tL (n := (cur.length + 2) * 1) (by omega)
      have hB2 := lM (n := cur.length + 2) (by omega)
      have hA9 := tL (n := (cur.length + 9) * 1) (by omega)
      have hB9 := lM (n := cur.length + 9) (by omega)
      by_cases h1 : k = 1
      ·subst h1
       simp only [putV, Int.reduceEq, if_true, if_false] at hst
       repeat' first | ((with_reducible first | refine cs ?_ ?_ | refine ws ?_ ?_) <;> intro h <;> try simp only [h]) | simp only [↓wBA, tPu, convA, seval, enV_len, hdec, hi0, hg, hw, hA1, hB1, hA2, hB2, hA9, hB9, eightP_len, appendA, srcA, List.length_append, List.length_cons, List.length_nil, Nat.add_assoc, Int.reduceBEq] | ((with_reducible show ACalls _ _ _ _ _); first | refine (hok _).eq ?_ | refine (aeightW _ _).eq ?_)
       refine ⟨⟨i + 1, by omega, ?_⟩, by show l.length - (i + 1) < l.length - i; omega, ?_⟩
       ·exact hnext hb
       ·simp only [hst]
        simp [wW, byP, List.append_assoc, eightP_len, bytesP_len, Nat.add_assoc]
      by_cases h2 : k = 2
      ·subst h2
       simp only [putV, Int.reduceEq, if_true, if_false] at hst
       repeat' first | ((with_reducible first | refine cs ?_ ?_ | refine ws ?_ ?_) <;> intro h <;> try simp only [h]) | simp only [↓wBA, tPu, convA, seval, enV_len, hdec, hi0, hg, hw, hA1, hB1, hA2, hB2, hA9, hB9, eightP_len, appendA, srcA, List.length_append, List.length_cons, List.length_nil, Nat.add_assoc, Int.reduceBEq] | ((with_reducible show ACalls _ _ _ _ _); first | refine (hok _).eq ?_ | refine (aeightW _ _).eq ?_)
       refine ⟨⟨i + 1, by omega, ?_⟩, by show l.length - (i + 1) < l.length - i; omega, ?_⟩
       ·exact hnext hb
       ·simp only [hst]
        simp [wW, byP, List.append_assoc, eightP_len, bytesP_len, Nat.add_assoc]
      by_cases h3 : k = 3
      ·subst h3
       simp only [putV, Int.reduceEq, if_true, if_false] at hst
       have ht64 : t.size ≤ 64 := by simp [okV] at hb; omega
       have hA3 := tL (n := (cur.length + (2 + t.size)) * 1) (by omega)
       have hB3 := lM (n := cur.length + (2 + t.size)) (by omega)
       repeat' first | ((with_reducible first | refine cs ?_ ?_ | refine ws ?_ ?_) <;> intro h <;> try simp only [h]) | simp only [↓wBA, tPu, convA, seval, enV_len, hdec, hi0, hg, hw, hA1, hB1, hA2, hB2, hA9, hB9, eightP_len, appendA, srcA, List.length_append, List.length_cons, List.length_nil, Nat.add_assoc, Int.reduceBEq, hA3, hB3, bytesP_len, bm_appendS, app_str, ne_eq, not_false_eq_true] | ((with_reducible show ACalls _ _ _ _ _); first | refine (hok _).eq ?_ | refine (aeightW _ _).eq ?_)
       refine ⟨⟨i + 1, by omega, ?_⟩, by show l.length - (i + 1) < l.length - i; omega, ?_⟩
       ·exact hnext hb
       ·simp only [hst]
        simp [wW, byP, List.append_assoc, eightP_len, bytesP_len, Nat.add_assoc]
        omega
      simp only [putV, h1, h2, h3, if_false] at hst
      have e1 : (k == 1) = false := by simpa using h1
      have e2 : (k == 2) = false := by simpa using h2
      have e3 : (k == 3) = false := by simpa using h3
      repeat' first | ((with_reducible first | refine cs ?_ ?_ | refine ws ?_ ?_) <;> intro h <;> try simp only [h]) | simp only [↓wBA, tPu, convA, seval, enV_len, hdec, hi0, hg, hw, hA1, hB1, hA2, hB2, hA9, hB9, eightP_len, appendA, srcA, List.length_append, List.length_cons, List.length_nil, Nat.add_assoc, Int.reduceBEq, e1, e2, e3] | ((with_reducible show ACalls _ _ _ _ _); first | refine (hok _).eq ?_ | refine (aeightW _ _).eq ?_)
      refine ⟨⟨i + 1, by omega, ?_⟩, by show l.length - (i + 1) < l.length - i; omega, ?_⟩
      ·exact hnext hb
      ·simp only [hst]
       simp [wW, byP, Nat.add_assoc]
   ·have hdec := dF (i := i) (n := l.length) (by omega)
    have ht : l.take i = l := List.take_of_length_le (by omega)
    rw [ht] at hI
    have hall : l.all okV = true := List.all_eq_true.2 hI
    simp only [ht, hall, if_true]
    repeat' first | ((with_reducible first | refine cs ?_ ?_ | refine ws ?_ ?_) <;> intro h <;> try simp only [h]) | simp only [↓wBA, tPu, convA, seval, enV_len, hdec]
    all_goals refine ret_is (a := _) ?_ rfl rfl
    all_goals simp only [↓wBA, tPu, convA, seval]
    all_goals simp_all [wS]
theorem afitsR (l : List Va) (σ : St) : ACalls Tryz.prog 56 [.p (.sl 3 (enV l))] σ fun r s => s = σ ∧ r = boolV (fitsV l) := by
 refine ACalls.pureF (R := fun r => r = boolV (fitsV l)) ?_ rfl σ
 have hP := aputR l
 unfold fitsV
 generalize putR l = q at *
 obtain ⟨b, e⟩ := q
 simp only at hP
 refine acalls_of cx_ok dr_ok Tryz.func56 (by kernel_rfl) rfl (nt := 16) (rs := [.tmp 2]) rfl rfl ?_
 by_cases he : e = 0
 ·subst he
  repeat' first | ((with_reducible first | refine cs ?_ ?_ | refine ws ?_ ?_) <;> intro h <;> try simp only [h]) | simp only [↓wBA, tPu, convA, seval, beq_self_eq_true] | ((with_reducible show ACalls _ _ _ _ _); refine (hP _).eq ?_)
  all_goals refine ret_is (a := _) ?_ rfl rfl
  all_goals simp only [↓wBA, tPu, convA, seval]
  all_goals simp_all [wS]
  all_goals (try simp)
  all_goals (try omega)
 ·have he' : (e == 0) = false := by simpa using he
  repeat' first | ((with_reducible first | refine cs ?_ ?_ | refine ws ?_ ?_) <;> intro h <;> try simp only [h]) | simp only [↓wBA, tPu, convA, seval, he'] | ((with_reducible show ACalls _ _ _ _ _); refine (hP _).eq ?_)
  all_goals refine ret_is (a := _) ?_ rfl rfl
  all_goals simp only [↓wBA, tPu, convA, seval]
  all_goals simp_all [wS]
  all_goals (try simp [he])
end Go.Proofs.YtcnkmandddfdmaaGreat
