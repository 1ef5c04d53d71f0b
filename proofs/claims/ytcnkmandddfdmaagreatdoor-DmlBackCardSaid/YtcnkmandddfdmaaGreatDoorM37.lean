/- Values written. Do values fit into a record? dml.sound. -/
import Derived.Test.YtcnkmandddfdmaaGreatDoorM36
import Derived.Test.YtcnkmandddfdmaaGreatDoorM34
import Derived.Test.YtcnkmandddfdmaaGreatDoorM21
set_option linter.unusedSimpArgs false
set_option linter.unusedVariables false
set_option linter.defProp false
set_option maxRecDepth 100000
set_option maxHeartbeats 32000000
namespace Go.Proofs.YtcnkmandddfdmaaGreatDoor
open Go.RowKit
def pl92_16Pv : Plan := (.det 0 (.det 1 (.det 2 (.det 3 (.det 4 (.det 7 (.det 8 (.act 5 (.act 6 (.fin 9 (.det 10 .done)))))))))))
def tPv := aa wX <| aa wbu <| aa T2 <| aa T3 <| aa T4 <| aa T5 <| aa T9 <| aa T39 <| aa T41 <| aa T92 T142
def byP (n : Int) : List PV := [.v (.int .u8 (IntKind.u8.wrap n))]
def putV (v : Va) : List (List PV) := byP v.1 :: (if v.1 = 1 then eightP (IntKind.u64.wrap v.2.1) 8 else if v.1 = 2 then [byP v.2.1] else if v.1 = 3 then byP (v.2.2.size : Nat) :: bytesP v.2.2 else [])
def putL (n : Nat) (l : List Va) : List (List PV) := byP (n : Nat) :: (l.map putV).flatten
def putR (l : List Va) : List (List PV) × Int := if l.length > 255 then ([], 3) else if l.all okV = true then (putL l.length l, 0) else ([], 1)
theorem bytesP_len (s : ByteArray) : (bytesP s).length = s.size := by unfold bytesP; rw [List.length_map, Array.length_toList]; rfl
theorem putV_len (v : Va) (h : okV v = true) : (putV v).length ≤ 66 := by
 obtain ⟨k, n, t⟩ := v
 simp only [putV, okV] at *
 split
 ·simp [eightP_len]
 ·split
  ·simp
  ·split
   ·rename_i h1 h2 h3
    subst h3
    simp at h
    simp [bytesP_len]
    omega
   ·simp
theorem putL_len (n : Nat) : ∀ l : List Va, (∀ v ∈ l, okV v = true) → (putL n l).length ≤ 1 + l.length * 66
 | [], _ => by simp [putL]
 | v :: l, h => by
   have := putL_len n l fun x hx => h x (by simp [hx])
   have h1 := putV_len v (h v (by simp))
   simp only [putL, List.map_cons, List.flatten_cons, List.length_cons, List.length_append] at *
   omega
theorem putL_succ (n : Nat) (l : List Va) (i : Nat) (h : i < l.length) : putL n (l.take (i + 1)) = putL n (l.take i) ++ putV l[i] := by
 rw [List.take_succ_eq_append_getElem h]
 simp only [putL, List.map_append, List.flatten_append, List.map_cons, List.map_nil, List.flatten_cons, List.flatten_nil, List.append_nil, List.cons_append]
theorem aput (l : List Va) (σ : St) : ACalls Tryz.prog 92 [.p (.sl 3 (enV l))] σ fun r s => s = σ ∧ r = .tup [.p (.sl 1 (putR l).1), intV .i64 (putR l).2] := by
 refine ACalls.pureF (R := fun r => r = .tup [.p (.sl 1 (putR l).1), intV .i64 (putR l).2]) ?_ rfl σ
 refine acalls_of cx_ok dr_ok Tryz.func92 (by kernel_rfl) rfl (nt := 60) (rs := [.tmp 2, .tmp 3]) rfl rfl ?_
 unfold putR
 by_cases h255 : l.length > 255
 ·have hd : decide ((l.length : Int) > 255) = true := by simp; omega
  rw [if_pos h255]
  repeat' first | ((with_reducible first | refine cs ?_ ?_ | refine ws ?_ ?_ | refine wd ?_ ?_ | refine wu ?_ ?_) <;> intro h <;> try simp only [h]) | simp only [↓wBA, tPv, convA, seval, pl92_16Pv, enV_len, hd] | (with_reducible refine dP pl92_16Pv 11 (some 49) (by decide) (by kernel_rfl) ?_)
  all_goals refine ret_is (a := _) ?_ rfl rfl
  all_goals simp only [↓wBA, tPv, convA, seval]
  all_goals simp_all [wS]
 ·have hd : decide ((l.length : Int) > 255) = false := by simp; omega
  rw [if_neg h255]
  repeat' first | ((with_reducible first | refine cs ?_ ?_ | refine ws ?_ ?_ | refine wd ?_ ?_ | refine wu ?_ ?_) <;> intro h <;> try simp only [h]) | simp only [↓wBA, tPv, convA, seval, pl92_16Pv, enV_len, hd] | (with_reducible refine dP pl92_16Pv 11 (some 49) (by decide) (by kernel_rfl) ?_)
  refine awp_loopN (l.length) (fun i => [(4, .own 0 1 (putL l.length (l.take i))), (16, intV .i64 (i : Nat)), (2, .any), (3, .any), (6, .any), (17, .any), (18, .any), (19, .any), (20, .any), (21, .any), (22, .any), (23, .any), (24, .any), (25, .any), (26, .any), (27, .any), (28, .any), (29, .any), (30, .any), (31, .any), (32, .any), (33, .any), (34, .any), (35, .any), (36, .any), (37, .any), (38, .any), (39, .any), (40, .any), (41, .any), (42, .any), (43, .any), (44, .any), (45, .any), (46, .any), (47, .any), (48, .any), (49, .any), (50, .any), (51, .any), (52, .any), (53, .any), (54, .any), (55, .any), (56, .any), (57, .any), (58, .any), (59, .any)]) (fun i => [(0, .right 5 ((putL l.length (l.take i)).length * 1))]) (fun i => ∀ v ∈ l.take i, okV v = true) ?_ ?_ ?_
  ·simp
  ·skip
   simp only [wR, Nat.reduceAdd, Nat.reduceLT, reduceIte]
   simp [wW, putL, byP]
  ·intro i hi hI
   simp only [wR, Nat.reduceAdd, Nat.reduceLT, reduceIte]
   by_cases hlt : i < l.length
   ·have hdec := dT (i := i) (n := l.length) (by omega)
    have hi0 := nnI i
    have hw := wI i (by omega)
    have hg := enV_get l i hlt
    have hst := putL_succ l.length l i hlt
    have hpl := putL_len l.length (l.take i) hI
    have htl : (l.take i).length = i := by simp; omega
    rw [htl] at hpl
    have hnext : okV l[i] = true → ∀ v ∈ l.take (i + 1), okV v = true := fun h v hv => by
     rw [List.take_succ_eq_append_getElem hlt] at hv
     rcases List.mem_append.1 hv with h1 | h1
     ·exact hI v h1
     ·simp at h1; subst h1; exact h
    have hbad : okV l[i] = false → l.all okV = false := fun h => by
     rw [List.all_eq_false]; exact ⟨_, List.getElem_mem hlt, by simp [h]⟩
    have hvl := putV_len l[i]
    have hok := aokV l[i]
    generalize hcur : putL l.length (l.take i) = cur at *
    generalize hvi : l[i] = v at *
    obtain ⟨k, n, t⟩ := v
    simp only [vaA, vaC, List.map_cons, List.map_nil] at hok hg
    cases hb : okV (k, n, t) with
    | false =>
      rw [hb] at hok
      have hf := hbad hb
      simp only [hf, Bool.false_eq_true, if_false]
      repeat' first | ((with_reducible first | refine cs ?_ ?_ | refine ws ?_ ?_ | refine wd ?_ ?_ | refine wu ?_ ?_) <;> intro h <;> try simp only [h]) | simp only [↓wBA, tPv, convA, seval, pl92_16Pv, enV_len, hdec, hi0, hg] | ((with_reducible show ACalls _ _ _ _ _); refine (hok _).eq ?_) | (with_reducible refine dP pl92_16Pv 11 (some 49) (by decide) (by kernel_rfl) ?_)
      all_goals refine ret_is (a := _) ?_ rfl rfl
      all_goals simp only [↓wBA, tPv, convA, seval]
      all_goals simp_all [wS]
    | true =>
      rw [hb] at hok
      have hv66 := hvl hb
      have hA1 := tL (n := (cur.length + 1) * 1) (by omega)
      have hB1 := lM (n := cur.length + 1) (by omega)
      have hA2 := tL (n := (cur.length + 2) * 1) (by omega)
      have hB2 := lM (n := cur.length + 2) (by omega)
      have hA9 := tL (n := (cur.length + 9) * 1) (by omega)
      have hB9 := lM (n := cur.length + 9) (by omega)
      by_cases h1 : k = 1
      ·subst h1
       simp only [putV, Int.reduceEq, if_true, if_false] at hst
       repeat' first | ((with_reducible first | refine cs ?_ ?_ | refine ws ?_ ?_ | refine wd ?_ ?_ | refine wu ?_ ?_) <;> intro h <;> try simp only [h]) | simp only [↓wBA, tPv, convA, seval, pl92_16Pv, enV_len, hdec, hi0, hg, hw, hA1, hB1, hA2, hB2, hA9, hB9, eightP_len, appendA, srcA, List.length_append, List.length_cons, List.length_nil, Nat.add_assoc, Int.reduceBEq] | ((with_reducible show ACalls _ _ _ _ _); first | refine (hok _).eq ?_ | refine (aeight _ _).eq ?_) | (with_reducible refine dP pl92_16Pv 11 (some 49) (by decide) (by kernel_rfl) ?_)
       refine ⟨⟨i + 1, by omega, ?_⟩, by show l.length - (i + 1) < l.length - i; omega, ?_⟩
       ·exact hnext hb
       ·simp only [hst]
        simp [wW, byP, List.append_assoc, eightP_len, bytesP_len, Nat.add_assoc]
      by_cases h2 : k = 2
      ·subst h2
       simp only [putV, Int.reduceEq, if_true, if_false] at hst
       repeat' first | ((with_reducible first | refine cs ?_ ?_ | refine ws ?_ ?_ | refine wd ?_ ?_ | refine wu ?_ ?_) <;> intro h <;> try simp only [h]) | simp only [↓wBA, tPv, convA, seval, pl92_16Pv, enV_len, hdec, hi0, hg, hw, hA1, hB1, hA2, hB2, hA9, hB9, eightP_len, appendA, srcA, List.length_append, List.length_cons, List.length_nil, Nat.add_assoc, Int.reduceBEq] | ((with_reducible show ACalls _ _ _ _ _); first | refine (hok _).eq ?_ | refine (aeight _ _).eq ?_) | (with_reducible refine dP pl92_16Pv 11 (some 49) (by decide) (by kernel_rfl) ?_)
       refine ⟨⟨i + 1, by omega, ?_⟩, by show l.length - (i + 1) < l.length - i; omega, ?_⟩
       ·exact hnext hb
       ·simp only [hst]
        simp [wW, byP, List.append_assoc, eightP_len, bytesP_len, Nat.add_assoc]
      by_cases h3 : k = 3
      ·subst h3
       simp only [putV, Int.reduceEq, if_true, if_false] at hst
       have ht64 : t.size ≤ 64 := by simp [okV] at hb; omega
       have hA3 := tL (n := (cur.length + (2 + t.size)) * 1) (by omega)
       have hB3 := lM (n := cur.length + (2 + t.size)) (by omega)
       repeat' first | ((with_reducible first | refine cs ?_ ?_ | refine ws ?_ ?_ | refine wd ?_ ?_ | refine wu ?_ ?_) <;> intro h <;> try simp only [h]) | simp only [↓wBA, tPv, convA, seval, pl92_16Pv, enV_len, hdec, hi0, hg, hw, hA1, hB1, hA2, hB2, hA9, hB9, eightP_len, appendA, srcA, List.length_append, List.length_cons, List.length_nil, Nat.add_assoc, Int.reduceBEq, hA3, hB3, bytesP_len, bm_appendS, app_str, ne_eq, not_false_eq_true] | ((with_reducible show ACalls _ _ _ _ _); first | refine (hok _).eq ?_ | refine (aeight _ _).eq ?_) | (with_reducible refine dP pl92_16Pv 11 (some 49) (by decide) (by kernel_rfl) ?_)
       refine ⟨⟨i + 1, by omega, ?_⟩, by show l.length - (i + 1) < l.length - i; omega, ?_⟩
       ·exact hnext hb
       ·simp only [hst]
        simp [wW, byP, List.append_assoc, eightP_len, bytesP_len, Nat.add_assoc]
        omega
      simp only [putV, h1, h2, h3, if_false] at hst
      have e1 : (k == 1) = false := by simpa using h1
      have e2 : (k == 2) = false := by simpa using h2
      have e3 : (k == 3) = false := by simpa using h3
      repeat' first | ((with_reducible first | refine cs ?_ ?_ | refine ws ?_ ?_ | refine wd ?_ ?_ | refine wu ?_ ?_) <;> intro h <;> try simp only [h]) | simp only [↓wBA, tPv, convA, seval, pl92_16Pv, enV_len, hdec, hi0, hg, hw, hA1, hB1, hA2, hB2, hA9, hB9, eightP_len, appendA, srcA, List.length_append, List.length_cons, List.length_nil, Nat.add_assoc, Int.reduceBEq, e1, e2, e3] | ((with_reducible show ACalls _ _ _ _ _); first | refine (hok _).eq ?_ | refine (aeight _ _).eq ?_) | (with_reducible refine dP pl92_16Pv 11 (some 49) (by decide) (by kernel_rfl) ?_)
      refine ⟨⟨i + 1, by omega, ?_⟩, by show l.length - (i + 1) < l.length - i; omega, ?_⟩
      ·exact hnext hb
      ·simp only [hst]
       simp [wW, byP, Nat.add_assoc]
   ·have hdec := dF (i := i) (n := l.length) (by omega)
    have ht : l.take i = l := List.take_of_length_le (by omega)
    rw [ht] at hI
    have hall : l.all okV = true := List.all_eq_true.2 hI
    simp only [ht, hall, if_true]
    repeat' first | ((with_reducible first | refine cs ?_ ?_ | refine ws ?_ ?_ | refine wd ?_ ?_ | refine wu ?_ ?_) <;> intro h <;> try simp only [h]) | simp only [↓wBA, tPv, convA, seval, pl92_16Pv, enV_len, hdec] | (with_reducible refine dP pl92_16Pv 11 (some 49) (by decide) (by kernel_rfl) ?_)
    all_goals refine ret_is (a := _) ?_ rfl rfl
    all_goals simp only [↓wBA, tPv, convA, seval]
    all_goals simp_all [wS]
end Go.Proofs.YtcnkmandddfdmaaGreatDoor
namespace Go.Proofs.YtcnkmandddfdmaaGreatDoor
open Go.RowKit
def tFt := aa wX <| aa wbu <| aa T3 <| aa T39 <| aa T45 T92
def fitsV (l : List Va) : Bool := decide ((putR l).2 = 0) && decide ((putR l).1.length ≤ 392)
theorem afits (l : List Va) (σ : St) : ACalls Tryz.prog 65 [.p (.sl 3 (enV l))] σ fun r s => s = σ ∧ r = boolV (fitsV l) := by
 refine ACalls.pureF (R := fun r => r = boolV (fitsV l)) ?_ rfl σ
 have hP := aput l
 unfold fitsV
 generalize putR l = q at *
 obtain ⟨b, e⟩ := q
 simp only at hP
 refine acalls_of cx_ok dr_ok Tryz.func65 (by kernel_rfl) rfl (nt := 16) (rs := [.tmp 2]) rfl rfl ?_
 by_cases he : e = 0
 ·subst he
  repeat' first | ((with_reducible first | refine cs ?_ ?_ | refine ws ?_ ?_) <;> intro h <;> try simp only [h]) | simp only [↓wBA, tFt, convA, seval, beq_self_eq_true] | ((with_reducible show ACalls _ _ _ _ _); refine (hP _).eq ?_)
  all_goals refine ret_is (a := _) ?_ rfl rfl
  all_goals simp only [↓wBA, tFt, convA, seval]
  all_goals simp_all [wS]
  all_goals (try simp)
  all_goals (try omega)
 ·have he' : (e == 0) = false := by simpa using he
  repeat' first | ((with_reducible first | refine cs ?_ ?_ | refine ws ?_ ?_) <;> intro h <;> try simp only [h]) | simp only [↓wBA, tFt, convA, seval, he'] | ((with_reducible show ACalls _ _ _ _ _); refine (hP _).eq ?_)
  all_goals refine ret_is (a := _) ?_ rfl rfl
  all_goals simp only [↓wBA, tFt, convA, seval]
  all_goals simp_all [wS]
  all_goals (try simp [he])
end Go.Proofs.YtcnkmandddfdmaaGreatDoor
namespace Go.Proofs.YtcnkmandddfdmaaGreatDoor
open Go.RowKit
def tSd := aa wX <| aa wbu <| aa T3 <| aa T4 <| aa T22 <| aa T24 <| aa T25 <| aa T39 <| aa T41 T44
def nnOk (cols : List Tc) (r : List Va) : Bool := (cols.zip r).all fun q => !(q.1.2.2.1 && (q.2.1 == 0))
def rowOk (cols : List Tc) (r : List Va) : Bool := nnOk cols r && fitsV r
def soundS (cols : List Tc) (rows : List (List Va)) : Int := if rows.all (rowOk cols) = true then 0 else 34
theorem nnOk_bad (cols : List Tc) (r : List Va) (i : Nat) (h : i < cols.length) (h' : i < r.length) (hb : (cols[i].2.2.1 && (r[i].1 == 0)) = true) : nnOk cols r = false := by
 unfold nnOk
 rw [List.all_eq_false]
 refine ⟨(cols[i], r[i]), ?_, by simp [hb]⟩
 rw [List.mem_iff_getElem]
 exact ⟨i, by simp; omega, by simp⟩
theorem nnOk_ok (cols : List Tc) (r : List Va) (hb : ∀ j (h : j < cols.length) (h' : j < r.length), (cols[j].2.2.1 && (r[j].1 == 0)) = false) : nnOk cols r = true := by
 unfold nnOk
 rw [List.all_eq_true]
 intro q hq
 obtain ⟨i, hi, rfl⟩ := List.mem_iff_getElem.1 hq
 simp at hi
 rw [List.getElem_zip]
 show (!(cols[i].2.2.1 && (r[i].1 == 0))) = true
 rw [hb i (by omega) (by omega)]; rfl
theorem soundS_bad (cols : List Tc) (rows : List (List Va)) (i : Nat) (h : i < rows.length) (hb : rowOk cols rows[i] = false) : soundS cols rows = 34 := by
 unfold soundS
 rw [if_neg]
 intro he
 rw [List.all_eq_true] at he
 rw [he _ (List.getElem_mem h)] at hb
 simp at hb
theorem asound (rows : List (List Va)) (nm : ByteArray) (cols : List Tc) (hrl : rows.length ≤ 4398046511104) (hcl : cols.length ≤ 4398046511104) (hr : ∀ r ∈ rows, r.length = cols.length) (σ : St) : ACalls Tryz.prog 34 [.p (.sl 1 (enVV rows)), tbA nm cols] σ fun r s => s = σ ∧ r = intV .i64 (soundS cols rows) := by
 refine ACalls.pureF (R := fun r => r = intV .i64 (soundS cols rows)) ?_ rfl σ
 refine acalls_of cx_ok dr_ok Tryz.func34 (by kernel_rfl) rfl (nt := 36) (rs := [.tmp 4]) rfl rfl ?_
 simp only [tbA]
 repeat' first | ((with_reducible first | refine cs ?_ ?_ | refine ws ?_ ?_) <;> intro h <;> try simp only [h]) | simp only [↓wBA, tSd, convA, seval, enVV_len]
 refine awp_loopN (rows.length) (fun i => [(11, intV .i64 (i : Nat)), (4, .any), (6, .any), (7, .any), (8, .any), (12, .any), (13, .any), (14, .any), (15, .any), (16, .any), (17, .any), (18, .any), (19, .any), (20, .any), (21, .any), (22, .any), (23, .any), (24, .any), (25, .any), (26, .any), (27, .any), (28, .any), (29, .any), (30, .any), (31, .any), (32, .any), (33, .any), (34, .any), (35, .any), (36, .any), (37, .any)]) (fun i => []) (fun i => ∀ r ∈ rows.take i, rowOk cols r = true) ?_ ?_ ?_
 ·simp
 ·skip
  simp only [wR, Nat.reduceAdd, Nat.reduceLT, reduceIte]
  simp [wW]
 ·intro i hi hI
  simp only [wR, Nat.reduceAdd, Nat.reduceLT, reduceIte]
  by_cases hlt : i < rows.length
  ·have hdec := dT (i := i) (n := rows.length) (by omega)
   have hi0 := nnI i
   have hw := wI i (by omega)
   have hg := enVV_get rows i hlt
   have hrow := hr rows[i] (List.getElem_mem hlt)
   have hbad := soundS_bad cols rows i hlt
   have hnext : rowOk cols rows[i] = true → ∀ r ∈ rows.take (i + 1), rowOk cols r = true := fun h r hr => by
    rw [List.take_succ_eq_append_getElem hlt] at hr
    rcases List.mem_append.1 hr with h1 | h1
    ·exact hI r h1
    ·simp at h1; subst h1; exact h
   repeat' first | ((with_reducible first | refine cs ?_ ?_ | refine ws ?_ ?_) <;> intro h <;> try simp only [h]) | simp only [↓wBA, tSd, convA, seval, enVV_len, enTc_len, hdec, hi0, hg]
   refine awp_loopN (cols.length) (fun k => [(18, intV .i64 (k : Nat)), (4, .any), (7, .any), (8, .any), (19, .any), (20, .any), (21, .any), (22, .any), (23, .any), (24, .any), (25, .any), (26, .any), (27, .any), (28, .any), (29, .any), (30, .any), (31, .any), (32, .any), (33, .any)]) (fun k => []) (fun k => ∀ j (h : j < k) (h1 : j < cols.length) (h2 : j < rows[i].length), (cols[j].2.2.1 && (rows[i][j].1 == 0)) = false) ?_ ?_ ?_
   ·intro j hj; omega
   ·skip
    simp only [wR, Nat.reduceAdd, Nat.reduceLT, reduceIte]
    simp [wW]
   ·intro k hk hK
    simp only [wR, Nat.reduceAdd, Nat.reduceLT, reduceIte]
    by_cases hltk : k < cols.length
    ·have hdk := dT (i := k) (n := cols.length) (by omega)
     have hk0 := nnI k
     have hwk := wI k (by omega)
     have hkr : k < rows[i].length := by omega
     have hgt := enTc_get cols k hltk
     have hgr := enV_get rows[i] k hkr
     have hb1 : (cols[k].2.2.1 && (rows[i][k].1 == 0)) = true → soundS cols rows = 34 := fun h => hbad (by unfold rowOk; rw [nnOk_bad cols rows[i] k hltk hkr h]; rfl)
     have hn1 : (cols[k].2.2.1 && (rows[i][k].1 == 0)) = false → ∀ j (h : j < k + 1) (h1 : j < cols.length) (h2 : j < rows[i].length), (cols[j].2.2.1 && (rows[i][j].1 == 0)) = false := fun h j hj h1 h2 => by
      by_cases e : j = k
      ·subst e; exact h
      ·exact hK j (by omega) h1 h2
     rcases hc : cols[k] with ⟨c1, c2, c3, c4⟩
     rcases hv : rows[i][k] with ⟨v1, v2, v3⟩
     rw [hc] at hgt hb1 hn1
     rw [hv] at hgr hb1 hn1
     simp only [tcC, vaC] at hgt hgr hb1 hn1
     cases c3
     ·skip
      repeat' first | ((with_reducible first | refine cs ?_ ?_ | refine ws ?_ ?_) <;> intro h <;> try simp only [h]) | simp only [↓wBA, tSd, convA, seval, enV_len, enTc_len, hdk, hk0, hwk, hgt, hgr]
      refine ⟨⟨k + 1, by omega, ?_⟩, by show cols.length - (k + 1) < cols.length - k; omega, ?_⟩
      ·exact hn1 rfl
      ·skip
       simp [wW]
     ·by_cases h0 : v1 = 0
      ·have h0' : (v1 == 0) = true := by simpa using h0
       have hf := hb1 (by rw [h0']; rfl)
       simp only [hf]
       repeat' first | ((with_reducible first | refine cs ?_ ?_ | refine ws ?_ ?_) <;> intro h <;> try simp only [h]) | simp only [↓wBA, tSd, convA, seval, enV_len, enTc_len, hdk, hk0, hwk, hgt, hgr, h0']
       all_goals refine ret_is (a := _) ?_ rfl rfl
       all_goals simp only [↓wBA, tSd, convA, seval]
       all_goals simp_all [wS]
      ·have h0' : (v1 == 0) = false := by simpa using h0
       repeat' first | ((with_reducible first | refine cs ?_ ?_ | refine ws ?_ ?_) <;> intro h <;> try simp only [h]) | simp only [↓wBA, tSd, convA, seval, enV_len, enTc_len, hdk, hk0, hwk, hgt, hgr, h0']
       refine ⟨⟨k + 1, by omega, ?_⟩, by show cols.length - (k + 1) < cols.length - k; omega, ?_⟩
       ·exact hn1 (by rw [h0']; rfl)
       ·skip
        simp [wW]
    ·have hdk := dF (i := k) (n := cols.length) (by omega)
     have hnn := nnOk_ok cols rows[i] fun j h1 h2 => hK j (by omega) h1 h2
     have hF := afits rows[i]
     have hro : rowOk cols rows[i] = fitsV rows[i] := by unfold rowOk; rw [hnn]; rfl
     rw [hro] at hbad hnext
     cases hfv : fitsV rows[i] with
     | false =>
       rw [hfv] at hF
       have hf := hbad hfv
       simp only [hf]
       repeat' first | ((with_reducible first | refine cs ?_ ?_ | refine ws ?_ ?_) <;> intro h <;> try simp only [h]) | simp only [↓wBA, tSd, convA, seval, hdk] | ((with_reducible show ACalls _ _ _ _ _); refine (hF _).eq ?_)
       all_goals refine ret_is (a := _) ?_ rfl rfl
       all_goals simp only [↓wBA, tSd, convA, seval]
       all_goals simp_all [wS]
     | true =>
       rw [hfv] at hF
       repeat' first | ((with_reducible first | refine cs ?_ ?_ | refine ws ?_ ?_) <;> intro h <;> try simp only [h]) | simp only [↓wBA, tSd, convA, seval, hdk, hw] | ((with_reducible show ACalls _ _ _ _ _); refine (hF _).eq ?_)
       refine ⟨⟨i + 1, by omega, ?_⟩, by show rows.length - (i + 1) < rows.length - i; omega, ?_⟩
       ·exact hnext hfv
       ·skip
        simp [wW]
  ·have hdec := dF (i := i) (n := rows.length) (by omega)
   have ht : rows.take i = rows := List.take_of_length_le (by omega)
   rw [ht] at hI
   have hs : soundS cols rows = 0 := by unfold soundS; rw [if_pos (List.all_eq_true.2 hI)]
   simp only [hs]
   repeat' first | ((with_reducible first | refine cs ?_ ?_ | refine ws ?_ ?_) <;> intro h <;> try simp only [h]) | simp only [↓wBA, tSd, convA, seval, enVV_len, hdec]
   all_goals refine ret_is (a := _) ?_ rfl rfl
   all_goals simp only [↓wBA, tSd, convA, seval]
   all_goals simp_all [wS]
end Go.Proofs.YtcnkmandddfdmaaGreatDoor
