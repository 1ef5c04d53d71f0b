/- cadastrelaw23.right: what it tells of an ask. Rows compared. -/
import Derived.Test.YtcnkmandddfdmaaGreatDoorM38
import Derived.Test.YtcnkmandddfdmaaGreatDoorM39
import Derived.Test.YtcnkmandddfdmaaGreatDoorM20
import Derived.Test.YtcnkmandddfdmaaGreatDoorM21
set_option linter.unusedSimpArgs false
set_option linter.unusedVariables false
set_option linter.defProp false
set_option maxRecDepth 100000
set_option maxHeartbeats 32000000
namespace Go.Proofs.YtcnkmandddfdmaaGreatDoor
open Go.RowKit
def pl5_12Rt : Plan := (.det 0 (.det 1 (.det 2 (.det 3 (.det 4 (.det 5 (.det 6 (.det 7 (.det 8 (.det 9 (.det 10 (.det 11 (.det 12 (.det 13 (.det 14 .done)))))))))))))))
def pl5_17Rt : Plan := (.det 0 (.det 1 (.det 2 (.det 3 (.det 4 (.det 5 (.det 6 (.det 7 (.det 8 (.det 9 (.det 10 .done)))))))))))
def pl5_23Rt : Plan := (.det 0 (.fin 1 (.det 2 (.det 3 (.det 4 (.det 5 (.det 6 (.det 7 (.det 8 (.det 9 (.det 10 (.det 11 (.det 12 (.det 13 (.det 14 (.det 15 (.det 16 (.det 17 (.det 18 (.det 19 .done))))))))))))))))))))
def tRt := aa wX <| aa wbu <| aa T3 <| aa T4 <| aa T9 <| aa T22 <| aa T24 <| aa T25 <| aa T27 <| aa T36 <| aa T39 <| aa T41 <| aa T44 T45
theorem smC_len (s : Sm) : (smC s).length = 14 := rfl
theorem smC_tok (s : Sm) (n : Nat) : tokLtL n ((smC s).map .p) = true := rfl
def valsR (cols : List Tc) (r : List Va) (n : Nat) : Prop := ∀ j (_ : j < n) (h1 : j < r.length) (h2 : j < cols.length), okV r[j] = true ∧ (r[j].1 = 0 ∨ r[j].1 = cols[j].2.1)
def rowsR (cols : List Tc) (rows : List (List Va)) : Prop := ∀ r ∈ rows, r.length = cols.length ∧ valsR cols r r.length
def namesR (cols : List Tc) (n : Nat) : Prop := ∀ k (_ : k < n) (h1 : k < cols.length), (1 ≤ cols[k].2.1 ∧ cols[k].2.1 ≤ 3) ∧ ∀ i (h : i < k), cols[i].1 ≠ cols[k].1
def RightR (cols : List Tc) (rows : List (List Va)) (r : AV) : Prop := ∃ (s : Sm) (b : Bool), r = .tup [.agg ((smC s).map .p), boolV b] ∧ (s.kind = 5 → s.names.length = s.sets.length ∧ s.names ≠ []) ∧ Bd s ∧ (b = true → rows.length ≤ 500 ∧ namesR cols cols.length ∧ rowsR cols rows)
theorem right_end {C : Ctx} {fr : List AV} {σ : St} {rs : List ResultVar} {cols : List Tc} {rows : List (List Va)} {s : Sm} {b : Bool} {e : Exit} (h1 : resA C rs fr σ = some (.tup [.agg ((smC s).map .p), boolV b])) (h4 : RightR cols rows (.tup [.agg ((smC s).map .p), boolV b])) (he : e = .ret ∨ e = .normal := by first | exact .inl rfl | exact .inr rfl) :
 retA C rs 0 (fun r _ => tokLt 0 (frzA r) = true ∧ RightR cols rows (frzA r)) e fr σ :=
 ret_sl (R := RightR cols rows) (r1 := .tup [.agg ((smC s).map .p), boolV b]) h1 (by simp [leT, leG, leC, leA, leM, intV, tokLt, tokLtL, smC, leaf, boolV]) rfl h4 he
theorem aright_of (txt nm : ByteArray) (hP : ∀ σ, ACalls Tryz.prog 7 [.p (.v (.string txt))] σ fun r s => s = σ ∧ ParseR r) (cols : List Tc) (rows : List (List Va)) (hcl : cols.length ≤ 4398046511104) (hrl : rows.length ≤ 140737488351232) (σ : St) : ACalls Tryz.prog 5 [.agg [.p (.v (.string txt)), .p (.v (.string nm)), .p (.sl 4 (enTc cols)), .p (.sl 1 (enVV rows))]] σ fun r s => s = σ ∧ RightR cols rows r := by
 refine ACalls.pureF (R := RightR cols rows) ?_ rfl σ
 refine acalls_of cx_ok dr_ok Tryz.func5 (by kernel_rfl) rfl (nt := 132) (rs := [.cell 2 36, .tmp 3]) rfl rfl ?_
 simp only [↓wBA, tRt, convA, seval]
 refine (hP _).mono ?_
 rintro _ _ ⟨rfl, s, e, rfl, hs1, hs2⟩
 have hend0 : RightR cols rows (.tup [.agg ((smC s).map .p), boolV false]) := ⟨s, false, rfl, hs1, hs2, by simp⟩
 by_cases he : e = 0
 ·subst he
  by_cases h500 : rows.length > 500
  ·have hd : decide ((rows.length : Int) > 500) = true := by simp; omega
   repeat' first | ((with_reducible first | refine cs ?_ ?_ | refine ws ?_ ?_ | refine wd ?_ ?_ | refine wu ?_ ?_) <;> intro h <;> try simp only [h]) | simp only [↓wBA, tRt, convA, seval, pl5_12Rt, pl5_17Rt, pl5_23Rt, smC_len, List.length_map, enVV_len, hd, bne_self_eq_false] | (with_reducible refine dP pl5_12Rt 15 (some 58) (by decide) (by kernel_rfl) ?_) | (with_reducible refine dP pl5_17Rt 11 (some 81) (by decide) (by kernel_rfl) ?_) | (with_reducible refine dP pl5_23Rt 20 (some 111) (by decide) (by kernel_rfl) ?_)
   all_goals exact right_end rfl hend0
  ·have hd : decide ((rows.length : Int) > 500) = false := by simp; omega
   repeat' first | ((with_reducible first | refine cs ?_ ?_ | refine ws ?_ ?_ | refine wd ?_ ?_ | refine wu ?_ ?_) <;> intro h <;> try simp only [h]) | simp only [↓wBA, tRt, convA, seval, pl5_12Rt, pl5_17Rt, pl5_23Rt, smC_len, List.length_map, enVV_len, hd, bne_self_eq_false] | (with_reducible refine dP pl5_12Rt 15 (some 58) (by decide) (by kernel_rfl) ?_) | (with_reducible refine dP pl5_17Rt 11 (some 81) (by decide) (by kernel_rfl) ?_) | (with_reducible refine dP pl5_23Rt 20 (some 111) (by decide) (by kernel_rfl) ?_)
   refine awp_loopN (cols.length) (fun i => [(6, intV .i64 (i : Nat)), (3, .any), (7, .any), (26, .any), (27, .any), (28, .any), (29, .any), (30, .any), (31, .any), (32, .any), (33, .any), (34, .any), (35, .any), (36, .any), (37, .any), (38, .any), (39, .any), (40, .any), (41, .any), (42, .any), (43, .any), (44, .any), (45, .any), (46, .any), (47, .any), (48, .any), (49, .any), (50, .any), (51, .any), (52, .any), (53, .any), (54, .any), (55, .any), (56, .any), (57, .any), (58, .any), (59, .any), (60, .any), (61, .any), (62, .any), (63, .any), (64, .any), (65, .any), (66, .any), (67, .any), (68, .any), (69, .any), (70, .any), (71, .any), (72, .any), (73, .any)]) (fun i => []) (fun i => namesR cols i) ?_ ?_ ?_
   ·intro k hk; omega
   ·skip
    simp only [wR, Nat.reduceAdd, Nat.reduceLT, reduceIte]
    simp [wW, smC_tok, tokLt, tokLtL]
   ·intro i hi hI
    simp only [wR, Nat.reduceAdd, Nat.reduceLT, reduceIte]
    by_cases hlt : i < cols.length
    ·have hdec := dT (i := i) (n := cols.length) (by omega)
     have hi0 := nnI i
     have hw := wI i (by omega)
     have hgt := enTc_get cols i hlt
     have hnext : (1 ≤ cols[i].2.1 ∧ cols[i].2.1 ≤ 3) → (∀ j (h : j < i) (h1 : j < cols.length), cols[j].1 ≠ cols[i].1) → namesR cols (i + 1) := fun h1 h2 k hk hk1 => by
      by_cases e : k = i
      ·subst e; exact ⟨h1, fun j hj => h2 j hj (by omega)⟩
      ·exact hI k (by omega) hk1
     rcases hc : cols[i] with ⟨c1, c2, c3, c4⟩
     rw [hc] at hgt hnext
     simp only [tcC] at hgt hnext
     by_cases t1 : c2 < 1
     ·have d1 : decide (c2 < 1) = true := by simp; omega
      repeat' first | ((with_reducible first | refine cs ?_ ?_ | refine ws ?_ ?_ | refine wd ?_ ?_ | refine wu ?_ ?_) <;> intro h <;> try simp only [h]) | simp only [↓wBA, tRt, convA, seval, pl5_12Rt, pl5_17Rt, pl5_23Rt, smC_len, List.length_map, enTc_len, hdec, hi0, hgt, d1] | (with_reducible refine dP pl5_12Rt 15 (some 58) (by decide) (by kernel_rfl) ?_) | (with_reducible refine dP pl5_17Rt 11 (some 81) (by decide) (by kernel_rfl) ?_) | (with_reducible refine dP pl5_23Rt 20 (some 111) (by decide) (by kernel_rfl) ?_)
      all_goals exact right_end rfl hend0
     ·have d1 : decide (c2 < 1) = false := by simp; omega
      by_cases t2 : c2 > 3
      ·have d2 : decide (c2 > 3) = true := by simp; omega
       repeat' first | ((with_reducible first | refine cs ?_ ?_ | refine ws ?_ ?_ | refine wd ?_ ?_ | refine wu ?_ ?_) <;> intro h <;> try simp only [h]) | simp only [↓wBA, tRt, convA, seval, pl5_12Rt, pl5_17Rt, pl5_23Rt, smC_len, List.length_map, enTc_len, hdec, hi0, hgt, d1, d2] | (with_reducible refine dP pl5_12Rt 15 (some 58) (by decide) (by kernel_rfl) ?_) | (with_reducible refine dP pl5_17Rt 11 (some 81) (by decide) (by kernel_rfl) ?_) | (with_reducible refine dP pl5_23Rt 20 (some 111) (by decide) (by kernel_rfl) ?_)
       all_goals exact right_end rfl hend0
      ·have d2 : decide (c2 > 3) = false := by simp; omega
       repeat' first | ((with_reducible first | refine cs ?_ ?_ | refine ws ?_ ?_ | refine wd ?_ ?_ | refine wu ?_ ?_) <;> intro h <;> try simp only [h]) | simp only [↓wBA, tRt, convA, seval, pl5_12Rt, pl5_17Rt, pl5_23Rt, smC_len, List.length_map, enTc_len, hdec, hi0, hgt, d1, d2] | (with_reducible refine dP pl5_12Rt 15 (some 58) (by decide) (by kernel_rfl) ?_) | (with_reducible refine dP pl5_17Rt 11 (some 81) (by decide) (by kernel_rfl) ?_) | (with_reducible refine dP pl5_23Rt 20 (some 111) (by decide) (by kernel_rfl) ?_)
       refine awp_loopN (i) (fun k => [(7, intV .i64 (k : Nat)), (3, .any), (53, .any), (54, .any), (55, .any), (56, .any), (57, .any), (58, .any), (59, .any), (60, .any), (61, .any), (62, .any), (63, .any), (64, .any), (65, .any), (66, .any), (67, .any), (68, .any), (69, .any), (70, .any), (71, .any), (72, .any), (73, .any)]) (fun k => []) (fun k => ∀ j (h : j < k) (h1 : j < cols.length), cols[j].1 ≠ c1) ?_ ?_ ?_
       ·intro j hj; omega
       ·skip
        simp only [wR, Nat.reduceAdd, Nat.reduceLT, reduceIte]
        simp [wW, smC_tok, tokLt, tokLtL]
       ·intro k hk hK
        simp only [wR, Nat.reduceAdd, Nat.reduceLT, reduceIte]
        by_cases hltk : k < i
        ·have hdk := dT (i := k) (n := i) (by omega)
         have hk0 := nnI k
         have hwk := wI k (by omega)
         have hgk := enTc_get cols k (by omega)
         have hnk : cols[k].1 ≠ c1 → ∀ j (h : j < k + 1) (h1 : j < cols.length), cols[j].1 ≠ c1 := fun h j hj h1 => by
          by_cases e : j = k
          ·subst e; exact h
          ·exact hK j (by omega) h1
         rcases hck : cols[k]'(by omega) with ⟨k1, k2, k3, k4⟩
         rw [hck] at hgk hnk
         simp only [tcC] at hgk hnk
         cases hq : (k1.toList == c1.toList)
         ·skip
          repeat' first | ((with_reducible first | refine cs ?_ ?_ | refine ws ?_ ?_ | refine wd ?_ ?_ | refine wu ?_ ?_) <;> intro h <;> try simp only [h]) | simp only [↓wBA, tRt, convA, seval, pl5_12Rt, pl5_17Rt, pl5_23Rt, smC_len, List.length_map, enTc_len, hi0, hgt, hdk, hk0, hwk, hgk, binStr, hq] | (with_reducible refine dP pl5_12Rt 15 (some 58) (by decide) (by kernel_rfl) ?_) | (with_reducible refine dP pl5_17Rt 11 (some 81) (by decide) (by kernel_rfl) ?_) | (with_reducible refine dP pl5_23Rt 20 (some 111) (by decide) (by kernel_rfl) ?_)
          refine ⟨⟨k + 1, by omega, ?_⟩, by show i - (k + 1) < i - k; omega, ?_⟩
          ·exact hnk (by intro e; rw [e] at hq; simp at hq)
          ·skip
           simp [wW, smC_tok, tokLt, tokLtL]
         ·skip
          repeat' first | ((with_reducible first | refine cs ?_ ?_ | refine ws ?_ ?_ | refine wd ?_ ?_ | refine wu ?_ ?_) <;> intro h <;> try simp only [h]) | simp only [↓wBA, tRt, convA, seval, pl5_12Rt, pl5_17Rt, pl5_23Rt, smC_len, List.length_map, enTc_len, hi0, hgt, hdk, hk0, hwk, hgk, binStr, hq] | (with_reducible refine dP pl5_12Rt 15 (some 58) (by decide) (by kernel_rfl) ?_) | (with_reducible refine dP pl5_17Rt 11 (some 81) (by decide) (by kernel_rfl) ?_) | (with_reducible refine dP pl5_23Rt 20 (some 111) (by decide) (by kernel_rfl) ?_)
          all_goals exact right_end rfl hend0
        ·have hdk := dF (i := k) (n := i) (by omega)
         repeat' first | ((with_reducible first | refine cs ?_ ?_ | refine ws ?_ ?_ | refine wd ?_ ?_ | refine wu ?_ ?_) <;> intro h <;> try simp only [h]) | simp only [↓wBA, tRt, convA, seval, pl5_12Rt, pl5_17Rt, pl5_23Rt, smC_len, List.length_map, hdk, hw] | (with_reducible refine dP pl5_12Rt 15 (some 58) (by decide) (by kernel_rfl) ?_) | (with_reducible refine dP pl5_17Rt 11 (some 81) (by decide) (by kernel_rfl) ?_) | (with_reducible refine dP pl5_23Rt 20 (some 111) (by decide) (by kernel_rfl) ?_)
         refine ⟨⟨i + 1, by omega, ?_⟩, by show cols.length - (i + 1) < cols.length - i; omega, ?_⟩
         ·exact hnext ⟨by omega, by omega⟩ fun j hj h1 => hK j (by omega) h1
         ·skip
          simp [wW, smC_tok, tokLt, tokLtL]
    ·have hdec := dF (i := i) (n := cols.length) (by omega)
     have hIn : namesR cols cols.length := fun k hk h1 => hI k (by omega) h1
     repeat' first | ((with_reducible first | refine cs ?_ ?_ | refine ws ?_ ?_ | refine wd ?_ ?_ | refine wu ?_ ?_) <;> intro h <;> try simp only [h]) | simp only [↓wBA, tRt, convA, seval, pl5_12Rt, pl5_17Rt, pl5_23Rt, smC_len, List.length_map, enTc_len, hdec] | (with_reducible refine dP pl5_12Rt 15 (some 58) (by decide) (by kernel_rfl) ?_) | (with_reducible refine dP pl5_17Rt 11 (some 81) (by decide) (by kernel_rfl) ?_) | (with_reducible refine dP pl5_23Rt 20 (some 111) (by decide) (by kernel_rfl) ?_)
     refine awp_loopN (rows.length) (fun m => [(8, intV .i64 (m : Nat)), (3, .any), (9, .any), (10, .any), (74, .any), (75, .any), (76, .any), (77, .any), (78, .any), (79, .any), (80, .any), (81, .any), (82, .any), (83, .any), (84, .any), (85, .any), (86, .any), (87, .any), (88, .any), (89, .any), (90, .any), (91, .any), (92, .any), (93, .any), (94, .any), (95, .any), (96, .any), (97, .any), (98, .any), (99, .any), (100, .any), (101, .any), (102, .any), (103, .any), (104, .any), (105, .any), (106, .any), (107, .any), (108, .any), (109, .any), (110, .any), (111, .any), (112, .any), (113, .any), (114, .any), (115, .any), (116, .any), (117, .any), (118, .any), (119, .any), (120, .any), (121, .any), (122, .any), (123, .any), (124, .any), (125, .any), (126, .any), (127, .any), (128, .any), (129, .any), (130, .any), (131, .any)]) (fun m => []) (fun m => ∀ r ∈ rows.take m, r.length = cols.length ∧ valsR cols r r.length) ?_ ?_ ?_
     ·simp
     ·skip
      simp only [wR, Nat.reduceAdd, Nat.reduceLT, reduceIte]
      simp [wW, smC_tok, tokLt, tokLtL]
     ·intro m hm hM
      simp only [wR, Nat.reduceAdd, Nat.reduceLT, reduceIte]
      by_cases hltm : m < rows.length
      ·have hdm := dT (i := m) (n := rows.length) (by omega)
       have hm0 := nnI m
       have hwm := wI m (by omega)
       have hgm := enVV_get rows m hltm
       have hnm : rows[m].length = cols.length → valsR cols rows[m] rows[m].length → ∀ r ∈ rows.take (m + 1), r.length = cols.length ∧ valsR cols r r.length := fun h1 h2 r hr => by
        rw [List.take_succ_eq_append_getElem hltm] at hr
        rcases List.mem_append.1 hr with h | h
        ·exact hM r h
        ·simp at h; subst h; exact ⟨h1, h2⟩
       by_cases hlen : rows[m].length = cols.length
       ·have dl : ((rows[m].length : Int) != (cols.length : Int)) = false := by simp [hlen]
        repeat' first | ((with_reducible first | refine cs ?_ ?_ | refine ws ?_ ?_ | refine wd ?_ ?_ | refine wu ?_ ?_) <;> intro h <;> try simp only [h]) | simp only [↓wBA, tRt, convA, seval, pl5_12Rt, pl5_17Rt, pl5_23Rt, smC_len, List.length_map, enTc_len, enVV_len, enV_len, hdm, hm0, hgm, dl] | (with_reducible refine dP pl5_12Rt 15 (some 58) (by decide) (by kernel_rfl) ?_) | (with_reducible refine dP pl5_17Rt 11 (some 81) (by decide) (by kernel_rfl) ?_) | (with_reducible refine dP pl5_23Rt 20 (some 111) (by decide) (by kernel_rfl) ?_)
        refine awp_loopN (rows[m].length) (fun k => [(9, intV .i64 (k : Nat)), (3, .any), (10, .any), (93, .any), (94, .any), (95, .any), (96, .any), (97, .any), (98, .any), (99, .any), (100, .any), (101, .any), (102, .any), (103, .any), (104, .any), (105, .any), (106, .any), (107, .any), (108, .any), (109, .any), (110, .any), (111, .any), (112, .any), (113, .any), (114, .any), (115, .any), (116, .any), (117, .any), (118, .any), (119, .any), (120, .any), (121, .any), (122, .any), (123, .any), (124, .any), (125, .any), (126, .any), (127, .any), (128, .any), (129, .any), (130, .any), (131, .any)]) (fun k => []) (fun k => valsR cols rows[m] k) ?_ ?_ ?_
        ·intro j hj; omega
        ·skip
         simp only [wR, Nat.reduceAdd, Nat.reduceLT, reduceIte]
         simp [wW, smC_tok, tokLt, tokLtL]
        ·intro k hk hK
         simp only [wR, Nat.reduceAdd, Nat.reduceLT, reduceIte]
         by_cases hltk : k < rows[m].length
         ·have hdk := dT (i := k) (n := rows[m].length) (by omega)
          have hk0 := nnI k
          have hwk := wI k (by omega)
          have hkc : k < cols.length := by omega
          have hgk := enTc_get cols k hkc
          have hgv := enV_get rows[m] k hltk
          have hok := aokR rows[m][k]
          have hnk : okV rows[m][k] = true → (rows[m][k].1 = 0 ∨ rows[m][k].1 = cols[k].2.1) → valsR cols rows[m] (k + 1) := fun h1 h2 j hj hj1 hj2 => by
           by_cases e : j = k
           ·subst e; exact ⟨h1, h2⟩
           ·exact hK j (by omega) hj1 hj2
          rcases hck : cols[k] with ⟨k1, k2, k3, k4⟩
          rcases hcv : rows[m][k] with ⟨v1, v2, v3⟩
          rw [hck] at hgk hnk
          rw [hcv] at hgv hnk hok
          simp only [tcC, vaC] at hgk hnk hgv
          simp only [vaA, vaC, List.map_cons, List.map_nil] at hok
          cases hov : okV (v1, v2, v3)
          ·rw [hov] at hok
           repeat' first | ((with_reducible first | refine cs ?_ ?_ | refine ws ?_ ?_ | refine wd ?_ ?_ | refine wu ?_ ?_) <;> intro h <;> try simp only [h]) | simp only [↓wBA, tRt, convA, seval, pl5_12Rt, pl5_17Rt, pl5_23Rt, smC_len, List.length_map, enTc_len, enVV_len, enV_len, hm0, hgm, hdk, hk0, hgk, hgv] | ((with_reducible show ACalls _ _ _ _ _); refine (hok _).eq ?_) | (with_reducible refine dP pl5_12Rt 15 (some 58) (by decide) (by kernel_rfl) ?_) | (with_reducible refine dP pl5_17Rt 11 (some 81) (by decide) (by kernel_rfl) ?_) | (with_reducible refine dP pl5_23Rt 20 (some 111) (by decide) (by kernel_rfl) ?_)
           all_goals exact right_end rfl hend0
          ·rw [hov] at hok
           by_cases v0 : v1 = 0
           ·have e0 : (v1 != 0) = false := by simpa using v0
            repeat' first | ((with_reducible first | refine cs ?_ ?_ | refine ws ?_ ?_ | refine wd ?_ ?_ | refine wu ?_ ?_) <;> intro h <;> try simp only [h]) | simp only [↓wBA, tRt, convA, seval, pl5_12Rt, pl5_17Rt, pl5_23Rt, smC_len, List.length_map, enTc_len, enVV_len, enV_len, hm0, hgm, hdk, hk0, hwk, hgk, hgv, e0] | ((with_reducible show ACalls _ _ _ _ _); refine (hok _).eq ?_) | (with_reducible refine dP pl5_12Rt 15 (some 58) (by decide) (by kernel_rfl) ?_) | (with_reducible refine dP pl5_17Rt 11 (some 81) (by decide) (by kernel_rfl) ?_) | (with_reducible refine dP pl5_23Rt 20 (some 111) (by decide) (by kernel_rfl) ?_)
            refine ⟨⟨k + 1, by omega, ?_⟩, by show rows[m].length - (k + 1) < rows[m].length - k; omega, ?_⟩
            ·exact hnk hov (.inl v0)
            ·skip
             simp [wW, smC_tok, tokLt, tokLtL]
           ·have e0 : (v1 != 0) = true := by simpa using v0
            by_cases vk : v1 = k2
            ·have e1 : (v1 != k2) = false := by simpa using vk
             repeat' first | ((with_reducible first | refine cs ?_ ?_ | refine ws ?_ ?_ | refine wd ?_ ?_ | refine wu ?_ ?_) <;> intro h <;> try simp only [h]) | simp only [↓wBA, tRt, convA, seval, pl5_12Rt, pl5_17Rt, pl5_23Rt, smC_len, List.length_map, enTc_len, enVV_len, enV_len, hm0, hgm, hdk, hk0, hwk, hgk, hgv, e0, e1] | ((with_reducible show ACalls _ _ _ _ _); refine (hok _).eq ?_) | (with_reducible refine dP pl5_12Rt 15 (some 58) (by decide) (by kernel_rfl) ?_) | (with_reducible refine dP pl5_17Rt 11 (some 81) (by decide) (by kernel_rfl) ?_) | (with_reducible refine dP pl5_23Rt 20 (some 111) (by decide) (by kernel_rfl) ?_)
             refine ⟨⟨k + 1, by omega, ?_⟩, by show rows[m].length - (k + 1) < rows[m].length - k; omega, ?_⟩
             ·exact hnk hov (.inr vk)
             ·skip
              simp [wW, smC_tok, tokLt, tokLtL]
            ·have e1 : (v1 != k2) = true := by simpa using vk
             repeat' first | ((with_reducible first | refine cs ?_ ?_ | refine ws ?_ ?_ | refine wd ?_ ?_ | refine wu ?_ ?_) <;> intro h <;> try simp only [h]) | simp only [↓wBA, tRt, convA, seval, pl5_12Rt, pl5_17Rt, pl5_23Rt, smC_len, List.length_map, enTc_len, enVV_len, enV_len, hm0, hgm, hdk, hk0, hwk, hgk, hgv, e0, e1] | ((with_reducible show ACalls _ _ _ _ _); refine (hok _).eq ?_) | (with_reducible refine dP pl5_12Rt 15 (some 58) (by decide) (by kernel_rfl) ?_) | (with_reducible refine dP pl5_17Rt 11 (some 81) (by decide) (by kernel_rfl) ?_) | (with_reducible refine dP pl5_23Rt 20 (some 111) (by decide) (by kernel_rfl) ?_)
             all_goals exact right_end rfl hend0
         ·have hdk := dF (i := k) (n := rows[m].length) (by omega)
          repeat' first | ((with_reducible first | refine cs ?_ ?_ | refine ws ?_ ?_ | refine wd ?_ ?_ | refine wu ?_ ?_) <;> intro h <;> try simp only [h]) | simp only [↓wBA, tRt, convA, seval, pl5_12Rt, pl5_17Rt, pl5_23Rt, smC_len, List.length_map, enTc_len, enVV_len, enV_len, hm0, hgm, hdk, hwm] | (with_reducible refine dP pl5_12Rt 15 (some 58) (by decide) (by kernel_rfl) ?_) | (with_reducible refine dP pl5_17Rt 11 (some 81) (by decide) (by kernel_rfl) ?_) | (with_reducible refine dP pl5_23Rt 20 (some 111) (by decide) (by kernel_rfl) ?_)
          refine ⟨⟨m + 1, by omega, ?_⟩, by show rows.length - (m + 1) < rows.length - m; omega, ?_⟩
          ·exact hnm hlen (fun j hj h1 h2 => hK j (by omega) h1 h2)
          ·skip
           simp [wW, smC_tok, tokLt, tokLtL]
       ·have dl : ((rows[m].length : Int) != (cols.length : Int)) = true := by simp; omega
        repeat' first | ((with_reducible first | refine cs ?_ ?_ | refine ws ?_ ?_ | refine wd ?_ ?_ | refine wu ?_ ?_) <;> intro h <;> try simp only [h]) | simp only [↓wBA, tRt, convA, seval, pl5_12Rt, pl5_17Rt, pl5_23Rt, smC_len, List.length_map, enTc_len, enVV_len, enV_len, hdm, hm0, hgm, dl] | (with_reducible refine dP pl5_12Rt 15 (some 58) (by decide) (by kernel_rfl) ?_) | (with_reducible refine dP pl5_17Rt 11 (some 81) (by decide) (by kernel_rfl) ?_) | (with_reducible refine dP pl5_23Rt 20 (some 111) (by decide) (by kernel_rfl) ?_)
        all_goals exact right_end rfl hend0
      ·have hdm := dF (i := m) (n := rows.length) (by omega)
       have htm : rows.take m = rows := List.take_of_length_le (by omega)
       rw [htm] at hM
       have hend1 : RightR cols rows (.tup [.agg ((smC s).map .p), boolV true]) := ⟨s, true, rfl, hs1, hs2, fun _ => ⟨by omega, hIn, hM⟩⟩
       repeat' first | ((with_reducible first | refine cs ?_ ?_ | refine ws ?_ ?_ | refine wd ?_ ?_ | refine wu ?_ ?_) <;> intro h <;> try simp only [h]) | simp only [↓wBA, tRt, convA, seval, pl5_12Rt, pl5_17Rt, pl5_23Rt, smC_len, List.length_map, enVV_len, hdm] | (with_reducible refine dP pl5_12Rt 15 (some 58) (by decide) (by kernel_rfl) ?_) | (with_reducible refine dP pl5_17Rt 11 (some 81) (by decide) (by kernel_rfl) ?_) | (with_reducible refine dP pl5_23Rt 20 (some 111) (by decide) (by kernel_rfl) ?_)
       all_goals exact right_end rfl hend1
 ·have he' : (e != 0) = true := by simpa using he
  repeat' first | ((with_reducible first | refine cs ?_ ?_ | refine ws ?_ ?_ | refine wd ?_ ?_ | refine wu ?_ ?_) <;> intro h <;> try simp only [h]) | simp only [↓wBA, tRt, convA, seval, pl5_12Rt, pl5_17Rt, pl5_23Rt, smC_len, List.length_map, he'] | (with_reducible refine dP pl5_12Rt 15 (some 58) (by decide) (by kernel_rfl) ?_) | (with_reducible refine dP pl5_17Rt 11 (some 81) (by decide) (by kernel_rfl) ?_) | (with_reducible refine dP pl5_23Rt 20 (some 111) (by decide) (by kernel_rfl) ?_)
  all_goals exact right_end rfl hend0
end Go.Proofs.YtcnkmandddfdmaaGreatDoor
namespace Go.Proofs.YtcnkmandddfdmaaGreatDoor
open Go.RowKit
def pl9_6Sa : Plan := (.det 0 (.det 1 (.det 2 (.det 3 (.det 4 (.det 5 (.det 6 (.det 7 (.det 8 .done)))))))))
def pl11_6Sa : Plan := (.det 0 (.det 1 (.det 2 (.det 3 (.det 4 (.det 5 (.det 6 (.det 7 (.fin 8 (.det 9 .done))))))))))
def tSa := aa wX <| aa wbu <| aa T3 <| aa T4 <| aa T25 <| aa T39 T41
theorem ba_ext {a b : ByteArray} (h : a.toList = b.toList) : a = b := by
 rw [ba_list, ba_list] at h
 cases a; cases b
 congr
 exact Array.toList_inj.1 h
def sameVV (a b : List (List Va)) : Bool := decide (a = b)
theorem va_eq (a1 a2 b1 b2 : Int) (a3 b3 : ByteArray) : (a1 == b1 && ((a2 == b2) && ((a3.toList == b3.toList) && true))) = decide (((a1, a2, a3) : Va) = (b1, b2, b3)) := by
 by_cases h : ((a1, a2, a3) : Va) = (b1, b2, b3)
 ·cases h; simp
 ·rw [decide_eq_false h]
  by_cases h1 : a1 = b1
  ·by_cases h2 : a2 = b2
   ·have h3 : a3.toList ≠ b3.toList := fun e => h (by rw [h1, h2, ba_ext e])
    simp [h3]
   ·simp [h2]
  ·simp [h1]
def sameV (a b : List Va) : Bool := decide (a = b)
theorem asameV (a b : List Va) (ha : a.length ≤ 4398046511104) (hb : b.length ≤ 4398046511104) (σ : St) : ACalls Tryz.prog 9 [.p (.sl 3 (enV a)), .p (.sl 3 (enV b))] σ fun r s => s = σ ∧ r = boolV (sameV a b) := by
 refine ACalls.pureF (R := fun r => r = boolV (sameV a b)) ?_ rfl σ
 refine acalls_of cx_ok dr_ok Tryz.func9 (by kernel_rfl) rfl (nt := 24) (rs := [.tmp 4]) rfl rfl ?_
 by_cases hab : a.length = b.length
 ·have d : ((a.length : Int) != (b.length : Int)) = false := by simp [hab]
  repeat' first | ((with_reducible first | refine cs ?_ ?_ | refine ws ?_ ?_ | refine wd ?_ ?_ | refine wu ?_ ?_) <;> intro h <;> try simp only [h]) | simp only [↓wBA, tSa, convA, seval, pl9_6Sa, enV_len, d] | (with_reducible refine dP pl9_6Sa 9 (some 17) (by decide) (by kernel_rfl) ?_)
  refine awp_loopN (a.length) (fun i => [(5, intV .i64 (i : Nat)), (4, .any), (11, .any), (12, .any), (13, .any), (14, .any), (15, .any), (16, .any), (17, .any), (18, .any), (19, .any), (20, .any), (21, .any), (22, .any), (23, .any), (24, .any), (25, .any)]) (fun i => []) (fun i => a.take i = b.take i) ?_ ?_ ?_
  ·rfl
  ·skip
   simp only [wR, Nat.reduceAdd, Nat.reduceLT, reduceIte]
   simp [wW]
  ·intro i hi hI
   simp only [wR, Nat.reduceAdd, Nat.reduceLT, reduceIte]
   by_cases hlt : i < a.length
   ·have hdec := dT (i := i) (n := a.length) (by omega)
    have hi0 := nnI i
    have hw := wI i (by omega)
    have hltb : i < b.length := by omega
    have hg := enV_get a i hlt
    have hgb := enV_get b i hltb
    have hta := List.take_succ_eq_append_getElem hlt
    have htb := List.take_succ_eq_append_getElem hltb
    have hfin : a[i] ≠ b[i] → sameV a b = false := fun h => decide_eq_false fun e => h (by subst e; rfl)
    rcases hai : a[i] with ⟨a1, a2, a3⟩
    rcases hbi : b[i] with ⟨b1, b2, b3⟩
    rw [hai] at hg hta hfin
    rw [hbi] at hgb htb hfin
    simp only [vaC] at hg hgb
    have hv := va_eq a1 a2 b1 b2 a3 b3
    repeat' first | ((with_reducible first | refine cs ?_ ?_ | refine ws ?_ ?_ | refine wd ?_ ?_ | refine wu ?_ ?_) <;> intro h <;> try simp only [h]) | simp only [↓wBA, tSa, convA, seval, pl9_6Sa, enV_len, hdec, hi0, hw, hg, hgb, hv] | (with_reducible refine dP pl9_6Sa 9 (some 17) (by decide) (by kernel_rfl) ?_)
    ·have hf := hfin (by intro e; rw [decide_eq_true e] at h; simp at h)
     simp only [hf]
     all_goals refine ret_is (a := _) ?_ rfl rfl
     all_goals simp only [↓wBA, tSa, convA, seval]
     all_goals simp_all [wS]
    ·skip
     refine ⟨⟨i + 1, by omega, ?_⟩, by show a.length - (i + 1) < a.length - i; omega, ?_⟩
     ·rw [hta, htb, hI]; congr 1; simpa using h
     ·skip
      simp only [wR, Nat.reduceAdd, Nat.reduceLT, reduceIte]
      simp [wW]
   ·have hdec := dF (i := i) (n := a.length) (by omega)
    have hs : sameV a b = true := decide_eq_true (by rw [List.take_of_length_le (by omega), List.take_of_length_le (by omega)] at hI; exact hI)
    simp only [hs]
    repeat' first | ((with_reducible first | refine cs ?_ ?_ | refine ws ?_ ?_ | refine wd ?_ ?_ | refine wu ?_ ?_) <;> intro h <;> try simp only [h]) | simp only [↓wBA, tSa, convA, seval, pl9_6Sa, enV_len, hdec] | (with_reducible refine dP pl9_6Sa 9 (some 17) (by decide) (by kernel_rfl) ?_)
    all_goals refine ret_is (a := _) ?_ rfl rfl
    all_goals simp only [↓wBA, tSa, convA, seval]
    all_goals simp_all [wS]
 ·have d : ((a.length : Int) != (b.length : Int)) = true := by simp; omega
  have hs : sameV a b = false := decide_eq_false fun e => hab (by rw [e])
  simp only [hs]
  repeat' first | ((with_reducible first | refine cs ?_ ?_ | refine ws ?_ ?_ | refine wd ?_ ?_ | refine wu ?_ ?_) <;> intro h <;> try simp only [h]) | simp only [↓wBA, tSa, convA, seval, pl9_6Sa, enV_len, d] | (with_reducible refine dP pl9_6Sa 9 (some 17) (by decide) (by kernel_rfl) ?_)
  all_goals refine ret_is (a := _) ?_ rfl rfl
  all_goals simp only [↓wBA, tSa, convA, seval]
  all_goals simp_all [wS]
theorem asameVV (a b : List (List Va)) (ha : a.length ≤ 4398046511104) (hb : b.length ≤ 4398046511104) (hra : ∀ r ∈ a, r.length ≤ 4398046511104) (hrb : ∀ r ∈ b, r.length ≤ 4398046511104) (σ : St) : ACalls Tryz.prog 11 [.p (.sl 1 (enVV a)), .p (.sl 1 (enVV b))] σ fun r s => s = σ ∧ r = boolV (sameVV a b) := by
 refine ACalls.pureF (R := fun r => r = boolV (sameVV a b)) ?_ rfl σ
 refine acalls_of cx_ok dr_ok Tryz.func11 (by kernel_rfl) rfl (nt := 25) (rs := [.tmp 4]) rfl rfl ?_
 by_cases hab : a.length = b.length
 ·have d : ((a.length : Int) != (b.length : Int)) = false := by simp [hab]
  repeat' first | ((with_reducible first | refine cs ?_ ?_ | refine ws ?_ ?_ | refine wd ?_ ?_ | refine wu ?_ ?_) <;> intro h <;> try simp only [h]) | simp only [↓wBA, tSa, convA, seval, pl11_6Sa, enVV_len, d] | (with_reducible refine dP pl11_6Sa 10 (some 17) (by decide) (by kernel_rfl) ?_)
  refine awp_loopN (a.length) (fun i => [(5, intV .i64 (i : Nat)), (4, .any), (11, .any), (12, .any), (13, .any), (14, .any), (15, .any), (16, .any), (17, .any), (18, .any), (19, .any), (20, .any), (21, .any), (22, .any), (23, .any), (24, .any), (25, .any), (26, .any)]) (fun i => []) (fun i => a.take i = b.take i) ?_ ?_ ?_
  ·rfl
  ·skip
   simp only [wR, Nat.reduceAdd, Nat.reduceLT, reduceIte]
   simp [wW]
  ·intro i hi hI
   simp only [wR, Nat.reduceAdd, Nat.reduceLT, reduceIte]
   by_cases hlt : i < a.length
   ·have hdec := dT (i := i) (n := a.length) (by omega)
    have hi0 := nnI i
    have hw := wI i (by omega)
    have hltb : i < b.length := by omega
    have hg := enVV_get a i hlt
    have hgb := enVV_get b i hltb
    have hta := List.take_succ_eq_append_getElem hlt
    have htb := List.take_succ_eq_append_getElem hltb
    have hfin : a[i] ≠ b[i] → sameVV a b = false := fun h => decide_eq_false fun e => h (by subst e; rfl)
    have hS := asameV a[i] b[i] (hra _ (List.getElem_mem hlt)) (hrb _ (List.getElem_mem hltb))
    repeat' first | ((with_reducible first | refine cs ?_ ?_ | refine ws ?_ ?_ | refine wd ?_ ?_ | refine wu ?_ ?_) <;> intro h <;> try simp only [h]) | simp only [↓wBA, tSa, convA, seval, pl11_6Sa, enVV_len, hdec, hi0, hw, hg, hgb] | ((with_reducible show ACalls _ _ _ _ _); refine (hS _).eq ?_) | (with_reducible refine dP pl11_6Sa 10 (some 17) (by decide) (by kernel_rfl) ?_)
    all_goals first
     | (refine ⟨⟨i + 1, by omega, ?_⟩, by show a.length - (i + 1) < a.length - i; omega, ?_⟩
        ·rw [hta, htb, hI]; congr 1; simpa [sameV] using h
        ·simp [wW])
     | (have hf := hfin (by intro e; simp [sameV, e] at h)
        simp only [hf]
        refine ret_is (a := _) ?_ rfl rfl
        simp only [resA, resL, resV, List.getD_cons_zero, List.getD_cons_succ]
        simp_all [leT, leG, leA, leC, leM, leaf, tokLt, tokLtL, intV, boolV, nilA, nilSl]
        done)
   ·have hdec := dF (i := i) (n := a.length) (by omega)
    have hs : sameVV a b = true := decide_eq_true (by rw [List.take_of_length_le (by omega), List.take_of_length_le (by omega)] at hI; exact hI)
    simp only [hs]
    repeat' first | ((with_reducible first | refine cs ?_ ?_ | refine ws ?_ ?_ | refine wd ?_ ?_ | refine wu ?_ ?_) <;> intro h <;> try simp only [h]) | simp only [↓wBA, tSa, convA, seval, pl11_6Sa, enVV_len, hdec] | (with_reducible refine dP pl11_6Sa 10 (some 17) (by decide) (by kernel_rfl) ?_)
    all_goals refine ret_is (a := _) ?_ rfl rfl
    all_goals simp only [↓wBA, tSa, convA, seval]
    all_goals simp_all [wS]
 ·have d : ((a.length : Int) != (b.length : Int)) = true := by simp; omega
  have hs : sameVV a b = false := decide_eq_false fun e => hab (by rw [e])
  simp only [hs]
  repeat' first | ((with_reducible first | refine cs ?_ ?_ | refine ws ?_ ?_ | refine wd ?_ ?_ | refine wu ?_ ?_) <;> intro h <;> try simp only [h]) | simp only [↓wBA, tSa, convA, seval, pl11_6Sa, enVV_len, d] | (with_reducible refine dP pl11_6Sa 10 (some 17) (by decide) (by kernel_rfl) ?_)
  all_goals refine ret_is (a := _) ?_ rfl rfl
  all_goals simp only [↓wBA, tSa, convA, seval]
  all_goals simp_all [wS]
end Go.Proofs.YtcnkmandddfdmaaGreatDoor
