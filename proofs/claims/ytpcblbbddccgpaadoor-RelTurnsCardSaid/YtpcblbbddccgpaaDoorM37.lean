/- cadastreref15.Top without keys: the rows in their order. -/
import Derived.Test.YtpcblbbddccgpaaDoorM36
import Derived.Test.YtpcblbbddccgpaaDoorM32
set_option linter.unusedSimpArgs false
set_option linter.unusedVariables false
set_option linter.defProp false
set_option maxRecDepth 100000
set_option maxHeartbeats 32000000
namespace Go.Proofs.YtpcblbbddccgpaaDoor
open Go.RowKit
def pl15_18Tq : Plan := (.det 0 (.det 1 (.det 2 (.det 3 (.det 4 (.det 5 (.det 6 (.det 7 (.det 8 (.det 9 (.det 10 (.det 11 (.det 12 (.det 13 (.det 14 (.det 15 (.det 16 (.det 17 (.det 18 (.det 19 (.det 20 (.det 21 (.det 22 (.det 23 (.det 24 (.det 25 (.fin 26 (.det 27 (.det 28 .done)))))))))))))))))))))))))))))
def tTq := aa wX <| aa wbu <| aa T3 <| aa T4 <| aa T22 <| aa T36 T58
def cxT : Ctx := { cx with muts := [58 * 100000 + 63] }
theorem cxT_ok : cxT.ok Tryd.prog := cx_ok
theorem drT_ok : DrawOk Tryd.prog (aDraw Tryd.prog cxT) := aDraw_ok cxT_ok (by kernel_rfl)
theorem kindT (t : TypeId) : cxT.kind t = cx.kind t := nr rfl
theorem tyT (t : TypeId) : cxT.ty t = cx.ty t := nr rfl
theorem mutsT : cxT.muts = [58 * 100000 + 63] := nr rfl
theorem lenT {T : TypeId} {x : AV} : lenA cxT T x = lenA cx T x := nr rfl
def cellsB (tk : List Bool) : List (List AV) := tk.map fun b => [boolV b]
theorem cellsB_tok {n : Nat} (tk : List Bool) : (cellsB tk).all (tokLtL n) = true := by
 simp only [cellsB, List.all_map, List.all_eq_true]
 intro b _
 simp [tokLtL, tokLt, boolV]
theorem cellsB_tm {n : Nat} (tk : List Bool) : (∀ x, x ∈ cellsB tk → tokLtL n x = true) ↔ True := ⟨fun _ => trivial, fun _ x hx => List.all_eq_true.1 (cellsB_tok tk) x hx⟩
theorem cellsB_get {tk : List Bool} {i : Nat} (h : i < tk.length) : (cellsB tk)[i]? = some [boolV (tk.getD i true)] := by
 simp [cellsB, h]
theorem cellsB_set (tk : List Bool) (i : Nat) (b : Bool) : (cellsB tk).set i [boolV b] = cellsB (tk.set i b) := by
 simp [cellsB, List.map_set]
theorem cellsB_zero (n : Nat) : List.replicate n [boolV false] = cellsB (List.replicate n false) := by simp [cellsB]
theorem empR_len (n : Nat) : (empR n).length = n := by simp [empR]
theorem empR_get {n i : Nat} (h : i < n) : (enVV (empR n))[i]? = some [.sl 3 []] := by simp [empR, enVV, enV, h]
theorem atop (rows : List (List Va)) (hn : rows.length ≤ 4398046511104) (hl : ∀ r ∈ rows, r.length ≤ 4398046511104) (σ : St) : ACalls Tryd.prog 15 [.p (.sl 1 (enVV rows)), .p (.sl 1 (enVV (empR rows.length))), .p (.v (.slice none 0 0)), .p (.v (.int .i64 (-1)))] σ fun r s => s = σ ∧ r = .tup [.p (.sl 1 (enVV (topS rows).1)), intV .i64 (topS rows).2] := by
 refine ACalls.pureF (R := fun r => r = .tup [.p (.sl 1 (enVV (topS rows).1)), intV .i64 (topS rows).2]) ?_ rfl σ
 have hM := fun r h => amay r (hl r h)
 have hM0 := amay [] (by simp)
 simp only [enV, List.map_nil, List.all_nil] at hM0
 have hAh := fun a b ha hb => aahead a b (hl a ha) (hl b hb)
 refine acalls_of cxT_ok drT_ok Tryd.func15 (by kernel_rfl) rfl (nt := 111) (rs := [.tmp 8, .tmp 9]) rfl rfl ?_
 repeat' first | ((with_reducible first | refine cs ?_ ?_ | refine ws ?_ ?_ | refine wd ?_ ?_ | refine wu ?_ ?_) <;> intro h <;> try simp only [h]) | simp only [↓wBA, tTq, convA, seval, pl15_18Tq, kindT, tyT, mutsT, lenT, enVV_len, empR_len] | (with_reducible refine dP pl15_18Tq 29 (some 74) (by decide) (by kernel_rfl) ?_)
 refine awp_loopN (rows.length) (fun i => [(10, intV .i64 (i : Nat)), (8, .any), (9, .any), (21, .any), (22, .any), (23, .any), (24, .any), (25, .any), (26, .any), (27, .any), (28, .any), (29, .any), (30, .any), (31, .any), (32, .any), (33, .any), (34, .any), (35, .any), (36, .any), (37, .any), (38, .any), (39, .any), (40, .any), (41, .any), (42, .any), (43, .any), (44, .any), (45, .any), (46, .any), (47, .any), (48, .any), (49, .any), (50, .any)]) (fun i => []) (fun i => (rows.take i).all (fun r => r.all okV) = true) ?_ ?_ ?_
 ·rfl
 ·skip
  simp only [wR, Nat.reduceAdd, Nat.reduceLT, reduceIte]
  simp [wW]
 ·intro i hi hI
  simp only [wR, Nat.reduceAdd, Nat.reduceLT, reduceIte]
  by_cases hlt : i < rows.length
  ·have hdec := dT (i := i) (n := rows.length) (by omega)
   have hi0 := nnI i
   have hw := wI i (by omega)
   have hg := enVV_get rows i hlt
   have hgk := empR_get hlt
   have hta := List.take_succ_eq_append_getElem hlt
   have hmem : rows[i] ∈ rows := List.getElem_mem hlt
   have hM' := hM _ hmem
   generalize rows[i] = r at *
   cases hx : r.all okV with
   | true =>
     rw [hx] at hM'
     repeat' first | ((with_reducible first | refine cs ?_ ?_ | refine ws ?_ ?_ | refine wd ?_ ?_ | refine wu ?_ ?_) <;> intro h <;> try simp only [h]) | simp only [↓wBA, tTq, convA, seval, pl15_18Tq, kindT, tyT, mutsT, lenT, enVV_len, empR_len, hdec, hi0, hw, hg, hgk] | ((with_reducible show ACalls _ _ _ _ _); first | refine (hM0 _).eq ?_ | refine (hM' _).eq ?_) | (with_reducible refine dP pl15_18Tq 29 (some 74) (by decide) (by kernel_rfl) ?_)
     refine ⟨⟨i + 1, by omega, ?_⟩, by show rows.length - (i + 1) < rows.length - i; omega, ?_⟩
     ·rw [hta, List.all_append, hI]; simp [hx]
     ·skip
      simp only [wR, Nat.reduceAdd, Nat.reduceLT, reduceIte]
      simp [wW]
   | false =>
     rw [hx] at hM'
     have hr : topS rows = ([], 1) := by
      unfold topS
      rw [if_neg]
      intro h
      rw [List.all_eq_true.1 h _ hmem] at hx; cases hx
     rw [hr]
     repeat' first | ((with_reducible first | refine cs ?_ ?_ | refine ws ?_ ?_ | refine wd ?_ ?_ | refine wu ?_ ?_) <;> intro h <;> try simp only [h]) | simp only [↓wBA, tTq, convA, seval, pl15_18Tq, kindT, tyT, mutsT, lenT, enVV_len, empR_len, hdec, hi0, hw, hg, hgk] | ((with_reducible show ACalls _ _ _ _ _); first | refine (hM0 _).eq ?_ | refine (hM' _).eq ?_) | (with_reducible refine dP pl15_18Tq 29 (some 74) (by decide) (by kernel_rfl) ?_)
     all_goals refine ret_is (a := _) ?_ rfl rfl
     all_goals simp only [↓wBA, tTq, convA, seval]
     all_goals simp_all [wS, enVV]
  ·have hdec := dF (i := i) (n := rows.length) (by omega)
   rw [List.take_of_length_le (by omega)] at hI
   have hts : topS rows = (inOrder ltR rows, 0) := by unfold topS; rw [if_pos hI]
   rw [hts]
   have hm1 : ((1 : Int) * (rows.length : Int) ≤ 140737488355328) = True := eq_true (by omega)
   have hm2 : ((rows.length : Int) ≤ 140737488355328) = True := eq_true (by omega)
   have hm3 : ((rows.length : Int) ≤ (maxLen : Int)) = True := eq_true (by unfold maxLen; omega)
   have hrd := fun j => tkS_round ltR_sto [] rows j
   have hsl : (inOrder ltR rows).length = rows.length := (inOrder_self rows).length_eq
   have hz : cellsB (tkS ltR [] rows 0) = List.replicate rows.length [boolV false] := by simp only [tkS, cellsB_zero]
   have htl : ∀ j, (tkS ltR [] rows j).length = rows.length := tkS_len [] rows
   have hss : ∀ j, tkS ltR [] rows (j + 1) = (tkS ltR [] rows j).set (bestG ltR [] rows (tkS ltR [] rows j) rows.length).toNat true := fun j => rfl
   generalize hsrt : inOrder ltR rows = srt at *
   generalize htks : tkS ltR [] rows = tks at *
   repeat' first | ((with_reducible first | refine cs ?_ ?_ | refine ws ?_ ?_ | refine wd ?_ ?_ | refine wu ?_ ?_) <;> intro h <;> try simp only [h]) | simp only [↓wBA, tTq, convA, seval, pl15_18Tq, kindT, tyT, mutsT, lenT, enVV_len, empR_len, hdec, hm1, hm2, hm3, nnI, zeroA, make_eq] | (with_reducible refine dP pl15_18Tq 29 (some 74) (by decide) (by kernel_rfl) ?_)
   refine awp_loopN (rows.length) (fun j => [(13, .nown 1 1 (enVV (srt.take j))), (14, .any), (15, .any), (64, .any), (65, .any), (66, .any), (67, .any), (68, .any), (69, .any), (70, .any), (71, .any), (72, .any), (73, .any), (74, .any), (75, .any), (76, .any), (77, .any), (78, .any), (79, .any), (80, .any), (81, .any), (82, .any), (83, .any), (84, .any), (85, .any), (86, .any), (87, .any), (88, .any), (89, .any), (90, .any), (91, .any), (92, .any), (93, .any), (94, .any), (95, .any), (96, .any), (97, .any), (98, .any), (99, .any), (100, .any), (101, .any), (102, .any), (103, .any), (104, .any), (105, .any), (106, .any), (107, .any), (108, .any), (109, .any), (110, .any), (111, .any), (112, .any), (113, .any)]) (fun j => [(0, .row 1 (cellsB (tks j))), (1, .nright 36 (j * 1))]) (fun j => True) ?_ ?_ ?_
   ·trivial
   ·skip
    simp only [wR, Nat.reduceAdd, Nat.reduceLT, reduceIte]
    simp [wW, hz, boolV, enVV]
   ·intro j hj _
    simp only [wR, Nat.reduceAdd, Nat.reduceLT, reduceIte]
    have hlj0 : (srt.take j).length = j := by rw [List.length_take]; omega
    have hlj : (enVV (srt.take j)).length = j := by rw [enVV_len]; exact hlj0
    by_cases hjn : j < rows.length
    ·have hdecj := dT (i := j) (n := rows.length) (by omega)
     obtain ⟨best, hb1, hb2, hb3⟩ := (hrd j hj).2 hjn
     have htlj := htl j
     have hssj := hss j
     have hbi := bestG_is ltR_sto [] rows (tks j)
     have hst2 := List.take_succ_eq_append_getElem (show j < srt.length by omega)
     rw [List.getElem?_eq_getElem hb2, List.getElem?_eq_getElem (show j < srt.length by omega)] at hb3
     simp only [Option.some.injEq] at hb3
     rw [← hb3] at hst2
     have hlim1 := tL (n := (j + 1) * 24) (by omega)
     have hlim2 := lM (n := j + 1) (by omega)
     repeat' first | ((with_reducible first | refine cs ?_ ?_ | refine ws ?_ ?_ | refine wd ?_ ?_ | refine wu ?_ ?_) <;> intro h <;> try simp only [h]) | simp only [↓wBA, tTq, convA, seval, pl15_18Tq, kindT, tyT, mutsT, lenT, enVV_len, empR_len, hlj, hdecj] | (with_reducible refine dP pl15_18Tq 29 (some 74) (by decide) (by kernel_rfl) ?_)
     refine awp_loopN (rows.length) (fun i => [(14, intV .i64 (bestG ltR [] rows (tks j) i)), (15, intV .i64 (i : Nat)), (68, .any), (69, .any), (70, .any), (71, .any), (72, .any), (73, .any), (74, .any), (75, .any), (76, .any), (77, .any), (78, .any), (79, .any), (80, .any), (81, .any), (82, .any), (83, .any), (84, .any), (85, .any), (86, .any), (87, .any), (88, .any), (89, .any), (90, .any), (91, .any), (92, .any), (93, .any), (94, .any), (95, .any), (96, .any), (97, .any), (98, .any), (99, .any), (100, .any), (101, .any), (102, .any), (103, .any)]) (fun i => []) (fun i => True) ?_ ?_ ?_
     ·trivial
     ·skip
      simp only [wR, Nat.reduceAdd, Nat.reduceLT, reduceIte]
      simp [wW, bestG, cellsB_tm]
     ·intro i hi _
      simp only [wR, Nat.reduceAdd, Nat.reduceLT, reduceIte]
      by_cases hlt : i < rows.length
      ·have hdec := dT (i := i) (n := rows.length) (by omega)
       have hi0 := nnI i
       have hw := wI i (by omega)
       have hg := enVV_get rows i hlt
       have hgk := empR_get hlt
       have htg := cellsB_get (show i < (tks j).length by omega)
       have hmem : rows[i] ∈ rows := List.getElem_mem hlt
       have hgd : rows.getD i [] = rows[i] := by simp [hlt]
       have hltT : ((i : Int) < (rows.length : Int)) = True := eq_true (by omega)
       cases htv : (tks j).getD i true with
       | true =>
         have hb : bestG ltR [] rows (tks j) (i + 1) = bestG ltR [] rows (tks j) i := by simp only [bestG]; rw [if_neg (fun h => by rw [htv] at h; exact absurd h.1 (by decide))]
         rw [htv] at htg
         simp only [boolV] at htg
         repeat' first | ((with_reducible first | refine cs ?_ ?_ | refine ws ?_ ?_ | refine wd ?_ ?_ | refine wu ?_ ?_) <;> intro h <;> try simp only [h]) | simp only [↓wBA, tTq, convA, seval, pl15_18Tq, kindT, tyT, mutsT, lenT, enVV_len, empR_len, hlj, hdec, hi0, hw, hg, hgk, htg, hltT] | (with_reducible refine dP pl15_18Tq 29 (some 74) (by decide) (by kernel_rfl) ?_)
         refine ⟨⟨i + 1, by omega, ?_⟩, by show rows.length - (i + 1) < rows.length - i; omega, ?_⟩
         ·trivial
         ·skip
          simp only [wR, Nat.reduceAdd, Nat.reduceLT, reduceIte]
          simp [wW, hb, cellsB_tm]
       | false =>
         rw [htv] at htg
         simp only [boolV] at htg
         rcases hbi i with ⟨g1, _⟩ | ⟨b, g1, g2, _, _⟩
         ·have hb : bestG ltR [] rows (tks j) (i + 1) = (i : Int) := by simp only [bestG]; rw [if_pos ⟨htv, .inl (by rw [g1]; decide)⟩]
          have hn : decide ((-1 : Int) < 0) = true := rfl
          rw [g1]
          repeat' first | ((with_reducible first | refine cs ?_ ?_ | refine ws ?_ ?_ | refine wd ?_ ?_ | refine wu ?_ ?_) <;> intro h <;> try simp only [h]) | simp only [↓wBA, tTq, convA, seval, pl15_18Tq, kindT, tyT, mutsT, lenT, enVV_len, empR_len, hlj, hdec, hi0, hw, hg, hgk, htg, hltT, hn] | (with_reducible refine dP pl15_18Tq 29 (some 74) (by decide) (by kernel_rfl) ?_)
          refine ⟨⟨i + 1, by omega, ?_⟩, by show rows.length - (i + 1) < rows.length - i; omega, ?_⟩
          ·trivial
          ·skip
           simp only [wR, Nat.reduceAdd, Nat.reduceLT, reduceIte]
           simp [wW, hb, cellsB_tm]
         ·have hbl : b < rows.length := by omega
          have hn : decide ((b : Int) < 0) = false := by simp
          have hgb := enVV_get rows b hbl
          have hgbk := empR_get hbl
          have hmb : rows[b] ∈ rows := List.getElem_mem hbl
          have hgdb : rows.getD b [] = rows[b] := by simp [hbl]
          have hA := hAh rows[i] rows[b] hmem hmb
          rw [g2]
          cases hlr : ltR rows[i] rows[b] with
          | true =>
            have hb : bestG ltR [] rows (tks j) (i + 1) = (i : Int) := by simp only [bestG]; rw [if_pos ⟨htv, .inr (by rw [g2, Int.toNat_natCast, hgd, hgdb]; exact hlr)⟩]
            rw [hlr] at hA
            repeat' first | ((with_reducible first | refine cs ?_ ?_ | refine ws ?_ ?_ | refine wd ?_ ?_ | refine wu ?_ ?_) <;> intro h <;> try simp only [h]) | simp only [↓wBA, tTq, convA, seval, pl15_18Tq, kindT, tyT, mutsT, lenT, enVV_len, empR_len, hlj, hdec, hi0, hw, hg, hgk, htg, hltT, hn, hgb, hgbk, nnI] | ((with_reducible show ACalls _ _ _ _ _); refine (hA _).eq ?_) | (with_reducible refine dP pl15_18Tq 29 (some 74) (by decide) (by kernel_rfl) ?_)
            refine ⟨⟨i + 1, by omega, ?_⟩, by show rows.length - (i + 1) < rows.length - i; omega, ?_⟩
            ·trivial
            ·skip
             simp only [wR, Nat.reduceAdd, Nat.reduceLT, reduceIte]
             simp [wW, hb, cellsB_tm]
          | false =>
            have hb : bestG ltR [] rows (tks j) (i + 1) = (b : Int) := by
             simp only [bestG]
             rw [if_neg (by rw [g2, Int.toNat_natCast, hgd, hgdb, hlr]; simp), g2]
            rw [hlr] at hA
            repeat' first | ((with_reducible first | refine cs ?_ ?_ | refine ws ?_ ?_ | refine wd ?_ ?_ | refine wu ?_ ?_) <;> intro h <;> try simp only [h]) | simp only [↓wBA, tTq, convA, seval, pl15_18Tq, kindT, tyT, mutsT, lenT, enVV_len, empR_len, hlj, hdec, hi0, hw, hg, hgk, htg, hltT, hn, hgb, hgbk, nnI] | ((with_reducible show ACalls _ _ _ _ _); refine (hA _).eq ?_) | (with_reducible refine dP pl15_18Tq 29 (some 74) (by decide) (by kernel_rfl) ?_)
            refine ⟨⟨i + 1, by omega, ?_⟩, by show rows.length - (i + 1) < rows.length - i; omega, ?_⟩
            ·trivial
            ·skip
             simp only [wR, Nat.reduceAdd, Nat.reduceLT, reduceIte]
             simp [wW, hb, cellsB_tm]
      ·have hdec := dF (i := i) (n := rows.length) (by omega)
       obtain rfl : i = rows.length := by omega
       have htg := cellsB_get (show best < (tks j).length by omega)
       have hgb := enVV_get rows best hb2
       have hset := cellsB_set (tks j) best true
       have hbT : ((best : Int) < (rows.length : Int)) = True := eq_true (by omega)
       rw [hb1, Int.toNat_natCast] at hssj
       simp only [boolV] at htg hset
       rw [hb1]
       repeat' first | ((with_reducible first | refine cs ?_ ?_ | refine ws ?_ ?_ | refine wd ?_ ?_ | refine wu ?_ ?_) <;> intro h <;> try simp only [h]) | simp only [↓wBA, tTq, convA, seval, pl15_18Tq, kindT, tyT, mutsT, lenT, enVV_len, empR_len, hlj, hdec, htg, hgb, nnI, hset, hbT, hlj0, hlim1, hlim2, appendA, srcA, List.length_append] | (with_reducible refine dP pl15_18Tq 29 (some 74) (by decide) (by kernel_rfl) ?_)
       refine ⟨⟨j + 1, by omega, ?_⟩, by show rows.length - (j + 1) < rows.length - j; omega, ?_⟩
       ·trivial
       ·skip
        simp only [wR, Nat.reduceAdd, Nat.reduceLT, reduceIte]
        simp only [hst2]
        simp [wW, enVV, hssj, cellsB_tm]
    ·have hdecj := dF (i := j) (n := rows.length) (by omega)
     have ht : srt.take j = srt := List.take_of_length_le (by omega)
     simp only [ht] at hlj ⊢
     repeat' first | ((with_reducible first | refine cs ?_ ?_ | refine ws ?_ ?_ | refine wd ?_ ?_ | refine wu ?_ ?_) <;> intro h <;> try simp only [h]) | simp only [↓wBA, tTq, convA, seval, pl15_18Tq, kindT, tyT, mutsT, lenT, enVV_len, empR_len, hlj, hdecj, hsl] | (with_reducible refine dP pl15_18Tq 29 (some 74) (by decide) (by kernel_rfl) ?_)
     all_goals refine ret_is (a := _) ?_ rfl rfl
     all_goals simp only [↓wBA, tTq, convA, seval]
     all_goals simp_all [wS]
end Go.Proofs.YtpcblbbddccgpaaDoor
