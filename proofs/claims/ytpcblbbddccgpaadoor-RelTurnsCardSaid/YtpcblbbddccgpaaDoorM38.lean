/- RelTurns. -/
import Derived.Test.YtpcblbbddccgpaaDoorM35
import Derived.Test.YtpcblbbddccgpaaDoorM37
import Derived.Test.YtpcblbbddccgpaaDoorM33
set_option linter.unusedSimpArgs false
set_option linter.unusedVariables false
set_option linter.defProp false
set_option maxRecDepth 100000
set_option maxHeartbeats 32000000
namespace Go.Proofs.YtpcblbbddccgpaaDoor
open Go.RowKit
def pl5_23Tu : Plan := (.det 0 (.det 2 (.det 3 (.det 4 (.det 5 (.det 6 (.det 8 (.det 9 (.det 10 (.det 11 (.det 12 (.act 1 (.act 7 (.fin 13 (.fin 14 (.fin 15 (.det 16 .done)))))))))))))))))
def tTu := aa wX <| aa wbu <| aa T3 <| aa T4 <| aa T22 <| aa T25 <| aa T27 <| aa T31 <| aa T36 T58
mutual
theorem nlP_same : ∀ x : PV, nleP x x
 | .v a => by simp [nleP]
 | .sl e ls => by simp only [nleP]; exact ⟨trivial, nlR_same ls⟩
theorem nlR_same : ∀ l : List (List PV), nleR l l
 | [] => by simp [nleR]
 | c :: l => by simp only [nleR]; exact ⟨nlQ_same c, nlR_same l⟩
theorem nlQ_same : ∀ l : List PV, nleQ l l
 | [] => by simp [nleQ]
 | c :: l => by simp only [nleQ]; exact ⟨nlP_same c, nlQ_same l⟩
end
theorem nl_nil (e : Nat) (ls : List (List PV)) : nleP (nilSl e ls) (.sl e ls) := by
 cases ls with
 | nil => simp [nilSl, nleP]
 | cons c l => exact nlP_same _
theorem nl_keys (n : Nat) : nleP (.sl 1 (nilR n)) (.sl 1 (enVV (empR n))) := by simp only [nleP]; exact ⟨trivial, nle_nilR n⟩
theorem afewU (a b : List (List Va)) (σ : St) : ACalls Tryd.prog 12 [.p (.sl 1 (enVV a)), .p (.sl 1 (enVV b))] σ fun r s => s = σ ∧ r = boolV (decide (a.length ≤ 200) && decide (b.length ≤ 200)) := by
 refine ACalls.pureF (R := fun r => r = boolV (decide (a.length ≤ 200) && decide (b.length ≤ 200))) ?_ rfl σ
 have h1 : decide ((a.length : Int) ≤ 200) = decide (a.length ≤ 200) := by congr 1; simp; omega
 have h2 : decide ((b.length : Int) ≤ 200) = decide (b.length ≤ 200) := by congr 1; simp; omega
 generalize decide (a.length ≤ 200) = p at *
 generalize decide (b.length ≤ 200) = q at *
 cases p <;> cases q
 all_goals
  refine acalls_of cx_ok dr_ok Tryd.func12 (by kernel_rfl) rfl (nt := 11) (rs := [.tmp 4]) rfl rfl ?_
  repeat' first | ((with_reducible first | refine cs ?_ ?_ | refine ws ?_ ?_) <;> intro h <;> try simp only [h]) | simp only [↓wBA, tTu, convA, seval, enVV_len, h1, h2]
  all_goals refine ret_is (a := _) ?_ rfl rfl
  all_goals simp only [↓wBA, tTu, convA, seval]
  all_goals simp_all [wS]
theorem swp_len {l : List (List Va)} (h : ∀ r ∈ l, r.length = 4) : ∀ r ∈ l.map swp, r.length ≤ 4398046511104 := fun r hr => by
 obtain ⟨q, hq, rfl⟩ := List.mem_map.1 hr
 have := h q hq
 simp [swp]; omega
theorem len4 {r : List Va} (h : r.length = 4) : ∃ x y z u, r = [x, y, z, u] := by
 match r, h with
 | [x, y, z, u], _ => exact ⟨x, y, z, u, rfl⟩
theorem inOrder_lens {l : List (List Va)} {n : Nat} (h : l.length ≤ n) (hr : ∀ r ∈ l, r.length ≤ 4398046511104) : (topS l).1.length ≤ n ∧ ∀ r ∈ (topS l).1, r.length ≤ 4398046511104 := by
 unfold topS
 split
 ·exact ⟨by rw [(inOrder_self l).length_eq]; exact h, fun r hm => hr r ((inOrder_self l).mem_iff.1 hm)⟩
 ·exact ⟨by simp, by simp⟩
theorem aturns (a b : List (List Va)) (ha0 : a.length ≤ 5864062014635) (hb0 : b.length ≤ 5864062014635) (hal : ∀ r ∈ a, r.length ≤ 4398046511104) (hbl : ∀ r ∈ b, r.length ≤ 4398046511104) (har : ∀ r ∈ a, ∀ v ∈ r, i64R v.2.1) (hbr : ∀ r ∈ b, ∀ v ∈ r, i64R v.2.1) (σ : St) :
 ACalls Tryd.prog 5 [.p (.sl 1 (enVV a)), .p (.sl 1 (enVV b))] σ fun r s => s = σ ∧ r = boolV true := by
 refine ACalls.pureF (R := fun r => r = boolV true) ?_ rfl σ
 have hA := aawake
 have hF := afewU a b
 have hslot := aslot
 have hn1 := anode 10 [slX 0, slX 3]
 have hn2 := anode 10 [slX 1, slX 2]
 simp only [exA, exC, exL, slX, noX, List.map_cons, List.map_nil, emp, intV] at hslot hn1 hn2
 cases hf : (decide (a.length ≤ 200) && decide (b.length ≤ 200)) with
 | false =>
   rw [hf] at hF
   refine acalls_of cx_ok dr_ok Tryd.func5 (by kernel_rfl) rfl (nt := 121) (rs := [.tmp 4]) rfl rfl ?_
   repeat' first | ((with_reducible first | refine cs ?_ ?_ | refine ws ?_ ?_ | refine wd ?_ ?_ | refine wu ?_ ?_) <;> intro h <;> try simp only [h]) | simp only [↓wBA, tTu, convA, seval, pl5_23Tu, enVV_len] | ((with_reducible show ACalls _ _ _ _ _); first | refine (hA _).eq ?_ | refine (hF _).eq ?_) | (with_reducible refine dP pl5_23Tu 17 (some 83) (by decide) (by kernel_rfl) ?_)
   all_goals refine ret_is (a := _) ?_ rfl rfl
   all_goals simp only [↓wBA, tTu, convA, seval]
   all_goals simp_all [wS]
 | true =>
   rw [hf] at hF
   simp only [Bool.and_eq_true, decide_eq_true_eq] at hf
   have ha : a.length ≤ 4398046511104 := by omega
   have hb : b.length ≤ 4398046511104 := by omega
   refine acalls_of cx_ok dr_ok Tryd.func5 (by kernel_rfl) rfl (nt := 121) (rs := [.tmp 4]) rfl rfl ?_
   repeat' first | ((with_reducible first | refine cs ?_ ?_ | refine ws ?_ ?_ | refine wd ?_ ?_ | refine wu ?_ ?_) <;> intro h <;> try simp only [h]) | simp only [↓wBA, tTu, convA, seval, pl5_23Tu, enVV_len] | ((with_reducible show ACalls _ _ _ _ _); first | refine (hA _).eq ?_ | refine (hF _).eq ?_) | (with_reducible refine dP pl5_23Tu 17 (some 83) (by decide) (by kernel_rfl) ?_)
   refine awp_loopN (a.length) (fun i => [(5, intV .i64 (i : Nat)), (4, .any), (23, .any), (24, .any), (25, .any), (26, .any), (27, .any), (28, .any), (29, .any), (30, .any), (31, .any), (32, .any), (33, .any), (34, .any)]) (fun i => []) (fun i => ∀ r ∈ a.take i, r.length = 2) ?_ ?_ ?_
   ·simp
   ·skip
    simp only [wR, Nat.reduceAdd, Nat.reduceLT, reduceIte]
    simp [wW]
   ·intro i hi hI
    simp only [wR, Nat.reduceAdd, Nat.reduceLT, reduceIte]
    by_cases hlt : i < a.length
    ·have hdec := dT (i := i) (n := a.length) (by omega)
     have hi0 := nnI i
     have hw := wI i (by omega)
     have hg := enVV_get a i hlt
     have hta := List.take_succ_eq_append_getElem hlt
     generalize a[i] = r at *
     by_cases h2 : r.length = 2
     ·have hn : ((r.length : Int) != 2) = false := by simp [h2]
      repeat' first | ((with_reducible first | refine cs ?_ ?_ | refine ws ?_ ?_ | refine wd ?_ ?_ | refine wu ?_ ?_) <;> intro h <;> try simp only [h]) | simp only [↓wBA, tTu, convA, seval, pl5_23Tu, enVV_len, enV_len, hdec, hi0, hw, hg, hn] | (with_reducible refine dP pl5_23Tu 17 (some 83) (by decide) (by kernel_rfl) ?_)
      refine ⟨⟨i + 1, by omega, ?_⟩, by show a.length - (i + 1) < a.length - i; omega, ?_⟩
      ·intro q hq
       rw [hta] at hq
       rcases List.mem_append.1 hq with hq | hq
       ·exact hI q hq
       ·rw [List.mem_singleton] at hq; subst hq; exact h2
      ·skip
       simp only [wR, Nat.reduceAdd, Nat.reduceLT, reduceIte]
       simp [wW]
     ·have hn : ((r.length : Int) != 2) = true := by simp; omega
      repeat' first | ((with_reducible first | refine cs ?_ ?_ | refine ws ?_ ?_ | refine wd ?_ ?_ | refine wu ?_ ?_) <;> intro h <;> try simp only [h]) | simp only [↓wBA, tTu, convA, seval, pl5_23Tu, enVV_len, enV_len, hdec, hi0, hw, hg, hn] | (with_reducible refine dP pl5_23Tu 17 (some 83) (by decide) (by kernel_rfl) ?_)
      all_goals refine ret_is (a := _) ?_ rfl rfl
      all_goals simp only [↓wBA, tTu, convA, seval]
      all_goals simp_all [wS]
    ·have hdec := dF (i := i) (n := a.length) (by omega)
     rw [List.take_of_length_le (by omega)] at hI
     have ha2 := hI
     clear hI
     repeat' first | ((with_reducible first | refine cs ?_ ?_ | refine ws ?_ ?_ | refine wd ?_ ?_ | refine wu ?_ ?_) <;> intro h <;> try simp only [h]) | simp only [↓wBA, tTu, convA, seval, pl5_23Tu, enVV_len, hdec] | (with_reducible refine dP pl5_23Tu 17 (some 83) (by decide) (by kernel_rfl) ?_)
     refine awp_loopN (b.length) (fun k => [(6, intV .i64 (k : Nat)), (4, .any), (35, .any), (36, .any), (37, .any), (38, .any), (39, .any), (40, .any), (41, .any), (42, .any), (43, .any), (44, .any), (45, .any), (46, .any)]) (fun k => []) (fun k => ∀ r ∈ b.take k, r.length = 2) ?_ ?_ ?_
     ·simp
     ·skip
      simp only [wR, Nat.reduceAdd, Nat.reduceLT, reduceIte]
      simp [wW]
     ·intro k hk hI
      simp only [wR, Nat.reduceAdd, Nat.reduceLT, reduceIte]
      by_cases hlk : k < b.length
      ·have hdec2 := dT (i := k) (n := b.length) (by omega)
       have hw2 := wI k (by omega)
       have hg := enVV_get b k hlk
       have hta := List.take_succ_eq_append_getElem hlk
       generalize b[k] = r at *
       by_cases h2 : r.length = 2
       ·have hn : ((r.length : Int) != 2) = false := by simp [h2]
        repeat' first | ((with_reducible first | refine cs ?_ ?_ | refine ws ?_ ?_ | refine wd ?_ ?_ | refine wu ?_ ?_) <;> intro h <;> try simp only [h]) | simp only [↓wBA, tTu, convA, seval, pl5_23Tu, enVV_len, enV_len, hdec2, nnI, hw2, hg, hn] | (with_reducible refine dP pl5_23Tu 17 (some 83) (by decide) (by kernel_rfl) ?_)
        refine ⟨⟨k + 1, by omega, ?_⟩, by show b.length - (k + 1) < b.length - k; omega, ?_⟩
        ·intro q hq
         rw [hta] at hq
         rcases List.mem_append.1 hq with hq | hq
         ·exact hI q hq
         ·rw [List.mem_singleton] at hq; subst hq; exact h2
        ·skip
         simp only [wR, Nat.reduceAdd, Nat.reduceLT, reduceIte]
         simp [wW]
       ·have hn : ((r.length : Int) != 2) = true := by simp; omega
        repeat' first | ((with_reducible first | refine cs ?_ ?_ | refine ws ?_ ?_ | refine wd ?_ ?_ | refine wu ?_ ?_) <;> intro h <;> try simp only [h]) | simp only [↓wBA, tTu, convA, seval, pl5_23Tu, enVV_len, enV_len, hdec2, nnI, hw2, hg, hn] | (with_reducible refine dP pl5_23Tu 17 (some 83) (by decide) (by kernel_rfl) ?_)
        all_goals refine ret_is (a := _) ?_ rfl rfl
        all_goals simp only [↓wBA, tTu, convA, seval]
        all_goals simp_all [wS]
      ·have hdec2 := dF (i := k) (n := b.length) (by omega)
       rw [List.take_of_length_le (by omega)] at hI
       have hb2 := hI
       clear hI
       obtain ⟨t1, t2, t3, t4, t5, t6⟩ := turn_all ha2 hb2
       have hJ1 := ajoin a b 10 0 0 emp emp emp 0 [slX 0, slX 3] ha hb (fun x hx y hy => by rw [ha2 x hx, hb2 y hy]; decide) har hbr (by intro y hy; rcases List.mem_cons.1 hy with rfl | hy; decide; rcases List.mem_cons.1 hy with rfl | hy; decide; cases hy)
       have hJ2 := ajoin b a 10 0 0 emp emp emp 0 [slX 1, slX 2] hb ha (fun x hx y hy => by rw [hb2 x hx, ha2 y hy]; decide) hbr har (by intro y hy; rcases List.mem_cons.1 hy with rfl | hy; decide; rcases List.mem_cons.1 hy with rfl | hy; decide; cases hy)
       have e1 : (Ex.mk 10 0 0 emp emp emp 0 [slX 0, slX 3]) = on03 := rfl
       have e2 : (Ex.mk 10 0 0 emp emp emp 0 [slX 1, slX 2]) = on12 := rfl
       rw [e1] at hJ1
       rw [e2] at hJ2
       generalize joinS a b on03 = L at *
       generalize joinS b a on12 = M at *
       obtain ⟨l, e⟩ := L
       obtain ⟨m, f⟩ := M
       simp only at t1 t2 t3 t4 t5 t6 hJ1 hJ2
       subst t1
       have hbvl : (enVV b).length = b.length := enVV_len b
       generalize enVV a = av at *
       generalize enVV b = bv at *
       simp only [on03, on12, exA, exC, exL, slX, noX, List.map_cons, List.map_nil, emp] at hJ1 hJ2
       by_cases he : e = 0
       ·subst he
        obtain ⟨t7, t8⟩ := t2 rfl
        obtain ⟨B, hB⟩ : ∃ B, B = m.map swp := ⟨_, rfl⟩
        rw [← hB] at t7
        have hBl : B.length = m.length := by rw [hB, List.length_map]
        have hBr : ∀ r ∈ B, r.length ≤ 4398046511104 := by rw [hB]; exact swp_len t4
        have hBs : ∀ (q : Nat) (h : q < m.length), B.take (q + 1) = B.take q ++ [swp m[q]] := fun q h => by
         rw [List.take_succ_eq_append_getElem (by omega)]
         congr 2
         simp [hB]
        have hT1 := atop l (by omega) (fun r hr => by rw [t3 r hr]; decide)
        have hT2 := atop B (by omega) hBr
        obtain ⟨w1, w2⟩ := inOrder_lens (l := B) (n := 10000) (by omega) hBr
        rw [t7] at hT1
        generalize topS B = T at *
        obtain ⟨T1, T2⟩ := T
        simp only at hT1 hT2 w1 w2
        have hS := asameVV T1 T1 (by omega) (by omega) w2 w2
        have hs : sameVV T1 T1 = true := decide_eq_true rfl
        rw [hs] at hS
        clear hB t2 t7 har hbr hs
        have hmx0 : ((0 : Nat) ≤ maxLen) = True := eq_true (Nat.zero_le _)
        have hmx2 := lM (n := (2 : Nat)) (by omega)
        have hmx4 := lM (n := (4 : Nat)) (by omega)
        repeat' first | ((with_reducible first | refine cs ?_ ?_ | refine ws ?_ ?_ | refine wd ?_ ?_ | refine wu ?_ ?_) <;> intro h <;> try simp only [h]) | simp only [↓wBA, tTu, convA, seval, pl5_23Tu, hbvl, hdec2, bne_self_eq_false, beq_self_eq_true] | ((with_reducible show ACalls _ _ _ _ _); first | ((with_reducible show ACalls _ 14 _ _ _); refine (hslot _ _).eq ?_) | ((with_reducible show ACalls _ 10 _ _ _); refine ACalls.frzArgs ?_; simp only [frzL, frzA]; refine (hn1 _).eq ?_) | ((with_reducible show ACalls _ 10 _ _ _); refine ACalls.frzArgs ?_; simp only [frzL, frzA]; refine (hn2 _).eq ?_) | ((with_reducible show ACalls _ 13 _ _ _); refine (hJ1 _).eq ?_) | ((with_reducible show ACalls _ 13 _ _ _); refine (hJ2 _).eq ?_)) | (with_reducible refine dP pl5_23Tu 17 (some 83) (by decide) (by kernel_rfl) ?_)
        refine awp_loopN (m.length) (fun q => [(11, .nown 2 1 (enVV (B.take q))), (12, intV .i64 (q : Nat)), (77, .any), (78, .any), (79, .any), (80, .any), (81, .any), (82, .any), (83, .any), (84, .any), (85, .any), (86, .any), (87, .any), (88, .any), (89, .any), (90, .any), (91, .any), (92, .any), (93, .any), (94, .any), (95, .any), (96, .any), (97, .any), (98, .any)]) (fun q => [(2, .nright 36 (q * 1))]) (fun q => True) ?_ ?_ ?_
        ·trivial
        ·skip
         simp only [wR, Nat.reduceAdd, Nat.reduceLT, reduceIte]
         simp [wW, enVV]
        ·intro q hq _
         simp only [wR, Nat.reduceAdd, Nat.reduceLT, reduceIte]
         by_cases hlq : q < m.length
         ·have hdec3 := dT (i := q) (n := m.length) (by omega)
          have hw3 := wI q (by omega)
          have hgm := enVV_get m q hlq
          have hBq := hBs q hlq
          have hlen : (B.take q).length = q := by rw [List.length_take]; omega
          have hlim1 := tL (n := (q + 1) * 24) (by omega)
          have hlim2 := lM (n := q + 1) (by omega)
          obtain ⟨x, y, z, u, hr⟩ := len4 (t4 _ (List.getElem_mem hlq))
          rw [hr] at hgm hBq
          simp only [enV, List.map_cons, List.map_nil] at hgm
          repeat' first | ((with_reducible first | refine cs ?_ ?_ | refine ws ?_ ?_ | refine wd ?_ ?_ | refine wu ?_ ?_) <;> intro h <;> try simp only [h]) | simp only [↓wBA, tTu, convA, seval, pl5_23Tu, enVV_len, hdec3, hw3, hgm, nnI, hlen, hlim1, hlim2, hmx0, hmx2, hmx4, sliceA, boundA, appendA, srcA, List.length_append] | (with_reducible refine dP pl5_23Tu 17 (some 83) (by decide) (by kernel_rfl) ?_)
          all_goals
           refine ⟨⟨q + 1, by omega, ?_⟩, by show m.length - (q + 1) < m.length - q; omega, ?_⟩
           ·trivial
           ·skip
            simp only [wR, Nat.reduceAdd, Nat.reduceLT, reduceIte]
            simp only [hBq, swp]
            simp [wW, enVV, enV, hlen]
         ·have hdec3 := dF (i := q) (n := m.length) (by omega)
          have hBt : B.take q = B := List.take_of_length_le (by omega)
          have hm1 : ((24 : Int) * (l.length : Int) ≤ 140737488355328) = True := eq_true (by omega)
          have hm2 : ((l.length : Int) ≤ (maxLen : Int)) = True := eq_true (by unfold maxLen; omega)
          have hm3 : ((24 : Int) * (B.length : Int) ≤ 140737488355328) = True := eq_true (by omega)
          have hm4 : ((B.length : Int) ≤ (maxLen : Int)) = True := eq_true (by unfold maxLen; omega)
          simp only [hBt]
          repeat' first | ((with_reducible first | refine cs ?_ ?_ | refine ws ?_ ?_ | refine wd ?_ ?_ | refine wu ?_ ?_) <;> intro h <;> try simp only [h]) | simp only [↓wBA, tTu, convA, seval, pl5_23Tu, enVV_len, hdec3, nnI, hm1, hm2, hm3, hm4, beq_self_eq_true] | ((with_reducible show ACalls _ _ _ _ _); first | ((with_reducible show ACalls _ 15 _ _ _); refine ACalls.frzArgs ?_; simp only [frzL, frzA]; refine ACalls.arg2 (nl_keys _) ?_; refine (hT1 _).eq ?_) | ((with_reducible show ACalls _ 15 _ _ _); refine ACalls.frzArgs ?_; simp only [frzL, frzA]; refine ACalls.arg2 (nl_keys _) ?_; refine ACalls.arg1 (nl_nil _ _) ?_; refine (hT2 _).eq ?_) | refine (hS _).eq ?_) | (with_reducible refine dP pl5_23Tu 17 (some 83) (by decide) (by kernel_rfl) ?_)
          all_goals refine ret_is (a := _) ?_ rfl rfl
          all_goals simp only [↓wBA, tTu, convA, seval]
          all_goals simp_all [wS]
       ·have hn : (e != 0) = true := by simpa using he
        repeat' first | ((with_reducible first | refine cs ?_ ?_ | refine ws ?_ ?_ | refine wd ?_ ?_ | refine wu ?_ ?_) <;> intro h <;> try simp only [h]) | simp only [↓wBA, tTu, convA, seval, pl5_23Tu, hbvl, hdec2, hn, bne_self_eq_false, beq_self_eq_true] | ((with_reducible show ACalls _ _ _ _ _); first | ((with_reducible show ACalls _ 14 _ _ _); refine (hslot _ _).eq ?_) | ((with_reducible show ACalls _ 10 _ _ _); refine ACalls.frzArgs ?_; simp only [frzL, frzA]; refine (hn1 _).eq ?_) | ((with_reducible show ACalls _ 10 _ _ _); refine ACalls.frzArgs ?_; simp only [frzL, frzA]; refine (hn2 _).eq ?_) | ((with_reducible show ACalls _ 13 _ _ _); refine (hJ1 _).eq ?_) | ((with_reducible show ACalls _ 13 _ _ _); refine (hJ2 _).eq ?_)) | (with_reducible refine dP pl5_23Tu 17 (some 83) (by decide) (by kernel_rfl) ?_)
        all_goals refine ret_is (a := _) ?_ rfl rfl
        all_goals simp only [↓wBA, tTu, convA, seval]
        all_goals simp_all [wS]
end Go.Proofs.YtpcblbbddccgpaaDoor
