/- Expressions bound. dml: the scope, expressions for columns. -/
import Derived.Test.YtcnkmandddfdmaaGreatDoorM34
set_option linter.unusedSimpArgs false
set_option linter.unusedVariables false
set_option linter.defProp false
set_option maxRecDepth 100000
set_option maxHeartbeats 32000000
namespace Go.Proofs.YtcnkmandddfdmaaGreatDoor
open Go.RowKit
def pl62_3Bd : Plan := (.det 0 (.det 1 (.det 2 (.det 3 (.det 4 (.act 5 (.det 6 .done)))))))
def pl62_6Bd : Plan := (.det 0 (.det 1 (.det 2 (.det 3 (.det 4 (.det 5 (.det 6 (.det 7 (.act 8 (.det 9 (.det 10 .done)))))))))))
def pl62_13Bd : Plan := (.det 0 (.det 1 (.det 2 (.det 3 (.det 4 (.det 5 (.det 6 (.act 7 (.det 8 (.det 9 .done))))))))))
def tBd := aa wX <| aa wbu <| aa T3 <| aa T4 <| aa T9 <| aa T33 <| aa T41 <| aa T45 <| aa T78 <| aa T79 <| aa T87 T137
abbrev BR := Ex × Int × Int
def bErr (e : Int) : BR := (ex0, 0, e)
mutual
def bndS (cols : List Bc) : Ex → BR
 | .mk k vk vn vs tb nm s kids =>
   if aggB k = true then bErr 33
   else if (kids.length : Int) ≠ kidsB k then bErr 1
   else if k = 1 then (if okV (vk, vn, vs) = true then (.mk 1 vk vn vs emp emp 0 [], vk, 0) else bErr 1)
   else if k = 2 then (if (findS tb nm cols).2 ≠ 0 then bErr (findS tb nm cols).2 else (.mk 24 0 0 emp emp emp (findS tb nm cols).1 [], (cols.getD (findS tb nm cols).1.toNat (emp, emp, 0)).2.2, 0))
   else if (bndL cols kids).2.2 ≠ 0 then bErr (bndL cols kids).2.2
   else if (typedS k (bndL cols kids).2.1).2 = false then bErr 33
   else (.mk k 0 0 emp emp emp 0 (bndL cols kids).1, (typedS k (bndL cols kids).2.1).1, 0)
def bndL (cols : List Bc) : List Ex → List Ex × List Int × Int
 | [] => ([], [], 0)
 | x :: l => if (bndS cols x).2.2 ≠ 0 then ([], [], (bndS cols x).2.2) else ((bndS cols x).1 :: (bndL cols l).1, (bndS cols x).2.1 :: (bndL cols l).2.1, (bndL cols l).2.2)
end
def BindOK (cols : List Bc) (x : Ex) : Prop := ∀ σ, ACalls Tryz.prog 62 [exA x, .p (.sl 3 (enBc cols))] σ fun r s => s = σ ∧ r = .tup [exA (bndS cols x).1, intV .i64 (bndS cols x).2.1, intV .i64 (bndS cols x).2.2]
theorem bndL_bad (cols : List Bc) : ∀ (l : List Ex) (i : Nat) (h : i < l.length), (∀ j (hj : j < i), (bndS cols (l[j]'(by omega))).2.2 = 0) → (bndS cols l[i]).2.2 ≠ 0 → (bndL cols l).2.2 = (bndS cols l[i]).2.2
 | [], i, h, _, _ => by simp at h
 | x :: l, 0, h, _, h2 => by simp only [bndL, List.getElem_cons_zero] at h2 ⊢; rw [if_pos h2]
 | x :: l, i + 1, h, h1, h2 => by
   have h0 := h1 0 (by omega)
   simp only [List.getElem_cons_zero] at h0
   simp only [bndL, List.getElem_cons_succ] at h2 ⊢
   rw [if_neg (by simp [h0])]
   exact bndL_bad cols l i (by simpa using h) (fun j hj => by have := h1 (j + 1) (by omega); simpa using this) h2
theorem bndL_ok (cols : List Bc) : ∀ (l : List Ex), (∀ j (hj : j < l.length), (bndS cols l[j]).2.2 = 0) → bndL cols l = (l.map fun x => (bndS cols x).1, l.map fun x => (bndS cols x).2.1, 0)
 | [], _ => rfl
 | x :: l, h => by
   have h0 := h 0 (by simp)
   simp only [List.getElem_cons_zero] at h0
   have ih := bndL_ok cols l fun j hj => by have := h (j + 1) (by simpa using hj); simpa using this
   simp only [bndL, h0, ih, ne_eq, not_true_eq_false, if_false, List.map_cons]
theorem exL_at : ∀ (l : List Ex) (i : Nat) (h : i < l.length), (exL l)[i]? = some (exC l[i])
 | [], i, h => by simp at h
 | x :: l, 0, h => by simp [exL]
 | x :: l, i + 1, h => by simp only [exL, List.getElem?_cons_succ, List.getElem_cons_succ]; exact exL_at l i (by simpa using h)
theorem exC_mk (x : Ex) : ∃ a b c d e f g h, exC x = [.v (.int .i64 a), .v (.int .i64 b), .v (.int .i64 c), .v (.string d), .v (.string e), .v (.string f), .v (.int .i64 g), .sl 8 h] := by
 obtain ⟨a, b, c, d, e, f, g, h⟩ := x
 exact ⟨_, _, _, _, _, _, _, _, rfl⟩
def zsF (cols : List Bc) (l : List Ex) : List Ex := l.map fun x => (bndS cols x).1
def tsF (cols : List Bc) (l : List Ex) : List Int := l.map fun x => (bndS cols x).2.1
theorem zsF_len (cols : List Bc) (l : List Ex) : (zsF cols l).length = l.length := by simp [zsF]
theorem tsF_len (cols : List Bc) (l : List Ex) : (tsF cols l).length = l.length := by simp [tsF]
theorem zsF_succ (cols : List Bc) (l : List Ex) (i : Nat) (h : i < l.length) : exL (zsF cols (l.take (i + 1))) = exL (zsF cols (l.take i)) ++ [exC (bndS cols l[i]).1] := by
 rw [List.take_succ_eq_append_getElem h, zsF, List.map_append, exL_app]; rfl
theorem tsF_succ (cols : List Bc) (l : List Ex) (i : Nat) (h : i < l.length) : enI (tsF cols (l.take (i + 1))) = enI (tsF cols (l.take i)) ++ [[.v (.int .i64 (bndS cols l[i]).2.1)]] := by
 rw [List.take_succ_eq_append_getElem h, tsF, enI, List.map_append, List.map_append]; rfl
theorem nilSl_ne (e : Nat) (l : List (List PV)) (h : l ≠ []) : nilSl e l = .sl e l := by
 cases l with
 | nil => exact (h rfl).elim
 | cons x l => rfl
theorem bind_of (cols : List Bc) (hc : cols.length ≤ 4398046511104) (k vk vn : Int) (vs tb nm : ByteArray) (s : Int) (kids : List Ex) (ih : ∀ y ∈ kids, BindOK cols y) : BindOK cols (.mk k vk vn vs tb nm s kids) := by
 intro σ
 refine ACalls.pureF (R := fun r => r = .tup [exA (bndS cols (.mk k vk vn vs tb nm s kids)).1, intV .i64 (bndS cols (.mk k vk vn vs tb nm s kids)).2.1, intV .i64 (bndS cols (.mk k vk vn vs tb nm s kids)).2.2]) ?_ rfl σ
 refine acalls_of cx_ok dr_ok Tryz.func62 (by kernel_rfl) rfl (nt := 118) (rs := [.cell 4 78, .tmp 5, .tmp 6]) rfl rfl ?_
 simp only [exA, exC, List.map_cons, List.map_nil, bndS]
 by_cases hagg : aggB k = true
 ·simp only [hagg, if_true]
  repeat' first | ((with_reducible first | refine cs ?_ ?_ | refine ws ?_ ?_ | refine wd ?_ ?_ | refine wu ?_ ?_) <;> intro h <;> try simp only [h]) | simp only [↓wBA, tBd, convA, seval, pl62_3Bd, pl62_6Bd, pl62_13Bd, hagg] | ((with_reducible show ACalls _ _ _ _ _); refine (aaggB _ _).eq ?_; simp only [hagg]) | (with_reducible refine dP pl62_3Bd 7 (some 22) (by decide) (by kernel_rfl) ?_) | (with_reducible refine dP pl62_6Bd 11 (some 39) (by decide) (by kernel_rfl) ?_) | (with_reducible refine dP pl62_13Bd 10 (some 69) (by decide) (by kernel_rfl) ?_)
  all_goals refine ret_is (a := _) ?_ rfl rfl
  all_goals simp only [↓wBA, tBd, convA, seval]
  all_goals simp_all [wS, bErr, ex0, exC, exL, emp]
 ·have hagg' : aggB k = false := by simpa using hagg
  simp only [hagg', Bool.false_eq_true, if_false]
  by_cases hkn : (kids.length : Int) = kidsB k
  ·have hd : ((kids.length : Int) != kidsB k) = false := by simp [hkn]
   rw [if_neg (by simpa using hkn)]
   have hkl : kids.length ≤ 2 := by have : kidsB k ≤ 2 := by unfold kidsB; split <;> (try split) <;> (try split) <;> omega
                                    omega
   by_cases h1 : k = 1
   ·subst h1
    simp only [if_true]
    repeat' first | ((with_reducible first | refine cs ?_ ?_ | refine ws ?_ ?_ | refine wd ?_ ?_ | refine wu ?_ ?_) <;> intro h <;> try simp only [h]) | simp only [↓wBA, tBd, convA, seval, pl62_3Bd, pl62_6Bd, pl62_13Bd, exL_len, hd, Int.reduceBEq] | ((with_reducible show ACalls _ _ _ _ _); first | (refine (aaggB _ _).eq ?_; simp only [hagg']) | refine (akidsB _ _).eq ?_ | refine (aokV (_, _, _) _).eq ?_) | (with_reducible refine dP pl62_3Bd 7 (some 22) (by decide) (by kernel_rfl) ?_) | (with_reducible refine dP pl62_6Bd 11 (some 39) (by decide) (by kernel_rfl) ?_) | (with_reducible refine dP pl62_13Bd 10 (some 69) (by decide) (by kernel_rfl) ?_)
    all_goals refine ret_is (a := _) ?_ rfl rfl
    all_goals simp only [↓wBA, tBd, convA, seval]
    all_goals simp_all [wS, bErr, ex0, exC, exL, emp]
   ·have h1' : (k == 1) = false := by simpa using h1
    rw [if_neg h1]
    by_cases h2 : k = 2
    ·subst h2
     simp only [if_true]
     by_cases hf : (findS tb nm cols).2 = 0
     ·obtain ⟨hf1, hf2⟩ := findS_lt hf
      have hg := enBc_get cols _ hf2
      have hge : cols.getD (findS tb nm cols).1.toNat (emp, emp, 0) = cols[(findS tb nm cols).1.toNat] := by simp [List.getD, hf2]
      rw [if_neg (by simpa using hf)]
      have hfd : ((findS tb nm cols).2 != 0) = false := by simp [hf]
      have hi0 : ((0 : Int) ≤ (findS tb nm cols).1) = True := eq_true hf1
      rw [hge]
      rcases hcc : cols[(findS tb nm cols).1.toNat] with ⟨c1, c2, c3⟩
      rw [hcc] at hg
      simp only [bcC] at hg
      repeat' first | ((with_reducible first | refine cs ?_ ?_ | refine ws ?_ ?_ | refine wd ?_ ?_ | refine wu ?_ ?_) <;> intro h <;> try simp only [h]) | simp only [↓wBA, tBd, convA, seval, pl62_3Bd, pl62_6Bd, pl62_13Bd, exL_len, hd, Int.reduceBEq, hfd, hi0, hg] | ((with_reducible show ACalls _ _ _ _ _); first | (refine (aaggB _ _).eq ?_; simp only [hagg']) | refine (akidsB _ _).eq ?_ | refine (afind0 _ _ _ hc _).eq ?_) | (with_reducible refine dP pl62_3Bd 7 (some 22) (by decide) (by kernel_rfl) ?_) | (with_reducible refine dP pl62_6Bd 11 (some 39) (by decide) (by kernel_rfl) ?_) | (with_reducible refine dP pl62_13Bd 10 (some 69) (by decide) (by kernel_rfl) ?_)
      all_goals refine ret_is (a := _) ?_ rfl rfl
      all_goals simp only [↓wBA, tBd, convA, seval]
      all_goals simp_all [wS, bErr, ex0, exC, exL, emp]
     ·rw [if_pos hf]
      have hfd : ((findS tb nm cols).2 != 0) = true := by simpa using hf
      repeat' first | ((with_reducible first | refine cs ?_ ?_ | refine ws ?_ ?_ | refine wd ?_ ?_ | refine wu ?_ ?_) <;> intro h <;> try simp only [h]) | simp only [↓wBA, tBd, convA, seval, pl62_3Bd, pl62_6Bd, pl62_13Bd, exL_len, hd, Int.reduceBEq, hfd] | ((with_reducible show ACalls _ _ _ _ _); first | (refine (aaggB _ _).eq ?_; simp only [hagg']) | refine (akidsB _ _).eq ?_ | refine (afind0 _ _ _ hc _).eq ?_) | (with_reducible refine dP pl62_3Bd 7 (some 22) (by decide) (by kernel_rfl) ?_) | (with_reducible refine dP pl62_6Bd 11 (some 39) (by decide) (by kernel_rfl) ?_) | (with_reducible refine dP pl62_13Bd 10 (some 69) (by decide) (by kernel_rfl) ?_)
      all_goals refine ret_is (a := _) ?_ rfl rfl
      all_goals simp only [↓wBA, tBd, convA, seval]
      all_goals simp_all [wS, bErr, ex0, exC, exL, emp]
    ·have h2' : (k == 2) = false := by simpa using h2
     rw [if_neg h2]
     have hk2 : 1 ≤ kids.length ∧ ((2 ≤ kids.length) ∨ k = 3 ∨ k = 4 ∨ k = 18 ∨ k = 19) := by
      unfold kidsB at hkn
      rw [if_neg (by omega)] at hkn
      split at hkn
      ·omega
      ·split at hkn <;> omega
     clear hkn
     simp only [↓wBA, tBd, convA, seval, exL_len]
     refine (aaggB _ _).mono ?_
     rintro _ _ ⟨rfl, rfl⟩
     simp only [hagg']
     repeat' first | ((with_reducible first | refine cs ?_ ?_ | refine ws ?_ ?_ | refine wd ?_ ?_ | refine wu ?_ ?_) <;> intro h <;> try simp only [h]) | simp only [↓wBA, tBd, convA, seval, pl62_3Bd, pl62_6Bd, pl62_13Bd, exL_len, hd, h1', h2'] | ((with_reducible show ACalls _ _ _ _ _); refine (akidsB _ _).eq ?_) | (with_reducible refine dP pl62_3Bd 7 (some 22) (by decide) (by kernel_rfl) ?_) | (with_reducible refine dP pl62_6Bd 11 (some 39) (by decide) (by kernel_rfl) ?_) | (with_reducible refine dP pl62_13Bd 10 (some 69) (by decide) (by kernel_rfl) ?_)
     refine awp_loopN (kids.length) (fun i => [(10, .nown 4 1 (enI (tsF cols (kids.take i)))), (82, intV .i64 (i : Nat)), (5, .any), (6, .any), (12, .any), (13, .any), (14, .any), (15, .any), (83, .any), (84, .any), (85, .any), (86, .any), (87, .any), (88, .any), (89, .any), (90, .any), (91, .any), (92, .any), (93, .any), (94, .any), (95, .any), (96, .any), (97, .any), (98, .any), (99, .any), (100, .any), (101, .any), (102, .any), (103, .any), (104, .any), (105, .any), (106, .any), (107, .any)]) (fun i => [(2, .row 8 [[.p (.v (.int .i64 k)), .p (.v (.int .i64 0)), .p (.v (.int .i64 0)), .p (.v (.string emp)), .p (.v (.string emp)), .p (.v (.string emp)), .p (.v (.int .i64 0)), .nown 3 8 (exL (zsF cols (kids.take i)))]]), (3, .nright 78 (i * 8)), (4, .nright 3 (i * 1))]) (fun i => ∀ j (hj : j < i) (hj' : j < kids.length), (bndS cols kids[j]).2.2 = 0) ?_ ?_ ?_
     ·intro j hj; omega
     ·skip
      simp only [wR, Nat.reduceAdd, Nat.reduceLT, reduceIte]
      simp [wW, zsF, tsF, exL, enI, emp]
     ·intro i hi hI
      simp only [wR, Nat.reduceAdd, Nat.reduceLT, reduceIte]
      by_cases hlt : i < kids.length
      ·have hdec := dT (i := i) (n := kids.length) (by omega)
       have hi0 := nnI i
       have hw := wI i (by omega)
       have hg := exL_at kids i hlt
       have ihi := ih kids[i] (List.getElem_mem hlt)
       have hz1 := zsF_succ cols kids i hlt
       have ht1 := tsF_succ cols kids i hlt
       have hzl : (exL (zsF cols (kids.take i))).length = i := by rw [exL_len, zsF_len]; simp; omega
       have htl : (enI (tsF cols (kids.take i))).length = i := by rw [enI_len, tsF_len]; simp; omega
       obtain ⟨a1, a2, a3, a4, a5, a6, a7, a8, hz⟩ := exC_mk (bndS cols kids[i]).1
       have hbad := bndL_bad cols kids i hlt (fun j hj => hI j hj (by omega))
       have hlim1 := tL (n := (i + 1) * 104) (by omega)
       have hlim2 := lM (n := i + 1) (by omega)
       have hlim3 := tL (n := (i + 1) * 8) (by omega)
       rw [hz] at hz1
       generalize hte : (bndS cols kids[i]).2.2 = te at *
       generalize htt : (bndS cols kids[i]).2.1 = tt at *
       simp only [BindOK, exA, hz, List.map_cons, List.map_nil, hte, htt] at ihi
       repeat' first | ((with_reducible first | refine cs ?_ ?_ | refine ws ?_ ?_ | refine wd ?_ ?_ | refine wu ?_ ?_) <;> intro h <;> try simp only [h]) | simp only [↓wBA, tBd, convA, seval, pl62_3Bd, pl62_6Bd, pl62_13Bd, exL_len, hdec, hi0, hg, hw, hzl, htl, hlim1, hlim2, hlim3, appendA, srcA, List.length_append, exC_len, List.length_map] | ((with_reducible show ACalls _ _ _ _ _); refine (ihi _).eq ?_) | (with_reducible refine dP pl62_3Bd 7 (some 22) (by decide) (by kernel_rfl) ?_) | (with_reducible refine dP pl62_6Bd 11 (some 39) (by decide) (by kernel_rfl) ?_) | (with_reducible refine dP pl62_13Bd 10 (some 69) (by decide) (by kernel_rfl) ?_)
       ·have hne : ¬ te = 0 := by simpa using h
        have hb := hbad hne
        simp only [hb, hne, ne_eq, not_false_eq_true, if_true]
        all_goals refine ret_is (a := _) ?_ rfl rfl
        all_goals simp only [↓wBA, tBd, convA, seval]
        all_goals simp_all [wS, bErr, ex0, exC, exL, emp]
       ·have he0 : te = 0 := by simpa using h
        refine ⟨⟨i + 1, by omega, ?_⟩, by show kids.length - (i + 1) < kids.length - i; omega, ?_⟩
        ·intro j hj hj'
         by_cases e : j = i
         ·subst e; rw [hte]; exact he0
         ·exact hI j (by omega) hj'
        ·simp only [hz1, ht1]
         simp [wW]
      ·have hdec := dF (i := i) (n := kids.length) (by omega)
       have ht : kids.take i = kids := List.take_of_length_le (by omega)
       have hie : i = kids.length := by omega
       have hok : bndL cols kids = (zsF cols kids, tsF cols kids, 0) := bndL_ok cols kids (fun j hj => hI j (by omega) hj)
       rw [hok]
       simp only [ht, ne_eq, not_true_eq_false, if_false]
       have hne : nilSl 1 (enI (tsF cols kids)) = .sl 1 (enI (tsF cols kids)) := nilSl_ne _ _ (by intro h; have := congrArg List.length h; rw [enI_len, tsF_len, List.length_nil] at this; omega)
       have hT := atyped k (tsF cols kids) (by rw [tsF_len]; omega) (by rw [tsF_len]; exact hk2.2)
       rcases hty : typedS k (tsF cols kids) with ⟨t, ok⟩
       simp only [hty] at hT
       cases ok
       all_goals simp only [if_true, Bool.true_eq_false, if_false]
       ·skip
        repeat' first | ((with_reducible first | refine cs ?_ ?_ | refine ws ?_ ?_ | refine wd ?_ ?_ | refine wu ?_ ?_) <;> intro h <;> try simp only [h]) | simp only [↓wBA, tBd, convA, seval, pl62_3Bd, pl62_6Bd, pl62_13Bd, exL_len, hdec] | ((with_reducible show ACalls _ _ _ _ _); refine ACalls.frzArgs ?_; simp only [frzL, frzA, hne]; refine (hT _).eq ?_) | (with_reducible refine dP pl62_3Bd 7 (some 22) (by decide) (by kernel_rfl) ?_) | (with_reducible refine dP pl62_6Bd 11 (some 39) (by decide) (by kernel_rfl) ?_) | (with_reducible refine dP pl62_13Bd 10 (some 69) (by decide) (by kernel_rfl) ?_)
        all_goals refine ret_is (a := _) ?_ rfl rfl
        all_goals simp only [↓wBA, tBd, convA, seval]
        all_goals simp_all [wS, bErr, ex0, exC, exL, emp]
       ·skip
        repeat' first | ((with_reducible first | refine cs ?_ ?_ | refine ws ?_ ?_ | refine wd ?_ ?_ | refine wu ?_ ?_) <;> intro h <;> try simp only [h]) | simp only [↓wBA, tBd, convA, seval, pl62_3Bd, pl62_6Bd, pl62_13Bd, exL_len, hdec] | ((with_reducible show ACalls _ _ _ _ _); refine ACalls.frzArgs ?_; simp only [frzL, frzA, hne]; refine (hT _).eq ?_) | (with_reducible refine dP pl62_3Bd 7 (some 22) (by decide) (by kernel_rfl) ?_) | (with_reducible refine dP pl62_6Bd 11 (some 39) (by decide) (by kernel_rfl) ?_) | (with_reducible refine dP pl62_13Bd 10 (some 69) (by decide) (by kernel_rfl) ?_)
        all_goals refine ret_is (a := _) ?_ rfl rfl
        all_goals simp only [↓wBA, tBd, convA, seval]
        all_goals simp_all [wS, bErr, ex0, exC, exL, emp]
  ·have hd : ((kids.length : Int) != kidsB k) = true := by simpa using hkn
   rw [if_pos hkn]
   repeat' first | ((with_reducible first | refine cs ?_ ?_ | refine ws ?_ ?_ | refine wd ?_ ?_ | refine wu ?_ ?_) <;> intro h <;> try simp only [h]) | simp only [↓wBA, tBd, convA, seval, pl62_3Bd, pl62_6Bd, pl62_13Bd, exL_len, hd] | ((with_reducible show ACalls _ _ _ _ _); first | (refine (aaggB _ _).eq ?_; simp only [hagg']) | refine (akidsB _ _).eq ?_) | (with_reducible refine dP pl62_3Bd 7 (some 22) (by decide) (by kernel_rfl) ?_) | (with_reducible refine dP pl62_6Bd 11 (some 39) (by decide) (by kernel_rfl) ?_) | (with_reducible refine dP pl62_13Bd 10 (some 69) (by decide) (by kernel_rfl) ?_)
   all_goals refine ret_is (a := _) ?_ rfl rfl
   all_goals simp only [↓wBA, tBd, convA, seval]
   all_goals simp_all [wS, bErr, ex0, exC, exL, emp]
mutual
theorem abind (cols : List Bc) (hc : cols.length ≤ 4398046511104) : ∀ x : Ex, BindOK cols x
 | .mk k vk vn vs tb nm s kids => bind_of cols hc k vk vn vs tb nm s kids (abindL cols hc kids)
theorem abindL (cols : List Bc) (hc : cols.length ≤ 4398046511104) : ∀ (l : List Ex), ∀ y ∈ l, BindOK cols y
 | [], y, hy => by simp at hy
 | x :: l, y, hy => by
   by_cases e : y = x
   ·rw [e]; exact abind cols hc x
   ·exact abindL cols hc l y ((List.mem_cons.1 hy).resolve_left e)
end
end Go.Proofs.YtcnkmandddfdmaaGreatDoor
namespace Go.Proofs.YtcnkmandddfdmaaGreatDoor
open Go.RowKit
def pl32_6Db : Plan := (.det 0 (.det 1 (.det 2 (.det 3 (.det 4 (.det 5 (.det 6 (.det 7 (.det 8 (.det 9 (.det 10 (.det 11 (.det 12 (.det 13 (.det 14 (.det 15 (.det 16 (.det 17 (.det 18 .done)))))))))))))))))))
def tDb := aa wX <| aa wbu <| aa T3 <| aa T9 <| aa T22 <| aa T24 <| aa T33 <| aa T44 <| aa T45 <| aa T78 <| aa T79 <| aa T87 T137
def scopeS (nm : ByteArray) (cols : List Tc) : List Bc := cols.map fun c => (nm, c.1, c.2.1)
theorem scope_succ (nm : ByteArray) (cols : List Tc) (i : Nat) (h : i < cols.length) : enBc (scopeS nm (cols.take (i + 1))) = enBc (scopeS nm (cols.take i)) ++ [[.v (.string nm), .v (.string cols[i].1), .v (.int .i64 cols[i].2.1)]] := by
 rw [List.take_succ_eq_append_getElem h, scopeS, enBc, List.map_append, List.map_append]; rfl
theorem ascope (nm : ByteArray) (cols : List Tc) (hl : cols.length ≤ 4398046511104) (σ : St) : ACalls Tryz.prog 35 [tbA nm cols] σ fun r s => s = σ ∧ r = .p (.sl 3 (enBc (scopeS nm cols))) := by
 refine ACalls.pureF (R := fun r => r = .p (.sl 3 (enBc (scopeS nm cols)))) ?_ rfl σ
 refine acalls_of cx_ok dr_ok Tryz.func35 (by kernel_rfl) rfl (nt := 24) (rs := [.tmp 2]) rfl rfl ?_
 simp only [tbA]
 simp only [↓wBA, tDb, convA, seval, enTc_len]
 refine awp_loopN (cols.length) (fun i => [(3, .nown 1 3 (enBc (scopeS nm (cols.take i)))), (9, intV .i64 (i : Nat)), (5, .any), (10, .any), (11, .any), (12, .any), (13, .any), (14, .any), (15, .any), (16, .any), (17, .any), (18, .any), (19, .any), (20, .any), (21, .any), (22, .any), (23, .any)]) (fun i => [(1, .nright 137 (i * 3))]) (fun i => True) ?_ ?_ ?_
 ·trivial
 ·skip
  simp only [wR, Nat.reduceAdd, Nat.reduceLT, reduceIte]
  simp [wW, scopeS, enBc]
 ·intro i hi _
  simp only [wR, Nat.reduceAdd, Nat.reduceLT, reduceIte]
  by_cases hlt : i < cols.length
  ·have hdec := dT (i := i) (n := cols.length) (by omega)
   have hi0 := nnI i
   have hw := wI i (by omega)
   have hg := enTc_get cols i hlt
   have hst := scope_succ nm cols i hlt
   have htl : (enBc (scopeS nm (cols.take i))).length = i := by rw [enBc_len]; simp [scopeS]; omega
   have hlim1 := tL (n := (i + 1) * 32) (by omega)
   have hlim2 := lM (n := i + 1) (by omega)
   rcases hc : cols[i] with ⟨c1, c2, c3, c4⟩
   rw [hc] at hst hg
   simp only [tcC] at hg
   repeat' first | ((with_reducible first | refine cond_split ?_ ?_ | refine ws ?_ ?_) <;> intro h <;> try simp only [h]) | simp only [↓wBA, tDb, convA, seval, enTc_len, hdec, hi0, hg, hw, htl, hlim1, hlim2, appendA, srcA, List.length_append]
   refine ⟨⟨i + 1, by omega, ?_⟩, by show cols.length - (i + 1) < cols.length - i; omega, ?_⟩
   ·trivial
   ·simp only [hst]
    simp [wW]
  ·have hdec := dF (i := i) (n := cols.length) (by omega)
   have ht : cols.take i = cols := List.take_of_length_le (by omega)
   simp only [ht]
   repeat' first | ((with_reducible first | refine cond_split ?_ ?_ | refine ws ?_ ?_) <;> intro h <;> try simp only [h]) | simp only [↓wBA, tDb, convA, seval, enTc_len, hdec]
   all_goals refine ret_is (a := _) ?_ rfl rfl
   all_goals simp only [↓wBA, tDb, convA, seval]
   all_goals simp_all [wS]
def asgE (scope : List Bc) (x : Ex) (ty : Int) : Int := if (bndS scope x).2.2 = 0 ∧ (bndS scope x).2.1 ≠ 0 ∧ (bndS scope x).2.1 ≠ ty then 33 else (bndS scope x).2.2
def tyAt (tcols : List Tc) (c : Int) : Int := (tcols.getD c.toNat (emp, 0, false, false)).2.1
def asgS (scope : List Bc) (tcols : List Tc) : List Ex → List Int → List Ex × Int
 | x :: xs, c :: cs => if asgE scope x (tyAt tcols c) ≠ 0 then ([], asgE scope x (tyAt tcols c)) else if (asgS scope tcols xs cs).2 ≠ 0 then ([], (asgS scope tcols xs cs).2) else ((bndS scope x).1 :: (asgS scope tcols xs cs).1, 0)
 | _, _ => ([], 0)
theorem asgS_bad (scope : List Bc) (tcols : List Tc) : ∀ (xs : List Ex) (cs : List Int) (i : Nat) (h : i < xs.length) (h' : i < cs.length), (∀ j (hj : j < i), asgE scope (xs[j]'(by omega)) (tyAt tcols (cs[j]'(by omega))) = 0) → asgE scope xs[i] (tyAt tcols cs[i]) ≠ 0 → asgS scope tcols xs cs = ([], asgE scope xs[i] (tyAt tcols cs[i]))
 | x :: xs, c :: cs, 0, h, h', _, h2 => by simp only [asgS, List.getElem_cons_zero] at h2 ⊢; rw [if_pos h2]
 | x :: xs, c :: cs, i + 1, h, h', h1, h2 => by
   have h0 := h1 0 (by omega)
   simp only [List.getElem_cons_zero] at h0
   have ih := asgS_bad scope tcols xs cs i (by simpa using h) (by simpa using h') (fun j hj => by have := h1 (j + 1) (by omega); simpa using this) (by simpa using h2)
   simp only [asgS, List.getElem_cons_succ] at h2 ⊢
   rw [if_neg (by simp [h0]), ih, if_pos h2]
 | [], cs, i, h, h', _, _ => by simp at h
 | x :: xs, [], i, h, h', _, _ => by simp at h'
theorem asgS_ok (scope : List Bc) (tcols : List Tc) : ∀ (xs : List Ex) (cs : List Int), xs.length ≤ cs.length → (∀ j (hj : j < xs.length) (hj' : j < cs.length), asgE scope xs[j] (tyAt tcols cs[j]) = 0) → asgS scope tcols xs cs = (zsF scope xs, 0)
 | [], cs, _, _ => by simp [asgS, zsF]
 | x :: xs, [], h, _ => by simp at h
 | x :: xs, c :: cs, h, h1 => by
   have h0 := h1 0 (by simp) (by simp)
   simp only [List.getElem_cons_zero] at h0
   have ih := asgS_ok scope tcols xs cs (by simpa using h) fun j hj hj' => by have := h1 (j + 1) (by simpa using hj) (by simpa using hj'); simpa using this
   simp only [asgS, h0, ih, ne_eq, not_true_eq_false, if_false, zsF, List.map_cons]
theorem aassigned (xs : List Ex) (cs : List Int) (nm : ByteArray) (tcols : List Tc) (scope : List Bc) (hx : xs.length ≤ 1000000000000) (hxc : xs.length ≤ cs.length) (hcs : ∀ c ∈ cs, 0 ≤ c ∧ c.toNat < tcols.length) (hsc : scope.length ≤ 4398046511104) (σ : St) : ACalls Tryz.prog 32 [.p (.sl 8 (exL xs)), .p (.sl 1 (enI cs)), tbA nm tcols, .p (.sl 3 (enBc scope))] σ fun r s => s = σ ∧ r = .tup [.p (.sl 8 (exL (asgS scope tcols xs cs).1)), intV .i64 (asgS scope tcols xs cs).2] := by
 refine ACalls.pureF (R := fun r => r = .tup [.p (.sl 8 (exL (asgS scope tcols xs cs).1)), intV .i64 (asgS scope tcols xs cs).2]) ?_ rfl σ
 refine acalls_of cx_ok dr_ok Tryz.func32 (by kernel_rfl) rfl (nt := 54) (rs := [.tmp 8, .tmp 9]) rfl rfl ?_
 simp only [tbA]
 simp only [↓wBA, tDb, convA, seval, exL_len]
 refine awp_loopN (xs.length) (fun i => [(10, .nown 1 8 (exL (zsF scope (xs.take i)))), (18, intV .i64 (i : Nat)), (8, .any), (9, .any), (11, .any), (12, .any), (13, .any), (14, .any), (15, .any), (19, .any), (20, .any), (21, .any), (22, .any), (23, .any), (24, .any), (25, .any), (26, .any), (27, .any), (28, .any), (29, .any), (30, .any), (31, .any), (32, .any), (33, .any), (34, .any), (35, .any), (36, .any), (37, .any), (38, .any), (39, .any), (40, .any), (41, .any), (42, .any), (43, .any), (44, .any), (45, .any), (46, .any), (47, .any), (48, .any), (49, .any), (50, .any), (51, .any), (52, .any), (53, .any), (54, .any), (55, .any), (56, .any)]) (fun i => [(1, .nright 78 (i * 8))]) (fun i => ∀ j (hj : j < i) (hj' : j < xs.length), asgE scope xs[j] (tyAt tcols (cs[j]'(by omega))) = 0) ?_ ?_ ?_
 ·intro j hj; omega
 ·skip
  simp only [wR, Nat.reduceAdd, Nat.reduceLT, reduceIte]
  simp [wW, zsF, exL]
 ·intro i hi hI
  simp only [wR, Nat.reduceAdd, Nat.reduceLT, reduceIte]
  by_cases hlt : i < xs.length
  ·have hdec := dT (i := i) (n := xs.length) (by omega)
   have hi0 := nnI i
   have hw := wI i (by omega)
   have hg := exL_at xs i hlt
   have hci : i < cs.length := by omega
   have hgc := enI_get cs i hci
   obtain ⟨hc0, hcl⟩ := hcs cs[i] (List.getElem_mem hci)
   have hc0' : ((0 : Int) ≤ cs[i]) = True := eq_true hc0
   have hgt := enTc_get tcols _ hcl
   have hty : tyAt tcols cs[i] = (tcols[cs[i].toNat]).2.1 := by unfold tyAt; simp [List.getD, hcl]
   have hB := abind scope hsc xs[i]
   have hz1 := zsF_succ scope xs i hlt
   have hzl : (exL (zsF scope (xs.take i))).length = i := by rw [exL_len, zsF_len]; simp; omega
   have hlim1 := tL (n := (i + 1) * 104) (by omega)
   have hlim2 := lM (n := i + 1) (by omega)
   have hbad := asgS_bad scope tcols xs cs i hlt hci (fun j hj => hI j hj (by omega))
   have hnext : asgE scope xs[i] (tyAt tcols cs[i]) = 0 → ∀ j (hj : j < i + 1) (hj' : j < xs.length), asgE scope xs[j] (tyAt tcols (cs[j]'(by omega))) = 0 := fun h0 j hj hj' => by
    by_cases e : j = i
    ·subst e; exact h0
    ·exact hI j (by omega) hj'
   have hee : asgE scope xs[i] (tyAt tcols cs[i]) = if (bndS scope xs[i]).2.2 = 0 ∧ (bndS scope xs[i]).2.1 ≠ 0 ∧ (bndS scope xs[i]).2.1 ≠ tyAt tcols cs[i] then 33 else (bndS scope xs[i]).2.2 := rfl
   rw [hty] at hee
   rw [hty] at hbad hnext
   generalize hae : asgE scope xs[i] (tcols[cs[i].toNat]).2.1 = ae at *
   obtain ⟨a1, a2, a3, a4, a5, a6, a7, a8, hz⟩ := exC_mk (bndS scope xs[i]).1
   rw [hz] at hz1
   generalize hte : (bndS scope xs[i]).2.2 = te at *
   generalize htt : (bndS scope xs[i]).2.1 = tt at *
   simp only [BindOK, exA, hz, List.map_cons, List.map_nil, hte, htt] at hB
   rcases hcc : tcols[cs[i].toNat] with ⟨c1, c2, c3, c4⟩
   rw [hcc] at hgt hee
   simp only [tcC] at hgt
   simp only at hee
   repeat' first | ((with_reducible first | refine cond_split ?_ ?_ | refine ws ?_ ?_ | refine wd ?_ ?_ | refine wu ?_ ?_) <;> intro h <;> try simp only [h]) | simp only [↓wBA, tDb, convA, seval, pl32_6Db, exL_len, enI_len, enTc_len, hdec, hi0, hg, hw, hgc, hc0', hgt, hzl, hlim1, hlim2, appendA, srcA, List.length_append, exC_len, List.length_map] | ((with_reducible show ACalls _ _ _ _ _); refine (hB _).eq ?_) | (with_reducible refine dP pl32_6Db 19 (some 30) (by decide) (by kernel_rfl) ?_)
   all_goals first
    | (refine ⟨⟨i + 1, by omega, hnext (by grind)⟩, by show xs.length - (i + 1) < xs.length - i; omega, ?_⟩
       simp only [hz1]
       simp [wW])
    | (have hb := hbad (by grind)
       simp only [hb]
       refine ret_is (a := _) ?_ rfl rfl
       simp only [resA, resL, resV, List.getD_cons_zero, List.getD_cons_succ]
       simp_all [leT, leG, leA, leC, leM, leaf, tokLt, tokLtL, intV, boolV, nilA, nilSl, exL]
       done)
  ·have hdec := dF (i := i) (n := xs.length) (by omega)
   have ht : xs.take i = xs := List.take_of_length_le (by omega)
   have hok := asgS_ok scope tcols xs cs hxc (fun j hj hj' => hI j (by omega) hj)
   simp only [ht, hok]
   repeat' first | ((with_reducible first | refine cond_split ?_ ?_ | refine ws ?_ ?_ | refine wd ?_ ?_ | refine wu ?_ ?_) <;> intro h <;> try simp only [h]) | simp only [↓wBA, tDb, convA, seval, pl32_6Db, exL_len, hdec] | (with_reducible refine dP pl32_6Db 19 (some 30) (by decide) (by kernel_rfl) ?_)
   all_goals refine ret_is (a := _) ?_ rfl rfl
   all_goals simp only [↓wBA, tDb, convA, seval]
   all_goals simp_all [wS]
end Go.Proofs.YtcnkmandddfdmaaGreatDoor
