/- Expressions bound. dml: what expressions come to over a row, put into its columns. -/
import Derived.Test.YtcnkmandddfdmaaM25
import Derived.Test.YtcnkmandddfdmaaM24
set_option linter.unusedSimpArgs false
set_option linter.unusedVariables false
set_option linter.defProp false
set_option maxRecDepth 100000
set_option maxHeartbeats 32000000
namespace Go.Proofs.Ytcnkmandddfdmaa
open Go.RowKit
def pl37_3Bd : Plan := (.det 0 (.det 1 (.det 2 (.det 3 (.det 4 (.act 5 (.det 6 .done)))))))
def pl37_6Bd : Plan := (.det 0 (.det 1 (.det 2 (.det 3 (.det 4 (.det 5 (.det 6 (.det 7 (.act 8 (.det 9 (.det 10 .done)))))))))))
def pl37_13Bd : Plan := (.det 0 (.det 1 (.det 2 (.det 3 (.det 4 (.det 5 (.det 6 (.act 7 (.det 8 (.det 9 .done))))))))))
def tBd := aa wX <| aa wbu <| aa T3 <| aa T4 <| aa T9 <| aa T33 <| aa T40 <| aa T50 <| aa T61 <| aa T66 <| aa T86 T93
abbrev BR := Ex × Int × Int
def bErr (e : Int) : BR := (ex0, 0, e)
mutual
def bndS (cols : List Bc) : Ex → BR
 | .mk k vk vn vs tb nm s kids =>
   if aggB k = true then bErr 33
   else if (kids.length : Int) ≠ kidsB k then bErr 1
   else if k = 1 then (if okV (vk, vn, vs) = true then (.mk 1 vk vn vs emp emp 0 [], vk, 0) else bErr 1)
   else if k = 2 then (if (findS tb nm cols).2 ≠ 0 then bErr (findS tb nm cols).2 else (.mk 24 0 0 emp emp emp (findS tb nm cols).1 [], (cols.getD (findS tb nm cols).1.toNat (emp, emp, 0)).2.2, 0))
   else if (bndL cols kids).2.2 ≠ 0 then bErr (bndL cols kids).2.2
   else if (typedS k (bndL cols kids).2.1).2 = false then bErr 33
   else (.mk k 0 0 emp emp emp 0 (bndL cols kids).1, (typedS k (bndL cols kids).2.1).1, 0)
def bndL (cols : List Bc) : List Ex → List Ex × List Int × Int
 | [] => ([], [], 0)
 | x :: l => if (bndS cols x).2.2 ≠ 0 then ([], [], (bndS cols x).2.2) else ((bndS cols x).1 :: (bndL cols l).1, (bndS cols x).2.1 :: (bndL cols l).2.1, (bndL cols l).2.2)
end
def BindOK (cols : List Bc) (x : Ex) : Prop := ∀ σ, ACalls Try.prog 37 [exA x, .p (.sl 3 (enBc cols))] σ fun r s => s = σ ∧ r = .tup [exA (bndS cols x).1, intV .i64 (bndS cols x).2.1, intV .i64 (bndS cols x).2.2]
theorem bndL_bad (cols : List Bc) : ∀ (l : List Ex) (i : Nat) (h : i < l.length), (∀ j (hj : j < i), (bndS cols (l[j]'(by omega))).2.2 = 0) → (bndS cols l[i]).2.2 ≠ 0 → (bndL cols l).2.2 = (bndS cols l[i]).2.2
 | [], i, h, _, _ => by simp at h
 | x :: l, 0, h, _, h2 => by simp only [bndL, List.getElem_cons_zero] at h2 ⊢; rw [if_pos h2]
 | x :: l, i + 1, h, h1, h2 => by
   have h0 := h1 0 (by omega)
   simp only [List.getElem_cons_zero] at h0
   simp only [bndL, List.getElem_cons_succ] at h2 ⊢
   rw [if_neg (by simp [h0])]
   exact bndL_bad cols l i (by simpa using h) (fun j hj => by have := h1 (j + 1) (by omega); simpa using this) h2
theorem bndL_ok (cols : List Bc) : ∀ (l : List Ex), (∀ j (hj : j < l.length), (bndS cols l[j]).2.2 = 0) → bndL cols l = (l.map fun x => (bndS cols x).1, l.map fun x => (bndS cols x).2.1, 0)
 | [], _ => rfl
 | x :: l, h => by
   have h0 := h 0 (by simp)
   simp only [List.getElem_cons_zero] at h0
   have ih := bndL_ok cols l fun j hj => by have := h (j + 1) (by simpa using hj); simpa using this
   simp only [bndL, h0, ih, ne_eq, not_true_eq_false, if_false, List.map_cons]
theorem exL_at : ∀ (l : List Ex) (i : Nat) (h : i < l.length), (exL l)[i]? = some (exC l[i])
 | [], i, h => by simp at h
 | x :: l, 0, h => by simp [exL]
 | x :: l, i + 1, h => by simp only [exL, List.getElem?_cons_succ, List.getElem_cons_succ]; exact exL_at l i (by simpa using h)
theorem exC_mk (x : Ex) : ∃ a b c d e f g h, exC x = [.v (.int .i64 a), .v (.int .i64 b), .v (.int .i64 c), .v (.string d), .v (.string e), .v (.string f), .v (.int .i64 g), .sl 8 h] := by
 obtain ⟨a, b, c, d, e, f, g, h⟩ := x
 exact ⟨_, _, _, _, _, _, _, _, rfl⟩
def zsF (cols : List Bc) (l : List Ex) : List Ex := l.map fun x => (bndS cols x).1
def tsF (cols : List Bc) (l : List Ex) : List Int := l.map fun x => (bndS cols x).2.1
theorem zsF_len (cols : List Bc) (l : List Ex) : (zsF cols l).length = l.length := by simp [zsF]
theorem tsF_len (cols : List Bc) (l : List Ex) : (tsF cols l).length = l.length := by simp [tsF]
theorem zsF_succ (cols : List Bc) (l : List Ex) (i : Nat) (h : i < l.length) : exL (zsF cols (l.take (i + 1))) = exL (zsF cols (l.take i)) ++ [exC (bndS cols l[i]).1] := by
 rw [List.take_succ_eq_append_getElem h, zsF, List.map_append, exL_app]; rfl
theorem tsF_succ (cols : List Bc) (l : List Ex) (i : Nat) (h : i < l.length) : enI (tsF cols (l.take (i + 1))) = enI (tsF cols (l.take i)) ++ [[.v (.int .i64 (bndS cols l[i]).2.1)]] := by
 rw [List.take_succ_eq_append_getElem h, tsF, enI, List.map_append, List.map_append]; rfl
theorem nilSl_ne (e : Nat) (l : List (List PV)) (h : l ≠ []) : nilSl e l = .sl e l := by
 cases l with
 | nil => exact (h rfl).elim
 | cons x l => rfl
theorem bind_of (cols : List Bc) (hc : cols.length ≤ 4398046511104) (k vk vn : Int) (vs tb nm : ByteArray) (s : Int) (kids : List Ex) (ih : ∀ y ∈ kids, BindOK cols y) : BindOK cols (.mk k vk vn vs tb nm s kids) := by
 intro σ
 refine ACalls.pureF (R := fun r => r = .tup [exA (bndS cols (.mk k vk vn vs tb nm s kids)).1, intV .i64 (bndS cols (.mk k vk vn vs tb nm s kids)).2.1, intV .i64 (bndS cols (.mk k vk vn vs tb nm s kids)).2.2]) ?_ rfl σ
 refine acalls_of cx_ok dr_ok Try.func37 (by kernel_rfl) rfl (nt := 118) (rs := [.cell 4 86, .tmp 5, .tmp 6]) rfl rfl ?_
 simp only [exA, exC, List.map_cons, List.map_nil, bndS]
 by_cases hagg : aggB k = true
 ·simp only [hagg, if_true]
  repeat' first | ((with_reducible first | refine cs ?_ ?_ | refine ws ?_ ?_ | refine wd ?_ ?_ | refine wu ?_ ?_) <;> intro h <;> try simp only [h]) | simp only [↓wBA, tBd, convA, seval, pl37_3Bd, pl37_6Bd, pl37_13Bd, hagg] | ((with_reducible show ACalls _ _ _ _ _); refine (aaggB _ _).eq ?_; simp only [hagg]) | (with_reducible refine dP pl37_3Bd 7 (some 22) (by decide) (by kernel_rfl) ?_) | (with_reducible refine dP pl37_6Bd 11 (some 39) (by decide) (by kernel_rfl) ?_) | (with_reducible refine dP pl37_13Bd 10 (some 69) (by decide) (by kernel_rfl) ?_)
  all_goals refine ret_is (a := _) ?_ rfl rfl
  all_goals simp only [↓wBA, tBd, convA, seval]
  all_goals simp_all [wS, bErr, ex0, exC, exL, emp]
 ·have hagg' : aggB k = false := by simpa using hagg
  simp only [hagg', Bool.false_eq_true, if_false]
  by_cases hkn : (kids.length : Int) = kidsB k
  ·have hd : ((kids.length : Int) != kidsB k) = false := by simp [hkn]
   rw [if_neg (by simpa using hkn)]
   have hkl : kids.length ≤ 2 := by have : kidsB k ≤ 2 := by unfold kidsB; split <;> (try split) <;> (try split) <;> omega
                                    omega
   by_cases h1 : k = 1
   ·subst h1
    simp only [if_true]
    repeat' first | ((with_reducible first | refine cs ?_ ?_ | refine ws ?_ ?_ | refine wd ?_ ?_ | refine wu ?_ ?_) <;> intro h <;> try simp only [h]) | simp only [↓wBA, tBd, convA, seval, pl37_3Bd, pl37_6Bd, pl37_13Bd, exL_len, hd, Int.reduceBEq] | ((with_reducible show ACalls _ _ _ _ _); first | (refine (aaggB _ _).eq ?_; simp only [hagg']) | refine (akidsB _ _).eq ?_ | refine (aokV (_, _, _) _).eq ?_) | (with_reducible refine dP pl37_3Bd 7 (some 22) (by decide) (by kernel_rfl) ?_) | (with_reducible refine dP pl37_6Bd 11 (some 39) (by decide) (by kernel_rfl) ?_) | (with_reducible refine dP pl37_13Bd 10 (some 69) (by decide) (by kernel_rfl) ?_)
    all_goals refine ret_is (a := _) ?_ rfl rfl
    all_goals simp only [↓wBA, tBd, convA, seval]
    all_goals simp_all [wS, bErr, ex0, exC, exL, emp]
   ·have h1' : (k == 1) = false := by simpa using h1
    rw [if_neg h1]
    by_cases h2 : k = 2
    ·subst h2
     simp only [if_true]
     by_cases hf : (findS tb nm cols).2 = 0
     ·obtain ⟨hf1, hf2⟩ := findS_lt hf
      have hg := enBc_get cols _ hf2
      have hge : cols.getD (findS tb nm cols).1.toNat (emp, emp, 0) = cols[(findS tb nm cols).1.toNat] := by simp [List.getD, hf2]
      rw [if_neg (by simpa using hf)]
      have hfd : ((findS tb nm cols).2 != 0) = false := by simp [hf]
      have hi0 : ((0 : Int) ≤ (findS tb nm cols).1) = True := eq_true hf1
      rw [hge]
      rcases hcc : cols[(findS tb nm cols).1.toNat] with ⟨c1, c2, c3⟩
      rw [hcc] at hg
      simp only [bcC] at hg
      repeat' first | ((with_reducible first | refine cs ?_ ?_ | refine ws ?_ ?_ | refine wd ?_ ?_ | refine wu ?_ ?_) <;> intro h <;> try simp only [h]) | simp only [↓wBA, tBd, convA, seval, pl37_3Bd, pl37_6Bd, pl37_13Bd, exL_len, hd, Int.reduceBEq, hfd, hi0, hg] | ((with_reducible show ACalls _ _ _ _ _); first | (refine (aaggB _ _).eq ?_; simp only [hagg']) | refine (akidsB _ _).eq ?_ | refine (afind0 _ _ _ hc _).eq ?_) | (with_reducible refine dP pl37_3Bd 7 (some 22) (by decide) (by kernel_rfl) ?_) | (with_reducible refine dP pl37_6Bd 11 (some 39) (by decide) (by kernel_rfl) ?_) | (with_reducible refine dP pl37_13Bd 10 (some 69) (by decide) (by kernel_rfl) ?_)
      all_goals refine ret_is (a := _) ?_ rfl rfl
      all_goals simp only [↓wBA, tBd, convA, seval]
      all_goals simp_all [wS, bErr, ex0, exC, exL, emp]
     ·rw [if_pos hf]
      have hfd : ((findS tb nm cols).2 != 0) = true := by simpa using hf
      repeat' first | ((with_reducible first | refine cs ?_ ?_ | refine ws ?_ ?_ | refine wd ?_ ?_ | refine wu ?_ ?_) <;> intro h <;> try simp only [h]) | simp only [↓wBA, tBd, convA, seval, pl37_3Bd, pl37_6Bd, pl37_13Bd, exL_len, hd, Int.reduceBEq, hfd] | ((with_reducible show ACalls _ _ _ _ _); first | (refine (aaggB _ _).eq ?_; simp only [hagg']) | refine (akidsB _ _).eq ?_ | refine (afind0 _ _ _ hc _).eq ?_) | (with_reducible refine dP pl37_3Bd 7 (some 22) (by decide) (by kernel_rfl) ?_) | (with_reducible refine dP pl37_6Bd 11 (some 39) (by decide) (by kernel_rfl) ?_) | (with_reducible refine dP pl37_13Bd 10 (some 69) (by decide) (by kernel_rfl) ?_)
      all_goals refine ret_is (a := _) ?_ rfl rfl
      all_goals simp only [↓wBA, tBd, convA, seval]
      all_goals simp_all [wS, bErr, ex0, exC, exL, emp]
    ·have h2' : (k == 2) = false := by simpa using h2
     rw [if_neg h2]
     have hk2 : 1 ≤ kids.length ∧ ((2 ≤ kids.length) ∨ k = 3 ∨ k = 4 ∨ k = 18 ∨ k = 19) := by
      unfold kidsB at hkn
      rw [if_neg (by omega)] at hkn
      split at hkn
      ·omega
      ·split at hkn <;> omega
     clear hkn
     simp only [↓wBA, tBd, convA, seval, exL_len]
     refine (aaggB _ _).mono ?_
     rintro _ _ ⟨rfl, rfl⟩
     simp only [hagg']
     repeat' first | ((with_reducible first | refine cs ?_ ?_ | refine ws ?_ ?_ | refine wd ?_ ?_ | refine wu ?_ ?_) <;> intro h <;> try simp only [h]) | simp only [↓wBA, tBd, convA, seval, pl37_3Bd, pl37_6Bd, pl37_13Bd, exL_len, hd, h1', h2'] | ((with_reducible show ACalls _ _ _ _ _); refine (akidsB _ _).eq ?_) | (with_reducible refine dP pl37_3Bd 7 (some 22) (by decide) (by kernel_rfl) ?_) | (with_reducible refine dP pl37_6Bd 11 (some 39) (by decide) (by kernel_rfl) ?_) | (with_reducible refine dP pl37_13Bd 10 (some 69) (by decide) (by kernel_rfl) ?_)
     refine awp_loopN (kids.length) (fun i => [(10, .nown 4 1 (enI (tsF cols (kids.take i)))), (82, intV .i64 (i : Nat)), (5, .any), (6, .any), (12, .any), (13, .any), (14, .any), (15, .any), (83, .any), (84, .any), (85, .any), (86, .any), (87, .any), (88, .any), (89, .any), (90, .any), (91, .any), (92, .any), (93, .any), (94, .any), (95, .any), (96, .any), (97, .any), (98, .any), (99, .any), (100, .any), (101, .any), (102, .any), (103, .any), (104, .any), (105, .any), (106, .any), (107, .any)]) (fun i => [(2, .row 8 [[.p (.v (.int .i64 k)), .p (.v (.int .i64 0)), .p (.v (.int .i64 0)), .p (.v (.string emp)), .p (.v (.string emp)), .p (.v (.string emp)), .p (.v (.int .i64 0)), .nown 3 8 (exL (zsF cols (kids.take i)))]]), (3, .nright 86 (i * 8)), (4, .nright 3 (i * 1))]) (fun i => ∀ j (hj : j < i) (hj' : j < kids.length), (bndS cols kids[j]).2.2 = 0) ?_ ?_ ?_
     ·intro j hj; omega
     ·skip
      simp only [wR, Nat.reduceAdd, Nat.reduceLT, reduceIte]
      simp [wW, zsF, tsF, exL, enI, emp]
     ·intro i hi hI
      simp only [wR, Nat.reduceAdd, Nat.reduceLT, reduceIte]
      by_cases hlt : i < kids.length
      ·have hdec := dT (i := i) (n := kids.length) (by omega)
       have hi0 := nnI i
       have hw := wI i (by omega)
       have hg := exL_at kids i hlt
       have ihi := ih kids[i] (List.getElem_mem hlt)
       have hz1 := zsF_succ cols kids i hlt
       have ht1 := tsF_succ cols kids i hlt
       have hzl : (exL (zsF cols (kids.take i))).length = i := by rw [exL_len, zsF_len]; simp; omega
       have htl : (enI (tsF cols (kids.take i))).length = i := by rw [enI_len, tsF_len]; simp; omega
       obtain ⟨a1, a2, a3, a4, a5, a6, a7, a8, hz⟩ := exC_mk (bndS cols kids[i]).1
       have hbad := bndL_bad cols kids i hlt (fun j hj => hI j hj (by omega))
       have hlim1 := tL (n := (i + 1) * 104) (by omega)
       have hlim2 := lM (n := i + 1) (by omega)
       have hlim3 := tL (n := (i + 1) * 8) (by omega)
       rw [hz] at hz1
       generalize hte : (bndS cols kids[i]).2.2 = te at *
       generalize htt : (bndS cols kids[i]).2.1 = tt at *
       simp only [BindOK, exA, hz, List.map_cons, List.map_nil, hte, htt] at ihi
       repeat' first | ((with_reducible first | refine cs ?_ ?_ | refine ws ?_ ?_ | refine wd ?_ ?_ | refine wu ?_ ?_) <;> intro h <;> try simp only [h]) | simp only [↓wBA, tBd, convA, seval, pl37_3Bd, pl37_6Bd, pl37_13Bd, exL_len, hdec, hi0, hg, hw, hzl, htl, hlim1, hlim2, hlim3, appendA, srcA, List.length_append, exC_len, List.length_map] | ((with_reducible show ACalls _ _ _ _ _); refine (ihi _).eq ?_) | (with_reducible refine dP pl37_3Bd 7 (some 22) (by decide) (by kernel_rfl) ?_) | (with_reducible refine dP pl37_6Bd 11 (some 39) (by decide) (by kernel_rfl) ?_) | (with_reducible refine dP pl37_13Bd 10 (some 69) (by decide) (by kernel_rfl) ?_)
       ·have hne : ¬ te = 0 := by simpa using h
        have hb := hbad hne
        simp only [hb, hne, ne_eq, not_false_eq_true, if_true]
        all_goals refine ret_is (a := _) ?_ rfl rfl
        all_goals simp only [↓wBA, tBd, convA, seval]
        all_goals simp_all [wS, bErr, ex0, exC, exL, emp]
       ·have he0 : te = 0 := by simpa using h
        refine ⟨⟨i + 1, by omega, ?_⟩, by show kids.length - (i + 1) < kids.length - i; omega, ?_⟩
        ·intro j hj hj'
         by_cases e : j = i
         ·subst e; rw [hte]; exact he0
         ·exact hI j (by omega) hj'
        ·simp only [hz1, ht1]
         simp [wW]
      ·have hdec := dF (i := i) (n := kids.length) (by omega)
       have ht : kids.take i = kids := List.take_of_length_le (by omega)
       have hie : i = kids.length := by omega
       have hok : bndL cols kids = (zsF cols kids, tsF cols kids, 0) := bndL_ok cols kids (fun j hj => hI j (by omega) hj)
       rw [hok]
       simp only [ht, ne_eq, not_true_eq_false, if_false]
       have hne : nilSl 1 (enI (tsF cols kids)) = .sl 1 (enI (tsF cols kids)) := nilSl_ne _ _ (by intro h; have := congrArg List.length h; rw [enI_len, tsF_len, List.length_nil] at this; omega)
       have hT := atyped k (tsF cols kids) (by rw [tsF_len]; omega) (by rw [tsF_len]; exact hk2.2)
       rcases hty : typedS k (tsF cols kids) with ⟨t, ok⟩
       simp only [hty] at hT
       cases ok
       all_goals simp only [if_true, Bool.true_eq_false, if_false]
       ·skip
        repeat' first | ((with_reducible first | refine cs ?_ ?_ | refine ws ?_ ?_ | refine wd ?_ ?_ | refine wu ?_ ?_) <;> intro h <;> try simp only [h]) | simp only [↓wBA, tBd, convA, seval, pl37_3Bd, pl37_6Bd, pl37_13Bd, exL_len, hdec] | ((with_reducible show ACalls _ _ _ _ _); refine ACalls.frzArgs ?_; simp only [frzL, frzA, hne]; refine (hT _).eq ?_) | (with_reducible refine dP pl37_3Bd 7 (some 22) (by decide) (by kernel_rfl) ?_) | (with_reducible refine dP pl37_6Bd 11 (some 39) (by decide) (by kernel_rfl) ?_) | (with_reducible refine dP pl37_13Bd 10 (some 69) (by decide) (by kernel_rfl) ?_)
        all_goals refine ret_is (a := _) ?_ rfl rfl
        all_goals simp only [↓wBA, tBd, convA, seval]
        all_goals simp_all [wS, bErr, ex0, exC, exL, emp]
       ·skip
        repeat' first | ((with_reducible first | refine cs ?_ ?_ | refine ws ?_ ?_ | refine wd ?_ ?_ | refine wu ?_ ?_) <;> intro h <;> try simp only [h]) | simp only [↓wBA, tBd, convA, seval, pl37_3Bd, pl37_6Bd, pl37_13Bd, exL_len, hdec] | ((with_reducible show ACalls _ _ _ _ _); refine ACalls.frzArgs ?_; simp only [frzL, frzA, hne]; refine (hT _).eq ?_) | (with_reducible refine dP pl37_3Bd 7 (some 22) (by decide) (by kernel_rfl) ?_) | (with_reducible refine dP pl37_6Bd 11 (some 39) (by decide) (by kernel_rfl) ?_) | (with_reducible refine dP pl37_13Bd 10 (some 69) (by decide) (by kernel_rfl) ?_)
        all_goals refine ret_is (a := _) ?_ rfl rfl
        all_goals simp only [↓wBA, tBd, convA, seval]
        all_goals simp_all [wS, bErr, ex0, exC, exL, emp]
  ·have hd : ((kids.length : Int) != kidsB k) = true := by simpa using hkn
   rw [if_pos hkn]
   repeat' first | ((with_reducible first | refine cs ?_ ?_ | refine ws ?_ ?_ | refine wd ?_ ?_ | refine wu ?_ ?_) <;> intro h <;> try simp only [h]) | simp only [↓wBA, tBd, convA, seval, pl37_3Bd, pl37_6Bd, pl37_13Bd, exL_len, hd] | ((with_reducible show ACalls _ _ _ _ _); first | (refine (aaggB _ _).eq ?_; simp only [hagg']) | refine (akidsB _ _).eq ?_) | (with_reducible refine dP pl37_3Bd 7 (some 22) (by decide) (by kernel_rfl) ?_) | (with_reducible refine dP pl37_6Bd 11 (some 39) (by decide) (by kernel_rfl) ?_) | (with_reducible refine dP pl37_13Bd 10 (some 69) (by decide) (by kernel_rfl) ?_)
   all_goals refine ret_is (a := _) ?_ rfl rfl
   all_goals simp only [↓wBA, tBd, convA, seval]
   all_goals simp_all [wS, bErr, ex0, exC, exL, emp]
mutual
theorem abind (cols : List Bc) (hc : cols.length ≤ 4398046511104) : ∀ x : Ex, BindOK cols x
 | .mk k vk vn vs tb nm s kids => bind_of cols hc k vk vn vs tb nm s kids (abindL cols hc kids)
theorem abindL (cols : List Bc) (hc : cols.length ≤ 4398046511104) : ∀ (l : List Ex), ∀ y ∈ l, BindOK cols y
 | [], y, hy => by simp at hy
 | x :: l, y, hy => by
   by_cases e : y = x
   ·rw [e]; exact abind cols hc x
   ·exact abindL cols hc l y ((List.mem_cons.1 hy).resolve_left e)
end
end Go.Proofs.Ytcnkmandddfdmaa
namespace Go.Proofs.Ytcnkmandddfdmaa
open Go.RowKit
def pl20_8Dw : Plan := (.det 0 (.det 1 (.det 2 (.det 3 (.det 4 (.det 5 (.det 6 (.fin 7 .done))))))))
def tDw := aa wX <| aa wbu <| aa T3 <| aa T33 <| aa T40 <| aa T46 <| aa T50 <| aa T61 T86
def wStep (row : List Va) (s : List Va × Int) (q : Ex × Int) : List Va × Int := (s.1.set q.2.toNat (evalV row q.1).1, leastI s.2 (evalV row q.1).2)
def wrkS (row : List Va) (xs : List Ex) (cs : List Int) (least : Int) : List Va × Int := (xs.zip cs).foldl (wStep row) (row, least)
theorem wGo_len (row : List Va) : ∀ (l : List (Ex × Int)) (s : List Va × Int), (l.foldl (wStep row) s).1.length = s.1.length
 | [], s => rfl
 | q :: l, s => by rw [List.foldl_cons, wGo_len row l]; simp [wStep]
theorem muR_get (l : List Va) (i : Nat) (h : i < l.length) : (muR l)[i]? = some ((vaC l[i]).map .p) := by simp [muR, h]
theorem muR_set (l : List Va) (i : Nat) (v : Va) : (muR l).set i ((vaC v).map .p) = muR (l.set i v) := by simp [muR, List.map_set]
theorem mu_tok (l : List Va) (n : Nat) : (∀ x, x ∈ muR l → tokLtL n x = true) = True := eq_true fun x hx => by
 obtain ⟨v, _, rfl⟩ := List.mem_map.1 hx
 rfl
theorem toPs_mapP : ∀ l : List PV, toPs (l.map AV.p) = some l
 | [] => rfl
 | x :: l => by simp [toPs, toP, toPs_mapP l]
theorem toPss_mu : ∀ l : List Va, toPss (muR l) = some (enV l)
 | [] => rfl
 | v :: l => by
   have := toPss_mu l
   simp only [muR, enV, List.map_cons, toPss, toPs_mapP] at this ⊢
   rw [this]
theorem le_msR {σ : St} {n t m : Nat} {l : List Va} (h1 : σ[t]? = some (some (.row 3 (muR l)))) (h2 : m = l.length) : leA σ n [] (.ms t 3 0 m) (.p (.sl 3 (enV l))) := by
 subst h2
 refine .inr (.inr (.inr (.inr (.inr (.inr (.inr ⟨t, 3, 0, l.length, enV l, rfl, rfl, ?_⟩))))))
 simp only [frzRow, h1, List.getElem?_nil]
 rw [if_pos ⟨trivial, by rw [muR_len]; omega⟩, List.drop_zero, List.take_of_length_le (by rw [muR_len]; exact Nat.le_refl _)]
 exact toPss_mu l
theorem aworked (row : List Va) (xs : List Ex) (cs : List Int) (least : Int) (hx : xs.length ≤ cs.length) (hcs : ∀ c ∈ cs, 0 ≤ c ∧ c.toNat < row.length) (hl : row.length ≤ 4398046511104) (hxl : xs.length ≤ 4398046511104) (σ : St) : ACalls Try.prog 20 [.p (.sl 3 (enV row)), .p (.sl 8 (exL xs)), .p (.sl 1 (enI cs)), intV .i64 least] σ fun r s => s = σ ∧ r = .tup [.p (.sl 3 (enV (wrkS row xs cs least).1)), intV .i64 (wrkS row xs cs least).2] := by
 refine ACalls.pureF (R := fun r => r = .tup [.p (.sl 3 (enV (wrkS row xs cs least).1)), intV .i64 (wrkS row xs cs least).2]) ?_ rfl σ
 unfold wrkS
 have hzl : (xs.zip cs).length = xs.length := by simp; omega
 cases hrow : row with
 | nil =>
   subst hrow
   have hc0 : cs = [] := by
    cases cs with
    | nil => rfl
    | cons c cs => have := (hcs c (by simp)).2; simp at this
   have hx0 : xs = [] := by subst hc0; simpa using hx
   subst hc0 hx0
   refine acalls_of cx_ok dr_ok Try.func20 (by kernel_rfl) rfl (nt := 48) (rs := [.tmp 8, .tmp 9]) rfl rfl ?_
   repeat' first | ((with_reducible first | refine cond_split ?_ ?_ | refine ws ?_ ?_ | refine wd ?_ ?_ | refine wu ?_ ?_) <;> intro h <;> try simp only [h]) | simp only [↓wBA, tDw, convA, seval, pl20_8Dw, exL_len] | ((with_reducible show ACalls _ _ _ _ _); refine (aclone [] (by simp) _).eq ?_) | (with_reducible refine dP pl20_8Dw 8 (some 42) (by decide) (by kernel_rfl) ?_)
   refine awp_loopN (0) (fun i => [(3, intV .i64 least), (19, intV .i64 (i : Nat)), (11, .any), (12, .any), (13, .any), (14, .any), (20, .any), (21, .any), (22, .any), (23, .any), (24, .any), (25, .any), (26, .any), (27, .any), (28, .any), (29, .any), (30, .any), (31, .any), (32, .any), (33, .any), (34, .any), (35, .any), (36, .any), (37, .any), (38, .any), (39, .any), (40, .any), (41, .any), (42, .any), (43, .any), (44, .any), (45, .any), (46, .any), (47, .any), (48, .any), (49, .any)]) (fun i => []) (fun i => True) ?_ ?_ ?_
   ·trivial
   ·skip
    simp only [wR, Nat.reduceAdd, Nat.reduceLT, reduceIte]
    simp [wW]
   ·intro i hi _
    have : i = 0 := by omega
    subst this
    simp only [wR, Nat.reduceAdd, Nat.reduceLT, reduceIte]
    repeat' first | ((with_reducible first | refine cond_split ?_ ?_ | refine ws ?_ ?_ | refine wd ?_ ?_ | refine wu ?_ ?_) <;> intro h <;> try simp only [h]) | simp only [↓wBA, tDw, convA, seval, pl20_8Dw, exL, List.length_nil, decide_false, nc0] | (with_reducible refine dP pl20_8Dw 8 (some 42) (by decide) (by kernel_rfl) ?_)
    all_goals refine ret_is (a := _) ?_ rfl rfl
    all_goals simp only [↓wBA, tDw, convA, seval]
    all_goals simp_all [wS, enV]
 | cons v l =>
   have hrl : row.length = l.length + 1 := by rw [hrow]; rfl
   rw [← hrow]
   have hclone := acloneM v l (by omega)
   rw [← hrow] at hclone
   refine acalls_of cx_ok dr_ok Try.func20 (by kernel_rfl) rfl (nt := 48) (rs := [.tmp 8, .tmp 9]) rfl rfl ?_
   repeat' first | ((with_reducible first | refine cond_split ?_ ?_ | refine ws ?_ ?_ | refine wd ?_ ?_ | refine wu ?_ ?_) <;> intro h <;> try simp only [h]) | simp only [↓wBA, tDw, convA, seval, pl20_8Dw, exL_len] | ((with_reducible show ACalls _ _ _ _ _); refine (hclone _).mono ?_; rintro _ _ ⟨rfl,rfl⟩) | (with_reducible refine dP pl20_8Dw 8 (some 42) (by decide) (by kernel_rfl) ?_)
   refine awp_loopN (xs.length) (fun i => [(3, intV .i64 (((xs.zip cs).take i).foldl (wStep row) (row, least)).2), (19, intV .i64 (i : Nat)), (11, .any), (12, .any), (13, .any), (14, .any), (20, .any), (21, .any), (22, .any), (23, .any), (24, .any), (25, .any), (26, .any), (27, .any), (28, .any), (29, .any), (30, .any), (31, .any), (32, .any), (33, .any), (34, .any), (35, .any), (36, .any), (37, .any), (38, .any), (39, .any), (40, .any), (41, .any), (42, .any), (43, .any), (44, .any), (45, .any), (46, .any), (47, .any), (48, .any), (49, .any)]) (fun i => [(1, .row 3 (muR (((xs.zip cs).take i).foldl (wStep row) (row, least)).1))]) (fun i => True) ?_ ?_ ?_
   ·trivial
   ·skip
    simp only [wR, Nat.reduceAdd, Nat.reduceLT, reduceIte]
    simp [wW, mu_tok]
   ·intro i hi _
    simp only [wR, Nat.reduceAdd, Nat.reduceLT, reduceIte]
    by_cases hlt : i < xs.length
    ·have hdec := dT (i := i) (n := xs.length) (by omega)
     have hi0 := nnI i
     have hw := wI i (by omega)
     have hg := exL_at xs i hlt
     have hci : i < cs.length := by omega
     have hgc := enI_get cs i hci
     obtain ⟨hc0, hcl⟩ := hcs cs[i] (List.getElem_mem hci)
     have hc0' : ((0 : Int) ≤ cs[i]) = True := eq_true hc0
     have hc1' : (cs[i] < ((l.length + 1 : Nat) : Int)) = True := eq_true (by omega)
     have hst := take_step (wStep row) (row, least) (xs.zip cs) i (by omega)
     have hzi : (xs.zip cs)[i]'(by omega) = (xs[i], cs[i]) := by simp
     rw [hzi] at hst
     have hsl := wGo_len row ((xs.zip cs).take i) (row, least)
     have hE := aevalV row xs[i]
     simp only [wStep] at hst
     have hmg : (muR (((xs.zip cs).take i).foldl (wStep row) (row, least)).1)[cs[i].toNat]? = some ((vaC ((((xs.zip cs).take i).foldl (wStep row) (row, least)).1[cs[i].toNat]'(by rw [hsl]; exact hcl))).map .p) := muR_get _ _ _
     rcases hev : evalV row xs[i] with ⟨⟨v1, v2, v3⟩, e⟩
     simp only [hev, exA, vaA, vaC, List.map_cons, List.map_nil] at hE hst
     generalize hcc : ((((xs.zip cs).take i).foldl (wStep row) (row, least)).1[cs[i].toNat]'(by rw [hsl]; exact hcl)) = oldv at *
     have hvl : ((vaC oldv).map AV.p).length = 3 := rfl
     have hset : (muR (((xs.zip cs).take i).foldl (wStep row) (row, least)).1).set cs[i].toNat [.p (.v (.int .i64 v1)), .p (.v (.int .i64 v2)), .p (.v (.string v3))] = muR ((((xs.zip cs).take i).foldl (wStep row) (row, least)).1.set cs[i].toNat (v1, v2, v3)) := muR_set _ _ (v1, v2, v3)
     repeat' first | ((with_reducible first | refine cond_split ?_ ?_ | refine ws ?_ ?_ | refine wd ?_ ?_ | refine wu ?_ ?_) <;> intro h <;> try simp only [h]) | simp only [↓wBA, tDw, convA, seval, pl20_8Dw, exL_len, enI_len, hdec, hi0, hg, hw, hgc, hc0', hc1', hmg, hvl, hset, exC_len, List.length_map] | ((with_reducible show ACalls _ _ _ _ _); refine (hE _).eq ?_) | (with_reducible refine dP pl20_8Dw 8 (some 42) (by decide) (by kernel_rfl) ?_)
     all_goals refine ⟨⟨i + 1, by omega, trivial⟩, by show xs.length - (i + 1) < xs.length - i; omega, ?_⟩
     all_goals simp only [hst]
     all_goals simp [wW, mu_tok]
     all_goals grind [leastI]
    ·have hdec := dF (i := i) (n := xs.length) (by omega)
     have ht : (xs.zip cs).take i = xs.zip cs := List.take_of_length_le (by omega)
     have hsl := wGo_len row (xs.zip cs) (row, least)
     simp only [ht]
     repeat' first | ((with_reducible first | refine cond_split ?_ ?_ | refine ws ?_ ?_ | refine wd ?_ ?_ | refine wu ?_ ?_) <;> intro h <;> try simp only [h]) | simp only [↓wBA, tDw, convA, seval, pl20_8Dw, exL_len, hdec] | (with_reducible refine dP pl20_8Dw 8 (some 42) (by decide) (by kernel_rfl) ?_)
     refine ret_is (a := .tup [.p (.sl 3 (enV ((xs.zip cs).foldl (wStep row) (row, least)).1)), intV .i64 ((xs.zip cs).foldl (wStep row) (row, least)).2]) ?_ rfl rfl
     simp only [resA, resL, resV, List.getD_cons_zero, List.getD_cons_succ]
     exact .inr ⟨_, _, rfl, rfl, .inl (le_msR rfl (by rw [hsl]; exact hrl.symm)), .inl (.inr (.inl ⟨rfl, rfl⟩)), trivial⟩
end Go.Proofs.Ytcnkmandddfdmaa
