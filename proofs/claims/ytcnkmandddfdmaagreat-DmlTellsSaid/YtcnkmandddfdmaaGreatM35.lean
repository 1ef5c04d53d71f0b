/- Writes of a delete compared with themselves; bounds of answers. cadastreref23.Insert tells what the program's does. DmlTells. -/
import Derived.Test.YtcnkmandddfdmaaGreatM34
import Derived.Test.YtcnkmandddfdmaaGreatM33
import Derived.Test.YtcnkmandddfdmaaGreatM28
import Derived.Test.YtcnkmandddfdmaaGreatM30
import Derived.Test.YtcnkmandddfdmaaGreatM29
import Derived.Test.YtcnkmandddfdmaaGreatM31
set_option linter.unusedSimpArgs false
set_option linter.unusedVariables false
set_option linter.defProp false
set_option maxRecDepth 100000
set_option maxHeartbeats 32000000
namespace Go.Proofs.YtcnkmandddfdmaaGreat
open Go.RowKit
def pl16_6Zh : Plan := (.det 0 (.det 1 (.det 2 (.det 3 (.det 4 (.det 5 (.det 6 (.det 7 (.det 8 (.det 9 (.det 10 (.det 11 (.det 12 (.det 13 (.det 14 (.det 15 (.det 16 (.det 17 (.det 18 (.det 19 (.det 20 (.det 21 (.fin 22 (.det 23 (.det 24 (.det 25 (.det 26 (.det 27 (.det 28 (.det 29 (.det 30 (.det 31 (.det 32 (.det 33 (.det 34 (.det 35 (.fin 36 (.det 37 (.det 38 (.det 39 (.det 40 (.det 41 (.det 42 (.det 43 (.det 44 (.det 45 (.det 46 (.det 47 (.det 48 (.det 49 (.det 50 (.det 51 (.det 52 (.det 53 .done))))))))))))))))))))))))))))))))))))))))))))))))))))))
def tZh := aa wX <| aa wbu <| aa T3 <| aa T4 <| aa T9 <| aa T46 <| aa T58 T60
theorem asameN (σ : St) : ACalls Tryz.prog 32 [nilA, nilA] σ fun r s => s = σ ∧ r = boolV true :=
 ACalls.nilW (e := 3) (ACalls.nilW2 (e := 3) (asameV [] [] (by simp) (by simp) σ))
theorem asameD (nm : ByteArray) (l : List (List Va)) (hl : l.length ≤ 1000000000000) (hr : ∀ r ∈ l, r.length ≤ 4398046511104) (σ : St) : ACalls Tryz.prog 16 [.p (.sl 3 (enW nm (l.map fun r => (r, none)))), .p (.sl 3 (enW nm (l.map fun r => (r, none))))] σ fun r s => s = σ ∧ r = boolV true := by
 refine ACalls.pureF (R := fun r => r = boolV true) ?_ rfl σ
 have hnm : (!(nm.toList == nm.toList)) = false := by simp
 have hN := asameN
 refine acalls_of cx_ok dr_ok Tryz.func16 (by kernel_rfl) rfl (nt := 69) (rs := [.tmp 4]) rfl rfl ?_
 repeat' first | ((with_reducible first | refine cs ?_ ?_ | refine ws ?_ ?_ | refine wd ?_ ?_ | refine wu ?_ ?_) <;> intro h <;> try simp only [h]) | simp only [↓wBA, tZh, convA, seval, pl16_6Zh, enW_len, List.length_map, bne_self_eq_false] | (with_reducible refine dP pl16_6Zh 54 (some 17) (by decide) (by kernel_rfl) ?_)
 refine awp_loopN (l.length) (fun i => [(5, intV .i64 (i : Nat)), (4, .any), (11, .any), (12, .any), (13, .any), (14, .any), (15, .any), (16, .any), (17, .any), (18, .any), (19, .any), (20, .any), (21, .any), (22, .any), (23, .any), (24, .any), (25, .any), (26, .any), (27, .any), (28, .any), (29, .any), (30, .any), (31, .any), (32, .any), (33, .any), (34, .any), (35, .any), (36, .any), (37, .any), (38, .any), (39, .any), (40, .any), (41, .any), (42, .any), (43, .any), (44, .any), (45, .any), (46, .any), (47, .any), (48, .any), (49, .any), (50, .any), (51, .any), (52, .any), (53, .any), (54, .any), (55, .any), (56, .any), (57, .any), (58, .any), (59, .any), (60, .any), (61, .any), (62, .any), (63, .any), (64, .any), (65, .any), (66, .any), (67, .any), (68, .any), (69, .any), (70, .any)]) (fun i => []) (fun i => True) ?_ ?_ ?_
 ·trivial
 ·skip
  simp only [wR, Nat.reduceAdd, Nat.reduceLT, reduceIte]
  simp [wW]
 ·intro i hi _
  simp only [wR, Nat.reduceAdd, Nat.reduceLT, reduceIte]
  by_cases hlt : i < l.length
  ·have hdec := dT (i := i) (n := l.length) (by omega)
   have hi0 := nnI i
   have hw := wI i (by omega)
   have hg : (enW nm (l.map fun r => (r, none)))[i]? = some [.v (.string nm), .sl 3 (enV l[i]), .v (.slice none 0 0)] := by simp [enW, wrC, hlt]
   have hrl := hr l[i] (List.getElem_mem hlt)
   have hS := asameV l[i] l[i] hrl hrl
   have hd : sameV l[i] l[i] = true := decide_eq_true rfl
   rw [hd] at hS
   repeat' first | ((with_reducible first | refine cs ?_ ?_ | refine ws ?_ ?_ | refine wd ?_ ?_ | refine wu ?_ ?_) <;> intro h <;> try simp only [h]) | simp only [↓wBA, tZh, convA, seval, pl16_6Zh, enW_len, List.length_map, hdec, hi0, hw, hg, hnm, binStr, beq_self_eq_true, bne_self_eq_false] | ((with_reducible show ACalls _ _ _ _ _); first | refine (hS _).eq ?_ | refine (hN _).eq ?_) | (with_reducible refine dP pl16_6Zh 54 (some 17) (by decide) (by kernel_rfl) ?_)
   all_goals refine ⟨⟨i + 1, by omega, trivial⟩, by show l.length - (i + 1) < l.length - i; omega, ?_⟩
   all_goals simp [wW]
  ·have hdec := dF (i := i) (n := l.length) (by omega)
   repeat' first | ((with_reducible first | refine cs ?_ ?_ | refine ws ?_ ?_ | refine wd ?_ ?_ | refine wu ?_ ?_) <;> intro h <;> try simp only [h]) | simp only [↓wBA, tZh, convA, seval, pl16_6Zh, enW_len, List.length_map, hdec] | (with_reducible refine dP pl16_6Zh 54 (some 17) (by decide) (by kernel_rfl) ?_)
   all_goals refine ret_is (a := _) ?_ rfl rfl
   all_goals simp only [↓wBA, tZh, convA, seval]
   all_goals simp_all [wS]
theorem bdS_len (cols : List Tc) (cs : List Int) : ∀ rs : List (List Ex), (bdS cols cs rs).1.length ≤ rs.length
 | [] => by simp [bdS]
 | r :: rs => by
   have := bdS_len cols cs rs
   simp only [bdS]
   split
   ·simp
   ·split
    ·simp
    ·simp; exact this
theorem insS_len (s : Sm) (cols : List Tc) : (insS s cols).1.length ≤ s.rows.length ∧ ∀ r ∈ (insS s cols).1, r.length = cols.length := by
 unfold insS
 split
 ·simp
 ·split
  ·simp
  ·split
   ·simp
   ·have h1 := iGo_len (z0 cols) (tgtS (nmsS s cols) cols).1 (bdS cols (tgtS (nmsS s cols) cols).1 s.rows).1 ([], 0)
    have h2 := iGo_rows (z0 cols) (tgtS (nmsS s cols) cols).1 (bdS cols (tgtS (nmsS s cols) cols).1 s.rows).1 ([], 0) (by simp)
    have h3 := bdS_len cols (tgtS (nmsS s cols) cols).1 s.rows
    unfold finI
    split
    ·simp
    ·split
     ·simp
     ·refine ⟨by simp at h1; dsimp only; omega, fun r hr => by rw [h2 r hr]; simp [z0]⟩
theorem whereS_ok (s : Sm) (nm : ByteArray) (cols : List Tc) (hl : s.wh.length ≤ 1) (ho : okEL s.wh) : (whereS s nm cols).1.length ≤ 1 ∧ okEL (whereS s nm cols).1 := by
 unfold whereS
 split
 ·exact ⟨by simp, trivial⟩
 ·rcases hw : s.wh with _ | ⟨x, _ | ⟨y, l⟩⟩
  ·exact ⟨by simp [whS_nil], trivial⟩
  ·rw [whS_one]
   rw [hw] at ho
   split
   ·exact ⟨by simp, trivial⟩
   ·exact ⟨by simp, bndS_okE _ x ho.1, trivial⟩
  ·rw [hw] at hl; simp at hl
theorem zsF_rg (sc : List Bc) (l : List Ex) (h : okEL l) : ∀ x ∈ zsF sc l, rgE x := fun x hx => by
 obtain ⟨y, hy, rfl⟩ := List.mem_map.1 hx
 exact okE_rg _ (bndS_okE sc y (okEL_iff.1 h y hy))
theorem delS_form (s : Sm) (nm : ByteArray) (cols : List Tc) (rows : List (List Va)) : ∃ l : List (List Va), (delS s nm cols rows).1 = l.map (fun r => (r, none)) ∧ l.length ≤ rows.length ∧ ∀ r ∈ l, r ∈ rows := by
 have h := hitS_sub s nm cols rows
 unfold delS
 split
 ·exact ⟨[], rfl, by simp, by simp⟩
 ·split
  ·exact ⟨[], rfl, by simp, by simp⟩
  ·exact ⟨_, rfl, h.1, h.2⟩
end Go.Proofs.YtcnkmandddfdmaaGreat
namespace Go.Proofs.YtcnkmandddfdmaaGreat
open Go.RowKit
def pl7_23Zc : Plan := (.det 0 (.det 1 (.det 2 (.det 3 (.det 4 (.det 5 (.det 6 (.det 7 (.det 8 (.det 9 (.det 10 (.det 11 (.det 12 (.det 13 (.det 14 (.det 15 (.det 16 (.two 17 (.det 18 (.det 19 (.det 20 (.act 21 (.fin 22 (.det 23 .done)))))) 21 (.fin 17 (.det 18 (.det 19 (.det 20 (.fin 22 (.det 23 .done))))))))))))))))))))))))
def pl7_32Zc : Plan := (.det 0 (.det 1 (.det 2 (.det 4 (.det 5 (.det 6 (.det 7 (.det 8 (.act 3 (.fin 9 (.det 10 (.det 11 (.det 12 (.det 13 (.det 14 .done)))))))))))))))
def pl7_38Zc : Plan := (.det 0 (.det 1 (.det 2 (.det 3 (.det 4 (.fin 5 (.det 6 .done)))))))
def tZc := aa wX <| aa wbu <| aa T3 <| aa T4 <| aa T9 <| aa T22 <| aa T24 <| aa T25 <| aa T29 <| aa T30 <| aa T33 <| aa T36 <| aa T39 <| aa T52 <| aa T58 <| aa T62 <| aa T70 T80
theorem asgS_okE (sc : List Bc) (tc : List Tc) : ∀ (xs : List Ex) (cs : List Int), okEL xs → okEL (asgS sc tc xs cs).1
 | [], cs, _ => by simp [asgS, okEL]
 | x :: xs, [], _ => by simp [asgS, okEL]
 | x :: xs, c :: cs, h => by
   simp only [okEL] at h
   have h1 := bndS_okE sc x h.1
   have h2 := asgS_okE sc tc xs cs h.2
   simp only [asgS]
   split
   ·exact okEL_nil
   ·split
    ·exact okEL_nil
    ·exact ⟨h1, h2⟩
def enQ (l : List (List Ex)) : List (List PV) := l.map fun r => [nilSl 8 (exL r)]
theorem enQ_len (l : List (List Ex)) : (enQ l).length = l.length := by simp [enQ]
theorem enQ_get (l : List (List Ex)) (i : Nat) (h : i < l.length) : (enQ l)[i]? = some [nilSl 8 (exL l[i])] := by simp [enQ, h]
theorem enQ_succ (cols : List Tc) (cs : List Int) (rs : List (List Ex)) (i : Nat) (h : i < rs.length) : enQ ((rs.take (i + 1)).map (bdX cols cs)) = enQ ((rs.take i).map (bdX cols cs)) ++ [[nilSl 8 (exL (bdX cols cs rs[i]))]] := by
 rw [List.take_succ_eq_append_getElem h, enQ, List.map_append, List.map_append]; rfl
theorem ainsR (s : Sm) (hnl : s.names.length ≤ 1000000000000) (hrl : s.rows.length ≤ 2050) (hrr : ∀ r ∈ s.rows, r.length ≤ 2050 ∧ okEL r) (nm : ByteArray) (cols : List Tc) (hu : unlikeC cols) (hcl : cols.length ≤ 4398046511104) (σ : St) : ACalls Tryz.prog 7 [.agg ((smC s).map .p), tbA nm cols] σ fun r st => st = σ ∧ r = .tup [.p (.sl 1 (enVV (insS s cols).1)), intV .i64 (insS s cols).2] := by
 refine ACalls.pureF (R := fun r => r = .tup [.p (.sl 1 (enVV (insS s cols).1)), intV .i64 (insS s cols).2]) ?_ (by cases s; rfl) σ
 have hT := atgtRN (nmsS s cols) nm cols hu (by unfold nmsS; split <;> (try rw [List.length_map]) <;> omega) (by omega)
 have hTok := tgtS_ok (nmsS s cols) cols
 have hB := fun x want => aboundN x want
 have hSd := fun r h => asoundR r nm cols hcl h
 have hnm0 : s.names = [] → nmsS s cols = cols.map (·.1) := fun h => by unfold nmsS; rw [if_pos h]
 have hnm1 : s.names ≠ [] → nmsS s cols = s.names := fun h => by unfold nmsS; rw [if_neg h]
 unfold insS
 generalize hns : nmsS s cols = ns at *
 generalize tgtS ns cols = tg at *
 obtain ⟨cs, et⟩ := tg
 obtain ⟨kind, tb, sn, scols, names, srows, items, src, wh, group, order, limit, sets, hash⟩ := s
 simp only [tbA] at hT hSd
 simp only at hrl hrr hnl hTok hnm0 hnm1
 clear hns
 refine acalls_of cx_ok dr_ok Tryz.func7 (by kernel_rfl) rfl (nt := 155) (rs := [.tmp 4, .tmp 5]) rfl rfl ?_
 simp only [tbA, smC, List.map_cons, List.map_nil]
 by_cases hk : kind = 3
 ·subst hk
  simp only [ne_eq, not_true_eq_false, if_false]
  by_cases hn : names = []
  case' pos =>
   have hns := hnm0 hn
   subst hn hns
   simp only [enS, List.map_nil, nilSl, List.isEmpty_nil, if_true]
   have h00 : (((0 : Nat) : Int) == 0) = true := rfl
   have hml : (0 ≤ maxLen) = True := eq_true (Nat.zero_le _)
   repeat' first | ((with_reducible first | refine cs ?_ ?_ | refine ws ?_ ?_ | refine wd ?_ ?_ | refine wu ?_ ?_) <;> intro h <;> try simp only [h]) | simp only [↓wBA, tZc, convA, seval, pl7_23Zc, pl7_32Zc, pl7_38Zc, enTc_len, bne_self_eq_false, h00, appendA, srcA, hml, Nat.zero_le, Nat.zero_mul] | (with_reducible refine dP pl7_23Zc 24 (some 79) (by decide) (by kernel_rfl) ?_) | (with_reducible refine dP pl7_32Zc 15 (some 117) (by decide) (by kernel_rfl) ?_) | (with_reducible refine dP pl7_38Zc 7 (some 146) (by decide) (by kernel_rfl) ?_) | with_reducible refine And.intro ?_ ?_
   refine awp_loopN (cols.length) (fun i => [(6, .nown 2 1 (enN ((cols.take i).map (·.1)))), (7, intV .i64 (i : Nat)), (31, .any), (32, .any), (33, .any), (34, .any), (35, .any), (36, .any), (37, .any), (38, .any), (39, .any), (40, .any), (41, .any), (42, .any), (43, .any), (44, .any), (45, .any), (46, .any)]) (fun i => [(2, .nright 9 (i * 1))]) (fun i => True) ?_ ?_ ?_
   ·trivial
   ·skip
    simp only [wR, Nat.reduceAdd, Nat.reduceLT, reduceIte]
    simp [wW, enN]
   intro i hi _
   simp only [wR, Nat.reduceAdd, Nat.reduceLT, reduceIte]
   by_cases hlt : i < cols.length
   ·have hdec := dT (i := i) (n := cols.length) (by omega)
    have hi0 := nnI i
    have hw := wI i (by omega)
    have hg := enTc_get cols i hlt
    have hst := nms_succ cols i hlt
    have htl : (enN ((cols.take i).map (·.1))).length = i := by rw [enN_len, List.length_map]; simp; omega
    have hlim1 := tL (n := (i + 1) * 16) (by omega)
    have hlim2 := lM (n := i + 1) (by omega)
    rcases hc : cols[i] with ⟨c1, c2, c3, c4⟩
    rw [hc] at hst hg
    simp only [tcC] at hg
    repeat' first | ((with_reducible first | refine cs ?_ ?_ | refine ws ?_ ?_ | refine wd ?_ ?_ | refine wu ?_ ?_) <;> intro h <;> try simp only [h]) | simp only [↓wBA, tZc, convA, seval, pl7_23Zc, pl7_32Zc, pl7_38Zc, enTc_len, hdec, hi0, hg, hw, htl, hlim1, hlim2, appendA, srcA, List.length_append] | (with_reducible refine dP pl7_23Zc 24 (some 79) (by decide) (by kernel_rfl) ?_) | (with_reducible refine dP pl7_32Zc 15 (some 117) (by decide) (by kernel_rfl) ?_) | (with_reducible refine dP pl7_38Zc 7 (some 146) (by decide) (by kernel_rfl) ?_) | with_reducible refine And.intro ?_ ?_
    refine ⟨⟨i + 1, by omega, ?_⟩, by show cols.length - (i + 1) < cols.length - i; omega, ?_⟩
    ·trivial
    ·simp only [hst]
     simp [wW]
   have hdec := dF (i := i) (n := cols.length) (by omega)
   have ht : cols.take i = cols := List.take_of_length_le (by omega)
   have hT' := hT
   have hcs4 : cols.length ≤ 4398046511104 := hcl
   have hnl' : (cols.map (·.1)).length ≤ 4398046511104 := by rw [List.length_map]; exact hcl
   simp only [ht]
   simp only [↓wBA, tZc, convA, seval, enTc_len, hdec]
  case' neg =>
   have hns := hnm1 hn
   subst hns
   obtain ⟨n0, nl, rfl⟩ : ∃ n0 nl, ns = n0 :: nl := by
    cases ns with
    | nil => exact absurd rfl hn
    | cons a l => exact ⟨a, l, rfl⟩
   have hT' := hT
   have he1 : nilSl 1 (enN (n0 :: nl)) = .sl 1 ([.v (.string n0)] :: enS nl) := rfl
   have he2 : nilSl 1 (enS (n0 :: nl)) = .sl 1 ([.v (.string n0)] :: enS nl) := rfl
   rw [he1] at hT'
   have hnl' : (n0 :: nl).length ≤ 4398046511104 := by omega
   simp only [List.length_cons] at hnl
   have hlim1 := tL (n := (nl.length + 1) * 16) (by omega)
   have hlim2 := lM (n := nl.length + 1) (by omega)
   have h00 : (((nl.length + 1 : Nat) : Int) == 0) = false := by simp; omega
   simp only [he2]
   simp only [↓wBA, tZc, convA, seval, enTc_len, enS_len, List.length_cons, bne_self_eq_false, h00, appendA, srcA, hlim1, hlim2]
  all_goals
   by_cases het : et = 0
   ·subst het
    obtain ⟨hcs1, hcs2⟩ := hTok rfl
    have hcsl : cs.length ≤ 4398046511104 := by omega
    simp only [not_true_eq_false, if_false]
    obtain ⟨bz, hbz⟩ : ∃ bz, bdS cols cs srows = bz := ⟨_, rfl⟩
    rw [hbz]
    refine ACalls.frzArgs ?_
    simp only [frzL, frzA]
    refine (hT' _).mono ?_
    rintro _ _ ⟨rfl, rfl⟩
    repeat' first | ((with_reducible first | refine cs ?_ ?_ | refine ws ?_ ?_ | refine wd ?_ ?_ | refine wu ?_ ?_) <;> intro h <;> try simp only [h]) | simp only [↓wBA, tZc, convA, seval, pl7_23Zc, pl7_32Zc, pl7_38Zc, bne_self_eq_false] | (with_reducible refine dP pl7_23Zc 24 (some 79) (by decide) (by kernel_rfl) ?_) | (with_reducible refine dP pl7_32Zc 15 (some 117) (by decide) (by kernel_rfl) ?_) | (with_reducible refine dP pl7_38Zc 7 (some 146) (by decide) (by kernel_rfl) ?_) | with_reducible refine And.intro ?_ ?_
    refine awp_loopN (srows.length) (fun i => [(10, .nown 3 1 (enQ ((srows.take i).map (bdX cols cs)))), (11, intV .i64 (i : Nat)), (4, .any), (5, .any), (12, .any), (13, .any), (14, .any), (15, .any), (56, .any), (57, .any), (58, .any), (59, .any), (60, .any), (61, .any), (62, .any), (63, .any), (64, .any), (65, .any), (66, .any), (67, .any), (68, .any), (69, .any), (70, .any), (71, .any), (72, .any), (73, .any), (74, .any), (75, .any), (76, .any), (77, .any), (78, .any), (79, .any), (80, .any), (81, .any), (82, .any), (83, .any), (84, .any), (85, .any), (86, .any), (87, .any), (88, .any), (89, .any), (90, .any), (91, .any), (92, .any), (93, .any), (94, .any), (95, .any), (96, .any), (97, .any), (98, .any), (99, .any), (100, .any), (101, .any), (102, .any), (103, .any), (104, .any), (105, .any), (106, .any), (107, .any), (108, .any), (109, .any)]) (fun i => [(3, .nright 33 (i * 1))]) (fun i => ∀ j (hj : j < i) (h1 : j < srows.length), bdE cols cs srows[j] = 0) ?_ ?_ ?_
    ·intro j hj; omega
    ·skip
     simp only [wR, Nat.reduceAdd, Nat.reduceLT, reduceIte]
     simp [wW, enQ]
    ·intro i hi hI
     simp only [wR, Nat.reduceAdd, Nat.reduceLT, reduceIte]
     by_cases hlt : i < srows.length
     ·have hdec := dT (i := i) (n := srows.length) (by omega)
      have hi0 := nnI i
      have hw := wI i (by omega)
      have hg := enR_get srows i hlt
      have hrr1 := hrr srows[i] (List.getElem_mem hlt)
      have hst := enQ_succ cols cs srows i hlt
      have hbad := bdS_bad cols cs srows i hlt (fun j hj => hI j hj (by omega))
      have hnext : bdE cols cs srows[i] = 0 → ∀ j (hj : j < i + 1) (h1 : j < srows.length), bdE cols cs srows[j] = 0 := fun h0 j hj h1 => by
       by_cases e : j = i
       ·subst e; exact h0
       ·exact hI j (by omega) h1
      have htl : (enQ ((srows.take i).map (bdX cols cs))).length = i := by rw [enQ_len, List.length_map]; simp; omega
      have hlim1 := tL (n := (i + 1) * 24) (by omega)
      have hlim2 := lM (n := i + 1) (by omega)
      rw [hbz] at hbad
      obtain ⟨r, hr0⟩ : ∃ r, srows[i] = r := ⟨_, rfl⟩
      rw [hr0] at hg hrr1 hst hbad hnext
      by_cases hlen : r.length = cs.length
      ·have dl : ((r.length : Int) != (cs.length : Int)) = false := by simp [hlen]
       have hbe : bdE cols cs r = (asgS [] cols r cs).2 := by unfold bdE; rw [if_neg (by simp [hlen])]
       have hbx : bdX cols cs r = (asgS [] cols r cs).1 := rfl
       rw [hbe] at hbad hnext
       rw [hbx] at hst
       obtain ⟨ag, hag⟩ : ∃ ag, asgS [] cols r cs = ag := ⟨_, rfl⟩
       rw [hag] at hbad hnext hst
       repeat' first | ((with_reducible first | refine cs ?_ ?_ | refine ws ?_ ?_ | refine wd ?_ ?_ | refine wu ?_ ?_) <;> intro h <;> try simp only [h]) | simp only [↓wBA, tZc, convA, seval, pl7_23Zc, pl7_32Zc, pl7_38Zc, enR_len, enI_len, exL_len, hdec, hi0, hg, dl] | (with_reducible refine dP pl7_23Zc 24 (some 79) (by decide) (by kernel_rfl) ?_) | (with_reducible refine dP pl7_32Zc 15 (some 117) (by decide) (by kernel_rfl) ?_) | (with_reducible refine dP pl7_38Zc 7 (some 146) (by decide) (by kernel_rfl) ?_) | with_reducible refine And.intro ?_ ?_
       refine awp_loopN (cs.length) (fun k => [(12, .nown 4 8 (exL (zsF [] (r.take k)))), (13, intV .i64 (k : Nat)), (4, .any), (5, .any), (14, .any), (15, .any), (72, .any), (73, .any), (74, .any), (75, .any), (76, .any), (77, .any), (78, .any), (79, .any), (80, .any), (81, .any), (82, .any), (83, .any), (84, .any), (85, .any), (86, .any), (87, .any), (88, .any), (89, .any), (90, .any), (91, .any), (92, .any), (93, .any), (94, .any), (95, .any), (96, .any), (97, .any), (98, .any), (99, .any), (100, .any), (101, .any), (102, .any), (103, .any), (104, .any), (105, .any)]) (fun k => [(4, .nright 70 (k * 8))]) (fun k => ∀ j (hj : j < k) (hj' : j < r.length) (hc' : j < cs.length), asgE [] r[j] (tyAt cols cs[j]) = 0) ?_ ?_ ?_
       ·intro j hj; omega
       ·skip
        simp only [wR, Nat.reduceAdd, Nat.reduceLT, reduceIte]
        simp [wW, zsF, exL]
       ·intro k hk hK
        simp only [wR, Nat.reduceAdd, Nat.reduceLT, reduceIte]
        by_cases hltk : k < cs.length
        ·have hdk := dT (i := k) (n := cs.length) (by omega)
         have hk0 := nnI k
         have hwk := wI k (by omega)
         have hkr : k < r.length := by omega
         have hgr := exL_at r k hkr
         have hgc := enI_get cs k hltk
         obtain ⟨hc0, hcl'⟩ := hcs2 cs[k] (List.getElem_mem hltk)
         have hc0' : ((0 : Int) ≤ cs[k]) = True := eq_true hc0
         have hgt := enTc_get cols _ hcl'
         have hty' : tyAt cols cs[k] = (cols[cs[k].toNat]).2.1 := by unfold tyAt; simp [List.getD, hcl']
         have hBk := hB r[k] (cols[cs[k].toNat]).2.1
         have hz1 := zsF_succ [] r k hkr
         have hzl : (exL (zsF [] (r.take k))).length = k := by rw [exL_len, zsF_len]; simp; omega
         have hlim3 := tL (n := (k + 1) * 104) (by omega)
         have hlim4 := lM (n := k + 1) (by omega)
         have hbad2 := asgS_bad [] cols r cs k hkr hltk (fun j hj => hK j hj (by omega) (by omega))
         have hnext2 : asgE [] r[k] (tyAt cols cs[k]) = 0 → ∀ j (hj : j < k + 1) (hj' : j < r.length) (hc' : j < cs.length), asgE [] r[j] (tyAt cols cs[j]) = 0 := fun h0 j hj hj' hc' => by
          by_cases e : j = k
          ·subst e; exact h0
          ·exact hK j (by omega) hj' hc'
         rw [hty'] at hbad2 hnext2
         rw [hag] at hbad2
         generalize hae : asgE [] r[k] (cols[cs[k].toNat]).2.1 = ae at *
         obtain ⟨a1, a2, a3, a4, a5, a6, a7, a8, hz⟩ := exC_mk (bndS [] r[k]).1
         rw [hz] at hz1
         simp only [exA, hz, List.map_cons, List.map_nil] at hBk
         rcases hcc : cols[cs[k].toNat] with ⟨c1, c2, c3, c4⟩
         rw [hcc] at hgt hBk
         simp only [tcC] at hgt
         simp only at hBk
         by_cases h0 : ae = 0
         ·subst h0
          repeat' first | ((with_reducible first | refine cs ?_ ?_ | refine ws ?_ ?_ | refine wd ?_ ?_ | refine wu ?_ ?_) <;> intro h <;> try simp only [h]) | simp only [↓wBA, tZc, convA, seval, pl7_23Zc, pl7_32Zc, pl7_38Zc, enR_len, exL_len, enI_len, enTc_len, hi0, hg, hdk, hk0, hwk, hgr, hgc, hc0', hgt, hzl, hlim3, hlim4, appendA, srcA, List.length_append, exC_len, List.length_map, bne_self_eq_false, hlen] | ((with_reducible show ACalls _ _ _ _ _); refine (hBk _).eq ?_) | (with_reducible refine dP pl7_23Zc 24 (some 79) (by decide) (by kernel_rfl) ?_) | (with_reducible refine dP pl7_32Zc 15 (some 117) (by decide) (by kernel_rfl) ?_) | (with_reducible refine dP pl7_38Zc 7 (some 146) (by decide) (by kernel_rfl) ?_) | with_reducible refine And.intro ?_ ?_
          all_goals refine ⟨⟨k + 1, by omega, hnext2 rfl⟩, by show cs.length - (k + 1) < cs.length - k; omega, ?_⟩
          all_goals simp only [hz1]
          all_goals simp [wW]
         ·have h0' : (ae != 0) = true := by simpa using h0
          have hb2 := hbad2 h0
          rw [hb2] at hbad
          have hb := hbad h0
          simp only [hb]
          simp only [h0, not_false_eq_true, if_true]
          repeat' first | ((with_reducible first | refine cs ?_ ?_ | refine ws ?_ ?_ | refine wd ?_ ?_ | refine wu ?_ ?_) <;> intro h <;> try simp only [h]) | simp only [↓wBA, tZc, convA, seval, pl7_23Zc, pl7_32Zc, pl7_38Zc, enR_len, exL_len, enI_len, enTc_len, hi0, hg, hdk, hk0, hgr, hgc, hc0', hgt, exC_len, List.length_map, h0', hlen] | ((with_reducible show ACalls _ _ _ _ _); refine (hBk _).eq ?_) | (with_reducible refine dP pl7_23Zc 24 (some 79) (by decide) (by kernel_rfl) ?_) | (with_reducible refine dP pl7_32Zc 15 (some 117) (by decide) (by kernel_rfl) ?_) | (with_reducible refine dP pl7_38Zc 7 (some 146) (by decide) (by kernel_rfl) ?_) | with_reducible refine And.intro ?_ ?_
          all_goals refine ret_is (a := _) ?_ rfl rfl
          all_goals simp only [↓wBA, tZc, convA, seval]
          all_goals simp_all [wS, enVV]
        ·have hdk := dF (i := k) (n := cs.length) (by omega)
         have hrk : r.take k = r := List.take_of_length_le (by omega)
         have hok := asgS_ok [] cols r cs (by omega) (fun j hj hj' => hK j (by omega) hj hj')
         rw [hag] at hok
         rw [hok] at hst hnext
         simp only [hrk]
         simp only at hst hnext
         repeat' first | ((with_reducible first | refine cs ?_ ?_ | refine ws ?_ ?_ | refine wd ?_ ?_ | refine wu ?_ ?_) <;> intro h <;> try simp only [h]) | simp only [↓wBA, tZc, convA, seval, pl7_23Zc, pl7_32Zc, pl7_38Zc, enI_len, hdk, hw, htl, hlim1, hlim2, appendA, srcA, List.length_append] | (with_reducible refine dP pl7_23Zc 24 (some 79) (by decide) (by kernel_rfl) ?_) | (with_reducible refine dP pl7_32Zc 15 (some 117) (by decide) (by kernel_rfl) ?_) | (with_reducible refine dP pl7_38Zc 7 (some 146) (by decide) (by kernel_rfl) ?_) | with_reducible refine And.intro ?_ ?_
         all_goals refine ⟨⟨i + 1, by omega, hnext trivial⟩, by show srows.length - (i + 1) < srows.length - i; omega, ?_⟩
         all_goals simp only [hst]
         all_goals simp [WeakE, Weak, setsF, setsO, St.put, leL, leT, leM, leG, leA, leC, leR, leS, leO, tokLt, tokLtL, intV, boolV, leaf, nilA]
      ·have dl : ((r.length : Int) != (cs.length : Int)) = true := by simp; omega
       have hb2 : bdE cols cs r = 30 := by unfold bdE; rw [if_pos hlen]
       rw [hb2] at hbad
       have hb := hbad (by decide)
       simp only [hb, Int.reduceEq, not_false_eq_true, if_true]
       repeat' first | ((with_reducible first | refine cs ?_ ?_ | refine ws ?_ ?_ | refine wd ?_ ?_ | refine wu ?_ ?_) <;> intro h <;> try simp only [h]) | simp only [↓wBA, tZc, convA, seval, pl7_23Zc, pl7_32Zc, pl7_38Zc, enR_len, enI_len, exL_len, hdec, hi0, hg, dl] | (with_reducible refine dP pl7_23Zc 24 (some 79) (by decide) (by kernel_rfl) ?_) | (with_reducible refine dP pl7_32Zc 15 (some 117) (by decide) (by kernel_rfl) ?_) | (with_reducible refine dP pl7_38Zc 7 (some 146) (by decide) (by kernel_rfl) ?_) | with_reducible refine And.intro ?_ ?_
       all_goals refine ret_is (a := _) ?_ rfl rfl
       all_goals simp only [↓wBA, tZc, convA, seval]
       all_goals simp_all [wS, enVV]
     ·have hdec := dF (i := i) (n := srows.length) (by omega)
      have ht : srows.take i = srows := List.take_of_length_le (by omega)
      have hbs := bdS_ok cols cs srows fun j hj => hI j (by omega) hj
      have hbl : ∀ x ∈ srows.map (bdX cols cs), x.length ≤ cs.length ∧ okEL x := fun x hx => by
       obtain ⟨r, hr, rfl⟩ := List.mem_map.1 hx
       obtain ⟨j, hj, rfl⟩ := List.mem_iff_getElem.1 hr
       have h0 := hI j (by omega) hj
       have h1 := asgS_len [] cols srows[j] cs
       have h2 : srows[j].length = cs.length := by
        by_cases e : srows[j].length = cs.length
        ·exact e
        ·unfold bdE at h0; rw [if_pos e] at h0; simp at h0
       exact ⟨by unfold bdX; omega, asgS_okE [] cols _ cs (hrr _ hr).2⟩
      have hbn : (srows.map (bdX cols cs)).length ≤ 2050 := by rw [List.length_map]; exact hrl
      rw [hbz] at hbs
      simp only [ht, hbs, not_true_eq_false, if_false]
      clear hbs hbz
      generalize srows.map (bdX cols cs) = bl at *
      have hur := iGo_rows (z0 cols) cs bl ([], 0) (by simp)
      have hul := iGo_len (z0 cols) cs
      generalize hsp : iStep (z0 cols) cs = stp at *
      have hz := z0_en cols
      have hzl : (z0 cols).length = cols.length := by simp [z0]
      have hzr : ∀ v ∈ z0 cols, i64R v.2.1 := fun v hv => by
       have : v = va0 := by unfold z0 at hv; exact (List.mem_replicate.1 hv).2
       subst this; decide
      have hlz' : ((32 : Int) * (cols.length : Int) ≤ 140737488355328) = True := eq_true (by omega)
      have hlz : (((32 : Nat) : Int) * (cols.length : Int) ≤ 140737488355328) = True := eq_true (by omega)
      repeat' first | ((with_reducible first | refine cs ?_ ?_ | refine ws ?_ ?_ | refine wd ?_ ?_ | refine wu ?_ ?_) <;> intro h <;> try simp only [h]) | simp only [↓wBA, tZc, convA, seval, pl7_23Zc, pl7_32Zc, pl7_38Zc, enR_len, hdec] | (with_reducible refine dP pl7_23Zc 24 (some 79) (by decide) (by kernel_rfl) ?_) | (with_reducible refine dP pl7_32Zc 15 (some 117) (by decide) (by kernel_rfl) ?_) | (with_reducible refine dP pl7_38Zc 7 (some 146) (by decide) (by kernel_rfl) ?_) | with_reducible refine And.intro ?_ ?_
      refine awp_loopN (bl.length) (fun m => [(16, .nown 4 1 (enVV ((bl.take m).foldl stp ([], 0)).1)), (9, intV .i64 ((bl.take m).foldl stp ([], 0)).2), (17, intV .i64 (m : Nat)), (18, .any), (19, .any), (110, .any), (111, .any), (112, .any), (113, .any), (114, .any), (115, .any), (116, .any), (117, .any), (118, .any), (119, .any), (120, .any), (121, .any), (122, .any), (123, .any), (124, .any), (125, .any), (126, .any), (127, .any), (128, .any), (129, .any), (130, .any), (131, .any), (132, .any), (133, .any), (134, .any), (135, .any)]) (fun m => [(4, .nright 58 (m * 1))]) (fun m => True) ?_ ?_ ?_
      ·trivial
      ·skip
       simp only [wR, Nat.reduceAdd, Nat.reduceLT, reduceIte]
       simp [wW, enVV]
      ·intro m hm _
       simp only [wR, Nat.reduceAdd, Nat.reduceLT, reduceIte]
       by_cases hltm : m < bl.length
       ·have hdm := dT (i := m) (n := bl.length) (by omega)
        have hm0 := nnI m
        have hwm := wI m (by omega)
        have hgm := enQ_get bl m hltm
        have hst := take_step stp ([], 0) bl m hltm
        have hlen := hul (bl.take m) ([], 0)
        have hbm := hbl bl[m] (List.getElem_mem hltm)
        have hPk := aputN (z0 cols) bl[m] cs hbm.1 (fun c hc => by rw [hzl]; exact hcs2 c hc) (by omega) (by omega) hzr (fun x hx => okE_rg x (okEL_iff.1 hbm.2 x hx))
        rw [← hsp] at hst
        simp only [iStep] at hst
        rw [hsp] at hst
        generalize hs : (bl.take m).foldl stp ([], 0) = st at *
        obtain ⟨out, l⟩ := st
        have hol' : out.length = m := by simp at hlen; omega
        simp only at hst
        rw [wrk_least] at hst
        generalize hrow : bl[m] = row at *
        generalize hwr : wrkS (z0 cols) row cs 0 = wr at *
        obtain ⟨nrow, le⟩ := wr
        simp only at hst hPk
        have hB : enVV (out ++ [nrow]) = enVV out ++ [[.sl 3 (enV nrow)]] := by simp [enVV]
        have htl : (enVV out).length = m := by rw [enVV_len, hol']
        have hlim1 := tL (n := (m + 1) * 24) (by omega)
        have hlim2 := lM (n := m + 1) (by omega)
        have hc0 : ((0 : Int) ≤ (cols.length : Int)) = True := eq_true (by omega)
        have hcm : ((cols.length : Int) ≤ (maxLen : Int)) = True := eq_true (by unfold maxLen; omega)
        repeat' first | ((with_reducible first | refine cs ?_ ?_ | refine ws ?_ ?_ | refine wd ?_ ?_ | refine wu ?_ ?_) <;> intro h <;> try simp only [h]) | simp only [↓wBA, tZc, convA, seval, pl7_23Zc, pl7_32Zc, pl7_38Zc, enQ_len, enTc_len, hdm, hm0, hwm, hgm, htl, hlim1, hlim2, hlz, hlz', hc0, hcm, Int.toNat_natCast, appendA, srcA, List.length_append] | ((with_reducible show ACalls _ _ _ _ _); first | (refine ACalls.frzArgs ?_; simp only [frzL, frzA, hz]; refine (hPk _).eq ?_) | refine (aleastR _ _ _).eq ?_) | (with_reducible refine dP pl7_23Zc 24 (some 79) (by decide) (by kernel_rfl) ?_) | (with_reducible refine dP pl7_32Zc 15 (some 117) (by decide) (by kernel_rfl) ?_) | (with_reducible refine dP pl7_38Zc 7 (some 146) (by decide) (by kernel_rfl) ?_) | with_reducible refine And.intro ?_ ?_
        all_goals refine ⟨⟨m + 1, by omega, trivial⟩, by show bl.length - (m + 1) < bl.length - m; omega, ?_⟩
        all_goals simp only [hst, hB]
        all_goals simp [wW]
       ·have hdm := dF (i := m) (n := bl.length) (by omega)
        have htm : bl.take m = bl := List.take_of_length_le (by omega)
        have hul2 := hul bl ([], 0)
        simp only [htm]
        generalize bl.foldl stp ([], 0) = u at *
        obtain ⟨out, l⟩ := u
        simp only at hur
        rw [hzl] at hur
        have hol' : out.length = bl.length := by simpa using hul2
        unfold finI
        simp only
        by_cases hl : l = 0
        ·subst hl
         simp only [ne_eq, not_true_eq_false, if_false]
         repeat' first | ((with_reducible first | refine cs ?_ ?_ | refine ws ?_ ?_ | refine wd ?_ ?_ | refine wu ?_ ?_) <;> intro h <;> try simp only [h]) | simp only [↓wBA, tZc, convA, seval, pl7_23Zc, pl7_32Zc, pl7_38Zc, enQ_len, hdm] | (with_reducible refine dP pl7_23Zc 24 (some 79) (by decide) (by kernel_rfl) ?_) | (with_reducible refine dP pl7_32Zc 15 (some 117) (by decide) (by kernel_rfl) ?_) | (with_reducible refine dP pl7_38Zc 7 (some 146) (by decide) (by kernel_rfl) ?_) | with_reducible refine And.intro ?_ ?_
         refine awp_loopN (out.length) (fun q => [(20, intV .i64 (q : Nat)), (4, .any), (5, .any), (136, .any), (137, .any), (138, .any), (139, .any), (140, .any), (141, .any), (142, .any), (143, .any), (144, .any), (145, .any), (146, .any), (147, .any), (148, .any), (149, .any), (150, .any), (151, .any), (152, .any)]) (fun q => []) (fun q => ∀ j (hj : j < q) (hj' : j < out.length), rowOk cols out[j] = true) ?_ ?_ ?_
         ·intro j hj; omega
         ·skip
          simp only [wR, Nat.reduceAdd, Nat.reduceLT, reduceIte]
          simp [wW]
         ·intro q hq hQ
          simp only [wR, Nat.reduceAdd, Nat.reduceLT, reduceIte]
          by_cases hltq : q < out.length
          ·have hdq := dT (i := q) (n := out.length) (by omega)
           have hq0 := nnI q
           have hwq := wI q (by omega)
           have hgq := enVV_get out q hltq
           have hql := hur out[q] (List.getElem_mem hltq)
           have hSq := hSd out[q] hql
           have hbad : rowOk cols out[q] = false → soundS cols out = 34 := fun h => soundS_bad cols out q hltq h
           have hnext : rowOk cols out[q] = true → ∀ j (hj : j < q + 1) (hj' : j < out.length), rowOk cols out[j] = true := fun h0 j hj hj' => by
            by_cases e : j = q
            ·subst e; exact h0
            ·exact hQ j (by omega) hj'
           cases hro : rowOk cols out[q]
           ·rw [hro] at hSq
            have hf := hbad hro
            simp only [hf]
            repeat' first | ((with_reducible first | refine cs ?_ ?_ | refine ws ?_ ?_ | refine wd ?_ ?_ | refine wu ?_ ?_) <;> intro h <;> try simp only [h]) | simp only [↓wBA, tZc, convA, seval, pl7_23Zc, pl7_32Zc, pl7_38Zc, enVV_len, hdq, hq0, hgq, beq_self_eq_true] | ((with_reducible show ACalls _ _ _ _ _); refine (hSq _).eq ?_) | (with_reducible refine dP pl7_23Zc 24 (some 79) (by decide) (by kernel_rfl) ?_) | (with_reducible refine dP pl7_32Zc 15 (some 117) (by decide) (by kernel_rfl) ?_) | (with_reducible refine dP pl7_38Zc 7 (some 146) (by decide) (by kernel_rfl) ?_) | with_reducible refine And.intro ?_ ?_
            all_goals refine ret_is (a := _) ?_ rfl rfl
            all_goals simp only [↓wBA, tZc, convA, seval]
            all_goals simp_all [wS, enVV]
           ·rw [hro] at hSq
            repeat' first | ((with_reducible first | refine cs ?_ ?_ | refine ws ?_ ?_ | refine wd ?_ ?_ | refine wu ?_ ?_) <;> intro h <;> try simp only [h]) | simp only [↓wBA, tZc, convA, seval, pl7_23Zc, pl7_32Zc, pl7_38Zc, enVV_len, hdq, hq0, hgq, hwq, beq_self_eq_true] | ((with_reducible show ACalls _ _ _ _ _); refine (hSq _).eq ?_) | (with_reducible refine dP pl7_23Zc 24 (some 79) (by decide) (by kernel_rfl) ?_) | (with_reducible refine dP pl7_32Zc 15 (some 117) (by decide) (by kernel_rfl) ?_) | (with_reducible refine dP pl7_38Zc 7 (some 146) (by decide) (by kernel_rfl) ?_) | with_reducible refine And.intro ?_ ?_
            all_goals refine ⟨⟨q + 1, by omega, hnext hro⟩, by show out.length - (q + 1) < out.length - q; omega, ?_⟩
            all_goals simp [wW]
          ·have hdq := dF (i := q) (n := out.length) (by omega)
           have hs0 := rowAll_ok cols out (fun j hj => hQ j (by omega) hj)
           simp only [hs0, not_true_eq_false, if_false]
           repeat' first | ((with_reducible first | refine cs ?_ ?_ | refine ws ?_ ?_ | refine wd ?_ ?_ | refine wu ?_ ?_) <;> intro h <;> try simp only [h]) | simp only [↓wBA, tZc, convA, seval, pl7_23Zc, pl7_32Zc, pl7_38Zc, enVV_len, hdq, bne_self_eq_false] | (with_reducible refine dP pl7_23Zc 24 (some 79) (by decide) (by kernel_rfl) ?_) | (with_reducible refine dP pl7_32Zc 15 (some 117) (by decide) (by kernel_rfl) ?_) | (with_reducible refine dP pl7_38Zc 7 (some 146) (by decide) (by kernel_rfl) ?_) | with_reducible refine And.intro ?_ ?_
           all_goals refine ret_is (a := _) ?_ rfl rfl
           all_goals simp only [↓wBA, tZc, convA, seval]
           all_goals simp_all [wS]
        ·have hl' : (l != 0) = true := by simpa using hl
         have hl2 : (l == 0) = false := by simpa using hl
         simp only [ne_eq, hl, not_false_eq_true, if_true]
         repeat' first | ((with_reducible first | refine cs ?_ ?_ | refine ws ?_ ?_ | refine wd ?_ ?_ | refine wu ?_ ?_) <;> intro h <;> try simp only [h]) | simp only [↓wBA, tZc, convA, seval, pl7_23Zc, pl7_32Zc, pl7_38Zc, enQ_len, hdm] | (with_reducible refine dP pl7_23Zc 24 (some 79) (by decide) (by kernel_rfl) ?_) | (with_reducible refine dP pl7_32Zc 15 (some 117) (by decide) (by kernel_rfl) ?_) | (with_reducible refine dP pl7_38Zc 7 (some 146) (by decide) (by kernel_rfl) ?_) | with_reducible refine And.intro ?_ ?_
         refine awp_loopN (0) (fun q => [(20, intV .i64 (q : Nat)), (4, .any), (5, .any), (136, .any), (137, .any), (138, .any), (139, .any), (140, .any), (141, .any), (142, .any), (143, .any), (144, .any), (145, .any), (146, .any), (147, .any), (148, .any), (149, .any), (150, .any), (151, .any), (152, .any)]) (fun q => []) (fun q => True) ?_ ?_ ?_
         ·trivial
         ·skip
          simp only [wR, Nat.reduceAdd, Nat.reduceLT, reduceIte]
          simp [wW]
         ·intro q hq _
          have : q = 0 := by omega
          subst this
          simp only [wR, Nat.reduceAdd, Nat.reduceLT, reduceIte]
          repeat' first | ((with_reducible first | refine cs ?_ ?_ | refine ws ?_ ?_ | refine wd ?_ ?_ | refine wu ?_ ?_) <;> intro h <;> try simp only [h]) | simp only [↓wBA, tZc, convA, seval, pl7_23Zc, pl7_32Zc, pl7_38Zc, enVV_len, hl', hl2] | (with_reducible refine dP pl7_23Zc 24 (some 79) (by decide) (by kernel_rfl) ?_) | (with_reducible refine dP pl7_32Zc 15 (some 117) (by decide) (by kernel_rfl) ?_) | (with_reducible refine dP pl7_38Zc 7 (some 146) (by decide) (by kernel_rfl) ?_) | with_reducible refine And.intro ?_ ?_
          all_goals refine ret_is (a := _) ?_ rfl rfl
          all_goals simp only [↓wBA, tZc, convA, seval]
          all_goals simp_all [wS, enVV]
   ·have he' : (et != 0) = true := by simpa using het
    simp only [het, not_false_eq_true, if_true]
    refine ACalls.frzArgs ?_
    simp only [frzL, frzA]
    refine (hT' _).mono ?_
    rintro _ _ ⟨rfl, rfl⟩
    repeat' first | ((with_reducible first | refine cs ?_ ?_ | refine ws ?_ ?_ | refine wd ?_ ?_ | refine wu ?_ ?_) <;> intro h <;> try simp only [h]) | simp only [↓wBA, tZc, convA, seval, pl7_23Zc, pl7_32Zc, pl7_38Zc, he'] | (with_reducible refine dP pl7_23Zc 24 (some 79) (by decide) (by kernel_rfl) ?_) | (with_reducible refine dP pl7_32Zc 15 (some 117) (by decide) (by kernel_rfl) ?_) | (with_reducible refine dP pl7_38Zc 7 (some 146) (by decide) (by kernel_rfl) ?_) | with_reducible refine And.intro ?_ ?_
    all_goals refine ret_is (a := _) ?_ rfl rfl
    all_goals simp only [↓wBA, tZc, convA, seval]
    all_goals simp_all [wS, enVV]
 ·have k3 : (kind != 3) = true := by simpa using hk
  simp only [ne_eq, hk, not_false_eq_true, if_true]
  repeat' first | ((with_reducible first | refine cs ?_ ?_ | refine ws ?_ ?_ | refine wd ?_ ?_ | refine wu ?_ ?_) <;> intro h <;> try simp only [h]) | simp only [↓wBA, tZc, convA, seval, pl7_23Zc, pl7_32Zc, pl7_38Zc, k3] | (with_reducible refine dP pl7_23Zc 24 (some 79) (by decide) (by kernel_rfl) ?_) | (with_reducible refine dP pl7_32Zc 15 (some 117) (by decide) (by kernel_rfl) ?_) | (with_reducible refine dP pl7_38Zc 7 (some 146) (by decide) (by kernel_rfl) ?_) | with_reducible refine And.intro ?_ ?_
  all_goals refine ret_is (a := _) ?_ rfl rfl
  all_goals simp only [↓wBA, tZc, convA, seval]
  all_goals simp_all [wS, enVV]
end Go.Proofs.YtcnkmandddfdmaaGreat
namespace Go.Proofs.YtcnkmandddfdmaaGreat
open Go.RowKit
def tZt := aa wX <| aa wbu <| aa T4 <| aa T24 <| aa T25 <| aa T27 <| aa T33 <| aa T36 <| aa T39 T46
theorem unlike_of {cols : List Tc} (h : namesR cols cols.length) : unlikeC cols := fun k h1 i hi => (h k h1 h1).2 i hi
theorem tyOk_of {nm : ByteArray} {cols : List Tc} (h : namesR cols cols.length) : tyOk (scopeS nm cols) := fun c hc => by
 obtain ⟨t, ht, rfl⟩ := List.mem_map.1 hc
 obtain ⟨k, hk, rfl⟩ := List.getElem_of_mem ht
 have := (h k hk hk).1.1
 show 0 ≤ cols[k].2.1
 omega
theorem atells (txt nm : ByteArray) (cols : List Tc) (rows : List (List Va)) (hcl : cols.length ≤ 4398046511104) (hrl : rows.length ≤ 140737488351232) (hrv : ∀ r ∈ rows, ∀ v ∈ r, i64R v.2.1) (σ : St) : ACalls Tryz.prog 3 [.agg [.p (.v (.string txt)), .p (.v (.string nm)), .p (.sl 4 (enTc cols)), .p (.sl 1 (enVV rows))]] σ fun r s => s = σ ∧ r = boolV true := by
 refine ACalls.pureF (R := fun r => r = boolV true) ?_ rfl σ
 refine acalls_of cx_ok dr_ok Tryz.func3 (by kernel_rfl) rfl (nt := 127) (rs := [.tmp 2]) rfl rfl ?_
 simp only [↓wBA, tZt, convA, seval]
 refine (aawake _).mono ?_
 rintro _ _ ⟨rfl, rfl⟩
 simp only [↓wBA, tZt, convA, seval]
 refine (aright txt nm cols rows hcl hrl _).mono ?_
 rintro _ _ ⟨rfl, s, b, rfl, hs1, hs2, hb⟩
 cases b
 ·skip
  repeat' first | ((with_reducible first | refine cs ?_ ?_ | refine ws ?_ ?_) <;> intro h <;> try simp only [h]) | simp only [↓wBA, tZt, convA, seval, smC_len, List.length_map]
  all_goals refine ret_is (a := _) ?_ rfl rfl
  all_goals simp only [↓wBA, tZt, convA, seval]
  all_goals simp_all [wS]
 ·obtain ⟨h500, hnames, hrows⟩ := hb rfl
  have hrc : ∀ r ∈ rows, r.length = cols.length := fun r h => (hrows r h).1
  have hu := unlike_of hnames
  have hty := tyOk_of (nm := nm) hnames
  have b1 := hs2.names
  have b2 := hs2.rows
  have b3 := hs2.row
  have b4 := hs2.wh
  have b5 := hs2.sets
  have hwo := whereS_ok s nm cols b4.1 b4.2
  have hwr : ∀ x ∈ (whereS s nm cols).1, rgE x := fun x hx => okE_rg x (okEL_iff.1 hwo.2 x hx)
  have hI := ains s (by omega) (by omega) (fun r h => by have := (b3 r h).1; omega) nm cols hcl
  have hIR := ainsR s (by omega) b2 b3 nm cols hu hcl
  have hW := adwhere s (by omega) nm cols hcl
  have hWR := awhereR s b4.1 nm cols hty hcl
  have hU := aupd s (fun h => (hs1 h).1) (by omega) (by omega) nm cols hcl rows ⟨by omega, fun r hr => by rw [hrc r hr]; exact hcl⟩ (by omega) hrc
  have hUR := aupdR s (fun h => (hs1 h).1) (by omega) b4.1 nm cols hu hty hcl rows (by omega) hrv hrc hwr (zsF_rg _ _ b5.2)
  have hD := adelete s (by omega) nm cols hcl rows ⟨by omega, fun r hr => by rw [hrc r hr]; exact hcl⟩ (by omega)
  have hDR := adeleteR s b4.1 nm cols hty hcl rows (by omega) hrv hwr
  have hil := insS_len s cols
  have hS := asameVV (insS s cols).1 (insS s cols).1 (by omega) (by omega) (fun r h => by rw [hil.2 r h]; exact hcl) (fun r h => by rw [hil.2 r h]; exact hcl)
  have hSe : sameVV (insS s cols).1 (insS s cols).1 = true := decide_eq_true rfl
  rw [hSe] at hS
  have hX := asameXL (whereS s nm cols).1 (by omega) (asameXM _ hwo.2)
  have hul := updS_len s nm cols rows (by omega)
  have hun := updS_nn s nm cols hcl rows (by omega) hrc (fun h => (hs1 h).2)
  have hSU := asameW nm (updS s nm cols rows).1 (updS s nm cols rows).1 (by omega) (by omega) hun hun
  rw [decide_eq_true rfl] at hSU
  obtain ⟨dl, hdl, hdl1, hdl2⟩ := delS_form s nm cols rows
  have hSD := asameD nm dl (by omega) (fun r hr => by rw [hrc r (hdl2 r hr)]; exact hcl)
  rw [← hdl] at hSD
  generalize insS s cols = q1 at *
  generalize whereS s nm cols = q2 at *
  generalize updS s nm cols rows = q3 at *
  generalize delS s nm cols rows = q4 at *
  obtain ⟨l1, e1⟩ := q1
  obtain ⟨l2, e2⟩ := q2
  obtain ⟨l3, e3⟩ := q3
  obtain ⟨l4, e4⟩ := q4
  simp only [tbA] at hI hIR hW hWR hU hUR hD hDR
  repeat' first | ((with_reducible first | refine cs ?_ ?_ | refine ws ?_ ?_) <;> intro h <;> try simp only [h]) | simp only [↓wBA, tZt, convA, seval, smC_len, List.length_map, beq_self_eq_true, bne_self_eq_false, Bool.not_true, Bool.not_false] | ((with_reducible show ACalls _ _ _ _ _); first | refine (hI _).eq ?_ | refine (hIR _).eq ?_ | refine (hW _).eq ?_ | refine (hWR _).eq ?_ | refine (hU _).eq ?_ | refine (hUR _).eq ?_ | refine (hD _).eq ?_ | refine (hDR _).eq ?_ | refine (hS _).eq ?_ | refine (hX _).eq ?_ | refine (hSU _).eq ?_ | refine (hSD _).eq ?_)
  all_goals refine ret_is (a := _) ?_ rfl rfl
  all_goals simp only [↓wBA, tZt, convA, seval]
  all_goals simp_all [wS]
end Go.Proofs.YtcnkmandddfdmaaGreat
