/- RelParts: the walk where there is no error. -/
import Derived.Test.YtpcblbbddccgpaaDoorM36
set_option linter.unusedSimpArgs false
set_option linter.unusedVariables false
set_option linter.defProp false
set_option maxRecDepth 100000
set_option maxHeartbeats 32000000
namespace Go.Proofs.YtpcblbbddccgpaaDoor
open Go.RowKit
def pl3_11Pz : Plan := (.det 0 (.det 1 (.det 2 (.det 3 (.fin 4 (.det 5 (.det 6 (.det 7 (.det 8 (.det 9 .done))))))))))
def pl3_12Pz : Plan := (.det 0 (.det 1 (.det 2 (.det 3 (.fin 4 (.det 5 (.det 6 (.det 7 (.det 8 (.det 9 .done))))))))))
def pl3_29Pz : Plan := (.det 0 (.det 1 (.det 2 (.det 3 (.det 4 (.act 5 (.det 6 (.fin 7 .done))))))))
def tPz := aa wX <| aa wbu <| aa T2 <| aa T3 <| aa T4 <| aa T5 <| aa T22 <| aa T24 <| aa T25 <| aa T27 <| aa T29 <| aa T31 T36
theorem get_off (tl : St) (j : Nat) (rest : St) : (tl ++ rest)[tl.length + j]? = rest[j]? := by rw [List.getElem?_append_right (by omega)]; congr 1; omega
theorem set_off (tl : St) (j : Nat) (rest : St) (o : Option Ob) : (tl ++ rest).set (tl.length + j) o = tl ++ rest.set j o := by rw [List.set_append, if_neg (by omega)]; congr 2; omega
theorem srcM_data (σ : St) (b : List (List Va)) : srcM σ 1 (.p (.sl 1 (enVV b))) = some ((enVV b).map fun c => c.map .p) := by simp [srcM, srcA]
theorem srcM_out (acc : List (List Va)) (o0 o1 o2 : Ob) (rest : St) : srcM (some o0 :: some o1 :: some o2 :: none :: none :: (tlF 5 acc ++ rest)) 1 (outO 5 acc) = some (celF 5 acc) := by
 cases acc with
 | nil => simp [outO, srcM, srcA, nilA, celF]
 | cons q l =>
   obtain ⟨k, e1, e2, e3, e4, e5, e6⟩ := tlF_ne (n := 5) (acc := q :: l) (by simp)
   rw [e5]
   have hg : (some o0 :: some o1 :: some o2 :: none :: none :: (tlF 5 (q :: l) ++ rest))[5 + k]? = some (some (.row 1 (celF 5 (q :: l)))) := by
    rw [show 5 + k = k + 1 + 1 + 1 + 1 + 1 by omega]
    simp only [List.getElem?_cons_succ]
    rw [List.getElem?_append_left (by omega)]; exact e3
   unfold srcM srcA
   simp only [hg, Nat.zero_add, true_and, List.drop_zero]
   rw [if_pos (by omega), List.take_of_length_le (by omega)]
theorem awp_loopH {P : Program} {C : Ctx} {fr : List AV} {σ : St} {Q : Exit → List AV → St → Prop} {c : Code} (n : Nat) (D : Nat → List (Nat × AV)) (T : Nat → St) (hl : ∀ i, i ≤ n → σ.length ≤ (T i).length) (h2 : WeakE fr σ (setsF fr (D 0)) (T 0))
 (h3 : ∀ i, (hi : i ≤ n) → AWp P C (aDraw P C) c (setsF fr (D i)) (T i) (roundA (fun x : { i : Nat // i ≤ n } => (setsF fr (D x.1), T x.1)) (fun x => n - x.1) ⟨i, hi⟩ Q)) : AWp P C (aDraw P C) (.loop c) fr σ Q :=
 awp_loop' (X := { i : Nat // i ≤ n }) (fun x => (setsF fr (D x.1), T x.1)) (fun x => n - x.1) ⟨0, by omega⟩ (fun x => hl x.1 x.2) h2 fun ⟨i, hi⟩ => h3 i hi
theorem all_st {n : Nat} {xc : List AV} {tl : St} (h1 : tokLtL n xc = true) (h2 : tl.all (okO n) = true) : (none :: some (.row 8 [xc]) :: none :: none :: none :: (tl ++ [none, none, none, none]) : St).all (okO n) = true := by simp [okO, h1, h2, List.all_append]
theorem filS_lenP (rows : List (List Va)) (x : Ex) (hr : OkRowsL rows) : OkRows (filS rows x).1 ∧ (filS rows x).1.length ≤ 10000 := by
 by_cases h : (filS rows x).2 = 0
 ·obtain ⟨h1, _, h3⟩ := filS_ok h
  refine ⟨⟨by omega, fun r hm => ?_⟩, h3⟩
  rw [h1] at hm
  exact hr.2 r (List.mem_filter.1 hm).1
 ·rw [filS_err h]
  exact ⟨⟨by simp, by simp⟩, by simp⟩
theorem aparts_ok (rows : List (List Va)) (x y : Ex) (c : Int) (hsm : rows.length ≤ 10000) (hr : ∀ r ∈ rows, r.length ≤ 4398046511104) (h0 : 0 ≤ c) (h1 : c < 256) (he : (filS rows x).2 = 0) (σ : St) : ACalls Tryd.prog 3 [partsA rows x y c] σ fun r s => s = σ ∧ r = boolV true := by
 refine ACalls.pureF (R := fun r => r = boolV true) ?_ (by cases x; cases y; rfl) σ
 have hA := aawake
 obtain ⟨kk, hkk, hkl⟩ : ∃ kk : Nat, Int.tmod (IntKind.i64.wrap c) ((rows.length + 1 : Nat) : Int) = (kk : Int) ∧ kk ≤ rows.length := ⟨(c % ((rows.length : Int) + 1)).toNat, by
  rw [wrap_i64 (by omega) (by omega), Int.tmod_eq_emod_of_nonneg h0]
  have h2 := Int.emod_nonneg c (show ((rows.length : Int) + 1) ≠ 0 by omega)
  rw [show ((rows.length + 1 : Nat) : Int) = (rows.length : Int) + 1 by omega]
  omega, by
  have h2 := Int.emod_nonneg c (show ((rows.length : Int) + 1) ≠ 0 by omega)
  have h3 := Int.emod_lt_of_pos c (show (0 : Int) < (rows.length : Int) + 1 by omega)
  omega⟩
 have hd : decide ((rows.length : Int) > 10000) = false := by simp; omega
 have hw1 : IntKind.i64.wrap ((rows.length : Int) + 1) = ((rows.length + 1 : Nat) : Int) := by rw [wrap_i64 (by omega) (by omega)]; simp
 have hne : (((rows.length + 1 : Nat) : Int) = 0) = False := eq_false (by omega)
 have hLL : ((rows.length : Int) ≤ (rows.length : Int)) = True := eq_true (Int.le_refl _)
 have hkT : ((kk : Int) ≤ (rows.length : Int)) = True := eq_true (by omega)
 have htk : (enVV rows).take rows.length = enVV rows := List.take_of_length_le (by rw [enVV_len]; omega)
 have hnum := anum
 have hor : OkRowsL rows := ⟨by omega, hr⟩
 have hot : OkRowsL (rows.take kk) := ⟨by simp; omega, fun r h => hr r (List.mem_of_mem_take h)⟩
 have hod : OkRowsL (rows.drop kk) := ⟨by simp; omega, fun r h => hr r (List.mem_of_mem_drop h)⟩
 have hF := afilterL rows x hor
 have hFa := afilterM (rows.take kk) x hot
 have hFb := afilterL (rows.drop kk) x hod
 have hpe := parts_err x rows kk hsm
 have hfa : (filS (rows.take kk) x).2 = ((rows.take kk).foldl (filStep x) ([], 0)).2 := by
  rw [filS_small (by simp; omega), fold_err]; rfl
 have hla : ((rows.take kk).foldl (filStep x) ([], 0)).1.length ≤ 10000 := by
  have := joinS_len x (rows.take kk) ([], 0)
  simp at this; omega
 rw [he] at hpe
 have h3 := (leastI_or (filS (rows.take kk) x).2 (filS (rows.drop kk) x).2).2.1 hpe.symm
 have hpr := parts_rows kk he h3.1 h3.2
 have hat : (filS (rows.take kk) x).1 = ((rows.take kk).foldl (filStep x) ([], 0)).1 := by
  rw [filS_ans]; unfold ansS
  rw [if_neg (by rw [← hfa]; simpa using h3.1), if_neg (by omega)]
 have hall := filS_ok he
 have hT := afilterL (filS rows x).1 y ⟨by omega, fun r h => hr r (by rw [hall.1] at h; exact (List.mem_filter.1 h).1)⟩
 have hB := afilterL rows (andX x y) hor
 have hand := fun h1 h2 => parts_and (y := y) he h1 h2
 have htl := (filS_lenP (filS rows x).1 y ⟨by omega, fun r h => hr r (by rw [hall.1] at h; exact (List.mem_filter.1 h).1)⟩)
 have har : ∀ r ∈ (filS rows x).1, r.length ≤ 4398046511104 := fun r h => hr r (by rw [hall.1] at h; exact (List.mem_filter.1 h).1)
 have hal := hall.2.2
 rw [hat] at hpr
 rw [he] at hF
 rw [← hfa, h3.1] at hFa
 rw [h3.2] at hFb
 generalize ((rows.take kk).foldl (filStep x) ([], 0)).1 = acc at *
 generalize (filS (rows.drop kk) x).1 = bs at *
 generalize (filS rows x).1 = all at *
 clear hpe hfa hat hall h3 he hor hot hod hsm
 have han : ∀ A, ansM 0 A acc.length = .tup [A, intV .i64 0] := fun A => by unfold ansM; rw [if_neg (by simp), if_neg (by omega)]
 simp only [han] at hFa
 clear han
 have hS1 : ∀ {σ : St} {t : Nat}, σ.at t (.row 1 (celF 5 acc ++ (enVV bs).map fun c => c.map .p)) → (∀ j v l, acc[j]? = some (v :: l) → σ.at (5 + posF acc j + 1) (.row 3 (muR (v :: l)))) → ACalls Tryd.prog 9 [.ms t 1 0 (acc.length + bs.length), .p (.sl 1 (enVV all))] σ fun r s => s = σ ∧ r = boolV true := fun h1 h2 => same_own hpr (by omega) har h1 h2
 have hS3 := asameVV all all (by omega) (by omega) har har
 have hs3 : sameVV all all = true := decide_eq_true rfl
 rw [hs3] at hS3
 have hlAB : acc.length + bs.length = all.length := by rw [← hpr, List.length_append]
 have hgl := fun j v l h => tlF_get (n := 5) (acc := acc) (j := j) (v := v) (l := l) h
 have hcl := celF_len acc 5
 have hso := srcM_out acc
 have hlo : lenA cx 22 (outO 5 acc) = some acc.length := by
  cases acc with
  | nil => exact kz_22
  | cons q l => exact lenMM
 generalize filS all y = T at *
 generalize filS rows (andX x y) = B at *
 obtain ⟨tw, h⟩ := T
 obtain ⟨bo, i2⟩ := B
 simp only at hT hB hand htl
 have hS2 : (h == 0) = true → (i2 == 0) = true → ∀ σ, ACalls Tryd.prog 9 [.p (.sl 1 (enVV tw)), .p (.sl 1 (enVV bo))] σ fun r s => s = σ ∧ r = boolV true := fun e1 e2 σ => by
  have e := hand (by simpa using e1) (by simpa using e2)
  subst e
  have hs : sameVV tw tw = true := decide_eq_true rfl
  have := asameVV tw tw (by omega) (by omega) htl.1.2 htl.1.2 σ
  rwa [hs] at this
 clear hand htl
 have hNo := anode 16 [x, y]
 generalize hh : (h == 0) = p at *
 generalize hi2 : (i2 == 0) = q at *
 obtain ⟨xk, xvk, xvn, xvs, xtb, xnm, xs, xkids⟩ := x
 obtain ⟨yk, yvk, yvn, yvs, ytb, ynm, ys, ykids⟩ := y
 simp only [andX, noX, exA, exC, exL, vaA, vaC, nmV, List.map_cons, List.map_nil] at hF hFa hFb hT hB hNo hnum
 have hl1 := tL (n := acc.length * 24) (by omega)
 have hl2 := lM (n := acc.length) (by omega)
 have hl3 := tL (n := (acc.length + bs.length) * 24) (by omega)
 have hl4 := lM (n := acc.length + bs.length) (by omega)
 have hmx0 : ((0 : Nat) ≤ maxLen) = True := eq_true (Nat.zero_le _)
 have hacl : (acc.length ≤ acc.length) = True := eq_true (Nat.le_refl _)
 have hct : (celF 5 acc).take acc.length = celF 5 acc := List.take_of_length_le (by omega)
 have hg1 := fun rest => get_off (tlF 5 acc) 1 rest
 have hg2 := fun rest => get_off (tlF 5 acc) 2 rest
 have hs1 := fun rest o => set_off (tlF 5 acc) 1 rest o
 have hs2 := fun rest o => set_off (tlF 5 acc) 2 rest o
 have htL := tlF_len 5 acc
 have hmx : ∀ i, (tlF 5 (mixF acc i 0)).length = (objF acc).length := fun i => by rw [tlF_len]; exact (lenEq_obj (mixF_len fun _ => Nat.zero_le _)).symm
 have hmz := mixF_zero acc
 have hot : ∀ m, (objF acc).length + 5 ≤ m → tokLt m (outO 5 acc) = true := fun m h => by
  cases acc with
  | nil => rfl
  | cons q l =>
    have : 0 < (objF (q :: l)).length := by rw [objF_cons, List.length_append]; have := blk_pos q; omega
    simp only [outO, tokLt, decide_eq_true_eq]; omega
 have hot9 := hot ((objF acc).length + 4 + 1 + 1 + 1 + 1 + 1) (by omega)
 refine acalls_of cxW_ok drW_ok Tryd.func3 (by kernel_rfl) rfl (nt := 160) (rs := [.tmp 2]) rfl rfl ?_
 simp only [partsA, exC, List.map_cons, List.map_nil, List.cons_append, List.nil_append]
 repeat' first | ((with_reducible first | refine cs ?_ ?_ | refine ws ?_ ?_ | refine wd ?_ ?_ | refine wu ?_ ?_) <;> intro h <;> try simp only [h]) | simp only [↓wBA, tPz, convA, seval, pl3_11Pz, pl3_12Pz, pl3_29Pz, kindW, tyW, mutsW, lenW, enVV_len, enVV_take, enVV_drop, List.drop_zero, htk, hd, hw1, hne, hkk, hkT, hLL, hkl, nnI, sliceA, boundA, appendM, hso, srcM_data, hlo, hl1, hl2, hl3, hl4, hmx0, hacl, hct, hcl, get_concat, set_concat, hg1, hg2, hs1, hs2, List.append_assoc, List.length_append, enVV_len] | ((with_reducible show ACalls _ _ _ _ _); first | refine (hA _).eq ?_ | refine (hF _).eq ?_ | (refine (hFa _).mono ?_; rintro _ _ ⟨rfl,rfl⟩) | refine (hFb _).eq ?_) | (with_reducible refine dP pl3_11Pz 10 (some 48) (by decide) (by kernel_rfl) ?_) | (with_reducible refine dP pl3_12Pz 10 (some 56) (by decide) (by kernel_rfl) ?_) | (with_reducible refine dP pl3_29Pz 8 (some 141) (by decide) (by kernel_rfl) ?_)
 refine ACalls.eq (hS1 ?_ ?_) ?_
 ·simp only [St.at, List.getElem?_cons_succ, hg2, List.getElem?_cons_zero]
 ·intro j v l h
  have h9 := hgl j v l h
  unfold St.at
  rw [show 5 + posF acc j + 1 = (posF acc j + 1) + 1 + 1 + 1 + 1 + 1 by omega]
  simp only [List.getElem?_cons_succ]
  rw [List.getElem?_append_left (List.getElem?_eq_some_iff.1 h9).1]
  exact h9
 cases p <;> cases q
 repeat' first | ((with_reducible first | refine cs ?_ ?_ | refine ws ?_ ?_ | refine wd ?_ ?_ | refine wu ?_ ?_) <;> intro h <;> try simp only [h]) | simp only [↓wBA, tPz, convA, seval, pl3_11Pz, pl3_12Pz, pl3_29Pz, kindW, tyW, mutsW, lenW, hh, hi2, Bool.not_true, Bool.not_false, List.append_assoc, List.length_append, enVV_len] | ((with_reducible show ACalls _ _ _ _ _); first | refine (hT _).eq ?_ | (refine ACalls.frzArgs ?_; simp only [frzL, frzA]; refine (hNo _).eq ?_) | refine (hB _).eq ?_ | refine (hS2 rfl rfl _).eq ?_) | (with_reducible refine dP pl3_11Pz 10 (some 48) (by decide) (by kernel_rfl) ?_) | (with_reducible refine dP pl3_12Pz 10 (some 56) (by decide) (by kernel_rfl) ?_) | (with_reducible refine dP pl3_29Pz 8 (some 141) (by decide) (by kernel_rfl) ?_)
 all_goals
  refine awp_loopT (acc.length) (fun i => [(18, intV .i64 (i : Nat)), (19, .any), (126, .any), (127, .any), (128, .any), (129, .any), (130, .any), (131, .any), (132, .any), (133, .any), (134, .any), (135, .any), (136, .any), (137, .any), (138, .any), (139, .any), (140, .any), (141, .any), (142, .any), (143, .any), (144, .any), (145, .any), (146, .any), (147, .any)]) (fun i => none :: some (.row 8 [[.p (.v (.int .i64 xk)), .p (.v (.int .i64 xvk)), .p (.v (.int .i64 xvn)), .p (.v (.string xvs)), .p (.v (.string xtb)), .p (.v (.string xnm)), .p (.v (.int .i64 xs)), .p (.sl 8 (exL xkids))]]) :: none :: none :: none :: (tlF 5 (mixF acc i 0) ++ [none, none, none, none])) ?_ ?_ ?_
  ·intro i
   simp [hmx i, htL]
  ·skip
   simp only [wR, Nat.reduceAdd, Nat.reduceLT, reduceIte]
   simp only [hmz]
   refine .inr ⟨?_, ?_⟩
   ·skip
    simp [wW, htL, hot9]
   ·refine ⟨trivial, ⟨rfl, .inl ⟨rfl, rfl⟩⟩, trivial, trivial, trivial, ?_⟩
    refine leS_pre ?_ _ (tlF_ok 5 _ acc ?_)
    ·exact ⟨trivial, trivial, trivial, trivial, trivial⟩
    ·simp only [List.length_cons, List.length_append, List.length_nil, htL]
     omega
  ·intro i hi
   simp only [wR, Nat.reduceAdd, Nat.reduceLT, reduceIte]
   by_cases hlt : i < acc.length
   ·have hdec := dT (i := i) (n := acc.length) hlt
    have hi0 := nnI i
    have hic : ((i : Int) < (acc.length : Int)) = True := eq_true (by omega)
    have hw := wI i (by omega)
    obtain ⟨k, e1, e2, e3, e4, e5, e6⟩ := tlF_ne (n := 5) (acc := acc) (fun e => by rw [e] at hlt; simp at hlt)
    have e7 : outO 5 acc = .ms (k + 5) 1 0 acc.length := by rw [e5, Nat.add_comm]
    have hcg := celF_get acc 5 i hlt
    have hct2 : (celF 5 acc).length = acc.length := celF_len acc 5
    have htop : ∀ m rest, m ≤ acc[i].length → (tlF 5 (mixF acc i m) ++ rest)[k]? = some (some (.row 1 (celF 5 acc))) := fun m rest hm => mix_top e1 (mixF_len fun _ => hm) rest
    have hnx := mixF_next hlt
    simp only [e7]
    have hmxm : ∀ m, m ≤ acc[i].length → (tlF 5 (mixF acc i m)).length = (objF acc).length := fun m hm => by rw [tlF_len]; exact (lenEq_obj (mixF_len fun _ => hm)).symm
    have hmx0 := hmx i
    have hokm : ∀ m, m ≤ acc[i].length → ∀ n, (objF acc).length + 9 ≤ n → (tlF 5 (mixF acc i m)).all (okO n) = true := fun m hm n hn => tlF_ok 5 n _ (by rw [← lenEq_obj (mixF_len fun _ => hm)]; omega)
    cases hrow : acc[i] with
    | nil =>
      rw [hrow] at hcg hnx
      simp only [celO] at hcg
      simp only [List.length_nil] at hnx
      have ht0 := fun rest => htop 0 rest (Nat.zero_le _)
      have hok0 := hokm 0 (Nat.zero_le _)
      repeat' first | ((with_reducible first | refine cs ?_ ?_ | refine ws ?_ ?_ | refine wd ?_ ?_ | refine wu ?_ ?_) <;> intro h <;> try simp only [h]) | simp only [↓wBA, tPz, convA, seval, pl3_11Pz, pl3_12Pz, pl3_29Pz, kindW, tyW, mutsW, lenW, lenMM, hdec, hi0] | (with_reducible refine dP pl3_11Pz 10 (some 48) (by decide) (by kernel_rfl) ?_) | (with_reducible refine dP pl3_12Pz 10 (some 56) (by decide) (by kernel_rfl) ?_) | (with_reducible refine dP pl3_29Pz 8 (some 141) (by decide) (by kernel_rfl) ?_)
      refine awp_loopN (0) (fun m => [(19, intV .i64 0), (132, .any), (133, .any), (134, .any), (135, .any), (136, .any), (137, .any), (138, .any), (139, .any), (140, .any), (141, .any), (142, .any), (143, .any), (144, .any), (145, .any), (146, .any), (147, .any)]) (fun m => []) (fun m => True) ?_ ?_ ?_
      ·trivial
      ·skip
       simp only [wR, Nat.reduceAdd, Nat.reduceLT, reduceIte]
       refine .inr ⟨?_, leS_self _ ?_⟩
       ·skip
        simp [wW, hmx0, e1]
        try omega
       ·refine all_st rfl (hok0 _ ?_)
        simp only [List.length_cons, List.length_append, List.length_nil, hmx0]
        omega
      ·intro m hm _
       simp only [wR, Nat.reduceAdd, Nat.reduceLT, reduceIte]
       repeat' first | ((with_reducible first | refine cs ?_ ?_ | refine ws ?_ ?_ | refine wd ?_ ?_ | refine wu ?_ ?_) <;> intro h <;> try simp only [h]) | simp only [↓wBA, tPz, convA, seval, pl3_11Pz, pl3_12Pz, pl3_29Pz, kindW, tyW, mutsW, lenW, lenMM, hct2, hi0, hic, ht0, hcg, hw, List.getElem?_cons_succ, Int.toNat_natCast, List.length_nil, decide_false, nc0] | (with_reducible refine dP pl3_11Pz 10 (some 48) (by decide) (by kernel_rfl) ?_) | (with_reducible refine dP pl3_12Pz 10 (some 56) (by decide) (by kernel_rfl) ?_) | (with_reducible refine dP pl3_29Pz 8 (some 141) (by decide) (by kernel_rfl) ?_)
       refine ⟨⟨i + 1, hlt⟩, by show acc.length - (i + 1) < acc.length - i; omega, ?_⟩
       simp only [wR, Nat.reduceAdd, Nat.reduceLT, reduceIte]
       simp only [← hnx]
       refine .inr ⟨?_, leS_self _ ?_⟩
       ·skip
        simp [wW, hmx0, e1]
        try omega
       ·refine all_st rfl (hok0 _ ?_)
        simp only [List.length_cons, List.length_append, List.length_nil, hmx0]
        omega
    | cons v l =>
      have hlen : acc[i].length = l.length + 1 := by rw [hrow]; rfl
      obtain ⟨t0, ht0⟩ : ∃ t0, t0 = posF acc i + 1 := ⟨_, rfl⟩
      have hcg2 : (celF 5 acc)[i]? = some [.ms (t0 + 5) 3 0 (l.length + 1)] := by
       rw [hcg, hrow]
       simp only [celO]
       rw [show 5 + posF acc i + 1 = t0 + 5 by omega]
      repeat' first | ((with_reducible first | refine cs ?_ ?_ | refine ws ?_ ?_ | refine wd ?_ ?_ | refine wu ?_ ?_) <;> intro h <;> try simp only [h]) | simp only [↓wBA, tPz, convA, seval, pl3_11Pz, pl3_12Pz, pl3_29Pz, kindW, tyW, mutsW, lenW, lenMM, hdec, hi0] | (with_reducible refine dP pl3_11Pz 10 (some 48) (by decide) (by kernel_rfl) ?_) | (with_reducible refine dP pl3_12Pz 10 (some 56) (by decide) (by kernel_rfl) ?_) | (with_reducible refine dP pl3_29Pz 8 (some 141) (by decide) (by kernel_rfl) ?_)
      refine awp_loopH (acc[i].length) (fun m => [(19, intV .i64 (m : Nat)), (132, .any), (133, .any), (134, .any), (135, .any), (136, .any), (137, .any), (138, .any), (139, .any), (140, .any), (141, .any), (142, .any), (143, .any), (144, .any), (145, .any), (146, .any), (147, .any)]) (fun m => none :: some (.row 8 [[.p (.v (.int .i64 xk)), .p (.v (.int .i64 xvk)), .p (.v (.int .i64 xvn)), .p (.v (.string xvs)), .p (.v (.string xtb)), .p (.v (.string xnm)), .p (.v (.int .i64 xs)), .p (.sl 8 (exL xkids))]]) :: none :: none :: none :: (tlF 5 (mixF acc i m) ++ [none, none, none, none])) ?_ ?_ ?_
      ·intro m hm
       simp [hmx0, hmxm m hm]
      ·skip
       simp only [wR, Nat.reduceAdd, Nat.reduceLT, reduceIte]
       refine .inr ⟨?_, leS_self _ ?_⟩
       ·skip
        simp [wW, hmx0, e1]
        try omega
       ·refine all_st rfl (hokm 0 (Nat.zero_le _) _ ?_)
        simp only [List.length_cons, List.length_append, List.length_nil, hmx0]
        omega
      ·intro m hm
       simp only [wR, Nat.reduceAdd, Nat.reduceLT, reduceIte]
       have htm := fun rest => htop m rest hm
       by_cases hml : m < acc[i].length
       ·have hdm := dT (i := m) (n := l.length + 1) (by omega)
        have hm0 := nnI m
        have hwm := wI m (by have := har acc[i] (by rw [← hpr]; exact List.mem_append_left _ (List.getElem_mem hlt)); omega)
        have hc1 : ((m : Int) < ((l.length + 1 : Nat) : Int)) = True := eq_true (by omega)
        have hmk : ∀ rest, ((tlF 5 (mixF acc i m) ++ rest).set k none).set k (some (.row 1 (celF 5 acc))) = tlF 5 (mixF acc i m) ++ rest := fun rest => by
         rw [List.set_set]
         apply List.ext_getElem?
         intro j
         rw [List.getElem?_set]
         split
         ·rename_i e
          subst e
          rw [if_pos (List.getElem?_eq_some_iff.1 (htm rest)).1, htm rest]
         ·rfl
        have hrw : ∀ rest, (tlF 5 (mixF acc i m) ++ rest)[t0]? = some (some (.row 3 (muR (p77 acc[i] m)))) := fun rest => by rw [ht0]; exact mix_row hlt hml rest
        have hsw : ∀ rest, (tlF 5 (mixF acc i m) ++ rest).set t0 (some (.row 3 (muR (p77 acc[i] (m + 1))))) = tlF 5 (mixF acc i (m + 1)) ++ rest := fun rest => by rw [ht0]; exact mix_set hlt hml rest
        have hmg : (muR (p77 acc[i] m))[m]? = some ((vaC acc[i][m]).map .p) := by
         unfold muR; rw [List.getElem?_map, mix_cell hml]; rfl
        have hset : (muR (p77 acc[i] m)).set m [.p (.v (.int .i64 1)), .p (.v (.int .i64 77)), .p (.v (.string emp))] = muR (p77 acc[i] (m + 1)) := by
         have := muR_set (p77 acc[i] m) m n77
         rw [p77_set hml] at this
         exact this
        generalize acc[i][m] = ov at *
        have hvl : ((vaC ov).map AV.p).length = 3 := rfl
        repeat' first | ((with_reducible first | refine cs ?_ ?_ | refine ws ?_ ?_ | refine wd ?_ ?_ | refine wu ?_ ?_) <;> intro h <;> try simp only [h]) | simp only [↓wBA, tPz, convA, seval, pl3_11Pz, pl3_12Pz, pl3_29Pz, kindW, tyW, mutsW, lenW, lenMM, hct2, hi0, hic, htm, hcg2, hdm, hm0, hwm, hc1, hmk, hrw, hsw, hmg, hset, hvl, List.getElem?_cons_succ, List.set_cons_succ, Int.toNat_natCast] | ((with_reducible show ACalls _ _ _ _ _); refine (hnum _ _).eq ?_) | (with_reducible refine dP pl3_11Pz 10 (some 48) (by decide) (by kernel_rfl) ?_) | (with_reducible refine dP pl3_12Pz 10 (some 56) (by decide) (by kernel_rfl) ?_) | (with_reducible refine dP pl3_29Pz 8 (some 141) (by decide) (by kernel_rfl) ?_)
        refine ⟨⟨m + 1, hml⟩, by show acc[i].length - (m + 1) < acc[i].length - m; omega, ?_⟩
        simp only [wR, Nat.reduceAdd, Nat.reduceLT, reduceIte]
        have hmxs := hmxm (m + 1) hml
        refine .inr ⟨?_, leS_self _ ?_⟩
        ·skip
         simp [wW, hmxs, e1]
         try omega
        ·refine all_st rfl (hokm (m + 1) hml _ ?_)
         simp only [List.length_cons, List.length_append, List.length_nil, hmxs]
         omega
       ·have hdm := dF (i := m) (n := l.length + 1) (by omega)
        have hm0 := nnI m
        repeat' first | ((with_reducible first | refine cs ?_ ?_ | refine ws ?_ ?_ | refine wd ?_ ?_ | refine wu ?_ ?_) <;> intro h <;> try simp only [h]) | simp only [↓wBA, tPz, convA, seval, pl3_11Pz, pl3_12Pz, pl3_29Pz, kindW, tyW, mutsW, lenW, lenMM, hct2, hi0, hic, htm, hcg2, hdm, hm0, hw, List.getElem?_cons_succ, Int.toNat_natCast] | (with_reducible refine dP pl3_11Pz 10 (some 48) (by decide) (by kernel_rfl) ?_) | (with_reducible refine dP pl3_12Pz 10 (some 56) (by decide) (by kernel_rfl) ?_) | (with_reducible refine dP pl3_29Pz 8 (some 141) (by decide) (by kernel_rfl) ?_)
        refine ⟨⟨i + 1, hlt⟩, by show acc.length - (i + 1) < acc.length - i; omega, ?_⟩
        simp only [wR, Nat.reduceAdd, Nat.reduceLT, reduceIte]
        have hme : m = acc[i].length := by omega
        have hmxs := hmxm m hm
        have hoks := hokm m hm
        have hnx2 : mixF acc (i + 1) 0 = mixF acc i m := by rw [hme]; exact hnx.symm
        simp only [hnx2]
        refine .inr ⟨?_, leS_self _ ?_⟩
        ·skip
         simp [wW, hmxs, e1]
         try omega
        ·refine all_st rfl (hoks _ ?_)
         simp only [List.length_cons, List.length_append, List.length_nil, hmxs]
         omega
   ·have hdec := dF (i := i) (n := acc.length) (by omega)
    repeat' first | ((with_reducible first | refine cs ?_ ?_ | refine ws ?_ ?_ | refine wd ?_ ?_ | refine wu ?_ ?_) <;> intro h <;> try simp only [h]) | simp only [↓wBA, tPz, convA, seval, pl3_11Pz, pl3_12Pz, pl3_29Pz, kindW, tyW, mutsW, lenW, hlo, hdec, List.getElem?_cons_succ] | ((with_reducible show ACalls _ _ _ _ _); first | refine (hF _).eq ?_ | refine (hS3 _).eq ?_) | (with_reducible refine dP pl3_11Pz 10 (some 48) (by decide) (by kernel_rfl) ?_) | (with_reducible refine dP pl3_12Pz 10 (some 56) (by decide) (by kernel_rfl) ?_) | (with_reducible refine dP pl3_29Pz 8 (some 141) (by decide) (by kernel_rfl) ?_)
    all_goals refine ret_is (a := _) ?_ rfl rfl
    all_goals simp only [↓wBA, tPz, convA, seval]
    all_goals simp_all [wS]
theorem aparts (rows : List (List Va)) (x y : Ex) (c : Int) (hn : rows.length ≤ 5864062014635) (hr : ∀ r ∈ rows, r.length ≤ 4398046511104) (h0 : 0 ≤ c) (h1 : c < 256) (σ : St) : ACalls Tryd.prog 3 [partsA rows x y c] σ fun r s => s = σ ∧ r = boolV true := by
 by_cases hb : rows.length > 10000
 ·exact aparts_big rows x y c hb hn σ
 ·by_cases he : (filS rows x).2 = 0
  ·exact aparts_ok rows x y c (by omega) hr h0 h1 he σ
  ·exact aparts_err rows x y c (by omega) hr h0 h1 he σ
end Go.Proofs.YtpcblbbddccgpaaDoor
