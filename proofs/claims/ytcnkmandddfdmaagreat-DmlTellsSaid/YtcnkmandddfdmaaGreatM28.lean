/- dml: what expressions come to over a row, put into its columns. dml.sound. dml.Update. cadastrelaw23.same: the same writes? An update, row by row. -/
import Derived.Test.YtcnkmandddfdmaaGreatM22
import Derived.Test.YtcnkmandddfdmaaGreatM24
import Derived.Test.YtcnkmandddfdmaaGreatM26
import Derived.Test.YtcnkmandddfdmaaGreatM27
import Derived.Test.YtcnkmandddfdmaaGreatM20
set_option linter.unusedSimpArgs false
set_option linter.unusedVariables false
set_option linter.defProp false
set_option maxRecDepth 100000
set_option maxHeartbeats 32000000
namespace Go.Proofs.YtcnkmandddfdmaaGreat
open Go.RowKit
def pl22_8Dw : Plan := (.det 0 (.det 1 (.det 2 (.det 3 (.det 4 (.det 5 (.det 6 (.fin 7 .done))))))))
def tDw := aa wX <| aa wbu <| aa T3 <| aa T33 <| aa T39 <| aa T56 <| aa T58 <| aa T62 T70
def wStep (row : List Va) (s : List Va × Int) (q : Ex × Int) : List Va × Int := (s.1.set q.2.toNat (evalV row q.1).1, leastI s.2 (evalV row q.1).2)
def wrkS (row : List Va) (xs : List Ex) (cs : List Int) (least : Int) : List Va × Int := (xs.zip cs).foldl (wStep row) (row, least)
theorem wGo_len (row : List Va) : ∀ (l : List (Ex × Int)) (s : List Va × Int), (l.foldl (wStep row) s).1.length = s.1.length
 | [], s => rfl
 | q :: l, s => by rw [List.foldl_cons, wGo_len row l]; simp [wStep]
theorem muR_get (l : List Va) (i : Nat) (h : i < l.length) : (muR l)[i]? = some ((vaC l[i]).map .p) := by simp [muR, h]
theorem muR_set (l : List Va) (i : Nat) (v : Va) : (muR l).set i ((vaC v).map .p) = muR (l.set i v) := by simp [muR, List.map_set]
theorem mu_tok (l : List Va) (n : Nat) : (∀ x, x ∈ muR l → tokLtL n x = true) = True := eq_true fun x hx => by
 obtain ⟨v, _, rfl⟩ := List.mem_map.1 hx
 rfl
theorem toPs_mapP : ∀ l : List PV, toPs (l.map AV.p) = some l
 | [] => rfl
 | x :: l => by simp [toPs, toP, toPs_mapP l]
theorem toPss_mu : ∀ l : List Va, toPss (muR l) = some (enV l)
 | [] => rfl
 | v :: l => by
   have := toPss_mu l
   simp only [muR, enV, List.map_cons, toPss, toPs_mapP] at this ⊢
   rw [this]
theorem le_msR {σ : St} {n t m : Nat} {l : List Va} (h1 : σ[t]? = some (some (.row 3 (muR l)))) (h2 : m = l.length) : leA σ n [] (.ms t 3 0 m) (.p (.sl 3 (enV l))) := by
 subst h2
 refine .inr (.inr (.inr (.inr (.inr (.inr (.inr ⟨t, 3, 0, l.length, enV l, rfl, rfl, ?_⟩))))))
 simp only [frzRow, h1, List.getElem?_nil]
 rw [if_pos ⟨trivial, by rw [muR_len]; omega⟩, List.drop_zero, List.take_of_length_le (by rw [muR_len]; exact Nat.le_refl _)]
 exact toPss_mu l
theorem aworked (row : List Va) (xs : List Ex) (cs : List Int) (least : Int) (hx : xs.length ≤ cs.length) (hcs : ∀ c ∈ cs, 0 ≤ c ∧ c.toNat < row.length) (hl : row.length ≤ 4398046511104) (hxl : xs.length ≤ 4398046511104) (σ : St) : ACalls Tryz.prog 22 [.p (.sl 3 (enV row)), .p (.sl 8 (exL xs)), .p (.sl 1 (enI cs)), intV .i64 least] σ fun r s => s = σ ∧ r = .tup [.p (.sl 3 (enV (wrkS row xs cs least).1)), intV .i64 (wrkS row xs cs least).2] := by
 refine ACalls.pureF (R := fun r => r = .tup [.p (.sl 3 (enV (wrkS row xs cs least).1)), intV .i64 (wrkS row xs cs least).2]) ?_ rfl σ
 unfold wrkS
 have hzl : (xs.zip cs).length = xs.length := by simp; omega
 cases hrow : row with
 | nil =>
   subst hrow
   have hc0 : cs = [] := by
    cases cs with
    | nil => rfl
    | cons c cs => have := (hcs c (by simp)).2; simp at this
   have hx0 : xs = [] := by subst hc0; simpa using hx
   subst hc0 hx0
   refine acalls_of cx_ok dr_ok Tryz.func22 (by kernel_rfl) rfl (nt := 48) (rs := [.tmp 8, .tmp 9]) rfl rfl ?_
   repeat' first | ((with_reducible first | refine cond_split ?_ ?_ | refine ws ?_ ?_ | refine wd ?_ ?_ | refine wu ?_ ?_) <;> intro h <;> try simp only [h]) | simp only [↓wBA, tDw, convA, seval, pl22_8Dw, exL_len] | ((with_reducible show ACalls _ _ _ _ _); refine (aclone [] (by simp) _).eq ?_) | (with_reducible refine dP pl22_8Dw 8 (some 42) (by decide) (by kernel_rfl) ?_)
   refine awp_loopN (0) (fun i => [(3, intV .i64 least), (19, intV .i64 (i : Nat)), (11, .any), (12, .any), (13, .any), (14, .any), (20, .any), (21, .any), (22, .any), (23, .any), (24, .any), (25, .any), (26, .any), (27, .any), (28, .any), (29, .any), (30, .any), (31, .any), (32, .any), (33, .any), (34, .any), (35, .any), (36, .any), (37, .any), (38, .any), (39, .any), (40, .any), (41, .any), (42, .any), (43, .any), (44, .any), (45, .any), (46, .any), (47, .any), (48, .any), (49, .any)]) (fun i => []) (fun i => True) ?_ ?_ ?_
   ·trivial
   ·skip
    simp only [wR, Nat.reduceAdd, Nat.reduceLT, reduceIte]
    simp [wW]
   ·intro i hi _
    have : i = 0 := by omega
    subst this
    simp only [wR, Nat.reduceAdd, Nat.reduceLT, reduceIte]
    repeat' first | ((with_reducible first | refine cond_split ?_ ?_ | refine ws ?_ ?_ | refine wd ?_ ?_ | refine wu ?_ ?_) <;> intro h <;> try simp only [h]) | simp only [↓wBA, tDw, convA, seval, pl22_8Dw, exL, List.length_nil, decide_false, nc0] | (with_reducible refine dP pl22_8Dw 8 (some 42) (by decide) (by kernel_rfl) ?_)
    all_goals refine ret_is (a := _) ?_ rfl rfl
    all_goals simp only [↓wBA, tDw, convA, seval]
    all_goals simp_all [wS, enV]
 | cons v l =>
   have hrl : row.length = l.length + 1 := by rw [hrow]; rfl
   rw [← hrow]
   have hclone := acloneM v l (by omega)
   rw [← hrow] at hclone
   refine acalls_of cx_ok dr_ok Tryz.func22 (by kernel_rfl) rfl (nt := 48) (rs := [.tmp 8, .tmp 9]) rfl rfl ?_
   repeat' first | ((with_reducible first | refine cond_split ?_ ?_ | refine ws ?_ ?_ | refine wd ?_ ?_ | refine wu ?_ ?_) <;> intro h <;> try simp only [h]) | simp only [↓wBA, tDw, convA, seval, pl22_8Dw, exL_len] | ((with_reducible show ACalls _ _ _ _ _); refine (hclone _).mono ?_; rintro _ _ ⟨rfl,rfl⟩) | (with_reducible refine dP pl22_8Dw 8 (some 42) (by decide) (by kernel_rfl) ?_)
   refine awp_loopN (xs.length) (fun i => [(3, intV .i64 (((xs.zip cs).take i).foldl (wStep row) (row, least)).2), (19, intV .i64 (i : Nat)), (11, .any), (12, .any), (13, .any), (14, .any), (20, .any), (21, .any), (22, .any), (23, .any), (24, .any), (25, .any), (26, .any), (27, .any), (28, .any), (29, .any), (30, .any), (31, .any), (32, .any), (33, .any), (34, .any), (35, .any), (36, .any), (37, .any), (38, .any), (39, .any), (40, .any), (41, .any), (42, .any), (43, .any), (44, .any), (45, .any), (46, .any), (47, .any), (48, .any), (49, .any)]) (fun i => [(1, .row 3 (muR (((xs.zip cs).take i).foldl (wStep row) (row, least)).1))]) (fun i => True) ?_ ?_ ?_
   ·trivial
   ·skip
    simp only [wR, Nat.reduceAdd, Nat.reduceLT, reduceIte]
    simp [wW, mu_tok]
   ·intro i hi _
    simp only [wR, Nat.reduceAdd, Nat.reduceLT, reduceIte]
    by_cases hlt : i < xs.length
    ·have hdec := dT (i := i) (n := xs.length) (by omega)
     have hi0 := nnI i
     have hw := wI i (by omega)
     have hg := exL_at xs i hlt
     have hci : i < cs.length := by omega
     have hgc := enI_get cs i hci
     obtain ⟨hc0, hcl⟩ := hcs cs[i] (List.getElem_mem hci)
     have hc0' : ((0 : Int) ≤ cs[i]) = True := eq_true hc0
     have hc1' : (cs[i] < ((l.length + 1 : Nat) : Int)) = True := eq_true (by omega)
     have hst := take_step (wStep row) (row, least) (xs.zip cs) i (by omega)
     have hzi : (xs.zip cs)[i]'(by omega) = (xs[i], cs[i]) := by simp
     rw [hzi] at hst
     have hsl := wGo_len row ((xs.zip cs).take i) (row, least)
     have hE := aevalV row xs[i]
     simp only [wStep] at hst
     have hmg : (muR (((xs.zip cs).take i).foldl (wStep row) (row, least)).1)[cs[i].toNat]? = some ((vaC ((((xs.zip cs).take i).foldl (wStep row) (row, least)).1[cs[i].toNat]'(by rw [hsl]; exact hcl))).map .p) := muR_get _ _ _
     rcases hev : evalV row xs[i] with ⟨⟨v1, v2, v3⟩, e⟩
     simp only [hev, exA, vaA, vaC, List.map_cons, List.map_nil] at hE hst
     generalize hcc : ((((xs.zip cs).take i).foldl (wStep row) (row, least)).1[cs[i].toNat]'(by rw [hsl]; exact hcl)) = oldv at *
     have hvl : ((vaC oldv).map AV.p).length = 3 := rfl
     have hset : (muR (((xs.zip cs).take i).foldl (wStep row) (row, least)).1).set cs[i].toNat [.p (.v (.int .i64 v1)), .p (.v (.int .i64 v2)), .p (.v (.string v3))] = muR ((((xs.zip cs).take i).foldl (wStep row) (row, least)).1.set cs[i].toNat (v1, v2, v3)) := muR_set _ _ (v1, v2, v3)
     repeat' first | ((with_reducible first | refine cond_split ?_ ?_ | refine ws ?_ ?_ | refine wd ?_ ?_ | refine wu ?_ ?_) <;> intro h <;> try simp only [h]) | simp only [↓wBA, tDw, convA, seval, pl22_8Dw, exL_len, enI_len, hdec, hi0, hg, hw, hgc, hc0', hc1', hmg, hvl, hset, exC_len, List.length_map] | ((with_reducible show ACalls _ _ _ _ _); refine (hE _).eq ?_) | (with_reducible refine dP pl22_8Dw 8 (some 42) (by decide) (by kernel_rfl) ?_)
     all_goals refine ⟨⟨i + 1, by omega, trivial⟩, by show xs.length - (i + 1) < xs.length - i; omega, ?_⟩
     all_goals simp only [hst]
     all_goals simp [wW, mu_tok]
     all_goals grind [leastI]
    ·have hdec := dF (i := i) (n := xs.length) (by omega)
     have ht : (xs.zip cs).take i = xs.zip cs := List.take_of_length_le (by omega)
     have hsl := wGo_len row (xs.zip cs) (row, least)
     simp only [ht]
     repeat' first | ((with_reducible first | refine cond_split ?_ ?_ | refine ws ?_ ?_ | refine wd ?_ ?_ | refine wu ?_ ?_) <;> intro h <;> try simp only [h]) | simp only [↓wBA, tDw, convA, seval, pl22_8Dw, exL_len, hdec] | (with_reducible refine dP pl22_8Dw 8 (some 42) (by decide) (by kernel_rfl) ?_)
     refine ret_is (a := .tup [.p (.sl 3 (enV ((xs.zip cs).foldl (wStep row) (row, least)).1)), intV .i64 ((xs.zip cs).foldl (wStep row) (row, least)).2]) ?_ rfl rfl
     simp only [resA, resL, resV, List.getD_cons_zero, List.getD_cons_succ]
     exact .inr ⟨_, _, rfl, rfl, .inl (le_msR rfl (by rw [hsl]; exact hrl.symm)), .inl (.inr (.inl ⟨rfl, rfl⟩)), trivial⟩
end Go.Proofs.YtcnkmandddfdmaaGreat
namespace Go.Proofs.YtcnkmandddfdmaaGreat
open Go.RowKit
def tSd := aa wX <| aa wbu <| aa T3 <| aa T4 <| aa T22 <| aa T24 <| aa T25 <| aa T52 <| aa T56 T58
def nnOk (cols : List Tc) (r : List Va) : Bool := (cols.zip r).all fun q => !(q.1.2.2.1 && (q.2.1 == 0))
def rowOk (cols : List Tc) (r : List Va) : Bool := nnOk cols r && fitsV r
def soundS (cols : List Tc) (rows : List (List Va)) : Int := if rows.all (rowOk cols) = true then 0 else 34
theorem nnOk_bad (cols : List Tc) (r : List Va) (i : Nat) (h : i < cols.length) (h' : i < r.length) (hb : (cols[i].2.2.1 && (r[i].1 == 0)) = true) : nnOk cols r = false := by
 unfold nnOk
 rw [List.all_eq_false]
 refine ⟨(cols[i], r[i]), ?_, by simp [hb]⟩
 rw [List.mem_iff_getElem]
 exact ⟨i, by simp; omega, by simp⟩
theorem nnOk_ok (cols : List Tc) (r : List Va) (hb : ∀ j (h : j < cols.length) (h' : j < r.length), (cols[j].2.2.1 && (r[j].1 == 0)) = false) : nnOk cols r = true := by
 unfold nnOk
 rw [List.all_eq_true]
 intro q hq
 obtain ⟨i, hi, rfl⟩ := List.mem_iff_getElem.1 hq
 simp at hi
 rw [List.getElem_zip]
 show (!(cols[i].2.2.1 && (r[i].1 == 0))) = true
 rw [hb i (by omega) (by omega)]; rfl
theorem soundS_bad (cols : List Tc) (rows : List (List Va)) (i : Nat) (h : i < rows.length) (hb : rowOk cols rows[i] = false) : soundS cols rows = 34 := by
 unfold soundS
 rw [if_neg]
 intro he
 rw [List.all_eq_true] at he
 rw [he _ (List.getElem_mem h)] at hb
 simp at hb
theorem asound (rows : List (List Va)) (nm : ByteArray) (cols : List Tc) (hrl : rows.length ≤ 4398046511104) (hcl : cols.length ≤ 4398046511104) (hr : ∀ r ∈ rows, r.length = cols.length) (σ : St) : ACalls Tryz.prog 23 [.p (.sl 1 (enVV rows)), tbA nm cols] σ fun r s => s = σ ∧ r = intV .i64 (soundS cols rows) := by
 refine ACalls.pureF (R := fun r => r = intV .i64 (soundS cols rows)) ?_ rfl σ
 refine acalls_of cx_ok dr_ok Tryz.func23 (by kernel_rfl) rfl (nt := 36) (rs := [.tmp 4]) rfl rfl ?_
 simp only [tbA]
 repeat' first | ((with_reducible first | refine cs ?_ ?_ | refine ws ?_ ?_) <;> intro h <;> try simp only [h]) | simp only [↓wBA, tSd, convA, seval, enVV_len]
 refine awp_loopN (rows.length) (fun i => [(11, intV .i64 (i : Nat)), (4, .any), (6, .any), (7, .any), (8, .any), (12, .any), (13, .any), (14, .any), (15, .any), (16, .any), (17, .any), (18, .any), (19, .any), (20, .any), (21, .any), (22, .any), (23, .any), (24, .any), (25, .any), (26, .any), (27, .any), (28, .any), (29, .any), (30, .any), (31, .any), (32, .any), (33, .any), (34, .any), (35, .any), (36, .any), (37, .any)]) (fun i => []) (fun i => ∀ r ∈ rows.take i, rowOk cols r = true) ?_ ?_ ?_
 ·simp
 ·skip
  simp only [wR, Nat.reduceAdd, Nat.reduceLT, reduceIte]
  simp [wW]
 ·intro i hi hI
  simp only [wR, Nat.reduceAdd, Nat.reduceLT, reduceIte]
  by_cases hlt : i < rows.length
  ·have hdec := dT (i := i) (n := rows.length) (by omega)
   have hi0 := nnI i
   have hw := wI i (by omega)
   have hg := enVV_get rows i hlt
   have hrow := hr rows[i] (List.getElem_mem hlt)
   have hbad := soundS_bad cols rows i hlt
   have hnext : rowOk cols rows[i] = true → ∀ r ∈ rows.take (i + 1), rowOk cols r = true := fun h r hr => by
    rw [List.take_succ_eq_append_getElem hlt] at hr
    rcases List.mem_append.1 hr with h1 | h1
    ·exact hI r h1
    ·simp at h1; subst h1; exact h
   repeat' first | ((with_reducible first | refine cs ?_ ?_ | refine ws ?_ ?_) <;> intro h <;> try simp only [h]) | simp only [↓wBA, tSd, convA, seval, enVV_len, enTc_len, hdec, hi0, hg]
   refine awp_loopN (cols.length) (fun k => [(18, intV .i64 (k : Nat)), (4, .any), (7, .any), (8, .any), (19, .any), (20, .any), (21, .any), (22, .any), (23, .any), (24, .any), (25, .any), (26, .any), (27, .any), (28, .any), (29, .any), (30, .any), (31, .any), (32, .any), (33, .any)]) (fun k => []) (fun k => ∀ j (h : j < k) (h1 : j < cols.length) (h2 : j < rows[i].length), (cols[j].2.2.1 && (rows[i][j].1 == 0)) = false) ?_ ?_ ?_
   ·intro j hj; omega
   ·skip
    simp only [wR, Nat.reduceAdd, Nat.reduceLT, reduceIte]
    simp [wW]
   ·intro k hk hK
    simp only [wR, Nat.reduceAdd, Nat.reduceLT, reduceIte]
    by_cases hltk : k < cols.length
    ·have hdk := dT (i := k) (n := cols.length) (by omega)
     have hk0 := nnI k
     have hwk := wI k (by omega)
     have hkr : k < rows[i].length := by omega
     have hgt := enTc_get cols k hltk
     have hgr := enV_get rows[i] k hkr
     have hb1 : (cols[k].2.2.1 && (rows[i][k].1 == 0)) = true → soundS cols rows = 34 := fun h => hbad (by unfold rowOk; rw [nnOk_bad cols rows[i] k hltk hkr h]; rfl)
     have hn1 : (cols[k].2.2.1 && (rows[i][k].1 == 0)) = false → ∀ j (h : j < k + 1) (h1 : j < cols.length) (h2 : j < rows[i].length), (cols[j].2.2.1 && (rows[i][j].1 == 0)) = false := fun h j hj h1 h2 => by
      by_cases e : j = k
      ·subst e; exact h
      ·exact hK j (by omega) h1 h2
     rcases hc : cols[k] with ⟨c1, c2, c3, c4⟩
     rcases hv : rows[i][k] with ⟨v1, v2, v3⟩
     rw [hc] at hgt hb1 hn1
     rw [hv] at hgr hb1 hn1
     simp only [tcC, vaC] at hgt hgr hb1 hn1
     cases c3
     ·skip
      repeat' first | ((with_reducible first | refine cs ?_ ?_ | refine ws ?_ ?_) <;> intro h <;> try simp only [h]) | simp only [↓wBA, tSd, convA, seval, enV_len, enTc_len, hdk, hk0, hwk, hgt, hgr]
      refine ⟨⟨k + 1, by omega, ?_⟩, by show cols.length - (k + 1) < cols.length - k; omega, ?_⟩
      ·exact hn1 rfl
      ·skip
       simp [wW]
     ·by_cases h0 : v1 = 0
      ·have h0' : (v1 == 0) = true := by simpa using h0
       have hf := hb1 (by rw [h0']; rfl)
       simp only [hf]
       repeat' first | ((with_reducible first | refine cs ?_ ?_ | refine ws ?_ ?_) <;> intro h <;> try simp only [h]) | simp only [↓wBA, tSd, convA, seval, enV_len, enTc_len, hdk, hk0, hwk, hgt, hgr, h0']
       all_goals refine ret_is (a := _) ?_ rfl rfl
       all_goals simp only [↓wBA, tSd, convA, seval]
       all_goals simp_all [wS]
      ·have h0' : (v1 == 0) = false := by simpa using h0
       repeat' first | ((with_reducible first | refine cs ?_ ?_ | refine ws ?_ ?_) <;> intro h <;> try simp only [h]) | simp only [↓wBA, tSd, convA, seval, enV_len, enTc_len, hdk, hk0, hwk, hgt, hgr, h0']
       refine ⟨⟨k + 1, by omega, ?_⟩, by show cols.length - (k + 1) < cols.length - k; omega, ?_⟩
       ·exact hn1 (by rw [h0']; rfl)
       ·skip
        simp [wW]
    ·have hdk := dF (i := k) (n := cols.length) (by omega)
     have hnn := nnOk_ok cols rows[i] fun j h1 h2 => hK j (by omega) h1 h2
     have hF := afits rows[i]
     have hro : rowOk cols rows[i] = fitsV rows[i] := by unfold rowOk; rw [hnn]; rfl
     rw [hro] at hbad hnext
     cases hfv : fitsV rows[i] with
     | false =>
       rw [hfv] at hF
       have hf := hbad hfv
       simp only [hf]
       repeat' first | ((with_reducible first | refine cs ?_ ?_ | refine ws ?_ ?_) <;> intro h <;> try simp only [h]) | simp only [↓wBA, tSd, convA, seval, hdk] | ((with_reducible show ACalls _ _ _ _ _); refine (hF _).eq ?_)
       all_goals refine ret_is (a := _) ?_ rfl rfl
       all_goals simp only [↓wBA, tSd, convA, seval]
       all_goals simp_all [wS]
     | true =>
       rw [hfv] at hF
       repeat' first | ((with_reducible first | refine cs ?_ ?_ | refine ws ?_ ?_) <;> intro h <;> try simp only [h]) | simp only [↓wBA, tSd, convA, seval, hdk, hw] | ((with_reducible show ACalls _ _ _ _ _); refine (hF _).eq ?_)
       refine ⟨⟨i + 1, by omega, ?_⟩, by show rows.length - (i + 1) < rows.length - i; omega, ?_⟩
       ·exact hnext hfv
       ·skip
        simp [wW]
  ·have hdec := dF (i := i) (n := rows.length) (by omega)
   have ht : rows.take i = rows := List.take_of_length_le (by omega)
   rw [ht] at hI
   have hs : soundS cols rows = 0 := by unfold soundS; rw [if_pos (List.all_eq_true.2 hI)]
   simp only [hs]
   repeat' first | ((with_reducible first | refine cs ?_ ?_ | refine ws ?_ ?_) <;> intro h <;> try simp only [h]) | simp only [↓wBA, tSd, convA, seval, enVV_len, hdec]
   all_goals refine ret_is (a := _) ?_ rfl rfl
   all_goals simp only [↓wBA, tSd, convA, seval]
   all_goals simp_all [wS]
end Go.Proofs.YtcnkmandddfdmaaGreat
namespace Go.Proofs.YtcnkmandddfdmaaGreat
open Go.RowKit
def pl12_6Up : Plan := (.det 0 (.det 1 (.det 2 (.det 3 (.det 4 (.act 5 (.fin 6 (.det 7 (.det 8 (.det 9 (.det 10 (.det 11 .done))))))))))))
def tUp := aa wX <| aa wbu <| aa T3 <| aa T9 <| aa T24 <| aa T25 <| aa T29 <| aa T33 <| aa T36 <| aa T39 <| aa T46 <| aa T58 <| aa T60 <| aa T62 T78
theorem ACalls.nilW {P : Program} {f : FuncId} {e : Nat} {rest : List AV} {σ : St} {R : AV → St → Prop} (hc : ACalls P f (.p (.sl e []) :: rest) σ R) : ACalls P f (nilA :: rest) σ R :=
 ⟨hc.1, fun M vs hM hv => hc.2 M vs hM (by
  simp only [ARepL] at hv ⊢
  obtain ⟨u, us', rfl, h1, h2⟩ := hv
  have := (rep_v h1).2; subst this
  refine ⟨_, us', rfl, ?_, h2⟩
  simp only [ARep, PRep]
  exact .inl ⟨trivial, none, 0, rfl, fun _ => rfl⟩)⟩
theorem asoundN (rows : List (List Va)) (nm : ByteArray) (cols : List Tc) (hrl : rows.length ≤ 4398046511104) (hcl : cols.length ≤ 4398046511104) (hr : ∀ r ∈ rows, r.length = cols.length) (σ : St) : ACalls Tryz.prog 23 [.p (nilSl 1 (enVV rows)), tbA nm cols] σ fun r s => s = σ ∧ r = intV .i64 (soundS cols rows) := by
 cases rows with
 | nil => exact ACalls.nilW (e := 1) (asound [] nm cols hrl hcl hr σ)
 | cons r rows => exact asound (r :: rows) nm cols hrl hcl hr σ
theorem atargetsN (names : List ByteArray) (nm : ByteArray) (cols : List Tc) (hn : names.length ≤ 4398046511104) (hl : cols.length ≤ 4398046511104) (σ : St) : ACalls Tryz.prog 20 [.p (nilSl 1 (enN names)), tbA nm cols] σ fun r s => s = σ ∧ r = .tup [.p (.sl 1 (enI (tgtS names cols).1)), intV .i64 (tgtS names cols).2] := by
 cases names with
 | nil => exact ACalls.nilW (e := 1) (atargets [] nm cols hn hl σ)
 | cons n l => exact atargets (n :: l) nm cols hn hl σ
theorem enS_enN (l : List ByteArray) : enS l = enN l := rfl
def newR (w : Wr) : List Va := w.2.getD []
def uStep (xs : List Ex) (cs : List Int) (s : List Wr × Int) (r : List Va) : List Wr × Int := (s.1 ++ [(r, some (wrkS r xs cs s.2).1)], (wrkS r xs cs s.2).2)
theorem uGo_len (xs : List Ex) (cs : List Int) : ∀ (l : List (List Va)) (s : List Wr × Int), (l.foldl (uStep xs cs) s).1.length = s.1.length + l.length
 | [], s => by simp
 | r :: l, s => by rw [List.foldl_cons, uGo_len xs cs l]; simp [uStep]; omega
theorem wrkS_len (row : List Va) (xs : List Ex) (cs : List Int) (e : Int) : (wrkS row xs cs e).1.length = row.length := wGo_len row _ _
theorem uGo_rows (xs : List Ex) (cs : List Int) (n : Nat) : ∀ (l : List (List Va)) (s : List Wr × Int), (∀ r ∈ l, r.length = n) → (∀ r ∈ s.1.map newR, r.length = n) → ∀ r ∈ (l.foldl (uStep xs cs) s).1.map newR, r.length = n
 | [], s, _, h => h
 | q :: l, s, hl, h => by
   rw [List.foldl_cons]
   refine uGo_rows xs cs n l _ (fun r hr => hl r (by simp [hr])) fun r hr => ?_
   simp only [uStep, List.map_append, List.map_cons, List.map_nil, List.mem_append, List.mem_singleton] at hr
   rcases hr with hr | rfl
   ·exact h r hr
   ·show (wrkS q xs cs s.2).1.length = n
    rw [wrkS_len]; exact hl q (by simp)
def finU (cols : List Tc) (u : List Wr × Int) : List Wr × Int := if u.2 ≠ 0 then ([], u.2) else if soundS cols (u.1.map newR) ≠ 0 then ([], soundS cols (u.1.map newR)) else (u.1, 0)
def updS (s : Sm) (nm : ByteArray) (cols : List Tc) (rows : List (List Va)) : List Wr × Int :=
 if s.kind ≠ 5 then ([], 1)
 else if (tgtS s.names cols).2 ≠ 0 then ([], (tgtS s.names cols).2)
 else if (asgS (scopeS nm cols) cols s.sets (tgtS s.names cols).1).2 ≠ 0 then ([], (asgS (scopeS nm cols) cols s.sets (tgtS s.names cols).1).2)
 else if (hitS s nm cols rows).2 ≠ 0 then ([], (hitS s nm cols rows).2)
 else finU cols ((hitS s nm cols rows).1.foldl (uStep (asgS (scopeS nm cols) cols s.sets (tgtS s.names cols).1).1 (tgtS s.names cols).1) ([], 0))
theorem idxP_lt {α : Type} (p : α → Bool) (l : List α) (h : 0 ≤ idxP p l) : (idxP p l).toNat < l.length := by
 unfold idxP at h ⊢
 split
 ·rename_i i hi
  have := (List.findIdx?_eq_some_iff_getElem.1 hi).1
  simpa using this
 ·rename_i hi
  rw [hi] at h; simp at h
theorem tGo_ok (cols : List Tc) : ∀ (l : List ByteArray) (s : List Int × Bool), (l.foldl (tStep cols) s).2 = false → (∀ c ∈ s.1, 0 ≤ c ∧ c.toNat < cols.length) → ∀ c ∈ (l.foldl (tStep cols) s).1, 0 ≤ c ∧ c.toNat < cols.length
 | [], s, _, h => h
 | n :: l, s, hf, h => by
   rw [List.foldl_cons] at hf ⊢
   refine tGo_ok cols l _ hf fun c hc => ?_
   have h2 : (tStep cols s n).2 = false := by
    cases hb : (tStep cols s n).2 with
    | false => rfl
    | true => rw [tGo_bad cols l _ hb] at hf; simp at hf
   simp only [tStep, List.mem_append, List.mem_singleton] at hc h2
   rcases hc with hc | rfl
   ·exact h c hc
   ·simp only [Bool.or_eq_false_iff, decide_eq_false_iff_not] at h2
    have h0 : 0 ≤ idxP (isN n) cols := by omega
    exact ⟨h0, idxP_lt (isN n) cols h0⟩
theorem tgtS_ok (names : List ByteArray) (cols : List Tc) (h : (tgtS names cols).2 = 0) : (tgtS names cols).1.length = names.length ∧ ∀ c ∈ (tgtS names cols).1, 0 ≤ c ∧ c.toNat < cols.length := by
 unfold tgtS at h ⊢
 split at h
 ·simp at h
 ·rename_i hb
  rw [if_neg hb]
  refine ⟨by simpa [tGo] using tGo_len cols names ([], false), ?_⟩
  exact tGo_ok cols names ([], false) (by simpa [tGo] using hb) (by simp)
theorem asgS_len (scope : List Bc) (tcols : List Tc) : ∀ (xs : List Ex) (cs : List Int), (asgS scope tcols xs cs).1.length ≤ xs.length
 | [], cs => by simp [asgS]
 | x :: xs, [] => by simp [asgS]
 | x :: xs, c :: cs => by
   have := asgS_len scope tcols xs cs
   simp only [asgS]
   split
   ·simp
   ·split
    ·simp
    ·simp; exact this
theorem aupd (s : Sm) (hk5 : s.kind = 5 → s.names.length = s.sets.length) (hnl : s.names.length ≤ 1000000000000) (hwl : s.wh.length ≤ 1000000000000) (nm : ByteArray) (cols : List Tc) (hcl : cols.length ≤ 4398046511104) (rows : List (List Va)) (hr : OkRows rows) (hrl : rows.length ≤ 1000000000000) (hrc : ∀ r ∈ rows, r.length = cols.length) (σ : St) : ACalls Tryz.prog 12 [.agg ((smC s).map .p), tbA nm cols, .p (.sl 1 (enVV rows))] σ fun r st => st = σ ∧ r = .tup [.p (.sl 3 (enW nm (updS s nm cols rows).1)), intV .i64 (updS s nm cols rows).2] := by
 refine ACalls.pureF (R := fun r => r = .tup [.p (.sl 3 (enW nm (updS s nm cols rows).1)), intV .i64 (updS s nm cols rows).2]) ?_ (by cases s; rfl) σ
 have hH := ahit s hwl nm cols hcl rows hr
 have hT := atargetsN s.names nm cols (by omega) (by omega)
 have hTok := tgtS_ok s.names cols
 have hsub := hitS_sub s nm cols rows
 have hA := fun (cs : List Int) (h1 : s.sets.length ≤ cs.length) (h2 : ∀ c ∈ cs, 0 ≤ c ∧ c.toNat < cols.length) (h3 : s.sets.length ≤ 1000000000000) => aassigned s.sets cs nm cols (scopeS nm cols) h3 h1 h2 (by simp [scopeS]; omega)
 have hAl := fun cs => asgS_len (scopeS nm cols) cols s.sets cs
 have hSc := ascope nm cols hcl
 have hSd := fun rows h1 h2 => asoundN rows nm cols h1 (by omega) h2
 unfold updS
 generalize hitS s nm cols rows = hs at *
 generalize hsp : uStep = stp at *
 generalize tgtS s.names cols = tg at *
 generalize asgS (scopeS nm cols) cols s.sets = asg at *
 generalize scopeS nm cols = sc at *
 obtain ⟨old, eh⟩ := hs
 obtain ⟨cs, et⟩ := tg
 obtain ⟨kind, tb, sn, scols, names, srows, items, src, wh, group, order, limit, sets, hash⟩ := s
 simp only [tbA, smC, List.map_cons, List.map_nil, ← enS_enN] at hH hT hA hSc hSd
 simp only at hk5 hnl hTok hsub hAl
 refine acalls_of cx_ok dr_ok Tryz.func12 (by kernel_rfl) rfl (nt := 87) (rs := [.tmp 6, .tmp 7]) rfl rfl ?_
 simp only [tbA, smC, List.map_cons, List.map_nil]
 by_cases hk : kind = 5
 ·subst hk
  have hk5' := hk5 rfl
  simp only [ne_eq, not_true_eq_false, if_false]
  by_cases het : et = 0
  ·subst het
   obtain ⟨hcs1, hcs2⟩ := hTok rfl
   have hA' := hA cs (by omega) hcs2 (by omega)
   have hAl' := hAl cs
   generalize asg cs = az at *
   obtain ⟨xs, ea⟩ := az
   simp only at hA' hAl'
   simp only [not_true_eq_false, if_false]
   by_cases hea : ea = 0
   ·subst hea
    simp only [not_true_eq_false, if_false]
    by_cases he : eh = 0
    ·subst he
     simp only [not_true_eq_false, if_false]
     have hol : old.length ≤ 1000000000000 := by have := hsub.1; omega
     have horow : ∀ r ∈ old, r.length = cols.length := fun r h => hrc r (hsub.2 r h)
     repeat' first | ((with_reducible first | refine cond_split ?_ ?_ | refine ws ?_ ?_ | refine wd ?_ ?_ | refine wu ?_ ?_) <;> intro h <;> try simp only [h]) | simp only [↓wBA, tUp, convA, seval, pl12_6Up, bne_self_eq_false, enVV_len] | ((with_reducible show ACalls _ _ _ _ _); first | refine (hT _).eq ?_ | refine (hSc _).eq ?_ | refine (hA' _).eq ?_ | refine (hH _).eq ?_) | (with_reducible refine dP pl12_6Up 12 (some 32) (by decide) (by kernel_rfl) ?_)
     refine awp_loopN (old.length) (fun i => [(12, .nown 2 3 (enW nm ((old.take i).foldl (stp xs cs) ([], 0)).1)), (13, .nown 3 1 (enVV (((old.take i).foldl (stp xs cs) ([], 0)).1.map newR))), (14, intV .i64 ((old.take i).foldl (stp xs cs) ([], 0)).2), (56, intV .i64 (i : Nat)), (16, .any), (17, .any), (57, .any), (58, .any), (59, .any), (60, .any), (61, .any), (62, .any), (63, .any), (64, .any), (65, .any), (66, .any), (67, .any), (68, .any), (69, .any), (70, .any), (71, .any), (72, .any), (73, .any), (74, .any), (75, .any), (76, .any), (77, .any), (78, .any), (79, .any), (80, .any)]) (fun i => [(2, .nright 60 (i * 3)), (3, .nright 58 (i * 1))]) (fun i => True) ?_ ?_ ?_
     ·trivial
     ·skip
      simp only [wR, Nat.reduceAdd, Nat.reduceLT, reduceIte]
      simp [wW, enW, enVV]
     ·intro i hi _
      simp only [wR, Nat.reduceAdd, Nat.reduceLT, reduceIte]
      by_cases hlt : i < old.length
      ·have hdec := dT (i := i) (n := old.length) (by omega)
       have hi0 := nnI i
       have hw := wI i (by omega)
       have hg := enVV_get old i hlt
       have hst := take_step (stp xs cs) ([], 0) old i hlt
       have hlen := uGo_len xs cs (old.take i) ([], 0)
       have hrl' := horow old[i] (List.getElem_mem hlt)
       have hWk := fun l => aworked old[i] xs cs l (by omega) (fun c hc => by rw [hrl']; exact hcs2 c hc) (by omega) (by omega)
       simp only [hsp] at hlen
       rw [← hsp] at hst
       simp only [uStep] at hst
       rw [hsp] at hst
       generalize hs : (old.take i).foldl (stp xs cs) ([], 0) = st at *
       obtain ⟨out, l⟩ := st
       have hol' : out.length = i := by simp at hlen; omega
       have hWk' := hWk l
       clear hWk
       generalize hrow : old[i] = row at *
       generalize hwr : wrkS row xs cs l = wr at *
       obtain ⟨nrow, le⟩ := wr
       simp only at hst hWk'
       have hA : enW nm (out ++ [(row, some nrow)]) = enW nm out ++ [[.v (.string nm), .sl 3 (enV row), .sl 3 (enV nrow)]] := by simp [enW, wrC]
       have hB : enVV ((out ++ [(row, some nrow)]).map newR) = enVV (out.map newR) ++ [[.sl 3 (enV nrow)]] := by simp [enVV, newR]
       have htl : (enW nm out).length = i := by rw [enW_len, hol']
       have htl2 : (enVV (out.map newR)).length = i := by rw [enVV_len, List.length_map, hol']
       have hlim1 := tL (n := (i + 1) * 64) (by omega)
       have hlim2 := lM (n := i + 1) (by omega)
       have hlim3 := tL (n := (i + 1) * 24) (by omega)
       repeat' first | ((with_reducible first | refine cond_split ?_ ?_ | refine ws ?_ ?_ | refine wd ?_ ?_ | refine wu ?_ ?_) <;> intro h <;> try simp only [h]) | simp only [↓wBA, tUp, convA, seval, pl12_6Up, enVV_len, hdec, hi0, hg, hw, htl, htl2, hlim1, hlim2, hlim3, appendA, srcA, List.length_append] | ((with_reducible show ACalls _ _ _ _ _); refine (hWk' _).eq ?_) | (with_reducible refine dP pl12_6Up 12 (some 32) (by decide) (by kernel_rfl) ?_)
       refine ⟨⟨i + 1, by omega, ?_⟩, by show old.length - (i + 1) < old.length - i; omega, ?_⟩
       ·trivial
       ·simp only [hst, hA, hB]
        simp [wW]
      ·have hdec := dF (i := i) (n := old.length) (by omega)
       have ht : old.take i = old := List.take_of_length_le (by omega)
       have hur := uGo_rows xs cs cols.length old ([], 0) horow (by simp)
       have hul := uGo_len xs cs old ([], 0)
       simp only [hsp] at hur hul
       simp only [ht]
       generalize old.foldl (stp xs cs) ([], 0) = u at *
       obtain ⟨out, l⟩ := u
       simp only at hur
       have hol' : out.length = old.length := by simpa using hul
       have hSd' := hSd (out.map newR) (by rw [List.length_map]; omega) hur
       unfold finU
       simp only
       by_cases hl : l = 0
       ·subst hl
        generalize soundS cols (out.map newR) = sv at *
        simp only [ne_eq, not_true_eq_false, if_false]
        by_cases hsv : sv = 0
        ·subst hsv
         simp only [not_true_eq_false, if_false]
         repeat' first | ((with_reducible first | refine cond_split ?_ ?_ | refine ws ?_ ?_ | refine wd ?_ ?_ | refine wu ?_ ?_) <;> intro h <;> try simp only [h]) | simp only [↓wBA, tUp, convA, seval, pl12_6Up, enVV_len, hdec, beq_self_eq_true, bne_self_eq_false] | ((with_reducible show ACalls _ _ _ _ _); refine ACalls.frzArgs ?_; simp only [frzL, frzA]; refine (hSd' _).eq ?_) | (with_reducible refine dP pl12_6Up 12 (some 32) (by decide) (by kernel_rfl) ?_)
         all_goals refine ret_is (a := _) ?_ rfl rfl
         all_goals simp only [↓wBA, tUp, convA, seval]
         all_goals simp_all [wS]
        ·have hsv' : (sv != 0) = true := by simpa using hsv
         simp only [hsv, not_false_eq_true, if_true]
         repeat' first | ((with_reducible first | refine cond_split ?_ ?_ | refine ws ?_ ?_ | refine wd ?_ ?_ | refine wu ?_ ?_) <;> intro h <;> try simp only [h]) | simp only [↓wBA, tUp, convA, seval, pl12_6Up, enVV_len, hdec, beq_self_eq_true, hsv'] | ((with_reducible show ACalls _ _ _ _ _); refine ACalls.frzArgs ?_; simp only [frzL, frzA]; refine (hSd' _).eq ?_) | (with_reducible refine dP pl12_6Up 12 (some 32) (by decide) (by kernel_rfl) ?_)
         all_goals refine ret_is (a := _) ?_ rfl rfl
         all_goals simp only [↓wBA, tUp, convA, seval]
         all_goals simp_all [wS, enW]
       ·have hl' : (l != 0) = true := by simpa using hl
        have hl2 : (l == 0) = false := by simpa using hl
        simp only [ne_eq, hl, not_false_eq_true, if_true]
        repeat' first | ((with_reducible first | refine cond_split ?_ ?_ | refine ws ?_ ?_ | refine wd ?_ ?_ | refine wu ?_ ?_) <;> intro h <;> try simp only [h]) | simp only [↓wBA, tUp, convA, seval, pl12_6Up, enVV_len, hdec, hl', hl2] | (with_reducible refine dP pl12_6Up 12 (some 32) (by decide) (by kernel_rfl) ?_)
        all_goals refine ret_is (a := _) ?_ rfl rfl
        all_goals simp only [↓wBA, tUp, convA, seval]
        all_goals simp_all [wS, enW]
    ·have he' : (eh != 0) = true := by simpa using he
     simp only [he, not_false_eq_true, if_true]
     repeat' first | ((with_reducible first | refine cond_split ?_ ?_ | refine ws ?_ ?_ | refine wd ?_ ?_ | refine wu ?_ ?_) <;> intro h <;> try simp only [h]) | simp only [↓wBA, tUp, convA, seval, pl12_6Up, bne_self_eq_false, he'] | ((with_reducible show ACalls _ _ _ _ _); first | refine (hT _).eq ?_ | refine (hSc _).eq ?_ | refine (hA' _).eq ?_ | refine (hH _).eq ?_) | (with_reducible refine dP pl12_6Up 12 (some 32) (by decide) (by kernel_rfl) ?_)
     all_goals refine ret_is (a := _) ?_ rfl rfl
     all_goals simp only [↓wBA, tUp, convA, seval]
     all_goals simp_all [wS, enW]
   ·have he' : (ea != 0) = true := by simpa using hea
    simp only [hea, not_false_eq_true, if_true]
    repeat' first | ((with_reducible first | refine cond_split ?_ ?_ | refine ws ?_ ?_ | refine wd ?_ ?_ | refine wu ?_ ?_) <;> intro h <;> try simp only [h]) | simp only [↓wBA, tUp, convA, seval, pl12_6Up, bne_self_eq_false, he'] | ((with_reducible show ACalls _ _ _ _ _); first | refine (hT _).eq ?_ | refine (hSc _).eq ?_ | refine (hA' _).eq ?_) | (with_reducible refine dP pl12_6Up 12 (some 32) (by decide) (by kernel_rfl) ?_)
    all_goals refine ret_is (a := _) ?_ rfl rfl
    all_goals simp only [↓wBA, tUp, convA, seval]
    all_goals simp_all [wS, enW]
  ·have he' : (et != 0) = true := by simpa using het
   simp only [het, not_false_eq_true, if_true]
   repeat' first | ((with_reducible first | refine cond_split ?_ ?_ | refine ws ?_ ?_ | refine wd ?_ ?_ | refine wu ?_ ?_) <;> intro h <;> try simp only [h]) | simp only [↓wBA, tUp, convA, seval, pl12_6Up, bne_self_eq_false, he'] | ((with_reducible show ACalls _ _ _ _ _); refine (hT _).eq ?_) | (with_reducible refine dP pl12_6Up 12 (some 32) (by decide) (by kernel_rfl) ?_)
   all_goals refine ret_is (a := _) ?_ rfl rfl
   all_goals simp only [↓wBA, tUp, convA, seval]
   all_goals simp_all [wS, enW]
 ·have k5 : (kind != 5) = true := by simpa using hk
  simp only [ne_eq, hk, not_false_eq_true, if_true]
  repeat' first | ((with_reducible first | refine cond_split ?_ ?_ | refine ws ?_ ?_ | refine wd ?_ ?_ | refine wu ?_ ?_) <;> intro h <;> try simp only [h]) | simp only [↓wBA, tUp, convA, seval, pl12_6Up, k5] | (with_reducible refine dP pl12_6Up 12 (some 32) (by decide) (by kernel_rfl) ?_)
  all_goals refine ret_is (a := _) ?_ rfl rfl
  all_goals simp only [↓wBA, tUp, convA, seval]
  all_goals simp_all [wS, enW]
end Go.Proofs.YtcnkmandddfdmaaGreat
namespace Go.Proofs.YtcnkmandddfdmaaGreat
open Go.RowKit
def pl16_6Sm : Plan := (.det 0 (.det 1 (.det 2 (.det 3 (.det 4 (.det 5 (.det 6 (.det 7 (.det 8 (.det 9 (.det 10 (.det 11 (.det 12 (.det 13 (.det 14 (.det 15 (.det 16 (.det 17 (.det 18 (.det 19 (.det 20 (.det 21 (.fin 22 (.det 23 (.det 24 (.det 25 (.det 26 (.det 27 (.det 28 (.det 29 (.det 30 (.det 31 (.det 32 (.det 33 (.det 34 (.det 35 (.fin 36 (.det 37 (.det 38 (.det 39 (.det 40 (.det 41 (.det 42 (.det 43 (.det 44 (.det 45 (.det 46 (.det 47 (.det 48 (.det 49 (.det 50 (.det 51 (.det 52 (.det 53 .done))))))))))))))))))))))))))))))))))))))))))))))))))))))
def tSm := aa wX <| aa wbu <| aa T3 <| aa T4 <| aa T9 <| aa T46 <| aa T58 T60
def nnW (l : List Wr) : Prop := ∀ w ∈ l, ∃ r, w.2 = some r ∧ r ≠ [] ∧ r.length ≤ 4398046511104 ∧ w.1.length ≤ 4398046511104
theorem asameW (nm : ByteArray) (a b : List Wr) (ha : a.length ≤ 1000000000000) (hb : b.length ≤ 1000000000000) (hna : nnW a) (hnb : nnW b) (σ : St) : ACalls Tryz.prog 16 [.p (.sl 3 (enW nm a)), .p (.sl 3 (enW nm b))] σ fun r s => s = σ ∧ r = boolV (decide (a = b)) := by
 refine ACalls.pureF (R := fun r => r = boolV (decide (a = b))) ?_ rfl σ
 refine acalls_of cx_ok dr_ok Tryz.func16 (by kernel_rfl) rfl (nt := 69) (rs := [.tmp 4]) rfl rfl ?_
 by_cases hab : a.length = b.length
 ·have d : ((a.length : Int) != (b.length : Int)) = false := by simp [hab]
  repeat' first | ((with_reducible first | refine cond_split ?_ ?_ | refine ws ?_ ?_ | refine wd ?_ ?_ | refine wu ?_ ?_) <;> intro h <;> try simp only [h]) | simp only [↓wBA, tSm, convA, seval, pl16_6Sm, enW_len, d] | (with_reducible refine dP pl16_6Sm 54 (some 17) (by decide) (by kernel_rfl) ?_)
  refine awp_loopN (a.length) (fun i => [(5, intV .i64 (i : Nat)), (4, .any), (11, .any), (12, .any), (13, .any), (14, .any), (15, .any), (16, .any), (17, .any), (18, .any), (19, .any), (20, .any), (21, .any), (22, .any), (23, .any), (24, .any), (25, .any), (26, .any), (27, .any), (28, .any), (29, .any), (30, .any), (31, .any), (32, .any), (33, .any), (34, .any), (35, .any), (36, .any), (37, .any), (38, .any), (39, .any), (40, .any), (41, .any), (42, .any), (43, .any), (44, .any), (45, .any), (46, .any), (47, .any), (48, .any), (49, .any), (50, .any), (51, .any), (52, .any), (53, .any), (54, .any), (55, .any), (56, .any), (57, .any), (58, .any), (59, .any), (60, .any), (61, .any), (62, .any), (63, .any), (64, .any), (65, .any), (66, .any), (67, .any), (68, .any), (69, .any), (70, .any)]) (fun i => []) (fun i => a.take i = b.take i) ?_ ?_ ?_
  ·rfl
  ·skip
   simp only [wR, Nat.reduceAdd, Nat.reduceLT, reduceIte]
   simp [wW]
  ·intro i hi hI
   simp only [wR, Nat.reduceAdd, Nat.reduceLT, reduceIte]
   by_cases hlt : i < a.length
   ·have hdec := dT (i := i) (n := a.length) (by omega)
    have hi0 := nnI i
    have hw := wI i (by omega)
    have hltb : i < b.length := by omega
    have hg := enW_get nm a i hlt
    have hgb := enW_get nm b i hltb
    have hta := List.take_succ_eq_append_getElem hlt
    have htb := List.take_succ_eq_append_getElem hltb
    have hfin : a[i] ≠ b[i] → decide (a = b) = false := fun h => decide_eq_false fun e => h (by subst e; rfl)
    obtain ⟨ra, ea, na, la, la1⟩ := hna a[i] (List.getElem_mem hlt)
    obtain ⟨rb, eb, nb, lb, lb1⟩ := hnb b[i] (List.getElem_mem hltb)
    rcases hai : a[i] with ⟨oa, wa⟩
    rcases hbi : b[i] with ⟨ob, wb⟩
    rw [hai] at hg hta hfin ea la1
    rw [hbi] at hgb htb hfin eb lb1
    simp only at ea eb la1 lb1
    subst ea eb
    simp only [wrC] at hg hgb
    have hS1 := asameV oa ob la1 lb1
    have hS2 := asameV ra rb la lb
    have hn1 : isNilA (.p (.sl 3 (enV ra))) = some false := by
     cases ra with
     | nil => exact absurd rfl na
     | cons x l => rfl
    have hn2 : isNilA (.p (.sl 3 (enV rb))) = some false := by
     cases rb with
     | nil => exact absurd rfl nb
     | cons x l => rfl
    have hnm : (!(nm.toList == nm.toList)) = false := by simp
    simp only [sameV] at hS1 hS2
    by_cases h1 : oa = ob
    ·subst h1
     rw [decide_eq_true rfl] at hS1
     by_cases h2 : ra = rb
     ·subst h2
      rw [decide_eq_true rfl] at hS2
      repeat' first | ((with_reducible first | refine cond_split ?_ ?_ | refine ws ?_ ?_ | refine wd ?_ ?_ | refine wu ?_ ?_) <;> intro h <;> try simp only [h]) | simp only [↓wBA, tSm, convA, seval, pl16_6Sm, enW_len, hdec, hi0, hw, hg, hgb, hn1, hn2, hnm, binStr, beq_self_eq_true, bne_self_eq_false] | ((with_reducible show ACalls _ _ _ _ _); first | refine (hS1 _).eq ?_ | refine (hS2 _).eq ?_) | (with_reducible refine dP pl16_6Sm 54 (some 17) (by decide) (by kernel_rfl) ?_)
      refine ⟨⟨i + 1, by omega, ?_⟩, by show a.length - (i + 1) < a.length - i; omega, ?_⟩
      ·rw [hta, htb, hI]
      ·skip
       simp [wW]
     ·have hf := hfin (by intro e; simp at e; exact h2 e)
      rw [decide_eq_false h2] at hS2
      simp only [hf]
      repeat' first | ((with_reducible first | refine cond_split ?_ ?_ | refine ws ?_ ?_ | refine wd ?_ ?_ | refine wu ?_ ?_) <;> intro h <;> try simp only [h]) | simp only [↓wBA, tSm, convA, seval, pl16_6Sm, enW_len, hdec, hi0, hw, hg, hgb, hn1, hn2, hnm, binStr, beq_self_eq_true, bne_self_eq_false] | ((with_reducible show ACalls _ _ _ _ _); first | refine (hS1 _).eq ?_ | refine (hS2 _).eq ?_) | (with_reducible refine dP pl16_6Sm 54 (some 17) (by decide) (by kernel_rfl) ?_)
      all_goals refine ret_is (a := _) ?_ rfl rfl
      all_goals simp only [↓wBA, tSm, convA, seval]
      all_goals simp_all [wS]
    ·have hf := hfin (by intro e; simp at e; exact h1 e.1)
     rw [decide_eq_false h1] at hS1
     simp only [hf]
     repeat' first | ((with_reducible first | refine cond_split ?_ ?_ | refine ws ?_ ?_ | refine wd ?_ ?_ | refine wu ?_ ?_) <;> intro h <;> try simp only [h]) | simp only [↓wBA, tSm, convA, seval, pl16_6Sm, enW_len, hdec, hi0, hw, hg, hgb, hn1, hn2, hnm, binStr, beq_self_eq_true, bne_self_eq_false] | ((with_reducible show ACalls _ _ _ _ _); first | refine (hS1 _).eq ?_ | refine (hS2 _).eq ?_) | (with_reducible refine dP pl16_6Sm 54 (some 17) (by decide) (by kernel_rfl) ?_)
     all_goals refine ret_is (a := _) ?_ rfl rfl
     all_goals simp only [↓wBA, tSm, convA, seval]
     all_goals simp_all [wS]
   ·have hdec := dF (i := i) (n := a.length) (by omega)
    have hs : decide (a = b) = true := decide_eq_true (by rw [List.take_of_length_le (by omega), List.take_of_length_le (by omega)] at hI; exact hI)
    simp only [hs]
    repeat' first | ((with_reducible first | refine cond_split ?_ ?_ | refine ws ?_ ?_ | refine wd ?_ ?_ | refine wu ?_ ?_) <;> intro h <;> try simp only [h]) | simp only [↓wBA, tSm, convA, seval, pl16_6Sm, enW_len, hdec] | (with_reducible refine dP pl16_6Sm 54 (some 17) (by decide) (by kernel_rfl) ?_)
    all_goals refine ret_is (a := _) ?_ rfl rfl
    all_goals simp only [↓wBA, tSm, convA, seval]
    all_goals simp_all [wS]
 ·have d : ((a.length : Int) != (b.length : Int)) = true := by simp; omega
  have hs : decide (a = b) = false := decide_eq_false fun e => hab (by rw [e])
  simp only [hs]
  repeat' first | ((with_reducible first | refine cond_split ?_ ?_ | refine ws ?_ ?_ | refine wd ?_ ?_ | refine wu ?_ ?_) <;> intro h <;> try simp only [h]) | simp only [↓wBA, tSm, convA, seval, pl16_6Sm, enW_len, d] | (with_reducible refine dP pl16_6Sm 54 (some 17) (by decide) (by kernel_rfl) ?_)
  all_goals refine ret_is (a := _) ?_ rfl rfl
  all_goals simp only [↓wBA, tSm, convA, seval]
  all_goals simp_all [wS]
end Go.Proofs.YtcnkmandddfdmaaGreat
namespace Go.Proofs.YtcnkmandddfdmaaGreat
open Go.RowKit
theorem least0 (l e : Int) : leastI l e = 0 ↔ l = 0 ∧ e = 0 := by unfold leastI; split <;> omega
theorem filGo_form (x : Ex) : ∀ (rows : List (List Va)) (acc : List (List Va)) (l : Int), acc.length + rows.length ≤ 10001 →
 ((rows.foldl (filStep x) (acc, l)).2 = 0 ↔ l = 0 ∧ ∀ r ∈ rows, (holdsV r x).2 = 0) ∧ (rows.foldl (filStep x) (acc, l)).1 = acc ++ rows.filter fun r => (holdsV r x).1
 | [], acc, l, _ => by simp
 | r :: rows, acc, l, h => by
   simp only [List.length_cons] at h
   rw [List.foldl_cons]
   have hst : filStep x (acc, l) r = (if (holdsV r x).1 = true then acc ++ [r] else acc, leastI l (holdsV r x).2) := by
    unfold filStep
    by_cases hb : (holdsV r x).1 = true
    ·rw [if_pos ⟨hb, by show acc.length ≤ 10000; omega⟩, if_pos hb]
    ·rw [if_neg (fun h => hb h.1), if_neg hb]
   rw [hst]
   have hl : (if (holdsV r x).1 = true then acc ++ [r] else acc).length + rows.length ≤ 10001 := by
    split
    ·simp; omega
    ·omega
   obtain ⟨h1, h2⟩ := filGo_form x rows _ (leastI l (holdsV r x).2) hl
   refine ⟨?_, ?_⟩
   ·rw [h1, least0]
    simp only [List.mem_cons, forall_eq_or_imp, and_assoc]
   ·rw [h2, List.filter_cons]
    split <;> simp_all
theorem filS_form (rows : List (List Va)) (x : Ex) (h : rows.length ≤ 10000) : ((filS rows x).2 = 0 ↔ ∀ r ∈ rows, (holdsV r x).2 = 0) ∧ ((filS rows x).2 = 0 → (filS rows x).1 = rows.filter fun r => (holdsV r x).1) := by
 obtain ⟨h1, h2⟩ := filGo_form x rows [] 0 (by simp; omega)
 have hl : (rows.filter fun r => (holdsV r x).1).length ≤ rows.length := List.length_filter_le _ _
 simp only [true_and, List.nil_append] at h1 h2
 unfold filS ansS
 rw [h2]
 by_cases h0 : (rows.foldl (filStep x) ([], 0)).2 = 0
 ·rw [if_neg (by simp [h0]), if_neg (by omega)]
  exact ⟨⟨fun _ => h1.1 h0, fun _ => rfl⟩, fun _ => rfl⟩
 ·rw [if_pos h0]
  exact ⟨⟨fun h => absurd h h0, fun h => absurd (h1.2 h) h0⟩, fun h => absurd h h0⟩
theorem wGo_form (row : List Va) : ∀ (l : List (Ex × Int)) (s : List Va) (e : Int), (l.foldl (wStep row) (s, e)).1 = (l.foldl (wStep row) (s, 0)).1 ∧ ((l.foldl (wStep row) (s, e)).2 = 0 ↔ e = 0 ∧ ∀ q ∈ l, (evalV row q.1).2 = 0)
 | [], s, e => by simp
 | q :: l, s, e => by
   rw [List.foldl_cons, List.foldl_cons]
   have h1 := wGo_form row l (wStep row (s, e) q).1 (wStep row (s, e) q).2
   have h2 := wGo_form row l (wStep row (s, 0) q).1 (wStep row (s, 0) q).2
   have e1 : (wStep row (s, e) q).1 = (wStep row (s, 0) q).1 := rfl
   have e2 : (wStep row (s, e) q).2 = leastI e (evalV row q.1).2 := rfl
   refine ⟨?_, ?_⟩
   ·have a := h1.1
    have b := h2.1
    rw [e1] at a
    exact a.trans b.symm
   ·have a := h1.2
    rw [e2] at a
    refine Iff.trans a ?_
    rw [least0]
    simp only [List.mem_cons, forall_eq_or_imp, and_assoc]
theorem wrk_form (row : List Va) (xs : List Ex) (cs : List Int) (e : Int) : (wrkS row xs cs e).1 = (wrkS row xs cs 0).1 ∧ ((wrkS row xs cs e).2 = 0 ↔ e = 0 ∧ (wrkS row xs cs 0).2 = 0) := by
 obtain ⟨h1, h2⟩ := wGo_form row (xs.zip cs) row e
 obtain ⟨_, h3⟩ := wGo_form row (xs.zip cs) row 0
 refine ⟨h1, ?_⟩
 unfold wrkS
 rw [h2, h3]
 simp
theorem uGo_form (xs : List Ex) (cs : List Int) : ∀ (l : List (List Va)) (acc : List Wr) (e : Int), (l.foldl (uStep xs cs) (acc, e)).1 = acc ++ l.map (fun r => (r, some (wrkS r xs cs 0).1)) ∧ ((l.foldl (uStep xs cs) (acc, e)).2 = 0 ↔ e = 0 ∧ ∀ r ∈ l, (wrkS r xs cs 0).2 = 0)
 | [], acc, e => by simp
 | r :: l, acc, e => by
   rw [List.foldl_cons]
   have hst : uStep xs cs (acc, e) r = (acc ++ [(r, some (wrkS r xs cs 0).1)], (wrkS r xs cs e).2) := by
    unfold uStep
    rw [(wrk_form r xs cs e).1]
   rw [hst]
   obtain ⟨h1, h2⟩ := uGo_form xs cs l (acc ++ [(r, some (wrkS r xs cs 0).1)]) (wrkS r xs cs e).2
   refine ⟨by rw [h1]; simp, ?_⟩
   rw [h2, (wrk_form r xs cs e).2]
   simp only [List.mem_cons, forall_eq_or_imp, and_assoc]
theorem soundS_0 (cols : List Tc) (rows : List (List Va)) : soundS cols rows = 0 ↔ ∀ r ∈ rows, rowOk cols r = true := by
 unfold soundS
 rw [← List.all_eq_true]
 split <;> simp_all
theorem updS_err (s : Sm) (nm : ByteArray) (cols : List Tc) (rows : List (List Va)) (h : (updS s nm cols rows).2 ≠ 0) : (updS s nm cols rows).1 = [] := by
 unfold updS finU at *
 repeat' split
 all_goals first | rfl | skip
 all_goals simp_all
theorem updS_form (s : Sm) (nm : ByteArray) (cols : List Tc) : (∃ e, e ≠ 0 ∧ ∀ rows, updS s nm cols rows = ([], e)) ∨
 (s.kind = 5 ∧ (tgtS s.names cols).2 = 0 ∧ ∃ (good : List Va → Prop) (hp : List Va → Bool) (g : List Va → List Va), (∀ r, (g r).length = r.length) ∧
  ∀ rows : List (List Va), rows.length ≤ 10000 → ((updS s nm cols rows).2 = 0 ↔ ∀ r ∈ rows, good r) ∧ ((updS s nm cols rows).2 = 0 → (updS s nm cols rows).1 = (rows.filter hp).map fun r => (r, some (g r)))) := by
 by_cases h1 : s.kind = 5
 case neg => exact .inl ⟨1, by decide, fun rows => by unfold updS; rw [if_pos h1]⟩
 by_cases h2 : (tgtS s.names cols).2 = 0
 case neg => exact .inl ⟨_, h2, fun rows => by unfold updS; rw [if_neg (by simp [h1]), if_pos h2]⟩
 by_cases h3 : (asgS (scopeS nm cols) cols s.sets (tgtS s.names cols).1).2 = 0
 case neg => exact .inl ⟨_, h3, fun rows => by unfold updS; rw [if_neg (by simp [h1]), if_neg (by simp [h2]), if_pos h3]⟩
 by_cases h4 : (whereS s nm cols).2 = 0
 case neg => exact .inl ⟨_, h4, fun rows => by
  have : hitS s nm cols rows = ([], (whereS s nm cols).2) := by unfold hitS; rw [if_pos h4]
  unfold updS; rw [if_neg (by simp [h1]), if_neg (by simp [h2]), if_neg (by simp [h3]), this, if_pos h4]⟩
 refine .inr ⟨h1, h2, ?_⟩
 generalize hxs : (asgS (scopeS nm cols) cols s.sets (tgtS s.names cols).1).1 = xs at *
 generalize hcs : (tgtS s.names cols).1 = cs at *
 generalize hx : (whereS s nm cols).1.headD trueE = x at *
 refine ⟨fun r => (holdsV r x).2 = 0 ∧ ((holdsV r x).1 = true → (wrkS r xs cs 0).2 = 0 ∧ rowOk cols (wrkS r xs cs 0).1 = true), fun r => (holdsV r x).1, fun r => (wrkS r xs cs 0).1, fun r => wrkS_len r xs cs 0, fun rows hr => ?_⟩
 have hu : updS s nm cols rows = if (filS rows x).2 ≠ 0 then ([], (filS rows x).2) else finU cols ((filS rows x).1.foldl (uStep xs cs) ([], 0)) := by
  have hh : hitS s nm cols rows = filS rows x := by unfold hitS; rw [if_neg (by simp [h4]), hx]
  unfold updS
  rw [if_neg (by simp [h1]), if_neg (by simp [h2]), hcs, if_neg (by simp [h3]), hh, hxs]
 rw [hu]
 obtain ⟨f1, f2⟩ := filS_form rows x hr
 by_cases h5 : (filS rows x).2 = 0
 ·rw [if_neg (by simp [h5]), f2 h5]
  obtain ⟨u1, u2⟩ := uGo_form xs cs (rows.filter fun r => (holdsV r x).1) [] 0
  simp only [true_and, List.nil_append] at u1 u2
  unfold finU
  rw [u1]
  have hmap : (((rows.filter fun r => (holdsV r x).1).map fun r => ((r, some (wrkS r xs cs 0).1) : Wr)).map newR) = (rows.filter fun r => (holdsV r x).1).map fun r => (wrkS r xs cs 0).1 := by
   rw [List.map_map]; rfl
  rw [hmap]
  have hs := soundS_0 cols ((rows.filter fun r => (holdsV r x).1).map fun r => (wrkS r xs cs 0).1)
  by_cases h6 : ((rows.filter fun r => (holdsV r x).1).foldl (uStep xs cs) ([], 0)).2 = 0
  ·rw [if_neg (by simp [h6])]
   by_cases h7 : soundS cols ((rows.filter fun r => (holdsV r x).1).map fun r => (wrkS r xs cs 0).1) = 0
   ·rw [if_neg (by simp [h7])]
    refine ⟨⟨fun _ r hr => ⟨f1.1 h5 r hr, fun hp => ⟨u2.1 h6 r (List.mem_filter.2 ⟨hr, hp⟩), hs.1 h7 _ (List.mem_map.2 ⟨r, List.mem_filter.2 ⟨hr, hp⟩, rfl⟩)⟩⟩, fun _ => rfl⟩, fun _ => rfl⟩
   ·rw [if_pos h7]
    refine ⟨⟨fun h => absurd h h7, fun h => absurd (hs.2 fun r hr => ?_) h7⟩, fun h => absurd h h7⟩
    obtain ⟨q, hq, rfl⟩ := List.mem_map.1 hr
    obtain ⟨hq1, hq2⟩ := List.mem_filter.1 hq
    exact ((h q hq1).2 hq2).2
  ·rw [if_pos h6]
   refine ⟨⟨fun h => absurd h h6, fun h => absurd (u2.2 fun r hr => ?_) h6⟩, fun h => absurd h h6⟩
   obtain ⟨hq1, hq2⟩ := List.mem_filter.1 hr
   exact ((h r hq1).2 hq2).1
 ·rw [if_pos h5]
  exact ⟨⟨fun h => absurd h h5, fun h => absurd (f1.2 fun r hr => (h r hr).1) h5⟩, fun h => absurd h h5⟩
theorem updS_nn (s : Sm) (nm : ByteArray) (cols : List Tc) (hcl : cols.length ≤ 4398046511104) (rows : List (List Va)) (hr : rows.length ≤ 10000) (hrc : ∀ r ∈ rows, r.length = cols.length) (hne : s.kind = 5 → s.names ≠ []) : nnW (updS s nm cols rows).1 := by
 rcases updS_form s nm cols with ⟨e, _, h⟩ | ⟨h1, h2, good, hp, g, hg, h⟩
 ·rw [h rows]; intro w hw; simp at hw
 ·obtain ⟨ha, hb⟩ := h rows hr
  by_cases h0 : (updS s nm cols rows).2 = 0
  ·rw [hb h0]
   intro w hw
   obtain ⟨r, hr, rfl⟩ := List.mem_map.1 hw
   have hl := hrc r (List.mem_filter.1 hr).1
   have hgl := hg r
   obtain ⟨t1, t2⟩ := tgtS_ok s.names cols h2
   have hpos : 0 < cols.length := by
    have hn : 0 < s.names.length := List.length_pos_iff.2 (hne h1)
    rw [← t1] at hn
    obtain ⟨c, hc⟩ := List.exists_mem_of_length_pos hn
    have := (t2 c hc).2
    omega
   refine ⟨g r, rfl, fun e => ?_, by omega, by show r.length ≤ _; omega⟩
   rw [e] at hgl; simp at hgl; omega
  ·rw [updS_err _ _ _ _ h0]; intro w hw; simp at hw
theorem updS_len (s : Sm) (nm : ByteArray) (cols : List Tc) (rows : List (List Va)) (hr : rows.length ≤ 10000) : (updS s nm cols rows).1.length ≤ rows.length := by
 rcases updS_form s nm cols with ⟨e, _, h⟩ | ⟨h1, h2, good, hp, g, hg, h⟩
 ·rw [h rows]; simp
 ·obtain ⟨ha, hb⟩ := h rows hr
  by_cases h0 : (updS s nm cols rows).2 = 0
  ·rw [hb h0, List.length_map]; exact List.length_filter_le _ _
  ·rw [updS_err _ _ _ _ h0]; simp
end Go.Proofs.YtcnkmandddfdmaaGreat
