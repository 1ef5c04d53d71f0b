/- Filter, whose rows are written later: the walk. Filter whose rows are its own, where there are other objects. A function that touches no object is handed rows that are written, to read them. -/
import Derived.Test.YtpcblbbddccgpaaDoorM29
import Derived.Test.YtpcblbbddccgpaaDoorM18
set_option linter.unusedSimpArgs false
set_option linter.unusedVariables false
set_option linter.defProp false
set_option maxRecDepth 100000
set_option maxHeartbeats 32000000
namespace Go.Proofs.YtpcblbbddccgpaaDoor
open Go.RowKit
def tFn2 := aa wX <| aa wbu <| aa T3 <| aa T22 <| aa T27 <| aa T31 <| aa T36 T45
theorem okO_tokS {n : Nat} {s : St} (h : s.all (okO n) = true) : tokS n s := fun t ob ht => by
 have := List.all_eq_true.1 h _ (List.mem_of_getElem? ht)
 cases ob with
 | row e ls => exact this
 | map es => exact this
 | right E m => rfl
 | nright E m => rfl
theorem afilterM0 (rows : List (List Va)) (x : Ex) (hr : OkRowsL rows) : ACalls Tryd.prog 8 [.p (.sl 1 (enVV rows)), exA x] [] fun r s => tokLt s.length r = true ∧ tokS s.length s ∧ r = ansM (rows.foldl (filStep x) ([], 0)).2 (outO 2 (rows.foldl (filStep x) ([], 0)).1) (rows.foldl (filStep x) ([], 0)).1.length ∧ s = none :: none :: tlF 2 (rows.foldl (filStep x) ([], 0)).1 := by
 obtain ⟨hn, hr⟩ := hr
 have hH := fun row => aholdsV row x
 have hC0 := aclone [] (by simp)
 generalize hst : filStep x = stp at *
 have hstp : ∀ s r, stp s r = (if (holdsV r x).1 = true ∧ s.1.length ≤ 10000 then s.1 ++ [r] else s.1, leastI s.2 (holdsV r x).2) := fun s r => by rw [← hst]; rfl
 generalize hhv : (fun r => holdsV r x) = hv at *
 have hhv' : ∀ r, holdsV r x = hv r := fun r => by rw [← hhv]
 simp only [hhv'] at hH hstp
 clear hst hhv hhv'
 obtain ⟨k, vk, vn, vs, tb, nm, s, kids⟩ := x
 simp only [exA, exC, List.map_cons, List.map_nil] at hH
 refine acalls_of cxF_ok drF_ok Tryd.func8 (by kernel_rfl) rfl (nt := 41) (rs := [.tmp 4, .tmp 5]) rfl rfl ?_
 simp only [exA, exC, List.map_cons, List.map_nil]
 repeat' first | ((with_reducible first | refine cs ?_ ?_ | refine ws ?_ ?_) <;> intro h <;> try simp only [h]) | simp only [↓wBA, tFn2, convA, seval, enVV_len, kindF, tyF, mutsF, lenF]
 refine awp_loopT (rows.length) (fun i => [(7, outO 2 ((rows.take i).foldl stp ([], 0)).1), (14, intV .i64 (i : Nat)), (9, .any), (10, .any), (11, .any), (15, .any), (16, .any), (17, .any), (18, .any), (19, .any), (20, .any), (21, .any), (22, .any), (23, .any), (24, .any), (25, .any), (26, .any), (27, .any), (28, .any), (29, .any), (30, .any), (31, .any), (32, .any), (33, .any), (34, .any), (35, .any), (36, .any), (37, .any)]) (fun i => some (.row 8 [[intV .i64 k, intV .i64 vk, intV .i64 vn, .p (.v (.string vs)), .p (.v (.string tb)), .p (.v (.string nm)), intV .i64 s, .p (.sl 8 (exL kids))]]) :: some (.row 1 [[intV .i64 ((rows.take i).foldl stp ([], 0)).2]]) :: tlF 2 ((rows.take i).foldl stp ([], 0)).1) ?_ ?_ ?_
 ·intro i; simp
 ·skip
  simp only [wR, Nat.reduceAdd, Nat.reduceLT, reduceIte]
  simp [wW, outO, tlF, nilA]
 ·intro i hi
  simp only [wR, Nat.reduceAdd, Nat.reduceLT, reduceIte]
  by_cases hlt : i < rows.length
  ·have hdec := dT (i := i) (n := rows.length) (by omega)
   have hi0 := nnI i
   have hw := wI i (by omega)
   have hg := enVV_get rows i hlt
   have hst := take_step stp ([], 0) rows i hlt
   have hrl := hr rows[i] (List.getElem_mem hlt)
   rw [hstp] at hst
   generalize hs : (rows.take i).foldl stp ([], 0) = st at *
   obtain ⟨out, l⟩ := st
   simp only at hst
   generalize hrow : rows[i] = row at *
   have hH' := hH row
   generalize hq : hv row = q at *
   obtain ⟨ok, e⟩ := q
   simp only at hst hH'
   by_cases hb : ok = true ∧ out.length ≤ 10000
   ·obtain ⟨rfl, ho⟩ := hb
    have hd : decide ((out.length : Int) ≤ 10000) = true := by simp; omega
    rw [if_pos ⟨rfl, ho⟩] at hst
    have hlim1 := tL (n := (out.length + 1) * 24) (by omega)
    have hlim2 := lM (n := out.length + 1) (by omega)
    have hmx1 := lM (n := (1 : Nat)) (by omega)
    rcases out with _ | ⟨o0, out⟩
    ·simp only [tlF_nil, outO_nil, nilA, List.length_nil, List.nil_append] at *
     rcases row with _ | ⟨v, row⟩
     ·skip
      repeat' first | ((with_reducible first | refine cs ?_ ?_ | refine ws ?_ ?_) <;> intro h <;> try simp only [h]) | simp only [↓wBA, tFn2, convA, seval, enVV_len, kindF, tyF, mutsF, lenF, hdec, hi0, hg, hw, hd, hlim1, hlim2, hmx1, appendM, srcM, srcA] | ((with_reducible show ACalls _ _ _ _ _); first | refine (hH' _).eq ?_ | (refine (asee _ _ _ 1 rfl).mono ?_; rintro _ _ ⟨_, ⟨rfl, rfl⟩, rfl⟩; simp only [lsO]) | refine (hC0 _).eq ?_)
      refine ⟨⟨i + 1, by omega⟩, by show rows.length - (i + 1) < rows.length - i; omega, ?_⟩
      simp only [hst]
      have hs1 := tlF_snoc 2 [] []
      have ho1 := outO_snoc 2 [] []
      simp only [List.nil_append, objF, List.flatMap_nil, celF, blk, List.length_nil, List.length_cons] at hs1 ho1
      rw [hs1, ho1]
      simp [wW, enV]
     ·simp only [List.length_cons] at hrl
      repeat' first | ((with_reducible first | refine cs ?_ ?_ | refine ws ?_ ?_) <;> intro h <;> try simp only [h]) | simp only [↓wBA, tFn2, convA, seval, enVV_len, kindF, tyF, mutsF, lenF, hdec, hi0, hg, hw, hd, hlim1, hlim2, hmx1, appendM, srcM, srcA] | ((with_reducible show ACalls _ _ _ _ _); first | refine (hH' _).eq ?_ | (refine (asee _ _ _ 1 rfl).mono ?_; rintro _ _ ⟨_, ⟨rfl, rfl⟩, rfl⟩; simp only [lsO]) | (refine (acloneM v row hrl _).mono ?_; rintro _ _ ⟨rfl,rfl⟩))
      refine ⟨⟨i + 1, by omega⟩, by show rows.length - (i + 1) < rows.length - i; omega, ?_⟩
      simp only [hst]
      have hs1 := tlF_snoc 2 [] (v :: row)
      have ho1 := outO_snoc 2 [] (v :: row)
      simp only [List.nil_append, objF, List.flatMap_nil, celF, blk, List.length_nil, List.length_cons] at hs1 ho1
      rw [hs1, ho1]
      have hmt := fun n => muR_tok n (v :: row)
      simp [wW, hmt]
    ·obtain ⟨k, e1, e2, e3, e4, e5, e6⟩ := tlF_ne (n := 2) (acc := o0 :: out) (by simp)
     have hs1 := tlF_snoc 2 (o0 :: out) row
     have ho1 := outO_snoc 2 (o0 :: out) row
     have hct := celF_tok (o0 :: out) 2
     have hok := fun n => objF_ok n (o0 :: out)
     have e7 : 2 + k = k + 1 + 1 := by omega
     rw [e7] at e5
     simp only [e1] at hs1 ho1 hct
     generalize tlF 2 (o0 :: out) = tl at *
     generalize outO 2 (o0 :: out) = ou at *
     generalize celF 2 (o0 :: out) = cells at *
     generalize objF (o0 :: out) = ob at *
     generalize hacc : o0 :: out = acc at *
     subst e5
     have a1 : ∀ rest : St, (tl ++ rest)[k]? = some (some (.row 1 cells)) := fun rest => by rw [List.getElem?_append_left (by omega)]; exact e3
     have a2 : ∀ rest : St, (tl ++ rest).set k none = ob ++ rest := fun rest => by rw [List.set_append, if_pos (by omega), e4]
     have a3 : ∀ (j : Nat) (rest : St), (tl ++ rest)[k + 1 + j]? = rest[j]? := fun j rest => by rw [List.getElem?_append_right (by omega), e2]; congr 1; omega
     have a4 : ∀ rest : St, (tl ++ rest)[k + 1]? = rest[0]? := fun rest => a3 0 rest
     have a5 : ∀ rest : St, (tl ++ rest)[k + 3]? = rest[2]? := fun rest => a3 2 rest
     have a6 : ∀ rest : St, (tl ++ rest)[k + 2]? = rest[1]? := fun rest => a3 1 rest
     have hacl : (acc.length ≤ acc.length) = True := eq_true (Nat.le_refl _)
     have htk : cells.take acc.length = cells := List.take_of_length_le (by omega)
     rcases row with _ | ⟨v, row⟩
     ·skip
      repeat' first | ((with_reducible first | refine cs ?_ ?_ | refine ws ?_ ?_) <;> intro h <;> try simp only [h]) | simp only [↓wBA, tFn2, convA, seval, enVV_len, kindF, tyF, mutsF, lenF, hdec, hi0, hg, hw, hd, hlim1, hlim2, hmx1, appendM, srcM, srcA, lenMM, e1, e2, e6, a1, a2, a3, a4, a5, a6, hacl, htk, List.append_assoc, List.length_append] | ((with_reducible show ACalls _ _ _ _ _); first | refine (hH' _).eq ?_ | (refine (asee _ _ _ 1 rfl).mono ?_; rintro _ _ ⟨_, ⟨rfl, rfl⟩, rfl⟩; simp only [lsO]) | refine (hC0 _).eq ?_)
      refine ⟨⟨i + 1, by omega⟩, by show rows.length - (i + 1) < rows.length - i; omega, ?_⟩
      simp only [hst]
      have en : 2 + (k + 1) + (blk []).length - 1 = k + 1 + 1 + 1 + 1 := by simp [blk]; omega
      rw [en] at ho1
      simp only at hs1
      rw [hs1, ho1]
      refine .inr ⟨?_, ?_⟩
      ·skip
       simp [wW, e1]
       try omega
      ·have hn4 : ∀ (x y z u : Option Ob) (c d : List (List AV)), 2 + (k + 1) ≤ min (x :: y :: (ob ++ [z, some (.row 1 c)])).length (x :: y :: (ob ++ [u, some (.row 1 d)])).length := fun x y z u c d => by simp [e1]; omega
       refine leS_pre ?_ (some _ :: some _ :: ob) ?_
       ·refine ⟨trivial, ⟨rfl, .inl ⟨rfl, ?_⟩⟩, trivial⟩
        rw [List.all_append, hct _ (hn4 _ _ _ _ _ _)]; simp [tokLtL, tokLt]
       ·simp [okO, tokLtL, tokLt, intV, hok]
     ·simp only [List.length_cons] at hrl
      repeat' first | ((with_reducible first | refine cs ?_ ?_ | refine ws ?_ ?_) <;> intro h <;> try simp only [h]) | simp only [↓wBA, tFn2, convA, seval, enVV_len, kindF, tyF, mutsF, lenF, hdec, hi0, hg, hw, hd, hlim1, hlim2, hmx1, appendM, srcM, srcA, lenMM, e1, e2, e6, a1, a2, a3, a4, a5, a6, hacl, htk, List.append_assoc, List.length_append] | ((with_reducible show ACalls _ _ _ _ _); first | refine (hH' _).eq ?_ | (refine (asee _ _ _ 1 rfl).mono ?_; rintro _ _ ⟨_, ⟨rfl, rfl⟩, rfl⟩; simp only [lsO]) | (refine (acloneM v row hrl _).mono ?_; rintro _ _ ⟨rfl,rfl⟩))
      refine ⟨⟨i + 1, by omega⟩, by show rows.length - (i + 1) < rows.length - i; omega, ?_⟩
      simp only [hst]
      have en : 2 + (k + 1) + (blk (v :: row)).length - 1 = k + 1 + 3 + 1 + 1 := by simp [blk]; omega
      have en2 : 2 + (k + 1) + 1 = k + 1 + 1 + 1 + 1 := by omega
      rw [en] at ho1
      simp only [en2] at hs1
      rw [hs1, ho1]
      refine .inr ⟨?_, ?_⟩
      ·skip
       simp [wW, e1]
       try omega
      ·have hn4 : ∀ (x y z u z2 u2 : Option Ob) (c d e f : List (List AV)), 2 + (k + 1) + 2 ≤ min (x :: y :: (ob ++ [z, some (.row 3 e), u, some (.row 1 c)])).length (x :: y :: (ob ++ [z2, some (.row 3 f), u2, some (.row 1 d)])).length := fun x y z u z2 u2 c d e f => by simp [e1]; omega
       refine leS_pre ?_ (some _ :: some _ :: ob) ?_
       ·refine ⟨trivial, ⟨rfl, .inl ⟨rfl, muR_tok _ _⟩⟩, trivial, ⟨rfl, .inl ⟨rfl, ?_⟩⟩, trivial⟩
        rw [List.all_append, hct _ (Nat.le_trans (Nat.le_add_right _ 2) (hn4 _ _ _ _ _ _ _ _ _ _))]
        have h6 := fun x y z u z2 u2 c d e f => Nat.lt_of_lt_of_le (show k + 1 + 1 + 1 + 1 < 2 + (k + 1) + 2 by omega) (hn4 x y z u z2 u2 c d e f)
        simp only [List.all_cons, List.all_nil, tokLtL, tokLt, Bool.and_true, Bool.true_and, decide_eq_true_eq]
        exact h6 _ _ _ _ _ _ _ _ _ _
       ·simp [okO, tokLtL, tokLt, intV, hok]
   ·rw [if_neg hb] at hst
    by_cases hok : ok = true
    ·have hol : ¬ out.length ≤ 10000 := fun h => hb ⟨hok, h⟩
     have hd : decide ((out.length : Int) ≤ 10000) = false := by simp; omega
     subst hok
     have hou : lenA cx 22 (outO 2 out) = some out.length := by
      cases out with
      | nil => simp at hol
      | cons o l => exact lenMM
     have htl := tlF_len 2 out
     have hto := tlF_ok 2 ((objF out).length + 1 + 1) out (by omega)
     have hot : tokLt ((objF out).length + 1 + 1) (outO 2 out) = true := by have := outO_tok out (n := 2); rwa [show 2 + (objF out).length = (objF out).length + 1 + 1 by omega] at this
     generalize hgo : outO 2 out = ou at *
     generalize hgt : tlF 2 out = tl at *
     repeat' first | ((with_reducible first | refine cs ?_ ?_ | refine ws ?_ ?_) <;> intro h <;> try simp only [h]) | simp only [↓wBA, tFn2, convA, seval, enVV_len, kindF, tyF, mutsF, lenF, hdec, hi0, hg, hw, hd, hou] | ((with_reducible show ACalls _ _ _ _ _); first | refine (hH' _).eq ?_ | (refine (asee _ _ _ 1 rfl).mono ?_; rintro _ _ ⟨_, ⟨rfl, rfl⟩, rfl⟩; simp only [lsO]))
     refine ⟨⟨i + 1, by omega⟩, by show rows.length - (i + 1) < rows.length - i; omega, ?_⟩
     simp only [hst, hgo, hgt]
     refine .inr ⟨?_, ?_⟩
     ·skip
      simp [wW, htl, hot]
     ·refine leS_self _ ?_
      simp only [List.length_cons, htl, Nat.min_self]
      exact hto
    ·obtain rfl : ok = false := by simpa using hok
     have htl := tlF_len 2 out
     have hto := tlF_ok 2 ((objF out).length + 1 + 1) out (by omega)
     have hot : tokLt ((objF out).length + 1 + 1) (outO 2 out) = true := by have := outO_tok out (n := 2); rwa [show 2 + (objF out).length = (objF out).length + 1 + 1 by omega] at this
     generalize hgo : outO 2 out = ou at *
     generalize hgt : tlF 2 out = tl at *
     repeat' first | ((with_reducible first | refine cs ?_ ?_ | refine ws ?_ ?_) <;> intro h <;> try simp only [h]) | simp only [↓wBA, tFn2, convA, seval, enVV_len, kindF, tyF, mutsF, lenF, hdec, hi0, hg, hw] | ((with_reducible show ACalls _ _ _ _ _); first | refine (hH' _).eq ?_ | (refine (asee _ _ _ 1 rfl).mono ?_; rintro _ _ ⟨_, ⟨rfl, rfl⟩, rfl⟩; simp only [lsO]))
     refine ⟨⟨i + 1, by omega⟩, by show rows.length - (i + 1) < rows.length - i; omega, ?_⟩
     simp only [hst, hgo, hgt]
     refine .inr ⟨?_, ?_⟩
     ·skip
      simp [wW, htl, hot]
     ·refine leS_self _ ?_
      simp only [List.length_cons, htl, Nat.min_self]
      exact hto
  ·have hdec := dF (i := i) (n := rows.length) (by omega)
   have ht : rows.take i = rows := List.take_of_length_le (by omega)
   simp only [ht]
   generalize rows.foldl stp ([], 0) = st at *
   obtain ⟨out, l⟩ := st
   have htl := tlF_len 2 out
   have hto := tlF_ok 2 ((objF out).length + 1 + 1) out (by omega)
   have hot : tokLt ((objF out).length + 1 + 1) (outO 2 out) = true := by have := outO_tok out (n := 2); rwa [show 2 + (objF out).length = (objF out).length + 1 + 1 by omega] at this
   have hou : (outO 2 out = nilA ∧ out.length = 0) ∨ ∃ t, outO 2 out = .ms t 1 0 out.length := by
    cases out with
    | nil => exact .inl ⟨rfl, rfl⟩
    | cons o q => exact .inr ⟨_, rfl⟩
   have hM := aanswerM l (outO 2 out) out.length hou
   have hfin : ∃ x y, ansM l (outO 2 out) out.length = .tup [x, y] ∧ tokLt ((objF out).length + 1 + 1) x = true ∧ tokLt ((objF out).length + 1 + 1) y = true := by
    unfold ansM
    split
    ·exact ⟨_, _, rfl, rfl, rfl⟩
    ·split
     ·exact ⟨_, _, rfl, rfl, rfl⟩
     ·exact ⟨_, _, rfl, hot, rfl⟩
   obtain ⟨x1, x2, hx, hx1, hx2⟩ := hfin
   simp only [hx] at hM ⊢
   generalize outO 2 out = ou at *
   generalize tlF 2 out = tl at *
   repeat' first | ((with_reducible first | refine cs ?_ ?_ | refine ws ?_ ?_) <;> intro h <;> try simp only [h]) | simp only [↓wBA, tFn2, convA, seval, enVV_len, kindF, tyF, mutsF, lenF, hdec] | ((with_reducible show ACalls _ _ _ _ _); refine (hM _).mono ?_; rintro _ _ ⟨rfl,rfl⟩)
   refine ⟨.inl rfl, _, .tup [x1, x2], none :: none :: tl, rfl, .inr ⟨?_, ?_⟩, Nat.zero_le _, ?_, ?_, rfl, rfl⟩
   ·skip
    simp [wW, htl, hx1, hx2]
   ·refine ⟨trivial, trivial, leS_self _ ?_⟩
    simp only [List.length_cons, htl, Nat.min_self]
    exact hto
   ·simp [tokLt, tokLtL, htl, hx1, hx2]
   ·refine okO_tokS ?_
    simp only [List.length_cons, htl]
    exact hto
end Go.Proofs.YtpcblbbddccgpaaDoor
namespace Go.Proofs.YtpcblbbddccgpaaDoor
open Go.RowKit
theorem ren_celO (n m : Nat) (r : List Va) : renA (fun t => t + m) (celO n r) = celO (n + m) r := by
 cases r with
 | nil => rfl
 | cons v l => simp [celO, renA]; omega
theorem ren_celF (m : Nat) : ∀ (acc : List (List Va)) (n : Nat), (celF n acc).map (renL fun t => t + m) = celF (n + m) acc
 | [], n => rfl
 | r :: acc, n => by
   simp only [celF, List.map_cons, renL, ren_celO, ren_celF m acc]
   rw [show n + (blk r).length + m = n + m + (blk r).length by omega]
theorem ren_muR (m : Nat) (l : List Va) : (muR l).map (renL fun t => t + m) = muR l := by
 simp only [muR, List.map_map]
 refine List.map_congr_left fun v _ => ?_
 simp [vaC, renL, renA]
theorem ren_blk (m : Nat) (r : List Va) : (blk r).map (fun o => o.map (renOb fun t => t + m)) = blk r := by
 cases r with
 | nil => rfl
 | cons v l => simp [blk, renOb, ren_muR]
theorem ren_objF (m : Nat) : ∀ acc : List (List Va), (objF acc).map (fun o => o.map (renOb fun t => t + m)) = objF acc
 | [] => rfl
 | r :: acc => by rw [objF_cons, List.map_append, ren_blk, ren_objF m acc]
theorem ren_tlF (n m : Nat) (acc : List (List Va)) : (tlF n acc).map (fun o => o.map (renOb fun t => t + m)) = tlF (n + m) acc := by
 cases acc with
 | nil => rfl
 | cons q l =>
   simp only [tlF, List.map_set, ren_objF, Option.map_some, renOb, ren_celF]
theorem ren_outO (n m : Nat) (acc : List (List Va)) (hn : 0 < n) : renA (fun t => t + m) (outO n acc) = outO (n + m) acc := by
 cases acc with
 | nil => rfl
 | cons q l => simp only [outO, renA]; congr 1; omega
theorem afilterM (rows : List (List Va)) (x : Ex) (hr : OkRowsL rows) (σ : St) : ACalls Tryd.prog 8 [.p (.sl 1 (enVV rows)), exA x] σ fun r s => r = ansM (rows.foldl (filStep x) ([], 0)).2 (outO (2 + σ.length) (rows.foldl (filStep x) ([], 0)).1) (rows.foldl (filStep x) ([], 0)).1.length ∧ s = σ ++ (none :: none :: tlF (2 + σ.length) (rows.foldl (filStep x) ([], 0)).1) := by
 refine ((afilterM0 rows x hr).fresh (by cases x; rfl) σ).mono ?_
 rintro r s ⟨r0, s0, ⟨rfl, rfl⟩, rfl, rfl⟩
 constructor
 ·unfold ansM
  split
  ·rfl
  ·split
   ·rfl
   ·simp only [renA, renL, ren_outO _ _ _ (show 0 < 2 by decide)]; rfl
 ·simp only [List.map_cons, Option.map_none, ren_tlF]
end Go.Proofs.YtpcblbbddccgpaaDoor
namespace Go.Proofs.YtpcblbbddccgpaaDoor
open Go.RowKit
def Rd (σ : St) : Nat → AV → PV → Prop
 | 0, a, x => a = .p x ∨ (∃ t e ls, a = .own t e ls ∧ x = .sl e ls) ∨ (∃ t e ls, a = .nown t e ls ∧ x = nilSl e ls)
 | k + 1, a, x => Rd σ k a x ∨ ∃ t e i n ls pls, a = .ms t e i n ∧ x = .sl e pls ∧ σ.at t (.row e ls) ∧ i + n ≤ ls.length ∧ pls.length = n ∧ ∀ (j : Nat) (c : List PV), pls[j]? = some c → ∃ c0, ls[i + j]? = some c0 ∧ c0.length = c.length ∧ ∀ (q : Nat) (y : PV), c[q]? = some y → ∃ b, c0[q]? = some b ∧ Rd σ k b y
def allI (w : World) : Nat → Nat → Prop := fun b _ => b < w.heap.size
theorem Rd.rep {M : View} {σ : St} (hM : Match M σ) : ∀ (k : Nat) {a : AV} {x : PV} {u : Value}, Rd σ k a x → ARep M a u → PRep M.w (allI M.w) x u
 | 0, a, x, u, h, hu => by
   have hp : ∀ p, PRep M.w M.I p u → PRep M.w (allI M.w) p u := fun p h => PRep.later (fun b o h => hM.imm b o h) (fun _ _ _ => rfl) _ _ h
   rcases h with rfl | ⟨t, e, ls, rfl, rfl⟩ | ⟨t, e, ls, rfl, rfl⟩
   ·simp only [ARep] at hu; exact hp _ hu
   ·exact hp _ (toP_rep (M := M) (x := .own t e ls) rfl hu)
   ·exact hp _ (toP_rep (M := M) (x := .nown t e ls) rfl hu)
 | k + 1, a, x, u, h, hu => by
   rcases h with h | ⟨t, e, i, n, ls, pls, rfl, rfl, ht, hin, hpl, hg⟩
   ·exact Rd.rep hM k h hu
   ·obtain ⟨_, b, cur, T, hb, hh, hI, hr, hcs⟩ := hM.obj t _ ht
    simp only [ARep] at hu
    obtain ⟨b', cap, hb', _, rfl, hn, hf⟩ := hu
    have : b' = b := by rw [hb] at hb'; simpa using hb'.symm
    subst this
    simp only [PRep]
    refine .inr ⟨b', i * e, cap, by rw [hpl], by omega, PRepR.of_get fun j c hj => ?_⟩
    obtain ⟨c0, h1, h2, h3⟩ := hg j c hj
    obtain ⟨h4, h5⟩ := hr (i + j) c0 h1
    refine ⟨by rw [← h2, h4], PRepC.of_get fun q y hy => ?_⟩
    obtain ⟨a0, h6, h7⟩ := h3 q y hy
    obtain ⟨_, v, h8, h9⟩ := h5 q a0 h6
    refine ⟨v, ?_, hM.lt t b' hb, Rd.rep hM k h7 h9⟩
    rw [cell_of_row _ _ _ _ _ _ hh, ← Nat.add_mul]; exact h8
def noMem : AV → Bool
 | .p (.v x) => plain x
 | .tup l => l.all fun a => match a with
   | .p (.v x) => plain x
   | _ => false
 | _ => false
def RdA (σ : St) (k : Nat) (a b : AV) : Prop := (∃ x, Rd σ k a x ∧ b = .p x) ∨ ∃ l : List PV, a = .agg (l.map .p) ∧ b = a
def RdL (σ : St) (k : Nat) : List AV → List AV → Prop
 | [], [] => True
 | a :: l, b :: m => RdA σ k a b ∧ RdL σ k l m
 | _, _ => False
theorem agg_rep {M M' : View} (hi : ∀ b o, M.I b o → M'.I b o) (hw : M'.w = M.w) : ∀ (l : List PV) (us : List Value), ARepL M (l.map .p) us → ARepL M' (l.map .p) us
 | [], us, h => by simpa [ARepL] using h
 | x :: l, us, h => by
   simp only [List.map_cons, ARepL] at h ⊢
   obtain ⟨u, us', h1, h2, h3⟩ := h
   refine ⟨u, us', h1, ?_, agg_rep hi hw l us' h3⟩
   simp only [ARep] at h2 ⊢
   rw [hw]
   exact PRep.later hi (fun _ _ _ => rfl) _ _ h2
theorem RdL.rep {M M0 : View} {σ : St} (hM : Match M σ) (hw : M0.w = M.w) (hI : M0.I = allI M.w) {k : Nat} : ∀ {l m : List AV} {us : List Value}, RdL σ k l m → ARepL M l us → ARepL M0 m us
 | [], [], us, _, h => by simpa [ARepL] using h
 | a :: l, b :: m, us, h, hu => by
   simp only [RdL] at h
   simp only [ARepL] at hu ⊢
   obtain ⟨u, us', h1, h2, h3⟩ := hu
   refine ⟨u, us', h1, ?_, RdL.rep hM hw hI h.2 h3⟩
   rcases h.1 with ⟨x, hx, rfl⟩ | ⟨l, rfl, rfl⟩
   ·simp only [ARep]; rw [hw, hI]; exact hx.rep hM k h2
   ·simp only [ARep] at h2 ⊢
    obtain ⟨g0, us, g1, g2⟩ := h2
    exact ⟨g0, us, g1, agg_rep (fun b o h => by rw [hI]; exact hM.imm b o h) hw l us g2⟩
 | [], _ :: _, _, h, _ => by simp [RdL] at h
 | _ :: _, [], _, h, _ => by simp [RdL] at h
theorem noMem_rep {M M' : View} {a : AV} {u : Value} (h : noMem a = true) (hu : ARep M a u) : ARep M' a u := by
 unfold noMem at h
 split at h
 ·simpa only [ARep, PRep] using hu
 ·rename_i l
  simp only [ARep] at hu ⊢
  obtain ⟨us, h1, h2⟩ := hu
  refine ⟨us, h1, ?_⟩
  clear h1
  induction l generalizing us with
  | nil => simpa [ARepL] using h2
  | cons x l ih =>
    simp only [List.all_cons, Bool.and_eq_true] at h
    simp only [ARepL] at h2 ⊢
    obtain ⟨v, us', h3, h4, h5⟩ := h2
    refine ⟨v, us', h3, ?_, ih h.2 us' h5⟩
    have h1 := h.1
    split at h1
    ·simpa only [ARep, PRep] using h4
    ·simp at h1
 ·simp at h
theorem ACalls.borrow {P : Program} {f : FuncId} {args args' : List AV} {R : AV → Prop} (k : Nat) {σ : St} (h : ACalls P f args' [] fun r _ => noMem r = true ∧ R r) (hr : RdL σ k args args') : ACalls P f args σ fun r σ' => σ' = σ ∧ R r := by
 refine ⟨h.1, fun M vs hM hv => ?_⟩
 let M0 : View := { M with I := allI M.w, mu := fun _ => none, len := fun _ => none }
 have hM0 : Match M0 [] := ⟨fun t ob ht => by simp [St.at] at ht, fun t t' ob ob' b ht => by simp [St.at] at ht, fun t _ => ⟨rfl, rfl⟩, fun t b hb => by simp [M0] at hb, fun b o h => h, fun x hx => by
  obtain ⟨cs, T, g1, g2, _⟩ := hM.glob x hx
  exact ⟨cs, T, g1, g2, fun t ob ht => by simp [St.at] at ht⟩⟩
 refine (h.2 M0 vs hM0 (RdL.rep (M0 := M0) hM rfl rfl hr hv)).mono ?_
 rintro e w' ⟨v, r, σ', M1, rfl, rfl, h1, h2, h3, h4, h5, h6⟩
 have hk : ∀ b, b < M.w.heap.size → M1.w.heap[b]? = M.w.heap[b]? := fun b hb => (h1.keep b hb fun t ob ht => by simp [St.at] at ht).1
 let M' : View := { M with w := M1.w }
 have hcell : ∀ b o, M.I b o → M1.w.cell? ⟨b, o, none⟩ = M.w.cell? ⟨b, o, none⟩ := fun b o hb => World.cell?_of_block (hk b (hM.imm b o hb))
 have hL : Later M M' := ⟨fun _ _ h h' => ⟨h, h', rfl⟩, own_same (fun _ => rfl) (fun _ => rfl) (fun _ => rfl), fun _ _ h => h, hcell⟩
 have hE' : Ext M σ M' σ := ⟨hL.mu, hL.own, hL.imm, hL.cell, fun b hb _ => ⟨hk b hb, fun _ h => h⟩, fun t ob b h7 h8 => .inr ⟨t, ob, h7, h8⟩, h1.size, h1.os, h1.tape, h1.output⟩
 refine ⟨v, r, σ, M', rfl, rfl, hE', ?_, noMem_rep h5 h3, Nat.le_refl _, rfl, h6⟩
 exact ⟨fun t ob ht => (hM.obj t ob ht).later hL rfl rfl rfl fun b hb => ⟨hk b (hM.lt t b hb), fun _ h => h⟩, hM.inj, hM.fresh, fun t b hb => Nat.lt_of_lt_of_le (hM.lt t b hb) h1.size, fun b o h => Nat.lt_of_lt_of_le (hM.imm b o h) h1.size, hM.glob.ext hE'⟩
end Go.Proofs.YtpcblbbddccgpaaDoor
