/- Heights of expressions, and all expressions of a statement. All expressions of a statement. Parse: whatever the text, a statement with lists that are not long, or an error. -/
import Derived.Test.YtcnkmandddfdmaaGreatDoorM30
import Derived.Test.YtcnkmandddfdmaaGreatDoorM31
set_option linter.unusedSimpArgs false
set_option linter.unusedVariables false
set_option linter.defProp false
set_option maxRecDepth 100000
set_option maxHeartbeats 32000000
namespace Go.Proofs.YtcnkmandddfdmaaGreatDoor
open Go.RowKit
open Nat renaming reduceBEq → ZA, reducePow → ZB, reduceAdd → ZC, reduceSub → ZD, reduceMul → ZE, reduceEqDiff → ZF, reduceLeDiff → ZG, reduceLT → ZH
open Int renaming reduceLT → ZI, reduceLE → ZJ, reduceToNat → ZK
def tPh := aa wX <| aa T3 <| aa T33 T78
theorem ret_sl {C : Ctx} {fr : List AV} {σ : St} {rs : List ResultVar} {R : AV → Prop} {r0 r1 : AV} {e : Exit} (h1 : resA C rs fr σ = some r0) (h2 : leT σ 0 [] r0 r1) (h3 : tokLt 0 (frzA r1) = true) (h4 : R (frzA r1)) (he : e = .ret ∨ e = .normal := by first | exact .inl rfl | exact .inr rfl) :
 retA C rs 0 (fun r _ => tokLt 0 (frzA r) = true ∧ R (frzA r)) e fr σ := by
 refine ⟨he, r0, r1, [], h1, .inr ⟨?_, ?_⟩, Nat.zero_le _, h3, h4⟩
 ·have : min σ.length ([] : St).length = 0 := by simp
  rw [this]; exact ⟨h2, trivial⟩
 ·simp [leS]
mutual
def htE : Ex → Int
 | .mk _ _ _ _ _ _ _ kids => IntKind.i64.wrap (htL kids 0 + 1)
def htL : List Ex → Int → Int
 | [], h => h
 | x :: l, h => htL l (if htE x > h then htE x else h)
end
theorem htL_app : ∀ (l m : List Ex) (h : Int), htL (l ++ m) h = htL m (htL l h)
 | [], m, h => by simp [htL]
 | x :: l, m, h => by simp [htL, htL_app l m]
theorem exL_get : ∀ (l : List Ex) (i : Nat) (h : i < l.length), (exL l)[i]? = some (exC l[i])
 | [], i, h => by simp at h
 | x :: l, 0, h => by simp [exL]
 | x :: l, i + 1, h => by simp only [exL, List.getElem?_cons_succ, List.getElem_cons_succ]; exact exL_get l i (by simpa using h)
def HtR (x : Ex) (r : AV) : Prop := r = intV .i64 (htE x)
theorem height_of (kd vk vn : Int) (vs tb nm : ByteArray) (sl : Int) (kids : List Ex) (hl : kids.length ≤ 140737488351232) (ih : ∀ y ∈ kids, ∀ σ, ACalls Tryz.prog 30 [exA y] σ fun r s => s = σ ∧ HtR y r) (σ : St) :
 ACalls Tryz.prog 30 [exA (.mk kd vk vn vs tb nm sl kids)] σ fun r s => s = σ ∧ HtR (.mk kd vk vn vs tb nm sl kids) r := by
 refine ACalls.pureF ?_ rfl σ
 refine acalls_of cx_ok dr_ok Tryz.func30 (by kernel_rfl) rfl (nt := 21) (rs := [.tmp 2]) rfl rfl ?_
 simp only [exA, exC, List.map_cons, List.map_nil]
 simp only [↓wBA, tPh, convA, ZA, reduceIte, reduceCtorEq, ZB, ZC, ZD, ZE, ZF, ZG, ZH, ZI, ZJ, ZK]
 refine awp_loopS (X := { i : Nat // i ≤ kids.length }) (fun i => [.any, .mp 0 8 0 0, .any, intV .i64 (htL (kids.take i.1) 0), intV .i64 (i.1 : Nat), .any, .any, .any, .any, .any, .any, .any, .any, .any, .any, .any, .any, .any, .any, .any, .any, .any]) (fun i => kids.length - i.1) ⟨0, by omega⟩ ?_ ?_
 ·simp [WeakE, Weak, leL, leT, leM, leG, leA, leC, leS, leO, tokLt, tokLtL, intV, boolV, htL]
 ·rintro ⟨i, hi⟩
  by_cases hlt : i < kids.length
  ·have hdec := dT (i := i) (n := kids.length) (by omega)
   have hi0 := nnI i
   have hw := wI i (by omega)
   have hg := exL_get kids i hlt
   simp only [↓wBA, tPh, convA, ZA, reduceIte, reduceCtorEq, ZB, ZC, ZD, ZE, ZF, ZG, ZH, ZI, ZJ, ZK, exL_len, hdec, hi0, hg, exC_len, List.length_map]
   refine (ih kids[i] (List.getElem_mem hlt) _).mono ?_
   rintro _ _ ⟨rfl, rfl⟩
   simp only [↓wBA, tPh, convA, ZA, reduceIte, reduceCtorEq, ZB, ZC, ZD, ZE, ZF, ZG, ZH, ZI, ZJ, ZK, hw]
   refine ⟨⟨i + 1, by omega⟩, by show kids.length - (i + 1) < kids.length - i; omega, ?_⟩
   have ht : htL (kids.take (i + 1)) 0 = if htE kids[i] > htL (kids.take i) 0 then htE kids[i] else htL (kids.take i) 0 := by
    rw [List.take_succ_eq_append_getElem hlt, htL_app]; simp only [htL]
   simp [WeakE, Weak, leL, leT, leM, leG, leA, leC, leS, leO, tokLt, tokLtL, intV, boolV, ht]
  ·have hdec := dF (i := i) (n := kids.length) (by omega)
   simp only [↓wBA, tPh, convA, ZA, reduceIte, reduceCtorEq, ZB, ZC, ZD, ZE, ZF, ZG, ZH, ZI, ZJ, ZK, exL_len, hdec]
   have : kids.take i = kids := List.take_of_length_le (by omega)
   exact ret_own (R := HtR (.mk kd vk vn vs tb nm sl kids)) rfl rfl rfl (by rw [this]; simp [HtR, frzA, htE, intV])
mutual
theorem aheight : ∀ (x : Ex), okE x → ∀ σ, ACalls Tryz.prog 30 [exA x] σ fun r s => s = σ ∧ HtR x r
 | .mk kd vk vn vs tb nm sl kids, h, σ => by
   simp only [okE] at h
   exact height_of kd vk vn vs tb nm sl kids h.1.1 (aheightL kids h.2) σ
theorem aheightL : ∀ (l : List Ex), okEL l → ∀ y ∈ l, ∀ σ, ACalls Tryz.prog 30 [exA y] σ fun r s => s = σ ∧ HtR y r
 | [], h, y, hy, σ => by simp at hy
 | x :: l, h, y, hy, σ => by
   simp only [okEL] at h
   by_cases e : y = x
   ·rw [e]; exact aheight x h.1 σ
   ·exact aheightL l h.2 y ((List.mem_cons.1 hy).resolve_left e) σ
end
end Go.Proofs.YtcnkmandddfdmaaGreatDoor
namespace Go.Proofs.YtcnkmandddfdmaaGreatDoor
open Go.RowKit
open Nat renaming reduceBEq → ZA, reducePow → ZB, reduceAdd → ZC, reduceSub → ZD, reduceMul → ZE, reduceEqDiff → ZF, reduceLeDiff → ZG, reduceLT → ZH
open Int renaming reduceLT → ZI, reduceLE → ZJ, reduceToNat → ZK
def tPl := aa wX <| aa T3 <| aa T30 <| aa T31 <| aa T32 <| aa T33 <| aa T34 <| aa T36 <| aa T78 <| aa T117 <| aa T120 T124
def AllER (r : AV) : Prop := ∃ l : List Ex, r = .p (.sl 8 (exL l)) ∧ l.length ≤ 10000000 ∧ okEL l
theorem okEL_app {l m : List Ex} (h : okEL l) (h' : okEL m) : okEL (l ++ m) := okEL_iff.2 fun y hy => (List.mem_append.1 hy).elim (okEL_iff.1 h y) (okEL_iff.1 h' y)
theorem enR_get (l : List (List Ex)) (i : Nat) (h : i < l.length) : (enR l)[i]? = some [.sl 8 (exL l[i])] := by simp [enR, h]
theorem itC_get (l : List (Bool × Ex)) (i : Nat) (h : i < l.length) : (l.map itC)[i]? = some (.v (.bool l[i].1) :: exC l[i].2) := by simp [h, itC]
theorem soC_get (l : List So) (i : Nat) (h : i < l.length) : (l.map soC)[i]? = some [.v (.string l[i].1), .v (.string l[i].2.1), .sl 8 (exL l[i].2.2)] := by simp [h, soC]
theorem keC_get (l : List (Ex × Bool)) (i : Nat) (h : i < l.length) : (l.map keC)[i]? = some (exC l[i].1 ++ [.v (.bool l[i].2)]) := by simp [h, keC]
theorem toPs_map : ∀ l : List PV, toPs (l.map AV.p) = some l
 | [] => rfl
 | x :: l => by simp [toPs, toP, toPs_map l]
theorem it_part (b : Bool) (x : Ex) : List.take 8 (List.drop 1 (List.map AV.p (.v (.bool b) :: exC x))) = (exC x).map .p := by
 simp only [List.map_cons, List.drop_succ_cons, List.drop_zero]
 rw [List.take_of_length_le (by simp [exC_len])]
theorem ke_part (b : Bool) (x : Ex) : List.take 8 (List.drop 0 (List.map AV.p (exC x ++ [.v (.bool b)]))) = (exC x).map .p := by
 simp only [List.map_append, List.drop_zero]
 rw [List.take_append_of_le_length (by simp [exC_len]), List.take_of_length_le (by simp [exC_len])]
theorem take8 (x : Ex) : List.take 8 (List.map AV.p (exC x)) = (exC x).map .p := List.take_of_length_le (by simp [exC_len])
theorem take8k (b : Bool) (x : Ex) : List.take 8 (List.map AV.p (exC x ++ [.v (.bool b)])) = (exC x).map .p := by
 simp only [List.map_append]
 rw [List.take_append_of_le_length (by simp [exC_len]), List.take_of_length_le (by simp [exC_len])]
theorem aallE (s : Sm) (hs : Bd s) (σ : St) : ACalls Tryz.prog 29 [.agg ((smC s).map .p)] σ fun r s => s = σ ∧ AllER r := by
 refine ACalls.pureF ?_ rfl σ
 obtain ⟨kind, tb, nm, cols, names, rows, items, src, wh, group, order, limit, sets, hash⟩ := s
 obtain ⟨b1, b2, b3, b4, b5, b6, b7, b8, b9, b10, b11, b12⟩ := hs
 simp only at b1 b2 b3 b4 b5 b6 b7 b8 b9 b10 b11 b12
 simp only [smC, List.map_cons, List.map_nil]
 refine acalls_of cx_ok dr_ok Tryz.func29 (by kernel_rfl) rfl (nt := 80) (rs := [.tmp 2]) rfl rfl ?_
 simp only [↓wBA, tPl, convA, ZA, reduceIte, reduceCtorEq, ZB, ZC, ZD, ZE, ZF, ZG, ZH, ZI, ZJ, ZK]
 refine awp_loop' (X := { q : Nat × List Ex // q.1 ≤ rows.length ∧ q.2.length ≤ 0 + q.1 * 2050 ∧ okEL q.2 }) (fun q => ([.any, .mp 0 14 0 0, .any, .nown 1 8 (exL q.1.2), intV .i64 (q.1.1 : Nat), .any, .any, .any, .any, .any, .any, .any, .any, .any, .any, .any, .any, .any, .any, .any, .any, .any, .any, .any, .any, .any, .any, .any, .any, .any, .any, .any, .any, .any, .any, .any, .any, .any, .any, .any, .any, .any, .any, .any, .any, .any, .any, .any, .any, .any, .any, .any, .any, .any, .any, .any, .any, .any, .any, .any, .any, .any, .any, .any, .any, .any, .any, .any, .any, .any, .any, .any, .any, .any, .any, .any, .any, .any, .any, .any, .any], [some (.row 14 [[.p (.v (.int .i64 kind)), .p (.v (.string tb)), .p (.v (.string nm)), .p (.sl 4 (cols.map coC)), .p (nilSl 1 (enS names)), .p (.sl 1 (enR rows)), .p (.sl 9 (items.map itC)), .p (.sl 3 (src.map soC)), .p (.sl 8 (exL wh)), .p (.sl 8 (exL group)), .p (.sl 9 (order.map keC)), .p (.v (.int .i64 limit)), .p (.sl 8 (exL sets)), .p (.v (.bool hash))]]), some (.nright 78 (q.1.2.length * 8))])) (fun q => rows.length - q.1.1) ⟨(0, []), by simp [okEL]⟩ (fun q => by simp) ?_ ?_
 ·simp [WeakE, Weak, leL, leT, leM, leG, leA, leC, leR, leS, leO, tokLt, tokLtL, intV, boolV, exL, exL_app, exL_len, leaf, nilA, itC, soC, keC]
 ·rintro ⟨⟨i, l⟩, hi, hln, hok⟩
  simp only at hi hln hok
  by_cases hlt : i < rows.length
  ·have hdec := dT (i := i) (n := rows.length) (by omega)
   have hi0 := nnI i
   have hw := wI i (by omega)
   have hg := enR_get rows i hlt
   obtain ⟨hr1, hnew⟩ := b3 rows[i] (List.getElem_mem hlt)
   have hlim1 := tL (n := (l.length + rows[i].length) * 104) (by omega)
   have hlim2 := lM (n := l.length + rows[i].length) (by omega)
   simp only [↓wBA, tPl, convA, ZA, reduceIte, reduceCtorEq, ZB, ZC, ZD, ZE, ZF, ZG, ZH, ZI, ZJ, ZK, enR_len, List.length_map, exL_len, hdec, hi0, hg, exC_len, appendA, srcA, hlim1, hlim2, hw, List.length_append, List.cons_append]
   refine ⟨⟨(i + 1, l ++ rows[i]), by simp only [List.length_append, List.length_cons, List.length_nil]; exact ⟨by omega, by omega, okEL_app hok hnew⟩⟩, by show rows.length - (i + 1) < rows.length - i; omega, ?_⟩
   simp [WeakE, Weak, leL, leT, leM, leG, leA, leC, leR, leS, leO, tokLt, tokLtL, intV, boolV, exL, exL_app, exL_len, leaf, nilA, itC, soC, keC]
  ·have hdec := dF (i := i) (n := rows.length) (by omega)
   simp only [↓wBA, tPl, convA, ZA, reduceIte, reduceCtorEq, ZB, ZC, ZD, ZE, ZF, ZG, ZH, ZI, ZJ, ZK, enR_len, List.length_map, exL_len, hdec]
   have hle : l.length ≤ 4223000 := by have : i * 2050 ≤ 4223000 := Nat.mul_le_mul_right 2050 (show i ≤ 2060 by omega); omega
   clear hdec hln hlt hi
   refine awp_loop' (X := { q : Nat × List Ex // q.1 ≤ items.length ∧ q.2.length ≤ 4223000 + q.1 * 1 ∧ okEL q.2 }) (fun q => ([.any, .mp 0 14 0 0, .any, .nown 1 8 (exL q.1.2), .any, intV .i64 (q.1.1 : Nat), .any, .any, .any, .any, .any, .any, .any, .any, .any, .any, .any, .any, .any, .any, .any, .any, .any, .any, .any, .any, .any, .any, .any, .any, .any, .any, .any, .any, .any, .any, .any, .any, .any, .any, .any, .any, .any, .any, .any, .any, .any, .any, .any, .any, .any, .any, .any, .any, .any, .any, .any, .any, .any, .any, .any, .any, .any, .any, .any, .any, .any, .any, .any, .any, .any, .any, .any, .any, .any, .any, .any, .any, .any, .any, .any], [some (.row 14 [[.p (.v (.int .i64 kind)), .p (.v (.string tb)), .p (.v (.string nm)), .p (.sl 4 (cols.map coC)), .p (nilSl 1 (enS names)), .p (.sl 1 (enR rows)), .p (.sl 9 (items.map itC)), .p (.sl 3 (src.map soC)), .p (.sl 8 (exL wh)), .p (.sl 8 (exL group)), .p (.sl 9 (order.map keC)), .p (.v (.int .i64 limit)), .p (.sl 8 (exL sets)), .p (.v (.bool hash))]]), some (.nright 78 (q.1.2.length * 8))])) (fun q => items.length - q.1.1) ⟨(0, l), by simp [okEL]; exact ⟨by omega, hok⟩⟩ (fun q => by simp) ?_ ?_
   ·simp [WeakE, Weak, leL, leT, leM, leG, leA, leC, leR, leS, leO, tokLt, tokLtL, intV, boolV, exL, exL_app, exL_len, leaf, nilA, itC, soC, keC]
   ·rintro ⟨⟨i, l⟩, hi, hln, hok⟩
    simp only at hi hln hok
    by_cases hlt : i < items.length
    ·have hdec := dT (i := i) (n := items.length) (by omega)
     have hi0 := nnI i
     have hw := wI i (by omega)
     have hg := itC_get items i hlt
     have hnew := okEL_one (b5 items[i] (List.getElem_mem hlt))
     have hlim1 := tL (n := (l.length + 1) * 104) (by omega)
     have hlim2 := lM (n := l.length + 1) (by omega)
     simp only [↓wBA, tPl, convA, ZA, reduceIte, reduceCtorEq, ZB, ZC, ZD, ZE, ZF, ZG, ZH, ZI, ZJ, ZK, enR_len, List.length_map, exL_len, hdec, hi0, hg, exC_len, appendA, srcA, hlim1, hlim2, hw, List.length_append, take8, it_part, toPs_map, List.length_cons]
     refine ⟨⟨(i + 1, l ++ [items[i].2]), by simp only [List.length_append, List.length_cons, List.length_nil]; exact ⟨by omega, by omega, okEL_app hok hnew⟩⟩, by show items.length - (i + 1) < items.length - i; omega, ?_⟩
     simp [WeakE, Weak, leL, leT, leM, leG, leA, leC, leR, leS, leO, tokLt, tokLtL, intV, boolV, exL, exL_app, exL_len, leaf, nilA, itC, soC, keC]
    ·have hdec := dF (i := i) (n := items.length) (by omega)
     simp only [↓wBA, tPl, convA, ZA, reduceIte, reduceCtorEq, ZB, ZC, ZD, ZE, ZF, ZG, ZH, ZI, ZJ, ZK, enR_len, List.length_map, exL_len, hdec]
     have hle : l.length ≤ 4225060 := by have : i * 1 ≤ 2060 := Nat.mul_le_mul_right 1 (show i ≤ 2060 by omega); omega
     clear hdec hln hlt hi
     refine awp_loop' (X := { q : Nat × List Ex // q.1 ≤ src.length ∧ q.2.length ≤ 4225060 + q.1 * 2050 ∧ okEL q.2 }) (fun q => ([.any, .mp 0 14 0 0, .any, .nown 1 8 (exL q.1.2), .any, .any, intV .i64 (q.1.1 : Nat), .any, .any, .any, .any, .any, .any, .any, .any, .any, .any, .any, .any, .any, .any, .any, .any, .any, .any, .any, .any, .any, .any, .any, .any, .any, .any, .any, .any, .any, .any, .any, .any, .any, .any, .any, .any, .any, .any, .any, .any, .any, .any, .any, .any, .any, .any, .any, .any, .any, .any, .any, .any, .any, .any, .any, .any, .any, .any, .any, .any, .any, .any, .any, .any, .any, .any, .any, .any, .any, .any, .any, .any, .any, .any], [some (.row 14 [[.p (.v (.int .i64 kind)), .p (.v (.string tb)), .p (.v (.string nm)), .p (.sl 4 (cols.map coC)), .p (nilSl 1 (enS names)), .p (.sl 1 (enR rows)), .p (.sl 9 (items.map itC)), .p (.sl 3 (src.map soC)), .p (.sl 8 (exL wh)), .p (.sl 8 (exL group)), .p (.sl 9 (order.map keC)), .p (.v (.int .i64 limit)), .p (.sl 8 (exL sets)), .p (.v (.bool hash))]]), some (.nright 78 (q.1.2.length * 8))])) (fun q => src.length - q.1.1) ⟨(0, l), by simp [okEL]; exact ⟨by omega, hok⟩⟩ (fun q => by simp) ?_ ?_
     ·simp [WeakE, Weak, leL, leT, leM, leG, leA, leC, leR, leS, leO, tokLt, tokLtL, intV, boolV, exL, exL_app, exL_len, leaf, nilA, itC, soC, keC]
     ·rintro ⟨⟨i, l⟩, hi, hln, hok⟩
      simp only at hi hln hok
      by_cases hlt : i < src.length
      ·have hdec := dT (i := i) (n := src.length) (by omega)
       have hi0 := nnI i
       have hw := wI i (by omega)
       have hg := soC_get src i hlt
       obtain ⟨hr1, hnew⟩ := b7 src[i] (List.getElem_mem hlt)
       have hlim1 := tL (n := (l.length + src[i].2.2.length) * 104) (by omega)
       have hlim2 := lM (n := l.length + src[i].2.2.length) (by omega)
       simp only [↓wBA, tPl, convA, ZA, reduceIte, reduceCtorEq, ZB, ZC, ZD, ZE, ZF, ZG, ZH, ZI, ZJ, ZK, enR_len, List.length_map, exL_len, hdec, hi0, hg, exC_len, appendA, srcA, hlim1, hlim2, hw, List.length_append, List.cons_append]
       refine ⟨⟨(i + 1, l ++ src[i].2.2), by simp only [List.length_append, List.length_cons, List.length_nil]; exact ⟨by omega, by omega, okEL_app hok hnew⟩⟩, by show src.length - (i + 1) < src.length - i; omega, ?_⟩
       simp [WeakE, Weak, leL, leT, leM, leG, leA, leC, leR, leS, leO, tokLt, tokLtL, intV, boolV, exL, exL_app, exL_len, leaf, nilA, itC, soC, keC]
      ·have hdec := dF (i := i) (n := src.length) (by omega)
       simp only [↓wBA, tPl, convA, ZA, reduceIte, reduceCtorEq, ZB, ZC, ZD, ZE, ZF, ZG, ZH, ZI, ZJ, ZK, enR_len, List.length_map, exL_len, hdec]
       have hle : l.length ≤ 8448060 := by have : i * 2050 ≤ 4223000 := Nat.mul_le_mul_right 2050 (show i ≤ 2060 by omega); omega
       clear hdec hln hlt hi
       refine awp_loop' (X := { q : Nat × List Ex // q.1 ≤ order.length ∧ q.2.length ≤ 8448060 + q.1 * 1 ∧ okEL q.2 }) (fun q => ([.any, .mp 0 14 0 0, .any, .nown 1 8 (exL q.1.2), .any, .any, .any, intV .i64 (q.1.1 : Nat), .any, .any, .any, .any, .any, .any, .any, .any, .any, .any, .any, .any, .any, .any, .any, .any, .any, .any, .any, .any, .any, .any, .any, .any, .any, .any, .any, .any, .any, .any, .any, .any, .any, .any, .any, .any, .any, .any, .any, .any, .any, .any, .any, .any, .any, .any, .any, .any, .any, .any, .any, .any, .any, .any, .any, .any, .any, .any, .any, .any, .any, .any, .any, .any, .any, .any, .any, .any, .any, .any, .any, .any, .any], [some (.row 14 [[.p (.v (.int .i64 kind)), .p (.v (.string tb)), .p (.v (.string nm)), .p (.sl 4 (cols.map coC)), .p (nilSl 1 (enS names)), .p (.sl 1 (enR rows)), .p (.sl 9 (items.map itC)), .p (.sl 3 (src.map soC)), .p (.sl 8 (exL wh)), .p (.sl 8 (exL group)), .p (.sl 9 (order.map keC)), .p (.v (.int .i64 limit)), .p (.sl 8 (exL sets)), .p (.v (.bool hash))]]), some (.nright 78 (q.1.2.length * 8))])) (fun q => order.length - q.1.1) ⟨(0, l), by simp [okEL]; exact ⟨by omega, hok⟩⟩ (fun q => by simp) ?_ ?_
       ·simp [WeakE, Weak, leL, leT, leM, leG, leA, leC, leR, leS, leO, tokLt, tokLtL, intV, boolV, exL, exL_app, exL_len, leaf, nilA, itC, soC, keC]
       ·rintro ⟨⟨i, l⟩, hi, hln, hok⟩
        simp only at hi hln hok
        by_cases hlt : i < order.length
        ·have hdec := dT (i := i) (n := order.length) (by omega)
         have hi0 := nnI i
         have hw := wI i (by omega)
         have hg := keC_get order i hlt
         have hnew := okEL_one (b11 order[i] (List.getElem_mem hlt))
         have hlim1 := tL (n := (l.length + 1) * 104) (by omega)
         have hlim2 := lM (n := l.length + 1) (by omega)
         simp only [↓wBA, tPl, convA, ZA, reduceIte, reduceCtorEq, ZB, ZC, ZD, ZE, ZF, ZG, ZH, ZI, ZJ, ZK, enR_len, List.length_map, exL_len, hdec, hi0, hg, exC_len, appendA, srcA, hlim1, hlim2, hw, List.length_append, take8k, take8, ke_part, toPs_map, List.length_cons, List.length_append]
         refine ⟨⟨(i + 1, l ++ [order[i].1]), by simp only [List.length_append, List.length_cons, List.length_nil]; exact ⟨by omega, by omega, okEL_app hok hnew⟩⟩, by show order.length - (i + 1) < order.length - i; omega, ?_⟩
         simp [WeakE, Weak, leL, leT, leM, leG, leA, leC, leR, leS, leO, tokLt, tokLtL, intV, boolV, exL, exL_app, exL_len, leaf, nilA, itC, soC, keC]
        ·have hdec := dF (i := i) (n := order.length) (by omega)
         simp only [↓wBA, tPl, convA, ZA, reduceIte, reduceCtorEq, ZB, ZC, ZD, ZE, ZF, ZG, ZH, ZI, ZJ, ZK, enR_len, List.length_map, exL_len, hdec]
         have hle : l.length ≤ 8450120 := by have : i * 1 ≤ 2060 := Nat.mul_le_mul_right 1 (show i ≤ 2060 by omega); omega
         clear hdec hln hlt hi
         have hA1 := tL (n := (l.length + wh.length) * 104) (by omega)
         have hA2 := lM (n := l.length + wh.length) (by omega)
         have hB1 := tL (n := (l.length + wh.length + group.length) * 104) (by omega)
         have hB2 := lM (n := l.length + wh.length + group.length) (by omega)
         have hC1 := tL (n := (l.length + wh.length + group.length + sets.length) * 104) (by omega)
         have hC2 := lM (n := l.length + wh.length + group.length + sets.length) (by omega)
         simp only [↓wBA, tPl, convA, ZA, reduceIte, reduceCtorEq, ZB, ZC, ZD, ZE, ZF, ZG, ZH, ZI, ZJ, ZK, exL_len, appendA, srcA, hA1, hA2, hB1, hB2, hC1, hC2, List.length_append]
         refine ret_sl (R := AllER) (r1 := .p (.sl 8 (exL (l ++ wh ++ group ++ sets)))) rfl ?_ rfl ⟨_, rfl, by simp; omega, okEL_app (okEL_app (okEL_app hok b8.2) b9.2) b12.2⟩
         simp [leT, leG, leA, exL_app]
end Go.Proofs.YtcnkmandddfdmaaGreatDoor
namespace Go.Proofs.YtcnkmandddfdmaaGreatDoor
open Go.RowKit
open Nat renaming reduceBEq → ZA, reducePow → ZB, reduceAdd → ZC, reduceSub → ZD, reduceMul → ZE, reduceEqDiff → ZF, reduceLeDiff → ZG, reduceLT → ZH
open Int renaming reduceLT → ZI, reduceLE → ZJ, reduceToNat → ZK
def ParseR (r : AV) : Prop := ∃ (s : Sm) (e : Int), r = .tup [.agg ((smC s).map .p), intV .i64 e] ∧ (s.kind = 5 → s.names.length = s.sets.length ∧ s.names ≠ []) ∧ Bd s
def sm0 : Sm := { kind := 0, tb := emp, nm := emp, cols := [], names := [], rows := [], items := [], src := [], wh := [], group := [], order := [], limit := 0, sets := [], hash := false }
theorem bd0 : Bd sm0 := by constructor <;> simp [sm0, okEL]
theorem len_nilT (ts : List Tok) : lenA cx 64 (.p (nilSl 3 (encT ts))) = some ts.length := by
 cases ts with
 | nil => rfl
 | cons t ts => simp [nilSl, encT, lenA, ck_64, elemsA]
def nleC : List AV → List AV → Prop
 | [], [] => True
 | x :: l, y :: m => (x = y ∨ (x = nilA ∧ ∃ e, y = .p (.sl e []))) ∧ leaf y = true ∧ nleC l m
 | _, _ => False
theorem nleC.rep {M : View} : ∀ {l m : List AV} {us : List Value}, nleC l m → ARepL M l us → ARepL M m us ∧ m.all leaf = true
 | [], [], us, h, hx => by simpa [ARepL] using hx
 | x :: l, y :: m, us, h, hx => by
   simp only [ARepL] at hx ⊢
   obtain ⟨u, us', rfl, h1, h2⟩ := hx
   obtain ⟨g1, g2⟩ := nleC.rep h.2.2 h2
   refine ⟨⟨u, us', rfl, ?_, g1⟩, by simp [h.2.1, g2]⟩
   rcases h.1 with rfl | ⟨rfl, e, rfl⟩
   ·exact h1
   ·have := (rep_v h1).2; subst this
    simp only [ARep, PRep]
    exact .inl ⟨trivial, none, 0, rfl, fun _ => rfl⟩
 | [], y :: m, us, h, hx => h.elim
 | x :: l, [], us, h, hx => h.elim
theorem ACalls.aggW {P : Program} {f : FuncId} {l m rest : List AV} {σ : St} {R : AV → St → Prop} (h : nleC l m) (hc : ACalls P f (.agg m :: rest) σ R) : ACalls P f (.agg l :: rest) σ R :=
 ⟨hc.1, fun M vs hM hv => hc.2 M vs hM (by
  simp only [ARepL, ARep] at hv ⊢
  obtain ⟨u, us', rfl, ⟨_, us, rfl, h2⟩, h3⟩ := hv
  obtain ⟨g1, g2⟩ := h.rep h2
  exact ⟨_, us', rfl, ⟨g2, us, rfl, g1⟩, h3⟩)⟩
end Go.Proofs.YtcnkmandddfdmaaGreatDoor
