/- cadastreref23: an expression for a column, rows that may be, values put into columns. cadastreref23: the condition, the rows of which it holds, the writes of a delete. cadastreref23.Update tells what the program's does. -/
import Derived.Test.YtcnkmandddfdmaaGreatM32
import Derived.Test.YtcnkmandddfdmaaGreatM25
import Derived.Test.YtcnkmandddfdmaaGreatM26
import Derived.Test.YtcnkmandddfdmaaGreatM28
import Derived.Test.YtcnkmandddfdmaaGreatM23
import Derived.Test.YtcnkmandddfdmaaGreatM27
set_option linter.unusedSimpArgs false
set_option linter.unusedVariables false
set_option linter.defProp false
set_option maxRecDepth 100000
set_option maxHeartbeats 32000000
namespace Go.Proofs.YtcnkmandddfdmaaGreat
open Go.RowKit
def pl26_9Zb : Plan := (.det 0 (.det 1 (.det 2 (.det 3 (.det 4 (.det 5 (.det 6 (.fin 7 .done))))))))
def tZb := aa wX <| aa wbu <| aa T3 <| aa T4 <| aa T22 <| aa T24 <| aa T33 <| aa T39 <| aa T52 <| aa T56 <| aa T58 <| aa T62 <| aa T70 T80
theorem aboundR (scope : List Bc) (hc : tyOk scope) (hl : scope.length ≤ 4398046511104) (x : Ex) (want : Int) (σ : St) : ACalls Tryz.prog 25 [exA x, intV .i64 want, .p (.sl 3 (enBc scope))] σ fun r s => s = σ ∧ r = .tup [exA (bndS scope x).1, intV .i64 (asgE scope x want)] := by
 refine ACalls.pureF (R := fun r => r = .tup [exA (bndS scope x).1, intV .i64 (asgE scope x want)]) ?_ (by cases x; rfl) σ
 have hB := abindR scope hc hl x
 unfold BrOK at hB
 unfold asgE
 generalize bndS scope x = q at *
 obtain ⟨y, t, e⟩ := q
 obtain ⟨x1, x2, x3, x4, x5, x6, x7, x8⟩ := x
 obtain ⟨y1, y2, y3, y4, y5, y6, y7, y8⟩ := y
 simp only [exA, exC, List.map_cons, List.map_nil] at hB
 refine acalls_of cx_ok dr_ok Tryz.func25 (by kernel_rfl) rfl (nt := 28) (rs := [.cell 6 70, .tmp 7]) rfl rfl ?_
 simp only [exA, exC, List.map_cons, List.map_nil]
 repeat' first | ((with_reducible first | refine cs ?_ ?_ | refine ws ?_ ?_) <;> intro h <;> try simp only [h]) | simp only [↓wBA, tZb, convA, seval] | ((with_reducible show ACalls _ _ _ _ _); refine (hB _).eq ?_)
 all_goals refine ret_is (a := _) ?_ rfl rfl
 all_goals simp only [↓wBA, tZb, convA, seval]
 all_goals simp_all [wS]
 all_goals grind
theorem ACalls.nilX3 {P : Program} {f : FuncId} {e : Nat} {a b : AV} {rest : List AV} {σ : St} {R : AV → St → Prop} (hc : ACalls P f (a :: b :: .p (.sl e []) :: rest) σ R) : ACalls P f (a :: b :: nilA :: rest) σ R :=
 ⟨hc.1, fun M vs hM hv => hc.2 M vs hM (by
  simp only [ARepL] at hv ⊢
  obtain ⟨ua, _, rfl, ha, ub, _, rfl, hb, u, us', rfl, h1, h2⟩ := hv
  have := (rep_v h1).2; subst this
  refine ⟨ua, _, rfl, ha, ub, _, rfl, hb, _, us', rfl, ?_, h2⟩
  simp only [ARep, PRep]
  exact .inl ⟨trivial, none, 0, rfl, fun _ => rfl⟩)⟩
theorem aboundN (x : Ex) (want : Int) (σ : St) : ACalls Tryz.prog 25 [exA x, intV .i64 want, nilA] σ fun r s => s = σ ∧ r = .tup [exA (bndS [] x).1, intV .i64 (asgE [] x want)] :=
 ACalls.nilX3 (e := 3) (aboundR [] (fun _ h => by simp at h) (by simp) x want σ)
theorem asoundR (r : List Va) (nm : ByteArray) (cols : List Tc) (hcl : cols.length ≤ 4398046511104) (hr : r.length = cols.length) (σ : St) : ACalls Tryz.prog 28 [.p (.sl 3 (enV r)), tbA nm cols] σ fun q s => s = σ ∧ q = boolV (rowOk cols r) := by
 refine ACalls.pureF (R := fun q => q = boolV (rowOk cols r)) ?_ rfl σ
 have hF := afitsR r
 refine acalls_of cx_ok dr_ok Tryz.func28 (by kernel_rfl) rfl (nt := 27) (rs := [.tmp 4]) rfl rfl ?_
 simp only [tbA]
 simp only [↓wBA, tZb, convA, seval, enTc_len]
 refine awp_loopN (cols.length) (fun k => [(5, intV .i64 (k : Nat)), (4, .any), (6, .any), (7, .any), (8, .any), (9, .any), (10, .any), (11, .any), (12, .any), (13, .any), (14, .any), (15, .any), (16, .any), (17, .any), (18, .any), (19, .any), (20, .any), (21, .any), (22, .any), (23, .any), (24, .any), (25, .any), (26, .any)]) (fun k => []) (fun k => ∀ j (hj : j < k) (h1 : j < cols.length) (h2 : j < r.length), (cols[j].2.2.1 && (r[j].1 == 0)) = false) ?_ ?_ ?_
 ·intro j hj; omega
 ·skip
  simp only [wR, Nat.reduceAdd, Nat.reduceLT, reduceIte]
  simp [wW]
 ·intro k hk hK
  simp only [wR, Nat.reduceAdd, Nat.reduceLT, reduceIte]
  by_cases hltk : k < cols.length
  ·have hdk := dT (i := k) (n := cols.length) (by omega)
   have hk0 := nnI k
   have hwk := wI k (by omega)
   have hkr : k < r.length := by omega
   have hgt := enTc_get cols k hltk
   have hgr := enV_get r k hkr
   have hb1 : (cols[k].2.2.1 && (r[k].1 == 0)) = true → rowOk cols r = false := fun h => by unfold rowOk; rw [nnOk_bad cols r k hltk hkr h]; rfl
   have hn1 : (cols[k].2.2.1 && (r[k].1 == 0)) = false → ∀ j (h : j < k + 1) (h1 : j < cols.length) (h2 : j < r.length), (cols[j].2.2.1 && (r[j].1 == 0)) = false := fun h j hj h1 h2 => by
    by_cases e : j = k
    ·subst e; exact h
    ·exact hK j (by omega) h1 h2
   rcases hc : cols[k] with ⟨c1, c2, c3, c4⟩
   rcases hv : r[k] with ⟨v1, v2, v3⟩
   rw [hc] at hgt hb1 hn1
   rw [hv] at hgr hb1 hn1
   simp only [tcC, vaC] at hgt hgr hb1 hn1
   cases c3
   ·skip
    repeat' first | ((with_reducible first | refine cs ?_ ?_ | refine ws ?_ ?_) <;> intro h <;> try simp only [h]) | simp only [↓wBA, tZb, convA, seval, enV_len, enTc_len, hdk, hk0, hwk, hgt, hgr]
    refine ⟨⟨k + 1, by omega, ?_⟩, by show cols.length - (k + 1) < cols.length - k; omega, ?_⟩
    ·exact hn1 rfl
    ·skip
     simp [wW]
   ·by_cases h0 : v1 = 0
    ·have h0' : (v1 == 0) = true := by simpa using h0
     have hf := hb1 (by rw [h0']; rfl)
     simp only [hf]
     repeat' first | ((with_reducible first | refine cs ?_ ?_ | refine ws ?_ ?_) <;> intro h <;> try simp only [h]) | simp only [↓wBA, tZb, convA, seval, enV_len, enTc_len, hdk, hk0, hwk, hgt, hgr, h0']
     all_goals refine ret_is (a := _) ?_ rfl rfl
     all_goals simp only [↓wBA, tZb, convA, seval]
     all_goals simp_all [wS]
    ·have h0' : (v1 == 0) = false := by simpa using h0
     repeat' first | ((with_reducible first | refine cs ?_ ?_ | refine ws ?_ ?_) <;> intro h <;> try simp only [h]) | simp only [↓wBA, tZb, convA, seval, enV_len, enTc_len, hdk, hk0, hwk, hgt, hgr, h0']
     refine ⟨⟨k + 1, by omega, ?_⟩, by show cols.length - (k + 1) < cols.length - k; omega, ?_⟩
     ·exact hn1 (by rw [h0']; rfl)
     ·skip
      simp [wW]
  ·have hdk := dF (i := k) (n := cols.length) (by omega)
   have hnn := nnOk_ok cols r fun j h1 h2 => hK j (by omega) h1 h2
   have hro : rowOk cols r = fitsV r := by unfold rowOk; rw [hnn]; rfl
   simp only [hro]
   repeat' first | ((with_reducible first | refine cs ?_ ?_ | refine ws ?_ ?_) <;> intro h <;> try simp only [h]) | simp only [↓wBA, tZb, convA, seval, enTc_len, hdk] | ((with_reducible show ACalls _ _ _ _ _); refine (hF _).eq ?_)
   all_goals refine ret_is (a := _) ?_ rfl rfl
   all_goals simp only [↓wBA, tZb, convA, seval]
   all_goals simp_all [wS]
def cxP : Ctx := { cx with muts := [58 * 100000 + 15] }
theorem cxP_ok : cxP.ok Tryz.prog := cx_ok
theorem drP_ok : DrawOk Tryz.prog (aDraw Tryz.prog cxP) := aDraw_ok cxP_ok (by kernel_rfl)
theorem kindP (t : TypeId) : cxP.kind t = cx.kind t := nr rfl
theorem tyP' (t : TypeId) : cxP.ty t = cx.ty t := nr rfl
theorem mutsP : cxP.muts = [58 * 100000 + 15] := nr rfl
theorem lenP (t : TypeId) (x : AV) : lenA cxP t x = lenA cx t x := nr rfl
theorem aputE (row : List Va) (xs : List Ex) (cs : List Int) (hx : xs.length ≤ cs.length) (hcs : ∀ c ∈ cs, 0 ≤ c ∧ c.toNat < row.length) (hl : row.length ≤ 4398046511104) (hxl : xs.length ≤ 4398046511104) (hrow : ∀ v ∈ row, i64R v.2.1) (hxr : ∀ x ∈ xs, rgE x) (σ : St) : ACalls Tryz.prog 26 [.p (.sl 3 (enV row)), .p (.sl 8 (exL xs)), .p (.sl 1 (enI cs))] σ fun r s => s = σ ∧ r = .tup [.p (.sl 3 (enV (wrkS row xs cs 0).1)), intV .i64 (wrkS row xs cs 0).2] := by
 refine ACalls.pureF (R := fun r => r = .tup [.p (.sl 3 (enV (wrkS row xs cs 0).1)), intV .i64 (wrkS row xs cs 0).2]) ?_ rfl σ
 unfold wrkS
 have hzl : (xs.zip cs).length = xs.length := by simp; omega
 cases hrw : row with
 | nil =>
   subst hrw
   have hc0 : cs = [] := by
    cases cs with
    | nil => rfl
    | cons c cs => have := (hcs c (by simp)).2; simp at this
   have hx0 : xs = [] := by subst hc0; simpa using hx
   subst hc0 hx0
   have hml : (0 ≤ maxLen) = True := eq_true (Nat.zero_le _)
   have hen : enV [] = [] := rfl
   refine acalls_of cx_ok dr_ok Tryz.func26 (by kernel_rfl) rfl (nt := 40) (rs := [.tmp 6, .tmp 7]) rfl rfl ?_
   repeat' first | ((with_reducible first | refine cs ?_ ?_ | refine ws ?_ ?_ | refine wd ?_ ?_ | refine wu ?_ ?_) <;> intro h <;> try simp only [h]) | simp only [↓wBA, tZb, convA, seval, pl26_9Zb, exL_len, appendA, srcA, hen, List.length_nil, hml, Nat.zero_le, Nat.zero_mul] | (with_reducible refine dP pl26_9Zb 8 (some 34) (by decide) (by kernel_rfl) ?_)
   refine awp_loopN (0) (fun i => [(9, intV .i64 0), (10, intV .i64 (i : Nat)), (11, .any), (12, .any), (16, .any), (17, .any), (18, .any), (19, .any), (20, .any), (21, .any), (22, .any), (23, .any), (24, .any), (25, .any), (26, .any), (27, .any), (28, .any), (29, .any), (30, .any), (31, .any), (32, .any), (33, .any), (34, .any), (35, .any), (36, .any), (37, .any), (38, .any), (39, .any), (40, .any)]) (fun i => []) (fun i => True) ?_ ?_ ?_
   ·trivial
   ·skip
    simp only [wR, Nat.reduceAdd, Nat.reduceLT, reduceIte]
    simp [wW]
   ·intro i hi _
    have : i = 0 := by omega
    subst this
    simp only [wR, Nat.reduceAdd, Nat.reduceLT, reduceIte]
    repeat' first | ((with_reducible first | refine cs ?_ ?_ | refine ws ?_ ?_ | refine wd ?_ ?_ | refine wu ?_ ?_) <;> intro h <;> try simp only [h]) | simp only [↓wBA, tZb, convA, seval, pl26_9Zb, exL, List.length_nil, decide_false, nc0] | (with_reducible refine dP pl26_9Zb 8 (some 34) (by decide) (by kernel_rfl) ?_)
    all_goals refine ret_is (a := _) ?_ rfl rfl
    all_goals simp only [↓wBA, tZb, convA, seval]
    all_goals simp_all [wS, enV]
 | cons v l =>
   have hrl : row.length = l.length + 1 := by rw [hrw]; rfl
   have hlim1 := tL (n := (l.length + 1) * 32) (by omega)
   have hlim2 := lM (n := l.length + 1) (by omega)
   have hpos : (0 < l.length + 1) = True := eq_true (by omega)
   have hmu : (enV row).map (fun c => c.map AV.p) = muR row := by simp [muR, enV]
   rw [← hrw]
   refine acalls_of cxP_ok drP_ok Tryz.func26 (by kernel_rfl) rfl (nt := 40) (rs := [.tmp 6, .tmp 7]) rfl rfl ?_
   repeat' first | ((with_reducible first | refine cs ?_ ?_ | refine ws ?_ ?_ | refine wd ?_ ?_ | refine wu ?_ ?_) <;> intro h <;> try simp only [h]) | simp only [↓wBA, tZb, convA, seval, pl26_9Zb, exL_len, appendM, srcA, enV_len, hrl, hlim1, hlim2, hpos, hmu, kindP, tyP', mutsP, lenP] | (with_reducible refine dP pl26_9Zb 8 (some 34) (by decide) (by kernel_rfl) ?_)
   refine awp_loopN (xs.length) (fun i => [(9, intV .i64 (((xs.zip cs).take i).foldl (wStep row) (row, 0)).2), (10, intV .i64 (i : Nat)), (11, .any), (12, .any), (16, .any), (17, .any), (18, .any), (19, .any), (20, .any), (21, .any), (22, .any), (23, .any), (24, .any), (25, .any), (26, .any), (27, .any), (28, .any), (29, .any), (30, .any), (31, .any), (32, .any), (33, .any), (34, .any), (35, .any), (36, .any), (37, .any), (38, .any), (39, .any), (40, .any)]) (fun i => [(0, .row 3 (muR (((xs.zip cs).take i).foldl (wStep row) (row, 0)).1))]) (fun i => True) ?_ ?_ ?_
   ·trivial
   ·skip
    simp only [wR, Nat.reduceAdd, Nat.reduceLT, reduceIte]
    simp [wW, mu_tok]
   ·intro i hi _
    simp only [wR, Nat.reduceAdd, Nat.reduceLT, reduceIte]
    by_cases hlt : i < xs.length
    ·have hdec := dT (i := i) (n := xs.length) (by omega)
     have hi0 := nnI i
     have hw := wI i (by omega)
     have hg := exL_at xs i hlt
     have hci : i < cs.length := by omega
     have hgc := enI_get cs i hci
     obtain ⟨hc0, hcl⟩ := hcs cs[i] (List.getElem_mem hci)
     have hc0' : ((0 : Int) ≤ cs[i]) = True := eq_true hc0
     have hc1' : (cs[i] < ((l.length + 1 : Nat) : Int)) = True := eq_true (by omega)
     have hst := take_step (wStep row) (row, 0) (xs.zip cs) i (by omega)
     have hzi : (xs.zip cs)[i]'(by omega) = (xs[i], cs[i]) := by simp
     rw [hzi] at hst
     have hsl := wGo_len row ((xs.zip cs).take i) (row, 0)
     have hE := aEvalR row hrow xs[i] (hxr _ (List.getElem_mem hlt))
     unfold EvOK at hE
     simp only [wStep] at hst
     have hmg : (muR (((xs.zip cs).take i).foldl (wStep row) (row, 0)).1)[cs[i].toNat]? = some ((vaC ((((xs.zip cs).take i).foldl (wStep row) (row, 0)).1[cs[i].toNat]'(by rw [hsl]; exact hcl))).map .p) := muR_get _ _ _
     rcases hev : evalV row xs[i] with ⟨⟨v1, v2, v3⟩, e⟩
     simp only [hev, exA, vaA, vaC, List.map_cons, List.map_nil] at hE hst
     generalize hcc : ((((xs.zip cs).take i).foldl (wStep row) (row, 0)).1[cs[i].toNat]'(by rw [hsl]; exact hcl)) = oldv at *
     have hvl : ((vaC oldv).map AV.p).length = 3 := rfl
     have hset : (muR (((xs.zip cs).take i).foldl (wStep row) (row, 0)).1).set cs[i].toNat [.p (.v (.int .i64 v1)), .p (.v (.int .i64 v2)), .p (.v (.string v3))] = muR ((((xs.zip cs).take i).foldl (wStep row) (row, 0)).1.set cs[i].toNat (v1, v2, v3)) := muR_set _ _ (v1, v2, v3)
     repeat' first | ((with_reducible first | refine cs ?_ ?_ | refine ws ?_ ?_ | refine wd ?_ ?_ | refine wu ?_ ?_) <;> intro h <;> try simp only [h]) | simp only [↓wBA, tZb, convA, seval, pl26_9Zb, exL_len, enI_len, hdec, hi0, hg, hw, hgc, hc0', hc1', hmg, hvl, hset, exC_len, List.length_map, kindP, tyP', mutsP, lenP] | ((with_reducible show ACalls _ _ _ _ _); first | refine (hE _).eq ?_ | refine (aleastR _ _ _).eq ?_) | (with_reducible refine dP pl26_9Zb 8 (some 34) (by decide) (by kernel_rfl) ?_)
     all_goals refine ⟨⟨i + 1, by omega, trivial⟩, by show xs.length - (i + 1) < xs.length - i; omega, ?_⟩
     all_goals simp only [hst]
     all_goals simp [wW, mu_tok]
    ·have hdec := dF (i := i) (n := xs.length) (by omega)
     have ht : (xs.zip cs).take i = xs.zip cs := List.take_of_length_le (by omega)
     have hsl := wGo_len row (xs.zip cs) (row, 0)
     simp only [ht]
     repeat' first | ((with_reducible first | refine cs ?_ ?_ | refine ws ?_ ?_ | refine wd ?_ ?_ | refine wu ?_ ?_) <;> intro h <;> try simp only [h]) | simp only [↓wBA, tZb, convA, seval, pl26_9Zb, exL_len, hdec, kindP, tyP', lenP] | (with_reducible refine dP pl26_9Zb 8 (some 34) (by decide) (by kernel_rfl) ?_)
     refine ret_is (a := .tup [.p (.sl 3 (enV ((xs.zip cs).foldl (wStep row) (row, 0)).1)), intV .i64 ((xs.zip cs).foldl (wStep row) (row, 0)).2]) ?_ rfl rfl
     simp only [resA, resL, resV, List.getD_cons_zero, List.getD_cons_succ]
     exact .inr ⟨_, _, rfl, rfl, .inl (le_msR rfl (by rw [hsl]; exact hrl.symm)), .inl (.inr (.inl ⟨rfl, rfl⟩)), trivial⟩
end Go.Proofs.YtcnkmandddfdmaaGreat
namespace Go.Proofs.YtcnkmandddfdmaaGreat
open Go.RowKit
def pl9_5Zd : Plan := (.det 0 (.det 1 (.det 2 (.det 3 (.det 4 (.two 5 (.two 6 (.det 7 (.det 8 (.det 9 (.act 10 (.fin 11 (.det 12 .done)))))) 10 (.fin 6 (.det 7 (.det 8 (.det 9 (.fin 11 (.det 12 .done))))))) 10 (.act 5 (.fin 6 (.det 7 (.det 8 (.det 9 (.fin 11 (.det 12 .done)))))))))))))
def pl15_10Zd : Plan := (.det 0 (.det 1 (.det 2 (.det 3 (.det 4 (.det 5 (.det 6 (.det 7 (.fin 8 (.fin 9 (.det 10 .done)))))))))))
def tZd := aa wX <| aa wbu <| aa T3 <| aa T4 <| aa T9 <| aa T24 <| aa T25 <| aa T33 <| aa T36 <| aa T39 <| aa T46 <| aa T58 <| aa T60 <| aa T70 T80
theorem whS_nil (scope : List Bc) : whS scope [] = ([], 0) := rfl
theorem whS_one (scope : List Bc) (x : Ex) : whS scope [x] = if asgE scope x 2 ≠ 0 then ([], asgE scope x 2) else ([(bndS scope x).1], 0) := by
 simp [whS, asgS, tyAt]
theorem awhereR (s : Sm) (hwl : s.wh.length ≤ 1) (nm : ByteArray) (cols : List Tc) (hty : tyOk (scopeS nm cols)) (hcl : cols.length ≤ 4398046511104) (σ : St) : ACalls Tryz.prog 9 [.agg ((smC s).map .p), tbA nm cols] σ fun r st => st = σ ∧ r = .tup [.p (.sl 8 (exL (whereS s nm cols).1)), intV .i64 (whereS s nm cols).2] := by
 refine ACalls.pureF (R := fun r => r = .tup [.p (.sl 8 (exL (whereS s nm cols).1)), intV .i64 (whereS s nm cols).2]) ?_ (by cases s; rfl) σ
 unfold whereS
 obtain ⟨kind, tb, sn, scols, names, rows, items, src, wh, group, order, limit, sets, hash⟩ := s
 simp only at hwl
 have hS := ascopeR nm cols hcl
 simp only [tbA] at hS
 have hsl : (scopeS nm cols).length ≤ 4398046511104 := by simp [scopeS]; omega
 generalize hscope : scopeS nm cols = scope at *
 have hB := fun x => aboundR scope hty hsl x 2
 refine acalls_of cx_ok dr_ok Tryz.func9 (by kernel_rfl) rfl (nt := 33) (rs := [.tmp 4, .tmp 5]) rfl rfl ?_
 simp only [tbA, smC, List.map_cons, List.map_nil]
 by_cases hk : kind ≠ 5 ∧ kind ≠ 6
 ·have k5 : (kind != 5) = true := by simpa using hk.1
  have k6 : (kind != 6) = true := by simpa using hk.2
  simp only [if_pos hk]
  repeat' first | ((with_reducible first | refine cs ?_ ?_ | refine ws ?_ ?_ | refine wd ?_ ?_ | refine wu ?_ ?_) <;> intro h <;> try simp only [h]) | simp only [↓wBA, tZd, convA, seval, pl9_5Zd, k5, k6] | (with_reducible refine dP pl9_5Zd 13 (some 21) (by decide) (by kernel_rfl) ?_) | with_reducible refine And.intro ?_ ?_
  all_goals refine ret_is (a := _) ?_ rfl rfl
  all_goals simp only [↓wBA, tZd, convA, seval]
  all_goals simp_all [wS, exL]
 ·simp only [if_neg hk]
  have k56 : (kind != 5 && kind != 6) = false := by simp; omega
  rcases wh with _ | ⟨x, _ | ⟨y, wh⟩⟩
  ·simp only [whS_nil]
   repeat' first | ((with_reducible first | refine cs ?_ ?_ | refine ws ?_ ?_ | refine wd ?_ ?_ | refine wu ?_ ?_) <;> intro h <;> try simp only [h]) | simp only [↓wBA, tZd, convA, seval, pl9_5Zd, exL, List.length_nil, nc0] | (with_reducible refine dP pl9_5Zd 13 (some 21) (by decide) (by kernel_rfl) ?_) | with_reducible refine And.intro ?_ ?_
   all_goals first | (exfalso; simp_all; done) | skip
   all_goals refine ret_is (a := _) ?_ rfl rfl
   all_goals simp only [↓wBA, tZd, convA, seval]
   all_goals simp_all [wS, exL]
  ·simp only [whS_one]
   have hB' := hB x
   generalize asgE scope x 2 = e at *
   generalize (bndS scope x).1 = y at *
   obtain ⟨x1, x2, x3, x4, x5, x6, x7, x8⟩ := x
   obtain ⟨y1, y2, y3, y4, y5, y6, y7, y8⟩ := y
   simp only [exA, exC, List.map_cons, List.map_nil] at hB'
   by_cases he : e = 0
   ·subst he
    simp only [ne_eq, not_true_eq_false, if_false]
    repeat' first | ((with_reducible first | refine cs ?_ ?_ | refine ws ?_ ?_ | refine wd ?_ ?_ | refine wu ?_ ?_) <;> intro h <;> try simp only [h]) | simp only [↓wBA, tZd, convA, seval, pl9_5Zd, exL, exC, List.length_cons, List.length_nil, nc1, bne_self_eq_false] | ((with_reducible show ACalls _ _ _ _ _); first | refine (hS _).eq ?_ | refine (hB' _).eq ?_) | (with_reducible refine dP pl9_5Zd 13 (some 21) (by decide) (by kernel_rfl) ?_) | with_reducible refine And.intro ?_ ?_
    all_goals first | (exfalso; simp_all; done) | skip
    all_goals refine ret_is (a := _) ?_ rfl rfl
    all_goals simp only [↓wBA, tZd, convA, seval]
    all_goals simp_all [wS, exL, exC]
   ·have he' : (e != 0) = true := by simpa using he
    simp only [ne_eq, he, not_false_eq_true, if_true]
    repeat' first | ((with_reducible first | refine cs ?_ ?_ | refine ws ?_ ?_ | refine wd ?_ ?_ | refine wu ?_ ?_) <;> intro h <;> try simp only [h]) | simp only [↓wBA, tZd, convA, seval, pl9_5Zd, exL, exC, List.length_cons, List.length_nil, nc1, he'] | ((with_reducible show ACalls _ _ _ _ _); first | refine (hS _).eq ?_ | refine (hB' _).eq ?_) | (with_reducible refine dP pl9_5Zd 13 (some 21) (by decide) (by kernel_rfl) ?_) | with_reducible refine And.intro ?_ ?_
    all_goals first | (exfalso; simp_all; done) | skip
    all_goals refine ret_is (a := _) ?_ rfl rfl
    all_goals simp only [↓wBA, tZd, convA, seval]
    all_goals simp_all [wS, exL, exC]
  ·simp at hwl
theorem ahitR (s : Sm) (hwl : s.wh.length ≤ 1) (nm : ByteArray) (cols : List Tc) (hty : tyOk (scopeS nm cols)) (hcl : cols.length ≤ 4398046511104) (rows : List (List Va)) (hn : rows.length ≤ 10000) (hr : ∀ r ∈ rows, ∀ v ∈ r, i64R v.2.1) (hrg : ∀ x ∈ (whereS s nm cols).1, rgE x) (σ : St) : ACalls Tryz.prog 35 [.agg ((smC s).map .p), tbA nm cols, .p (.sl 1 (enVV rows))] σ fun r st => st = σ ∧ r = .tup [.p (.sl 1 (enVV (hitS s nm cols rows).1)), intV .i64 (hitS s nm cols rows).2] := by
 refine ACalls.pureF (R := fun r => r = .tup [.p (.sl 1 (enVV (hitS s nm cols rows).1)), intV .i64 (hitS s nm cols rows).2]) ?_ (by cases s; rfl) σ
 have hW := awhereR s hwl nm cols hty hcl
 unfold hitS
 generalize hws : whereS s nm cols = ws at *
 obtain ⟨w, e⟩ := ws
 obtain ⟨kind, tb, sn, scols, names, srows, items, src, wh, group, order, limit, sets, hash⟩ := s
 simp only [tbA, smC, List.map_cons, List.map_nil] at hW
 simp only at hrg
 clear hws hwl
 have hT := atruthR true
 have htr : vaA (trV true) = .agg [.p (.v (.int .i64 2)), .p (.v (.int .i64 1)), .p (.v (.string ⟨#[]⟩))] := rfl
 rw [htr] at hT
 refine acalls_of cx_ok dr_ok Tryz.func35 (by kernel_rfl) rfl (nt := 30) (rs := [.tmp 6, .tmp 7]) rfl rfl ?_
 simp only [tbA, smC, List.map_cons, List.map_nil]
 by_cases he : e = 0
 ·subst he
  simp only [ne_eq, not_true_eq_false, if_false]
  cases w with
  | nil =>
    have hF := afilterR rows trueE (by simp [rgE, rgL, trueE]; decide) hn hr
    simp only [exA, exC, exL, trueE, List.map_cons, List.map_nil] at hF
    simp only [List.headD_nil]
    repeat' first | ((with_reducible first | refine cs ?_ ?_ | refine ws ?_ ?_) <;> intro h <;> try simp only [h]) | simp only [↓wBA, tZd, convA, seval, exL, List.length_nil, nc0, nc1, bne_self_eq_false, beq_self_eq_true] | ((with_reducible show ACalls _ _ _ _ _); first | refine (hW _).eq ?_ | refine (hT _).eq ?_ | (refine ACalls.aggW2 (m := [.p (.v (.int .i64 1)), .p (.v (.int .i64 2)), .p (.v (.int .i64 1)), .p (.v (.string emp)), .p (.v (.string emp)), .p (.v (.string emp)), .p (.v (.int .i64 0)), .p (.sl 8 [])]) (by simp [nleC, emp, leaf, nilA]) ((hF _).mono ?_); rintro _ _ ⟨rfl, rfl⟩))
    all_goals refine ret_is (a := _) ?_ rfl rfl
    all_goals simp only [↓wBA, tZd, convA, seval]
    all_goals simp_all [wS, trueE]
  | cons x w =>
    have hF := afilterR rows x (hrg x (by simp)) hn hr
    have hx8 : ((exC x).map AV.p).length = 8 := by rw [List.length_map, exC_len]
    obtain ⟨x1, x2, x3, x4, x5, x6, x7, x8⟩ := x
    simp only [exA, exC, List.map_cons, List.map_nil] at hF
    simp only [List.headD_cons]
    have hne : decide ((((w.length + 1 : Nat) : Int)) > 0) = true := by simp
    repeat' first | ((with_reducible first | refine cs ?_ ?_ | refine ws ?_ ?_) <;> intro h <;> try simp only [h]) | simp only [↓wBA, tZd, convA, seval, exL, exC, exL_len, hne, bne_self_eq_false, List.length_cons, List.length_map] | ((with_reducible show ACalls _ _ _ _ _); first | refine (hW _).eq ?_ | refine (hT _).eq ?_ | refine (hF _).eq ?_)
    all_goals refine ret_is (a := _) ?_ rfl rfl
    all_goals simp only [↓wBA, tZd, convA, seval]
    all_goals simp_all [wS]
 ·have he' : (e != 0) = true := by simpa using he
  simp only [ne_eq, he, not_false_eq_true, if_true]
  repeat' first | ((with_reducible first | refine cs ?_ ?_ | refine ws ?_ ?_) <;> intro h <;> try simp only [h]) | simp only [↓wBA, tZd, convA, seval, he'] | ((with_reducible show ACalls _ _ _ _ _); refine (hW _).eq ?_)
  all_goals refine ret_is (a := _) ?_ rfl rfl
  all_goals simp only [↓wBA, tZd, convA, seval]
  all_goals simp_all [wS, enVV]
theorem adeleteR (s : Sm) (hwl : s.wh.length ≤ 1) (nm : ByteArray) (cols : List Tc) (hty : tyOk (scopeS nm cols)) (hcl : cols.length ≤ 4398046511104) (rows : List (List Va)) (hn : rows.length ≤ 10000) (hr : ∀ r ∈ rows, ∀ v ∈ r, i64R v.2.1) (hrg : ∀ x ∈ (whereS s nm cols).1, rgE x) (σ : St) : ACalls Tryz.prog 15 [.agg ((smC s).map .p), tbA nm cols, .p (.sl 1 (enVV rows))] σ fun r st => st = σ ∧ r = .tup [.p (.sl 3 (enW nm (delS s nm cols rows).1)), intV .i64 (delS s nm cols rows).2] := by
 refine ACalls.pureF (R := fun r => r = .tup [.p (.sl 3 (enW nm (delS s nm cols rows).1)), intV .i64 (delS s nm cols rows).2]) ?_ (by cases s; rfl) σ
 have hH := ahitR s hwl nm cols hty hcl rows hn hr hrg
 have hsub := (hitS_sub s nm cols rows).1
 unfold delS
 generalize hws : hitS s nm cols rows = ws at *
 obtain ⟨old, e⟩ := ws
 obtain ⟨kind, tb, sn, scols, names, srows, items, src, wh, group, order, limit, sets, hash⟩ := s
 simp only [tbA, smC, List.map_cons, List.map_nil] at hH
 simp only at hsub
 clear hws hwl hrg
 refine acalls_of cx_ok dr_ok Tryz.func15 (by kernel_rfl) rfl (nt := 39) (rs := [.tmp 6, .tmp 7]) rfl rfl ?_
 simp only [tbA, smC, List.map_cons, List.map_nil]
 by_cases hk : kind = 6
 ·subst hk
  simp only [ne_eq, not_true_eq_false, if_false]
  by_cases he : e = 0
  ·subst he
   simp only [not_true_eq_false, if_false]
   repeat' first | ((with_reducible first | refine cs ?_ ?_ | refine ws ?_ ?_ | refine wd ?_ ?_ | refine wu ?_ ?_) <;> intro h <;> try simp only [h]) | simp only [↓wBA, tZd, convA, seval, pl15_10Zd, enVV_len, bne_self_eq_false] | ((with_reducible show ACalls _ _ _ _ _); refine (hH _).eq ?_) | (with_reducible refine dP pl15_10Zd 11 (some 31) (by decide) (by kernel_rfl) ?_)
   refine awp_loopN (old.length) (fun i => [(10, .nown 2 3 (enW nm ((old.take i).map fun r => (r, none)))), (11, intV .i64 (i : Nat)), (25, .any), (26, .any), (27, .any), (28, .any), (29, .any), (30, .any), (31, .any), (32, .any), (33, .any), (34, .any), (35, .any), (36, .any), (37, .any), (38, .any), (39, .any), (40, .any)]) (fun i => [(2, .nright 60 (i * 3))]) (fun i => True) ?_ ?_ ?_
   ·trivial
   ·skip
    simp only [wR, Nat.reduceAdd, Nat.reduceLT, reduceIte]
    simp [wW, enW]
   ·intro i hi _
    simp only [wR, Nat.reduceAdd, Nat.reduceLT, reduceIte]
    by_cases hlt : i < old.length
    ·have hdec := dT (i := i) (n := old.length) (by omega)
     have hi0 := nnI i
     have hw := wI i (by omega)
     have hg := enVV_get old i hlt
     have hst := del_succ nm old i hlt
     have htl : (enW nm ((old.take i).map fun r => (r, none))).length = i := by rw [enW_len]; simp; omega
     have hlim1 := tL (n := (i + 1) * 64) (by omega)
     have hlim2 := lM (n := i + 1) (by omega)
     repeat' first | ((with_reducible first | refine cs ?_ ?_ | refine ws ?_ ?_ | refine wd ?_ ?_ | refine wu ?_ ?_) <;> intro h <;> try simp only [h]) | simp only [↓wBA, tZd, convA, seval, pl15_10Zd, enVV_len, hdec, hi0, hg, hw, htl, hlim1, hlim2, appendA, srcA, List.length_append] | (with_reducible refine dP pl15_10Zd 11 (some 31) (by decide) (by kernel_rfl) ?_)
     all_goals refine ⟨⟨i + 1, by omega, trivial⟩, by show old.length - (i + 1) < old.length - i; omega, ?_⟩
     all_goals simp only [hst]
     all_goals simp [wW]
    ·have hdec := dF (i := i) (n := old.length) (by omega)
     have ht : old.take i = old := List.take_of_length_le (by omega)
     simp only [ht]
     repeat' first | ((with_reducible first | refine cs ?_ ?_ | refine ws ?_ ?_ | refine wd ?_ ?_ | refine wu ?_ ?_) <;> intro h <;> try simp only [h]) | simp only [↓wBA, tZd, convA, seval, pl15_10Zd, enVV_len, hdec] | (with_reducible refine dP pl15_10Zd 11 (some 31) (by decide) (by kernel_rfl) ?_)
     all_goals refine ret_is (a := _) ?_ rfl rfl
     all_goals simp only [↓wBA, tZd, convA, seval]
     all_goals simp_all [wS]
  ·have he' : (e != 0) = true := by simpa using he
   simp only [he, not_false_eq_true, if_true]
   repeat' first | ((with_reducible first | refine cs ?_ ?_ | refine ws ?_ ?_ | refine wd ?_ ?_ | refine wu ?_ ?_) <;> intro h <;> try simp only [h]) | simp only [↓wBA, tZd, convA, seval, pl15_10Zd, bne_self_eq_false, he'] | ((with_reducible show ACalls _ _ _ _ _); refine (hH _).eq ?_) | (with_reducible refine dP pl15_10Zd 11 (some 31) (by decide) (by kernel_rfl) ?_)
   all_goals refine ret_is (a := _) ?_ rfl rfl
   all_goals simp only [↓wBA, tZd, convA, seval]
   all_goals simp_all [wS, enW]
 ·have k6 : (kind != 6) = true := by simpa using hk
  simp only [ne_eq, hk, not_false_eq_true, if_true]
  repeat' first | ((with_reducible first | refine cs ?_ ?_ | refine ws ?_ ?_ | refine wd ?_ ?_ | refine wu ?_ ?_) <;> intro h <;> try simp only [h]) | simp only [↓wBA, tZd, convA, seval, pl15_10Zd, k6] | (with_reducible refine dP pl15_10Zd 11 (some 31) (by decide) (by kernel_rfl) ?_)
  all_goals refine ret_is (a := _) ?_ rfl rfl
  all_goals simp only [↓wBA, tZd, convA, seval]
  all_goals simp_all [wS, enW]
end Go.Proofs.YtcnkmandddfdmaaGreat
namespace Go.Proofs.YtcnkmandddfdmaaGreat
open Go.RowKit
def pl13_10Ze : Plan := (.det 0 (.det 1 (.det 2 (.det 3 (.det 4 (.det 5 (.det 6 (.det 7 (.det 8 (.det 9 (.det 10 (.det 11 (.det 12 (.det 13 (.det 14 (.two 15 (.two 16 (.det 17 (.det 18 (.det 19 (.act 20 (.fin 21 (.det 22 .done)))))) 20 (.fin 16 (.det 17 (.det 18 (.det 19 (.fin 21 (.det 22 .done))))))) 20 (.act 15 (.fin 16 (.det 17 (.det 18 (.det 19 (.fin 21 (.det 22 .done)))))))))))))))))))))))
def pl13_23Ze : Plan := (.det 0 (.det 1 (.det 2 (.det 3 (.det 4 (.det 5 (.det 6 (.det 7 (.det 8 (.fin 9 (.fin 10 (.det 11 .done))))))))))))
def pl13_27Ze : Plan := (.det 0 (.det 1 (.det 2 (.det 3 (.det 4 (.det 5 (.fin 6 (.det 7 .done))))))))
def tZe := aa wX <| aa wbu <| aa T3 <| aa T4 <| aa T9 <| aa T22 <| aa T24 <| aa T25 <| aa T29 <| aa T33 <| aa T36 <| aa T39 <| aa T46 <| aa T52 <| aa T58 <| aa T60 <| aa T62 <| aa T70 T80
theorem leastI_0 (e : Int) : leastI 0 e = e := by unfold leastI; split <;> omega
theorem leastI_as (a e x : Int) : leastI (leastI a e) x = leastI a (leastI e x) := by
 unfold leastI
 repeat' split
 all_goals omega
theorem wrkGo_least (row : List Va) : ∀ (zs : List (Ex × Int)) (r : List Va) (a : Int), zs.foldl (wStep row) (r, a) = ((zs.foldl (wStep row) (r, 0)).1, leastI a (zs.foldl (wStep row) (r, 0)).2)
 | [], r, a => by
   simp only [List.foldl_nil]
   have : leastI a 0 = a := by unfold leastI; rw [if_neg (by simp)]
   rw [this]
 | q :: zs, r, a => by
   simp only [List.foldl_cons, wStep]
   rw [wrkGo_least row zs _ (leastI a _), wrkGo_least row zs _ (leastI 0 _), leastI_0, leastI_as]
theorem wrk_least (row : List Va) (xs : List Ex) (cs : List Int) (a : Int) : wrkS row xs cs a = ((wrkS row xs cs 0).1, leastI a (wrkS row xs cs 0).2) := wrkGo_least row _ row a
theorem ACalls.nilW2 {P : Program} {f : FuncId} {e : Nat} {a : AV} {rest : List AV} {σ : St} {R : AV → St → Prop} (hc : ACalls P f (a :: .p (.sl e []) :: rest) σ R) : ACalls P f (a :: nilA :: rest) σ R :=
 ⟨hc.1, fun M vs hM hv => hc.2 M vs hM (by
  simp only [ARepL] at hv ⊢
  obtain ⟨ua, _, rfl, ha, u, us', rfl, h1, h2⟩ := hv
  have := (rep_v h1).2; subst this
  refine ⟨ua, _, rfl, ha, _, us', rfl, ?_, h2⟩
  simp only [ARep, PRep]
  exact .inl ⟨trivial, none, 0, rfl, fun _ => rfl⟩)⟩
theorem aputN (row : List Va) (xs : List Ex) (cs : List Int) (hx : xs.length ≤ cs.length) (hcs : ∀ c ∈ cs, 0 ≤ c ∧ c.toNat < row.length) (hl : row.length ≤ 4398046511104) (hxl : xs.length ≤ 4398046511104) (hrow : ∀ v ∈ row, i64R v.2.1) (hxr : ∀ x ∈ xs, rgE x) (σ : St) : ACalls Tryz.prog 26 [.p (.sl 3 (enV row)), .p (nilSl 8 (exL xs)), .p (.sl 1 (enI cs))] σ fun r s => s = σ ∧ r = .tup [.p (.sl 3 (enV (wrkS row xs cs 0).1)), intV .i64 (wrkS row xs cs 0).2] := by
 have h := aputE row xs cs hx hcs hl hxl hrow hxr
 cases xs with
 | nil => exact ACalls.nilW2 (e := 8) (h σ)
 | cons x xs => exact h σ
theorem atgtRN (names : List ByteArray) (nm : ByteArray) (cols : List Tc) (hu : unlikeC cols) (hn : names.length ≤ 4398046511104) (hl : cols.length ≤ 4398046511104) (σ : St) : ACalls Tryz.prog 24 [.p (nilSl 1 (enN names)), tbA nm cols] σ fun r s => s = σ ∧ r = .tup [.p (.sl 1 (enI (tgtS names cols).1)), intV .i64 (tgtS names cols).2] := by
 have hok : ∀ l : List ByteArray, (tGo cols l).2 = false → ∀ c ∈ (tGo cols l).1, 0 ≤ c := fun l h c hc => (tGo_ok cols l ([], false) h (by simp) c hc).1
 have h := atgtR names nm cols hu hok hn hl
 cases names with
 | nil => exact ACalls.nilW (e := 1) (h σ)
 | cons x xs => exact h σ
theorem uGo_some (xs : List Ex) (cs : List Int) : ∀ (l : List (List Va)) (s : List Wr × Int), (∀ w ∈ s.1, w.2 = some (newR w)) → ∀ w ∈ (l.foldl (uStep xs cs) s).1, w.2 = some (newR w)
 | [], s, h => h
 | r :: l, s, h => by
   rw [List.foldl_cons]
   refine uGo_some xs cs l _ fun w hw => ?_
   simp only [uStep, List.mem_append, List.mem_singleton] at hw
   rcases hw with hw | rfl
   ·exact h w hw
   ·rfl
theorem rowAll_ok (cols : List Tc) (l : List (List Va)) (h : ∀ j (hj : j < l.length), rowOk cols l[j] = true) : soundS cols l = 0 := by
 unfold soundS
 rw [if_pos]
 rw [List.all_eq_true]
 intro r hr
 obtain ⟨j, hj, rfl⟩ := List.getElem_of_mem hr
 exact h j hj
theorem aupdR (s : Sm) (hk5 : s.kind = 5 → s.names.length = s.sets.length) (hnl : s.names.length ≤ 1000000000000) (hwl : s.wh.length ≤ 1) (nm : ByteArray) (cols : List Tc) (hu : unlikeC cols) (hty : tyOk (scopeS nm cols)) (hcl : cols.length ≤ 4398046511104) (rows : List (List Va)) (hn : rows.length ≤ 10000) (hr : ∀ r ∈ rows, ∀ v ∈ r, i64R v.2.1) (hrc : ∀ r ∈ rows, r.length = cols.length) (hrg : ∀ x ∈ (whereS s nm cols).1, rgE x) (hsx : ∀ x ∈ zsF (scopeS nm cols) s.sets, rgE x) (σ : St) : ACalls Tryz.prog 13 [.agg ((smC s).map .p), tbA nm cols, .p (.sl 1 (enVV rows))] σ fun r st => st = σ ∧ r = .tup [.p (.sl 3 (enW nm (updS s nm cols rows).1)), intV .i64 (updS s nm cols rows).2] := by
 refine ACalls.pureF (R := fun r => r = .tup [.p (.sl 3 (enW nm (updS s nm cols rows).1)), intV .i64 (updS s nm cols rows).2]) ?_ (by cases s; rfl) σ
 have hH := ahitR s hwl nm cols hty hcl rows hn hr hrg
 have hT := atgtRN s.names nm cols hu (by omega) (by omega)
 have hTok := tgtS_ok s.names cols
 have hsub := hitS_sub s nm cols rows
 have hB := fun x want => aboundR (scopeS nm cols) hty (by simp [scopeS]; omega) x want
 have hSc := ascopeR nm cols hcl
 have hSd := fun r h => asoundR r nm cols hcl h
 unfold updS
 generalize hitS s nm cols rows = hs at *
 generalize hsp : uStep = stp at *
 generalize tgtS s.names cols = tg at *
 generalize scopeS nm cols = sc at *
 obtain ⟨old, eh⟩ := hs
 obtain ⟨cs, et⟩ := tg
 obtain ⟨kind, tb, sn, scols, names, srows, items, src, wh, group, order, limit, sets, hash⟩ := s
 simp only [tbA, smC, List.map_cons, List.map_nil, ← enS_enN] at hH hT hSc hSd
 simp only at hk5 hnl hTok hsub hsx
 clear hrg hwl
 refine acalls_of cx_ok dr_ok Tryz.func13 (by kernel_rfl) rfl (nt := 125) (rs := [.tmp 6, .tmp 7]) rfl rfl ?_
 simp only [tbA, smC, List.map_cons, List.map_nil]
 by_cases hk : kind = 5
 ·subst hk
  have hk5' := hk5 rfl
  simp only [ne_eq, not_true_eq_false, if_false]
  by_cases het : et = 0
  ·subst het
   obtain ⟨hcs1, hcs2⟩ := hTok rfl
   have hcsl : cs.length = sets.length := by omega
   simp only [not_true_eq_false, if_false]
   obtain ⟨az, haz⟩ : ∃ az, asgS sc cols sets cs = az := ⟨_, rfl⟩
   rw [haz]
   repeat' first | ((with_reducible first | refine cs ?_ ?_ | refine ws ?_ ?_ | refine wd ?_ ?_ | refine wu ?_ ?_) <;> intro h <;> try simp only [h]) | simp only [↓wBA, tZe, convA, seval, pl13_10Ze, pl13_23Ze, pl13_27Ze, bne_self_eq_false] | ((with_reducible show ACalls _ _ _ _ _); refine (hT _).eq ?_) | (with_reducible refine dP pl13_10Ze 23 (some 40) (by decide) (by kernel_rfl) ?_) | (with_reducible refine dP pl13_23Ze 12 (some 95) (by decide) (by kernel_rfl) ?_) | (with_reducible refine dP pl13_27Ze 8 (some 116) (by decide) (by kernel_rfl) ?_) | with_reducible refine And.intro ?_ ?_
   refine awp_loopN (cs.length) (fun i => [(10, .nown 2 8 (exL (zsF sc (sets.take i)))), (11, intV .i64 (i : Nat)), (6, .any), (7, .any), (12, .any), (13, .any), (33, .any), (34, .any), (35, .any), (36, .any), (37, .any), (38, .any), (39, .any), (40, .any), (41, .any), (42, .any), (43, .any), (44, .any), (45, .any), (46, .any), (47, .any), (48, .any), (49, .any), (50, .any), (51, .any), (52, .any), (53, .any), (54, .any), (55, .any), (56, .any), (57, .any), (58, .any), (59, .any), (60, .any), (61, .any), (62, .any), (63, .any), (64, .any), (65, .any)]) (fun i => [(2, .nright 70 (i * 8))]) (fun i => ∀ j (hj : j < i) (hj' : j < sets.length) (hc' : j < cs.length), asgE sc sets[j] (tyAt cols cs[j]) = 0) ?_ ?_ ?_
   ·intro j hj; omega
   ·skip
    simp only [wR, Nat.reduceAdd, Nat.reduceLT, reduceIte]
    simp [wW, zsF, exL]
   ·intro i hi hI
    simp only [wR, Nat.reduceAdd, Nat.reduceLT, reduceIte]
    by_cases hlt : i < cs.length
    ·have hdec := dT (i := i) (n := cs.length) (by omega)
     have hi0 := nnI i
     have hw := wI i (by omega)
     have his : i < sets.length := by omega
     have hgs := exL_at sets i his
     have hgc := enI_get cs i hlt
     obtain ⟨hc0, hcl'⟩ := hcs2 cs[i] (List.getElem_mem hlt)
     have hc0' : ((0 : Int) ≤ cs[i]) = True := eq_true hc0
     have hgt := enTc_get cols _ hcl'
     have hty' : tyAt cols cs[i] = (cols[cs[i].toNat]).2.1 := by unfold tyAt; simp [List.getD, hcl']
     have hBi := hB sets[i] (cols[cs[i].toNat]).2.1
     have hz1 := zsF_succ sc sets i his
     have hzl : (exL (zsF sc (sets.take i))).length = i := by rw [exL_len, zsF_len]; simp; omega
     have hlim1 := tL (n := (i + 1) * 104) (by omega)
     have hlim2 := lM (n := i + 1) (by omega)
     have hbad := asgS_bad sc cols sets cs i his hlt (fun j hj => hI j hj (by omega) (by omega))
     have hnext : asgE sc sets[i] (tyAt cols cs[i]) = 0 → ∀ j (hj : j < i + 1) (hj' : j < sets.length) (hc' : j < cs.length), asgE sc sets[j] (tyAt cols cs[j]) = 0 := fun h0 j hj hj' hc' => by
      by_cases e : j = i
      ·subst e; exact h0
      ·exact hI j (by omega) hj' hc'
     rw [hty'] at hbad hnext
     generalize hae : asgE sc sets[i] (cols[cs[i].toNat]).2.1 = ae at *
     obtain ⟨a1, a2, a3, a4, a5, a6, a7, a8, hz⟩ := exC_mk (bndS sc sets[i]).1
     rw [hz] at hz1
     simp only [exA, hz, List.map_cons, List.map_nil] at hBi
     rcases hcc : cols[cs[i].toNat] with ⟨c1, c2, c3, c4⟩
     rw [hcc] at hgt hBi
     simp only [tcC] at hgt
     simp only at hBi
     by_cases h0 : ae = 0
     ·subst h0
      repeat' first | ((with_reducible first | refine cs ?_ ?_ | refine ws ?_ ?_ | refine wd ?_ ?_ | refine wu ?_ ?_) <;> intro h <;> try simp only [h]) | simp only [↓wBA, tZe, convA, seval, pl13_10Ze, pl13_23Ze, pl13_27Ze, exL_len, enI_len, enTc_len, hdec, hi0, hgs, hw, hgc, hc0', hgt, hzl, hlim1, hlim2, appendA, srcA, List.length_append, exC_len, List.length_map, bne_self_eq_false] | ((with_reducible show ACalls _ _ _ _ _); first | refine (hSc _).eq ?_ | refine (hBi _).eq ?_) | (with_reducible refine dP pl13_10Ze 23 (some 40) (by decide) (by kernel_rfl) ?_) | (with_reducible refine dP pl13_23Ze 12 (some 95) (by decide) (by kernel_rfl) ?_) | (with_reducible refine dP pl13_27Ze 8 (some 116) (by decide) (by kernel_rfl) ?_) | with_reducible refine And.intro ?_ ?_
      all_goals refine ⟨⟨i + 1, by omega, hnext rfl⟩, by show cs.length - (i + 1) < cs.length - i; omega, ?_⟩
      all_goals simp only [hz1]
      all_goals simp [wW]
     ·have h0' : (ae != 0) = true := by simpa using h0
      have hb := hbad h0
      rw [haz] at hb
      simp only [hb]
      simp only [h0, not_false_eq_true, if_true]
      repeat' first | ((with_reducible first | refine cs ?_ ?_ | refine ws ?_ ?_ | refine wd ?_ ?_ | refine wu ?_ ?_) <;> intro h <;> try simp only [h]) | simp only [↓wBA, tZe, convA, seval, pl13_10Ze, pl13_23Ze, pl13_27Ze, exL_len, enI_len, enTc_len, hdec, hi0, hgs, hw, hgc, hc0', hgt, exC_len, List.length_map, h0'] | ((with_reducible show ACalls _ _ _ _ _); first | refine (hSc _).eq ?_ | refine (hBi _).eq ?_) | (with_reducible refine dP pl13_10Ze 23 (some 40) (by decide) (by kernel_rfl) ?_) | (with_reducible refine dP pl13_23Ze 12 (some 95) (by decide) (by kernel_rfl) ?_) | (with_reducible refine dP pl13_27Ze 8 (some 116) (by decide) (by kernel_rfl) ?_) | with_reducible refine And.intro ?_ ?_
      all_goals refine ret_is (a := _) ?_ rfl rfl
      all_goals simp only [↓wBA, tZe, convA, seval]
      all_goals simp_all [wS, enW]
    ·have hdec := dF (i := i) (n := cs.length) (by omega)
     have hsi : sets.take i = sets := List.take_of_length_le (by omega)
     have hok : asgS sc cols sets cs = (zsF sc sets, 0) := asgS_ok sc cols sets cs (by omega) (fun j hj hj' => hI j (by omega) hj hj')
     rw [haz] at hok
     simp only [hsi, hok]
     have hxl : (zsF sc sets).length = cs.length := by rw [zsF_len]; omega
     generalize hxs : zsF sc sets = xs at *
     clear hB hok haz
     simp only [not_true_eq_false, if_false]
     by_cases he : eh = 0
     ·subst he
      simp only [not_true_eq_false, if_false]
      have hol : old.length ≤ 10000 := by have := hsub.1; omega
      have horow : ∀ r ∈ old, r.length = cols.length := fun r h => hrc r (hsub.2 r h)
      have hor : ∀ r ∈ old, ∀ v ∈ r, i64R v.2.1 := fun r h => hr r (hsub.2 r h)
      repeat' first | ((with_reducible first | refine cs ?_ ?_ | refine ws ?_ ?_ | refine wd ?_ ?_ | refine wu ?_ ?_) <;> intro h <;> try simp only [h]) | simp only [↓wBA, tZe, convA, seval, pl13_10Ze, pl13_23Ze, pl13_27Ze, enI_len, hdec, bne_self_eq_false] | ((with_reducible show ACalls _ _ _ _ _); refine (hH _).eq ?_) | (with_reducible refine dP pl13_10Ze 23 (some 40) (by decide) (by kernel_rfl) ?_) | (with_reducible refine dP pl13_23Ze 12 (some 95) (by decide) (by kernel_rfl) ?_) | (with_reducible refine dP pl13_27Ze 8 (some 116) (by decide) (by kernel_rfl) ?_) | with_reducible refine And.intro ?_ ?_
      refine awp_loopN (old.length) (fun m => [(15, .nown 3 3 (enW nm ((old.take m).foldl (stp xs cs) ([], 0)).1)), (9, intV .i64 ((old.take m).foldl (stp xs cs) ([], 0)).2), (16, intV .i64 (m : Nat)), (17, .any), (18, .any), (76, .any), (77, .any), (78, .any), (79, .any), (80, .any), (81, .any), (82, .any), (83, .any), (84, .any), (85, .any), (86, .any), (87, .any), (88, .any), (89, .any), (90, .any), (91, .any), (92, .any), (93, .any), (94, .any), (95, .any), (96, .any), (97, .any), (98, .any), (99, .any), (100, .any), (101, .any), (102, .any), (103, .any), (104, .any), (105, .any)]) (fun m => [(3, .nright 60 (m * 3))]) (fun m => True) ?_ ?_ ?_
      ·trivial
      ·skip
       simp only [wR, Nat.reduceAdd, Nat.reduceLT, reduceIte]
       simp [wW, enW]
      ·intro m hm _
       simp only [wR, Nat.reduceAdd, Nat.reduceLT, reduceIte]
       by_cases hltm : m < old.length
       ·have hdm := dT (i := m) (n := old.length) (by omega)
        have hm0 := nnI m
        have hwm := wI m (by omega)
        have hgm := enVV_get old m hltm
        have hst := take_step (stp xs cs) ([], 0) old m hltm
        have hlen := uGo_len xs cs (old.take m) ([], 0)
        have hrl' := horow old[m] (List.getElem_mem hltm)
        have hPk := aputN old[m] xs cs (by omega) (fun c hc => by rw [hrl']; exact hcs2 c hc) (by omega) (by omega) (hor old[m] (List.getElem_mem hltm)) hsx
        rw [hsp] at hlen
        rw [← hsp] at hst
        simp only [uStep] at hst
        rw [hsp] at hst
        generalize hs : (old.take m).foldl (stp xs cs) ([], 0) = st at *
        obtain ⟨out, l⟩ := st
        have hol' : out.length = m := by simp at hlen; omega
        simp only at hst
        rw [wrk_least] at hst
        generalize hrow : old[m] = row at *
        generalize hwr : wrkS row xs cs 0 = wr at *
        obtain ⟨nrow, le⟩ := wr
        simp only at hst hPk
        have hA : enW nm (out ++ [(row, some nrow)]) = enW nm out ++ [[.v (.string nm), .sl 3 (enV row), .sl 3 (enV nrow)]] := by simp [enW, wrC]
        have htl : (enW nm out).length = m := by rw [enW_len, hol']
        have hlim1 := tL (n := (m + 1) * 64) (by omega)
        have hlim2 := lM (n := m + 1) (by omega)
        repeat' first | ((with_reducible first | refine cs ?_ ?_ | refine ws ?_ ?_ | refine wd ?_ ?_ | refine wu ?_ ?_) <;> intro h <;> try simp only [h]) | simp only [↓wBA, tZe, convA, seval, pl13_10Ze, pl13_23Ze, pl13_27Ze, enVV_len, hdm, hm0, hgm, hwm, htl, hlim1, hlim2, appendA, srcA, List.length_append] | ((with_reducible show ACalls _ _ _ _ _); first | (refine ACalls.frzArgs ?_; simp only [frzL, frzA]; refine (hPk _).eq ?_) | refine (aleastR _ _ _).eq ?_) | (with_reducible refine dP pl13_10Ze 23 (some 40) (by decide) (by kernel_rfl) ?_) | (with_reducible refine dP pl13_23Ze 12 (some 95) (by decide) (by kernel_rfl) ?_) | (with_reducible refine dP pl13_27Ze 8 (some 116) (by decide) (by kernel_rfl) ?_) | with_reducible refine And.intro ?_ ?_
        all_goals refine ⟨⟨m + 1, by omega, trivial⟩, by show old.length - (m + 1) < old.length - m; omega, ?_⟩
        all_goals simp only [hst, hA]
        all_goals simp [wW]
       ·have hdm := dF (i := m) (n := old.length) (by omega)
        have ht : old.take m = old := List.take_of_length_le (by omega)
        have hur := uGo_rows xs cs cols.length old ([], 0) horow (by simp)
        have hus := uGo_some xs cs old ([], 0) (by simp)
        have hul := uGo_len xs cs old ([], 0)
        rw [hsp] at hur hus hul
        simp only [ht]
        generalize hs : old.foldl (stp xs cs) ([], 0) = st at *
        obtain ⟨out, l⟩ := st
        simp only at hur hus hul
        have hol' : out.length = old.length := by simpa using hul
        unfold finU
        simp only
        by_cases hl : l = 0
        ·subst hl
         simp only [ne_eq, not_true_eq_false, if_false]
         repeat' first | ((with_reducible first | refine cs ?_ ?_ | refine ws ?_ ?_ | refine wd ?_ ?_ | refine wu ?_ ?_) <;> intro h <;> try simp only [h]) | simp only [↓wBA, tZe, convA, seval, pl13_10Ze, pl13_23Ze, pl13_27Ze, enVV_len, hdm] | (with_reducible refine dP pl13_10Ze 23 (some 40) (by decide) (by kernel_rfl) ?_) | (with_reducible refine dP pl13_23Ze 12 (some 95) (by decide) (by kernel_rfl) ?_) | (with_reducible refine dP pl13_27Ze 8 (some 116) (by decide) (by kernel_rfl) ?_) | with_reducible refine And.intro ?_ ?_
         refine awp_loopN (out.length) (fun q => [(19, intV .i64 (q : Nat)), (6, .any), (7, .any), (106, .any), (107, .any), (108, .any), (109, .any), (110, .any), (111, .any), (112, .any), (113, .any), (114, .any), (115, .any), (116, .any), (117, .any), (118, .any), (119, .any), (120, .any), (121, .any), (122, .any), (123, .any)]) (fun q => []) (fun q => ∀ j (hj : j < q) (hj' : j < out.length), rowOk cols (newR out[j]) = true) ?_ ?_ ?_
         ·intro j hj; omega
         ·skip
          simp only [wR, Nat.reduceAdd, Nat.reduceLT, reduceIte]
          simp [wW]
         ·intro q hq hQ
          simp only [wR, Nat.reduceAdd, Nat.reduceLT, reduceIte]
          by_cases hltq : q < out.length
          ·have hdq := dT (i := q) (n := out.length) (by omega)
           have hq0 := nnI q
           have hwq := wI q (by omega)
           have hgq := enW_get nm out q hltq
           have hqs := hus out[q] (List.getElem_mem hltq)
           have hql := hur (newR out[q]) (List.mem_map_of_mem (List.getElem_mem hltq))
           have hSq := hSd (newR out[q]) hql
           have hbad : rowOk cols (newR out[q]) = false → soundS cols (out.map newR) = 34 := fun h => soundS_bad cols (out.map newR) q (by rw [List.length_map]; exact hltq) (by rw [List.getElem_map]; exact h)
           have hnext : rowOk cols (newR out[q]) = true → ∀ j (hj : j < q + 1) (hj' : j < out.length), rowOk cols (newR out[j]) = true := fun h0 j hj hj' => by
            by_cases e : j = q
            ·subst e; exact h0
            ·exact hQ j (by omega) hj'
           generalize newR out[q] = nr' at *
           generalize out[q] = w at *
           obtain ⟨w1, w2⟩ := w
           simp only at hqs
           subst hqs
           simp only [wrC] at hgq
           cases hro : rowOk cols nr'
           ·rw [hro] at hSq
            have hf := hbad hro
            simp only [hf]
            repeat' first | ((with_reducible first | refine cs ?_ ?_ | refine ws ?_ ?_ | refine wd ?_ ?_ | refine wu ?_ ?_) <;> intro h <;> try simp only [h]) | simp only [↓wBA, tZe, convA, seval, pl13_10Ze, pl13_23Ze, pl13_27Ze, enW_len, hdq, hq0, hgq, beq_self_eq_true] | ((with_reducible show ACalls _ _ _ _ _); refine (hSq _).eq ?_) | (with_reducible refine dP pl13_10Ze 23 (some 40) (by decide) (by kernel_rfl) ?_) | (with_reducible refine dP pl13_23Ze 12 (some 95) (by decide) (by kernel_rfl) ?_) | (with_reducible refine dP pl13_27Ze 8 (some 116) (by decide) (by kernel_rfl) ?_) | with_reducible refine And.intro ?_ ?_
            all_goals refine ret_is (a := _) ?_ rfl rfl
            all_goals simp only [↓wBA, tZe, convA, seval]
            all_goals simp_all [wS, enW]
           ·rw [hro] at hSq
            repeat' first | ((with_reducible first | refine cs ?_ ?_ | refine ws ?_ ?_ | refine wd ?_ ?_ | refine wu ?_ ?_) <;> intro h <;> try simp only [h]) | simp only [↓wBA, tZe, convA, seval, pl13_10Ze, pl13_23Ze, pl13_27Ze, enW_len, hdq, hq0, hgq, hwq, beq_self_eq_true] | ((with_reducible show ACalls _ _ _ _ _); refine (hSq _).eq ?_) | (with_reducible refine dP pl13_10Ze 23 (some 40) (by decide) (by kernel_rfl) ?_) | (with_reducible refine dP pl13_23Ze 12 (some 95) (by decide) (by kernel_rfl) ?_) | (with_reducible refine dP pl13_27Ze 8 (some 116) (by decide) (by kernel_rfl) ?_) | with_reducible refine And.intro ?_ ?_
            all_goals refine ⟨⟨q + 1, by omega, hnext hro⟩, by show out.length - (q + 1) < out.length - q; omega, ?_⟩
            all_goals simp [wW]
          ·have hdq := dF (i := q) (n := out.length) (by omega)
           have hs0 := rowAll_ok cols (out.map newR) (fun j hj => by rw [List.getElem_map]; exact hQ j (by rw [List.length_map] at hj; omega) (by rw [List.length_map] at hj; exact hj))
           simp only [hs0, not_true_eq_false, if_false]
           repeat' first | ((with_reducible first | refine cs ?_ ?_ | refine ws ?_ ?_ | refine wd ?_ ?_ | refine wu ?_ ?_) <;> intro h <;> try simp only [h]) | simp only [↓wBA, tZe, convA, seval, pl13_10Ze, pl13_23Ze, pl13_27Ze, enW_len, hdq, bne_self_eq_false] | (with_reducible refine dP pl13_10Ze 23 (some 40) (by decide) (by kernel_rfl) ?_) | (with_reducible refine dP pl13_23Ze 12 (some 95) (by decide) (by kernel_rfl) ?_) | (with_reducible refine dP pl13_27Ze 8 (some 116) (by decide) (by kernel_rfl) ?_) | with_reducible refine And.intro ?_ ?_
           all_goals refine ret_is (a := _) ?_ rfl rfl
           all_goals simp only [↓wBA, tZe, convA, seval]
           all_goals simp_all [wS]
        ·have hl' : (l != 0) = true := by simpa using hl
         have hl2 : (l == 0) = false := by simpa using hl
         simp only [ne_eq, hl, not_false_eq_true, if_true]
         repeat' first | ((with_reducible first | refine cs ?_ ?_ | refine ws ?_ ?_ | refine wd ?_ ?_ | refine wu ?_ ?_) <;> intro h <;> try simp only [h]) | simp only [↓wBA, tZe, convA, seval, pl13_10Ze, pl13_23Ze, pl13_27Ze, enVV_len, hdm] | (with_reducible refine dP pl13_10Ze 23 (some 40) (by decide) (by kernel_rfl) ?_) | (with_reducible refine dP pl13_23Ze 12 (some 95) (by decide) (by kernel_rfl) ?_) | (with_reducible refine dP pl13_27Ze 8 (some 116) (by decide) (by kernel_rfl) ?_) | with_reducible refine And.intro ?_ ?_
         refine awp_loopN (0) (fun q => [(19, intV .i64 (q : Nat)), (6, .any), (7, .any), (106, .any), (107, .any), (108, .any), (109, .any), (110, .any), (111, .any), (112, .any), (113, .any), (114, .any), (115, .any), (116, .any), (117, .any), (118, .any), (119, .any), (120, .any), (121, .any), (122, .any), (123, .any)]) (fun q => []) (fun q => True) ?_ ?_ ?_
         ·trivial
         ·skip
          simp only [wR, Nat.reduceAdd, Nat.reduceLT, reduceIte]
          simp [wW]
         ·intro q hq _
          have : q = 0 := by omega
          subst this
          simp only [wR, Nat.reduceAdd, Nat.reduceLT, reduceIte]
          repeat' first | ((with_reducible first | refine cs ?_ ?_ | refine ws ?_ ?_ | refine wd ?_ ?_ | refine wu ?_ ?_) <;> intro h <;> try simp only [h]) | simp only [↓wBA, tZe, convA, seval, pl13_10Ze, pl13_23Ze, pl13_27Ze, enW_len, hl', hl2] | (with_reducible refine dP pl13_10Ze 23 (some 40) (by decide) (by kernel_rfl) ?_) | (with_reducible refine dP pl13_23Ze 12 (some 95) (by decide) (by kernel_rfl) ?_) | (with_reducible refine dP pl13_27Ze 8 (some 116) (by decide) (by kernel_rfl) ?_) | with_reducible refine And.intro ?_ ?_
          all_goals refine ret_is (a := _) ?_ rfl rfl
          all_goals simp only [↓wBA, tZe, convA, seval]
          all_goals simp_all [wS, enW]
     ·have he' : (eh != 0) = true := by simpa using he
      simp only [he, not_false_eq_true, if_true]
      repeat' first | ((with_reducible first | refine cs ?_ ?_ | refine ws ?_ ?_ | refine wd ?_ ?_ | refine wu ?_ ?_) <;> intro h <;> try simp only [h]) | simp only [↓wBA, tZe, convA, seval, pl13_10Ze, pl13_23Ze, pl13_27Ze, enI_len, hdec, bne_self_eq_false, he'] | ((with_reducible show ACalls _ _ _ _ _); refine (hH _).eq ?_) | (with_reducible refine dP pl13_10Ze 23 (some 40) (by decide) (by kernel_rfl) ?_) | (with_reducible refine dP pl13_23Ze 12 (some 95) (by decide) (by kernel_rfl) ?_) | (with_reducible refine dP pl13_27Ze 8 (some 116) (by decide) (by kernel_rfl) ?_) | with_reducible refine And.intro ?_ ?_
      all_goals refine ret_is (a := _) ?_ rfl rfl
      all_goals simp only [↓wBA, tZe, convA, seval]
      all_goals simp_all [wS, enW]
  ·have he' : (et != 0) = true := by simpa using het
   simp only [het, not_false_eq_true, if_true]
   repeat' first | ((with_reducible first | refine cs ?_ ?_ | refine ws ?_ ?_ | refine wd ?_ ?_ | refine wu ?_ ?_) <;> intro h <;> try simp only [h]) | simp only [↓wBA, tZe, convA, seval, pl13_10Ze, pl13_23Ze, pl13_27Ze, bne_self_eq_false, he'] | ((with_reducible show ACalls _ _ _ _ _); refine (hT _).eq ?_) | (with_reducible refine dP pl13_10Ze 23 (some 40) (by decide) (by kernel_rfl) ?_) | (with_reducible refine dP pl13_23Ze 12 (some 95) (by decide) (by kernel_rfl) ?_) | (with_reducible refine dP pl13_27Ze 8 (some 116) (by decide) (by kernel_rfl) ?_) | with_reducible refine And.intro ?_ ?_
   all_goals refine ret_is (a := _) ?_ rfl rfl
   all_goals simp only [↓wBA, tZe, convA, seval]
   all_goals simp_all [wS, enW]
 ·have k5 : (kind != 5) = true := by simpa using hk
  simp only [ne_eq, hk, not_false_eq_true, if_true]
  repeat' first | ((with_reducible first | refine cs ?_ ?_ | refine ws ?_ ?_ | refine wd ?_ ?_ | refine wu ?_ ?_) <;> intro h <;> try simp only [h]) | simp only [↓wBA, tZe, convA, seval, pl13_10Ze, pl13_23Ze, pl13_27Ze, k5] | (with_reducible refine dP pl13_10Ze 23 (some 40) (by decide) (by kernel_rfl) ?_) | (with_reducible refine dP pl13_23Ze 12 (some 95) (by decide) (by kernel_rfl) ?_) | (with_reducible refine dP pl13_27Ze 8 (some 116) (by decide) (by kernel_rfl) ?_) | with_reducible refine And.intro ?_ ?_
  all_goals refine ret_is (a := _) ?_ rfl rfl
  all_goals simp only [↓wBA, tZe, convA, seval]
  all_goals simp_all [wS, enW]
end Go.Proofs.YtcnkmandddfdmaaGreat
