/- Lists of expressions and inserts, told. The reader's statements. -/
import Derived.Test.YtcnkmandddfdmaaGreatDoorM30
set_option linter.unusedSimpArgs false
set_option linter.unusedVariables false
set_option linter.defProp false
set_option maxRecDepth 100000
set_option maxHeartbeats 32000000
namespace Go.Proofs.YtcnkmandddfdmaaGreatDoor
open Go.RowKit
def pl22_7Gi : Plan := (.det 0 (.det 1 (.det 2 (.act 3 (.act 4 (.fin 5 (.det 6 (.fin 7 .done))))))))
def pl22_14Gi : Plan := (.det 0 (.det 1 (.det 2 (.act 3 (.act 4 (.fin 5 (.det 6 (.fin 7 .done))))))))
def tGi := aa wX <| aa wbu <| aa T3 <| aa T4 <| aa T9 <| aa T29 <| aa T30 <| aa T33 <| aa T36 <| aa T67 T69
theorem d16 (n : Nat) : decide ((n : Int) > 16) = decide (16 < n) := decide_eq_decide.2 (by omega)
theorem d32 (n : Nat) : decide ((n : Int) > 32) = decide (32 < n) := decide_eq_decide.2 (by omega)
theorem axsF (ts : List Tok) (hts : ts.length ≤ 2048) (q : Rs) (hk : q.1 ≤ ts.length) : OCalls (rdS ts) 53 (fun t => [.mp t 3 0 0]) q fun r s => r = .p (.sl 8 (exL (xsF ts q).1)) ∧ s = (xsF ts q).2 := by
 refine OCalls.of (rdP ts) (fun t => rfl) rfl ?_
 obtain ⟨⟨xs, kC, bC⟩, hfin⟩ : ∃ r, liG (exF ts) ts 3000 [] true q = r := ⟨_, rfl⟩
 have hx : xsF ts q = (xs, (kC, bC || decide (16 < xs.length))) := by simp only [xsF, hfin]
 rw [hx]
 have hz := LiOk.zero (α := Ex) hts hk
 obtain ⟨k0, b0⟩ := q
 refine acalls_of cx_ok dr_ok Tryz.func53 (by kernel_rfl) rfl (nt := 32) (rs := [.tmp 2]) rfl rfl ?_
 simp only [rdS, rdO]
 repeat' first | ((with_reducible first | refine cs ?_ ?_ | refine ws ?_ ?_) <;> intro h <;> try simp only [h]) | simp only [↓wBA, tGi, convA, seval]
 refine awp_loopG (X := { y : Nat × List Ex × Bool × Rs // LiOk ts k0 y.1 y.2.1 y.2.2.1 y.2.2.2 ∧ liG (exF ts) ts y.1 y.2.1 y.2.2.1 y.2.2.2 = (xs, kC, bC) }) (fun x => liNeed ts x.1.2.2.1 x.1.2.2.2) (fun x => [(3, .nown 1 8 (exL x.1.2.1)), (4, boolV x.1.2.2.1), (5, .any), (6, .any), (7, .any), (8, .any), (9, .any), (10, .any), (11, .any), (12, .any), (13, .any), (14, .any), (15, .any), (16, .any), (17, .any), (18, .any), (19, .any)]) (fun x => [some (rdS ts x.1.2.2.2), some (.nright 78 (x.1.2.1.length * 8))]) (⟨(3000, [], true, (k0, b0)), hz, hfin⟩) ?_ ?_ ?_
 ·intro x; simp
 ·skip
  simp only [wR, Nat.reduceAdd, Nat.reduceLT, reduceIte]
  simp [wW, exC, exL, rdS, rdO]
 ·intro x
  simp only [wR, Nat.reduceAdd, Nat.reduceLT, reduceIte]
  obtain ⟨⟨g, l, more, ⟨k1, b1⟩⟩, hok, hI⟩ := x
  simp only at hok hI
  simp only [rdS, rdO]
  have hd := d16 l.length
  cases more
  ·rw [liG_stop _ _ _ _ _ _ (.inl rfl)] at hI
   cases b1
   ·skip
    simp only [Prod.mk.injEq] at hI
    obtain ⟨hI1, hI2, hI3⟩ := hI
    repeat' first | ((with_reducible first | refine cs ?_ ?_ | refine ws ?_ ?_) <;> intro h <;> try simp only [h]) | simp only [↓wBA, tGi, convA, seval, exL_len, hd]
    all_goals rw [← hI1, ← hI2, ← hI3]
    all_goals clear hI1 hI2 hI3 hok
    all_goals refine ret_obI (a := .p (.sl 8 (exL l))) (b := _) (rdP ts _) ?_ rfl rfl
    all_goals simp only [↓wBA, tGi, convA, seval]
    all_goals simp_all [wS, rdS, rdO, exL, exL_len, leR, frzRow, emp]
   ·skip
    simp only [Prod.mk.injEq] at hI
    obtain ⟨hI1, hI2, hI3⟩ := hI
    repeat' first | ((with_reducible first | refine cs ?_ ?_ | refine ws ?_ ?_) <;> intro h <;> try simp only [h]) | simp only [↓wBA, tGi, convA, seval, exL_len, hd]
    all_goals rw [← hI1, ← hI2, ← hI3]
    all_goals clear hI1 hI2 hI3 hok
    all_goals refine ret_obI (a := .p (.sl 8 (exL l))) (b := _) (rdP ts _) ?_ rfl rfl
    all_goals simp only [↓wBA, tGi, convA, seval]
    all_goals simp_all [wS, rdS, rdO, exL, exL_len, leR, frzRow, emp]
  ·cases b1
   ·obtain ⟨g, rfl⟩ := hok.pos
    have hk1 := hok.le
    have hln := hok.lm rfl
    simp only at hk1 hln
    have he := aexF ts hts (k1, false) hk1
    have hst := hok.step (x := (exF ts (k1, false)).1) (exF_fwd ts hts (k1, false) hk1)
    rw [liG_go] at hI
    obtain ⟨⟨⟨kd, vk, vn, vs, tb, nm, sl, kids⟩, q2⟩, hr⟩ : ∃ r, exF ts (k1, false) = r := ⟨_, rfl⟩
    rw [hr] at he hst hI
    simp only at hst hI
    have hc := arsF sComma ts hts q2
    obtain ⟨v, hv⟩ : ∃ v, isF ts 5 sComma q2 = v := ⟨_, rfl⟩
    obtain ⟨⟨k3, b3⟩, hq3⟩ : ∃ v, psF ts 5 sComma q2 = v := ⟨_, rfl⟩
    rw [hv, hq3] at hc hst hI
    have hlim1 := tL (n := (l.length + 1) * 104) (by omega)
    have hlim2 := lM (n := l.length + 1) (by omega)
    obtain ⟨k2, b2⟩ := q2
    simp only [sComma, intV] at hc he
    repeat' first | ((with_reducible first | refine cs ?_ ?_ | refine ws ?_ ?_) <;> intro h <;> try simp only [h]) | simp only [↓wBA, tGi, convA, seval, appendA, srcA, exL_len, hlim1, hlim2] | ((with_reducible show ACalls _ _ _ _ _); first | (refine (he _ 0 rfl).mono ?_; rintro _ _ ⟨_, ⟨rfl, rfl⟩, rfl⟩; simp only [rdS, rdO, exA, exC, List.map_cons, List.map_nil]) | (refine (hc _ 0 rfl).mono ?_; rintro _ _ ⟨_, ⟨rfl, rfl⟩, rfl⟩; simp only [rdS, rdO, exA, exC, List.map_cons, List.map_nil]))
    refine ⟨⟨(g, l ++ [.mk kd vk vn vs tb nm sl kids], v, (k3, b3)), hst.1, hI⟩, hst.2, ?_⟩
    simp only [wR, Nat.reduceAdd, Nat.reduceLT, reduceIte]
    simp [wW, exC, exL, exL_app, exL_len, rdS, rdO, emp, Rs.next]
   ·rw [liG_stop _ _ _ _ _ _ (.inr rfl)] at hI
    simp only [Prod.mk.injEq] at hI
    obtain ⟨hI1, hI2, hI3⟩ := hI
    repeat' first | ((with_reducible first | refine cs ?_ ?_ | refine ws ?_ ?_) <;> intro h <;> try simp only [h]) | simp only [↓wBA, tGi, convA, seval, exL_len, hd]
    all_goals rw [← hI1, ← hI2, ← hI3]
    all_goals clear hI1 hI2 hI3 hok
    all_goals refine ret_obI (a := .p (.sl 8 (exL l))) (b := _) (rdP ts _) ?_ rfl rfl
    all_goals simp only [↓wBA, tGi, convA, seval]
    all_goals simp_all [wS, rdS, rdO, exL, exL_len, leR, frzRow, emp]
theorem ainsF (ts : List Tok) (hts : ts.length ≤ 2048) (q : Rs) (hk : q.1 ≤ ts.length) : OCalls (rdS ts) 22 (fun t => [.mp t 3 0 0]) q fun r s => r = .agg ((smC (insF ts q).1).map .p) ∧ s = (insF ts q).2 := by
 refine OCalls.of (rdP ts) (fun t => rfl) rfl ?_
 have c1 := awnF 1 (by decide) wINTO ts hts q
 have f1 : Fwd ts q (wnF ts 1 wINTO q) := .wn (by decide) _ hk
 have hI : insF ts q = insF ts q := rfl
 conv at hI => rhs; unfold insF
 obtain ⟨q1, h1⟩ : ∃ r, wnF ts 1 wINTO q = r := ⟨_, rfl⟩
 rw [h1] at c1 f1 hI
 have c2 := anmF ts hts q1
 have f2 := nmF_fwd ts q1 f1.2.1
 obtain ⟨⟨nm, q2⟩, h2⟩ : ∃ r, nmF ts q1 = r := ⟨_, rfl⟩
 have h2a : (anF ts 2 q1).1.2.1 = nm := congrArg Prod.fst h2
 have h2b : (anF ts 2 q1).2 = q2 := congrArg Prod.snd h2
 rw [h2a, h2b] at c2
 rw [h2] at f2 hI
 simp only at hI f2
 have c3 := arsF sOpen ts hts q2
 have hnil : ((0 : Nat) : Int) = 0 := rfl
 have hL : decide ((0 : Int) > 16) = false := by decide
 by_cases hO : isF ts 5 sOpen q2 = true
 ·have hC : colsF ts q2 = ((liG (nmF ts) ts 3000 [] true q2.next).1, wnF ts 5 sShut (liG (nmF ts) ts 3000 [] true q2.next).2) := by simp only [colsF, hO, if_true]
  have hlt := (isF_in (by decide) hO).2
  rw [hO, psF_pos hO] at c3
  rw [hC] at hI
  clear hC
  have g3 := liG_fwd (k0 := q2.next.1) (fun q _ h => nmF_fwd ts q h) 3000 [] true q2.next (LiOk.zero hts hlt)
  obtain ⟨⟨ns, qn⟩, hN⟩ : ∃ r, liG (nmF ts) ts 3000 [] true q2.next = r := ⟨_, rfl⟩
  rw [hN] at hI g3
  simp only at hI
  have c4 := awnF 5 (by decide) sShut ts hts qn
  have f3 : Fwd ts qn (wnF ts 5 sShut qn) := .wn (by decide) _ g3.1.2.1
  obtain ⟨q3, h3⟩ : ∃ r, wnF ts 5 sShut qn = r := ⟨_, rfl⟩
  rw [h3] at c4 f3 hI
  have c5 := awnF 1 (by decide) wVALUES ts hts q3
  have f5 : Fwd ts q3 (wnF ts 1 wVALUES q3) := .wn (by decide) _ f3.2.1
  obtain ⟨q5, h5⟩ : ∃ r, wnF ts 1 wVALUES q3 = r := ⟨_, rfl⟩
  rw [h5] at c5 f5 hI
  obtain ⟨⟨xs, kC, bC⟩, hfin⟩ : ∃ r, liG (rwF ts) ts 3000 [] true q5 = r := ⟨_, rfl⟩
  rw [hfin] at hI
  simp only at hI
  rw [hI]
  clear hI
  have hz := LiOk.zero (α := List Ex) hts f5.2.1
  have hrz := hz
  have hrf := hfin
  clear hz hfin
  have hz := LiOk.zero (α := ByteArray) (q := q2.next) hts hlt
  have hfin := hN
  obtain ⟨q9, h9⟩ : ∃ r, q2.next = r := ⟨_, rfl⟩
  rw [h9] at c3 hz hfin
  obtain ⟨kN, bN⟩ := qn
  obtain ⟨k3, b3⟩ := q3
  obtain ⟨k2, b2⟩ := q2
  obtain ⟨k1, b1⟩ := q1
  obtain ⟨k5, b5⟩ := q5
  obtain ⟨k9, b9⟩ := q9
  obtain ⟨k0, b0⟩ := q
  simp only [wINTO, sOpen, wVALUES, sShut] at c1 c3 c4 c5
  refine acalls_of cx_ok dr_ok Tryz.func22 (by kernel_rfl) rfl (nt := 74) (rs := [.cell 2 36]) rfl rfl ?_
  simp only [rdS, rdO]
  repeat' first | ((with_reducible first | refine cs ?_ ?_ | refine ws ?_ ?_ | refine wd ?_ ?_ | refine wu ?_ ?_) <;> intro h <;> try simp only [h]) | simp only [↓wBA, tGi, convA, seval, pl22_7Gi, pl22_14Gi] | ((with_reducible show ACalls _ _ _ _ _); first | (refine (c1 _ 0 rfl).mono ?_; rintro _ _ ⟨_, ⟨rfl, rfl⟩, rfl⟩; simp only [rdS, rdO, exA, exC, List.map_cons, List.map_nil]) | (refine (c2 _ 0 rfl).mono ?_; rintro _ _ ⟨_, ⟨rfl, rfl⟩, rfl⟩; simp only [rdS, rdO, exA, exC, List.map_cons, List.map_nil]) | (refine (c3 _ 0 rfl).mono ?_; rintro _ _ ⟨_, ⟨rfl, rfl⟩, rfl⟩; simp only [rdS, rdO, exA, exC, List.map_cons, List.map_nil])) | (with_reducible refine dP pl22_7Gi 8 (some 23) (by decide) (by kernel_rfl) ?_) | (with_reducible refine dP pl22_14Gi 8 (some 46) (by decide) (by kernel_rfl) ?_)
  refine awp_loopM (X := { y : Nat × List ByteArray × Bool × Rs // LiOk ts (k9, b9).1 y.1 y.2.1 y.2.2.1 y.2.2.2 ∧ liG (nmF ts) ts y.1 y.2.1 y.2.2.1 y.2.2.2 = (ns, kN, bN) }) (fun x => ([.mp 0 3 0 0, .any, .mp 1 14 0 0, .mp 2 14 0 0, boolV x.1.2.2.1, .any, .any, .any, .any, .any, .any, .any, .any, .any, .any, .any, .any, .any, .any, .any, .any, .any, .any, .any, .any, .any, .any, .any, .any, .any, .any, .any, .any, .any, .any, .any, .any, .any, .any, .any, .any, .any, .any, .any, .any, .any, .any, .any, .any, .any, .any, .any, .any, .any, .any, .any, .any, .any, .any, .any, .any, .any, .any, .any, .any, .any, .any, .any, .any, .any, .any, .any, .any, .any, .any], [some (rdS ts x.1.2.2.2), some (.row 14 [[.p (.v (.int .i64 0)), .p (.v (.string ⟨#[]⟩)), .p (.v (.string ⟨#[]⟩)), nilA, nilA, nilA, nilA, nilA, nilA, nilA, nilA, .p (.v (.int .i64 0)), nilA, .p (.v (.bool false))]]), some (.row 14 [[.p (.v (.int .i64 3)), .p (.v (.string nm)), .p (.v (.string ⟨#[]⟩)), nilA, .nown 3 1 (enS x.1.2.1), nilA, nilA, nilA, nilA, nilA, nilA, .p (.v (.int .i64 (-1))), nilA, .p (.v (.bool false))]]), some (.nright 9 (x.1.2.1.length))])) (fun x => liNeed ts x.1.2.2.1 x.1.2.2.2) ⟨(3000, [], true, (k9, b9)), hz, hfin⟩ Unit (fun _ => (.exit 0, [.mp 0 3 0 0, .any, .mp 1 14 0 0, .mp 2 14 0 0, .any, .any, .any, .any, .any, .any, .any, .any, .any, .any, .any, .any, .any, .any, .any, .any, .any, .any, .any, .any, .any, .any, .any, .any, .any, .any, .any, .any, .any, .any, .any, .any, .any, .any, .any, .any, .any, .any, .any, .any, .any, .any, .any, .any, .any, .any, .any, .any, .any, .any, .any, .any, .any, .any, .any, .any, .any, .any, .any, .any, .any, .any, .any, .any, .any, .any, .any, .any, .any, .any, .any], [some (rdO ts kN bN), some (.row 14 [[.p (.v (.int .i64 0)), .p (.v (.string ⟨#[]⟩)), .p (.v (.string ⟨#[]⟩)), nilA, nilA, nilA, nilA, nilA, nilA, nilA, nilA, .p (.v (.int .i64 0)), nilA, .p (.v (.bool false))]]), some (.row 14 [[.p (.v (.int .i64 3)), .p (.v (.string nm)), .p (.v (.string ⟨#[]⟩)), nilA, .p (nilSl 1 (enS ns)), nilA, nilA, nilA, nilA, nilA, nilA, .p (.v (.int .i64 (-1))), nilA, .p (.v (.bool false))]])])) (fun x => by simp) (fun y => by simp) ?_ ?_ ?_
  ·simp [wW, leR, smC, stmtI, tokLt, tokLtL, frzRow, toPss, toPs, toP, nilSl, ex_nil, exC, exL, exL_app, exL_len, leaf, nilA, rdS, rdO, emp, coC, soC, itC, keC, enS, enR, Rs.next]
  ·intro x
   obtain ⟨⟨g, l, more, ⟨k1, b1⟩⟩, hok, hJ⟩ := x
   simp only at hok hJ
   simp only [rdS, rdO, intV, boolV]
   cases more
   ·rw [liG_stop _ _ _ _ _ _ (.inl rfl)] at hJ
    simp only [Prod.mk.injEq] at hJ
    obtain ⟨rfl, rfl, rfl⟩ := hJ
    repeat' first | ((with_reducible first | refine cs ?_ ?_ | refine ws ?_ ?_ | refine wd ?_ ?_ | refine wu ?_ ?_) <;> intro h <;> try simp only [h]) | simp only [↓wBA, tGi, convA, seval, pl22_7Gi, pl22_14Gi] | (with_reducible refine dP pl22_7Gi 8 (some 23) (by decide) (by kernel_rfl) ?_) | (with_reducible refine dP pl22_14Gi 8 (some 46) (by decide) (by kernel_rfl) ?_)
    refine ⟨(), ?_⟩
    simp [wW, leR, smC, stmtI, tokLt, tokLtL, frzRow, toPss, toPs, toP, nilSl, ex_nil, exC, exL, exL_app, exL_len, leaf, nilA, rdS, rdO, emp, coC, soC, itC, keC, enS, enR, Rs.next]
    exact .inl ⟨_, _, _, ⟨rfl, rfl, rfl⟩, by simp⟩
   ·cases b1
    ·obtain ⟨g, rfl⟩ := hok.pos
     have hk1 := hok.le
     have hln := hok.lm rfl
     simp only at hk1 hln
     have hst := hok.step (x := (nmF ts (k1, false)).1) (nmF_fwd ts (k1, false) hk1)
     rw [liG_go] at hJ
     have a1 := anmF ts hts (k1, false)
     obtain ⟨⟨s5, q6⟩, hr⟩ : ∃ r, nmF ts (k1, false) = r := ⟨_, rfl⟩
     have r1 : (anF ts 2 (k1, false)).1.2.1 = s5 := congrArg Prod.fst hr
     have r2 : (anF ts 2 (k1, false)).2 = q6 := congrArg Prod.snd hr
     rw [r1, r2] at a1
     rw [hr] at hst hJ
     simp only at hst hJ
     have hc := arsF sComma ts hts q6
     obtain ⟨v, hv⟩ : ∃ v, isF ts 5 sComma q6 = v := ⟨_, rfl⟩
     obtain ⟨⟨k3, b3⟩, hq3⟩ : ∃ v, psF ts 5 sComma q6 = v := ⟨_, rfl⟩
     rw [hv, hq3] at hc hst hJ
     have hlim1 := tL (n := (l.length + 1) * 16) (by omega)
     have hlim2 := lM (n := l.length + 1) (by omega)
     obtain ⟨k6, b6⟩ := q6
     simp only [sComma, sOpen, sShut, intV] at hc
     repeat' first | ((with_reducible first | refine cs ?_ ?_ | refine ws ?_ ?_ | refine wd ?_ ?_ | refine wu ?_ ?_) <;> intro h <;> try simp only [h]) | simp only [↓wBA, tGi, convA, seval, pl22_7Gi, pl22_14Gi, appendA, srcA, enS_len, hlim1, hlim2, unmaskS, Nat.mul_one] | ((with_reducible show ACalls _ _ _ _ _); first | (refine (a1 _ 0 rfl).mono ?_; rintro _ _ ⟨_, ⟨rfl, rfl⟩, rfl⟩; simp only [rdS, rdO, exA, exC, List.map_cons, List.map_nil]) | (refine (hc _ 0 rfl).mono ?_; rintro _ _ ⟨_, ⟨rfl, rfl⟩, rfl⟩; simp only [rdS, rdO, exA, exC, List.map_cons, List.map_nil])) | (with_reducible refine dP pl22_7Gi 8 (some 23) (by decide) (by kernel_rfl) ?_) | (with_reducible refine dP pl22_14Gi 8 (some 46) (by decide) (by kernel_rfl) ?_)
     refine ⟨⟨(g, l ++ [s5], v, (k3, b3)), hst.1, hJ⟩, hst.2, ?_⟩
     simp [wW, leR, smC, stmtI, tokLt, tokLtL, frzRow, toPss, toPs, toP, nilSl, ex_nil, exC, exL, exL_app, exL_len, leaf, nilA, rdS, rdO, emp, coC, soC, itC, keC, enS, enR, Rs.next]
    ·rw [liG_stop _ _ _ _ _ _ (.inr rfl)] at hJ
     simp only [Prod.mk.injEq] at hJ
     obtain ⟨rfl, rfl, rfl⟩ := hJ
     repeat' first | ((with_reducible first | refine cs ?_ ?_ | refine ws ?_ ?_ | refine wd ?_ ?_ | refine wu ?_ ?_) <;> intro h <;> try simp only [h]) | simp only [↓wBA, tGi, convA, seval, pl22_7Gi, pl22_14Gi] | (with_reducible refine dP pl22_7Gi 8 (some 23) (by decide) (by kernel_rfl) ?_) | (with_reducible refine dP pl22_14Gi 8 (some 46) (by decide) (by kernel_rfl) ?_)
     refine ⟨(), ?_⟩
     simp [wW, leR, smC, stmtI, tokLt, tokLtL, frzRow, toPss, toPs, toP, nilSl, ex_nil, exC, exL, exL_app, exL_len, leaf, nilA, rdS, rdO, emp, coC, soC, itC, keC, enS, enR, Rs.next]
     exact .inl ⟨_, _, _, ⟨rfl, rfl, rfl⟩, by simp⟩
  ·intro y
   simp only [rdS, rdO, intV, boolV]
   clear hz hfin hN h9
   have hz := hrz
   have hfin := hrf
   repeat' first | ((with_reducible first | refine cs ?_ ?_ | refine ws ?_ ?_ | refine wd ?_ ?_ | refine wu ?_ ?_) <;> intro h <;> try simp only [h]) | simp only [↓wBA, tGi, convA, seval, pl22_7Gi, pl22_14Gi] | ((with_reducible show ACalls _ _ _ _ _); first | (refine (c4 _ 0 rfl).mono ?_; rintro _ _ ⟨_, ⟨rfl, rfl⟩, rfl⟩; simp only [rdS, rdO, exA, exC, List.map_cons, List.map_nil]) | (refine (c5 _ 0 rfl).mono ?_; rintro _ _ ⟨_, ⟨rfl, rfl⟩, rfl⟩; simp only [rdS, rdO, exA, exC, List.map_cons, List.map_nil])) | (with_reducible refine dP pl22_7Gi 8 (some 23) (by decide) (by kernel_rfl) ?_) | (with_reducible refine dP pl22_14Gi 8 (some 46) (by decide) (by kernel_rfl) ?_)
   refine awp_loopM (X := { y : Nat × List (List Ex) × Bool × Rs // LiOk ts (k5, b5).1 y.1 y.2.1 y.2.2.1 y.2.2.2 ∧ liG (rwF ts) ts y.1 y.2.1 y.2.2.1 y.2.2.2 = (xs, kC, bC) }) (fun x => ([.mp 0 3 0 0, .any, .mp 1 14 0 0, .mp 2 14 0 0, .any, boolV x.1.2.2.1, .any, .any, .any, .any, .any, .any, .any, .any, .any, .any, .any, .any, .any, .any, .any, .any, .any, .any, .any, .any, .any, .any, .any, .any, .any, .any, .any, .any, .any, .any, .any, .any, .any, .any, .any, .any, .any, .any, .any, .any, .any, .any, .any, .any, .any, .any, .any, .any, .any, .any, .any, .any, .any, .any, .any, .any, .any, .any, .any, .any, .any, .any, .any, .any, .any, .any, .any, .any, .any], [some (rdS ts x.1.2.2.2), some (.row 14 [[.p (.v (.int .i64 0)), .p (.v (.string ⟨#[]⟩)), .p (.v (.string ⟨#[]⟩)), nilA, nilA, nilA, nilA, nilA, nilA, nilA, nilA, .p (.v (.int .i64 0)), nilA, .p (.v (.bool false))]]), some (.row 14 [[.p (.v (.int .i64 3)), .p (.v (.string nm)), .p (.v (.string ⟨#[]⟩)), nilA, .p (nilSl 1 (enS ns)), .nown 3 1 (enR x.1.2.1), nilA, nilA, nilA, nilA, nilA, .p (.v (.int .i64 (-1))), nilA, .p (.v (.bool false))]]), some (.nright 33 (x.1.2.1.length))])) (fun x => liNeed ts x.1.2.2.1 x.1.2.2.2) ⟨(3000, [], true, (k5, b5)), hz, hfin⟩ Unit (fun _ => (.exit 2, [.mp 0 3 0 0, .any, .mp 1 14 0 0, .mp 2 14 0 0, .any, .any, .any, .any, .any, .any, .any, .any, .any, .any, .any, .any, .any, .any, .any, .any, .any, .any, .any, .any, .any, .any, .any, .any, .any, .any, .any, .any, .any, .any, .any, .any, .any, .any, .any, .any, .any, .any, .any, .any, .any, .any, .any, .any, .any, .any, .any, .any, .any, .any, .any, .any, .any, .any, .any, .any, .any, .any, .any, .any, .any, .any, .any, .any, .any, .any, .any, .any, .any, .any, .any], [some (rdO ts kC bC), some (.row 14 [[.p (.v (.int .i64 0)), .p (.v (.string ⟨#[]⟩)), .p (.v (.string ⟨#[]⟩)), nilA, nilA, nilA, nilA, nilA, nilA, nilA, nilA, .p (.v (.int .i64 0)), nilA, .p (.v (.bool false))]]), some (.row 14 [[.p (.v (.int .i64 3)), .p (.v (.string nm)), .p (.v (.string ⟨#[]⟩)), nilA, .p (nilSl 1 (enS ns)), .p (.sl 1 (enR xs)), nilA, nilA, nilA, nilA, nilA, .p (.v (.int .i64 (-1))), nilA, .p (.v (.bool false))]])])) (fun x => by simp) (fun y => by simp) ?_ ?_ ?_
   ·simp [wW, leR, smC, stmtI, tokLt, tokLtL, frzRow, toPss, toPs, toP, nilSl, ex_nil, exC, exL, exL_app, exL_len, leaf, nilA, rdS, rdO, emp, coC, soC, itC, keC, enS, enR, Rs.next]
   ·intro x
    obtain ⟨⟨g, l, more, ⟨k1, b1⟩⟩, hok, hJ⟩ := x
    simp only at hok hJ
    simp only [rdS, rdO, intV, boolV]
    cases more
    ·rw [liG_stop _ _ _ _ _ _ (.inl rfl)] at hJ
     simp only [Prod.mk.injEq] at hJ
     obtain ⟨rfl, rfl, rfl⟩ := hJ
     repeat' first | ((with_reducible first | refine cs ?_ ?_ | refine ws ?_ ?_ | refine wd ?_ ?_ | refine wu ?_ ?_) <;> intro h <;> try simp only [h]) | simp only [↓wBA, tGi, convA, seval, pl22_7Gi, pl22_14Gi] | (with_reducible refine dP pl22_7Gi 8 (some 23) (by decide) (by kernel_rfl) ?_) | (with_reducible refine dP pl22_14Gi 8 (some 46) (by decide) (by kernel_rfl) ?_)
     refine ⟨(), ?_⟩
     simp [wW, leR, smC, stmtI, tokLt, tokLtL, frzRow, toPss, toPs, toP, nilSl, ex_nil, exC, exL, exL_app, exL_len, leaf, nilA, rdS, rdO, emp, coC, soC, itC, keC, enS, enR, Rs.next]
    ·cases b1
     ·obtain ⟨g, rfl⟩ := hok.pos
      have hk1 := hok.le
      have hln := hok.lm rfl
      simp only at hk1 hln
      have hst := hok.step (x := (rwF ts (k1, false)).1) (rwF_fwd ts hts (k1, false) hk1)
      rw [liG_go] at hJ
      have a1 := awnF 5 (by decide) sOpen ts hts (k1, false)
      have g1 : Fwd ts (k1, false) (wnF ts 5 sOpen (k1, false)) := .wn (by decide) _ hk1
      obtain ⟨q7, hr7⟩ : ∃ r, wnF ts 5 sOpen (k1, false) = r := ⟨_, rfl⟩
      rw [hr7] at a1 g1
      have a2 := axsF ts hts q7 g1.2.1
      obtain ⟨⟨rl, q8⟩, hr8⟩ : ∃ r, xsF ts q7 = r := ⟨_, rfl⟩
      rw [hr8] at a2
      have a3 := awnF 5 (by decide) sShut ts hts q8
      obtain ⟨q6, hr6⟩ : ∃ r, wnF ts 5 sShut q8 = r := ⟨_, rfl⟩
      rw [hr6] at a3
      have hr : rwF ts (k1, false) = (rl, q6) := by simp only [rwF, hr7, hr8, hr6]
      rw [hr] at hst hJ
      simp only at hst hJ
      have hc := arsF sComma ts hts q6
      obtain ⟨v, hv⟩ : ∃ v, isF ts 5 sComma q6 = v := ⟨_, rfl⟩
      obtain ⟨⟨k3, b3⟩, hq3⟩ : ∃ v, psF ts 5 sComma q6 = v := ⟨_, rfl⟩
      rw [hv, hq3] at hc hst hJ
      have hlim1 := tL (n := (l.length + 1) * 24) (by omega)
      have hlim2 := lM (n := l.length + 1) (by omega)
      obtain ⟨k6, b6⟩ := q6
      obtain ⟨k7, b7⟩ := q7
      obtain ⟨k8, b8⟩ := q8
      simp only [sComma, sOpen, sShut, intV] at a1 a3 hc
      repeat' first | ((with_reducible first | refine cs ?_ ?_ | refine ws ?_ ?_ | refine wd ?_ ?_ | refine wu ?_ ?_) <;> intro h <;> try simp only [h]) | simp only [↓wBA, tGi, convA, seval, pl22_7Gi, pl22_14Gi, appendA, srcA, enR_len, hlim1, hlim2, unmaskS, Nat.mul_one] | ((with_reducible show ACalls _ _ _ _ _); first | (refine (a1 _ 0 rfl).mono ?_; rintro _ _ ⟨_, ⟨rfl, rfl⟩, rfl⟩; simp only [rdS, rdO, exA, exC, List.map_cons, List.map_nil]) | (refine (a2 _ 0 rfl).mono ?_; rintro _ _ ⟨_, ⟨rfl, rfl⟩, rfl⟩; simp only [rdS, rdO, exA, exC, List.map_cons, List.map_nil]) | (refine (a3 _ 0 rfl).mono ?_; rintro _ _ ⟨_, ⟨rfl, rfl⟩, rfl⟩; simp only [rdS, rdO, exA, exC, List.map_cons, List.map_nil]) | (refine (hc _ 0 rfl).mono ?_; rintro _ _ ⟨_, ⟨rfl, rfl⟩, rfl⟩; simp only [rdS, rdO, exA, exC, List.map_cons, List.map_nil])) | (with_reducible refine dP pl22_7Gi 8 (some 23) (by decide) (by kernel_rfl) ?_) | (with_reducible refine dP pl22_14Gi 8 (some 46) (by decide) (by kernel_rfl) ?_)
      refine ⟨⟨(g, l ++ [rl], v, (k3, b3)), hst.1, hJ⟩, hst.2, ?_⟩
      simp [wW, leR, smC, stmtI, tokLt, tokLtL, frzRow, toPss, toPs, toP, nilSl, ex_nil, exC, exL, exL_app, exL_len, leaf, nilA, rdS, rdO, emp, coC, soC, itC, keC, enS, enR, Rs.next]
     ·rw [liG_stop _ _ _ _ _ _ (.inr rfl)] at hJ
      simp only [Prod.mk.injEq] at hJ
      obtain ⟨rfl, rfl, rfl⟩ := hJ
      repeat' first | ((with_reducible first | refine cs ?_ ?_ | refine ws ?_ ?_ | refine wd ?_ ?_ | refine wu ?_ ?_) <;> intro h <;> try simp only [h]) | simp only [↓wBA, tGi, convA, seval, pl22_7Gi, pl22_14Gi] | (with_reducible refine dP pl22_7Gi 8 (some 23) (by decide) (by kernel_rfl) ?_) | (with_reducible refine dP pl22_14Gi 8 (some 46) (by decide) (by kernel_rfl) ?_)
      refine ⟨(), ?_⟩
      simp [wW, leR, smC, stmtI, tokLt, tokLtL, frzRow, toPss, toPs, toP, nilSl, ex_nil, exC, exL, exL_app, exL_len, leaf, nilA, rdS, rdO, emp, coC, soC, itC, keC, enS, enR, Rs.next]
   ·intro y
    simp only [rdS, rdO, intV, boolV]
    have e1 := d16 ns.length
    have e2 := d32 xs.length
    cases bC
    ·skip
     repeat' first | ((with_reducible first | refine cs ?_ ?_ | refine ws ?_ ?_ | refine wd ?_ ?_ | refine wu ?_ ?_) <;> intro h <;> try simp only [h]) | simp only [↓wBA, tGi, convA, seval, pl22_7Gi, pl22_14Gi, enS_len, nilS_len, enR_len, hL, hnil, List.length_nil, e1, e2] | (with_reducible refine dP pl22_7Gi 8 (some 23) (by decide) (by kernel_rfl) ?_) | (with_reducible refine dP pl22_14Gi 8 (some 46) (by decide) (by kernel_rfl) ?_)
     all_goals refine ret_obI (a := .agg ((smC (stmtI nm ns xs)).map .p)) (b := _) (rdP ts _) ?_ rfl rfl
     all_goals simp only [↓wBA, tGi, convA, seval]
     all_goals simp_all [wS, leR, smC, stmtI, tokLt, tokLtL, frzRow, toPss, toPs, toP, nilSl, ex_nil, exC, exL, exL_app, exL_len, leaf, nilA, rdS, rdO, emp, coC, soC, itC, keC, enS, enR, Rs.next]
    ·skip
     repeat' first | ((with_reducible first | refine cs ?_ ?_ | refine ws ?_ ?_ | refine wd ?_ ?_ | refine wu ?_ ?_) <;> intro h <;> try simp only [h]) | simp only [↓wBA, tGi, convA, seval, pl22_7Gi, pl22_14Gi, enS_len, nilS_len, enR_len, hL, hnil, List.length_nil, e1, e2] | (with_reducible refine dP pl22_7Gi 8 (some 23) (by decide) (by kernel_rfl) ?_) | (with_reducible refine dP pl22_14Gi 8 (some 46) (by decide) (by kernel_rfl) ?_)
     all_goals refine ret_obI (a := .agg ((smC (stmtI nm ns xs)).map .p)) (b := _) (rdP ts _) ?_ rfl rfl
     all_goals simp only [↓wBA, tGi, convA, seval]
     all_goals simp_all [wS, leR, smC, stmtI, tokLt, tokLtL, frzRow, toPss, toPs, toP, nilSl, ex_nil, exC, exL, exL_app, exL_len, leaf, nilA, rdS, rdO, emp, coC, soC, itC, keC, enS, enR, Rs.next]
 ·have hO0 : isF ts 5 sOpen q2 = false := by simpa using hO
  have hC : colsF ts q2 = ([], q2) := by simp [colsF, hO]
  rw [hO0, psF_neg hO0] at c3
  rw [hC] at hI
  simp only at hI
  clear hC
  have f3 := f2
  have c5 := awnF 1 (by decide) wVALUES ts hts q2
  have f5 : Fwd ts q2 (wnF ts 1 wVALUES q2) := .wn (by decide) _ f3.2.1
  obtain ⟨q5, h5⟩ : ∃ r, wnF ts 1 wVALUES q2 = r := ⟨_, rfl⟩
  rw [h5] at c5 f5 hI
  obtain ⟨⟨xs, kC, bC⟩, hfin⟩ : ∃ r, liG (rwF ts) ts 3000 [] true q5 = r := ⟨_, rfl⟩
  rw [hfin] at hI
  simp only at hI
  rw [hI]
  clear hI
  have hz := LiOk.zero (α := List Ex) hts f5.2.1
  obtain ⟨k2, b2⟩ := q2
  obtain ⟨k1, b1⟩ := q1
  obtain ⟨k5, b5⟩ := q5
  obtain ⟨k0, b0⟩ := q
  simp only [wINTO, sOpen, wVALUES] at c1 c3 c5
  refine acalls_of cx_ok dr_ok Tryz.func22 (by kernel_rfl) rfl (nt := 74) (rs := [.cell 2 36]) rfl rfl ?_
  simp only [rdS, rdO]
  repeat' first | ((with_reducible first | refine cs ?_ ?_ | refine ws ?_ ?_ | refine wd ?_ ?_ | refine wu ?_ ?_) <;> intro h <;> try simp only [h]) | simp only [↓wBA, tGi, convA, seval, pl22_7Gi, pl22_14Gi] | ((with_reducible show ACalls _ _ _ _ _); first | (refine (c1 _ 0 rfl).mono ?_; rintro _ _ ⟨_, ⟨rfl, rfl⟩, rfl⟩; simp only [rdS, rdO, exA, exC, List.map_cons, List.map_nil]) | (refine (c2 _ 0 rfl).mono ?_; rintro _ _ ⟨_, ⟨rfl, rfl⟩, rfl⟩; simp only [rdS, rdO, exA, exC, List.map_cons, List.map_nil]) | (refine (c3 _ 0 rfl).mono ?_; rintro _ _ ⟨_, ⟨rfl, rfl⟩, rfl⟩; simp only [rdS, rdO, exA, exC, List.map_cons, List.map_nil]) | (refine (c5 _ 0 rfl).mono ?_; rintro _ _ ⟨_, ⟨rfl, rfl⟩, rfl⟩; simp only [rdS, rdO, exA, exC, List.map_cons, List.map_nil])) | (with_reducible refine dP pl22_7Gi 8 (some 23) (by decide) (by kernel_rfl) ?_) | (with_reducible refine dP pl22_14Gi 8 (some 46) (by decide) (by kernel_rfl) ?_)
  refine awp_loopM (X := { y : Nat × List (List Ex) × Bool × Rs // LiOk ts (k5, b5).1 y.1 y.2.1 y.2.2.1 y.2.2.2 ∧ liG (rwF ts) ts y.1 y.2.1 y.2.2.1 y.2.2.2 = (xs, kC, bC) }) (fun x => ([.mp 0 3 0 0, .any, .mp 1 14 0 0, .mp 2 14 0 0, .any, boolV x.1.2.2.1, .any, .any, .any, .any, .any, .any, .any, .any, .any, .any, .any, .any, .any, .any, .any, .any, .any, .any, .any, .any, .any, .any, .any, .any, .any, .any, .any, .any, .any, .any, .any, .any, .any, .any, .any, .any, .any, .any, .any, .any, .any, .any, .any, .any, .any, .any, .any, .any, .any, .any, .any, .any, .any, .any, .any, .any, .any, .any, .any, .any, .any, .any, .any, .any, .any, .any, .any, .any, .any], [some (rdS ts x.1.2.2.2), some (.row 14 [[.p (.v (.int .i64 0)), .p (.v (.string ⟨#[]⟩)), .p (.v (.string ⟨#[]⟩)), nilA, nilA, nilA, nilA, nilA, nilA, nilA, nilA, .p (.v (.int .i64 0)), nilA, .p (.v (.bool false))]]), some (.row 14 [[.p (.v (.int .i64 3)), .p (.v (.string nm)), .p (.v (.string ⟨#[]⟩)), nilA, nilA, .nown 3 1 (enR x.1.2.1), nilA, nilA, nilA, nilA, nilA, .p (.v (.int .i64 (-1))), nilA, .p (.v (.bool false))]]), some (.nright 33 (x.1.2.1.length))])) (fun x => liNeed ts x.1.2.2.1 x.1.2.2.2) ⟨(3000, [], true, (k5, b5)), hz, hfin⟩ Unit (fun _ => (.exit 2, [.mp 0 3 0 0, .any, .mp 1 14 0 0, .mp 2 14 0 0, .any, .any, .any, .any, .any, .any, .any, .any, .any, .any, .any, .any, .any, .any, .any, .any, .any, .any, .any, .any, .any, .any, .any, .any, .any, .any, .any, .any, .any, .any, .any, .any, .any, .any, .any, .any, .any, .any, .any, .any, .any, .any, .any, .any, .any, .any, .any, .any, .any, .any, .any, .any, .any, .any, .any, .any, .any, .any, .any, .any, .any, .any, .any, .any, .any, .any, .any, .any, .any, .any, .any], [some (rdO ts kC bC), some (.row 14 [[.p (.v (.int .i64 0)), .p (.v (.string ⟨#[]⟩)), .p (.v (.string ⟨#[]⟩)), nilA, nilA, nilA, nilA, nilA, nilA, nilA, nilA, .p (.v (.int .i64 0)), nilA, .p (.v (.bool false))]]), some (.row 14 [[.p (.v (.int .i64 3)), .p (.v (.string nm)), .p (.v (.string ⟨#[]⟩)), nilA, nilA, .p (.sl 1 (enR xs)), nilA, nilA, nilA, nilA, nilA, .p (.v (.int .i64 (-1))), nilA, .p (.v (.bool false))]])])) (fun x => by simp) (fun y => by simp) ?_ ?_ ?_
  ·simp [wW, leR, smC, stmtI, tokLt, tokLtL, frzRow, toPss, toPs, toP, nilSl, ex_nil, exC, exL, exL_app, exL_len, leaf, nilA, rdS, rdO, emp, coC, soC, itC, keC, enS, enR, Rs.next]
  ·intro x
   obtain ⟨⟨g, l, more, ⟨k1, b1⟩⟩, hok, hJ⟩ := x
   simp only at hok hJ
   simp only [rdS, rdO, intV, boolV]
   cases more
   ·rw [liG_stop _ _ _ _ _ _ (.inl rfl)] at hJ
    simp only [Prod.mk.injEq] at hJ
    obtain ⟨rfl, rfl, rfl⟩ := hJ
    repeat' first | ((with_reducible first | refine cs ?_ ?_ | refine ws ?_ ?_ | refine wd ?_ ?_ | refine wu ?_ ?_) <;> intro h <;> try simp only [h]) | simp only [↓wBA, tGi, convA, seval, pl22_7Gi, pl22_14Gi] | (with_reducible refine dP pl22_7Gi 8 (some 23) (by decide) (by kernel_rfl) ?_) | (with_reducible refine dP pl22_14Gi 8 (some 46) (by decide) (by kernel_rfl) ?_)
    refine ⟨(), ?_⟩
    simp [wW, leR, smC, stmtI, tokLt, tokLtL, frzRow, toPss, toPs, toP, nilSl, ex_nil, exC, exL, exL_app, exL_len, leaf, nilA, rdS, rdO, emp, coC, soC, itC, keC, enS, enR, Rs.next]
   ·cases b1
    ·obtain ⟨g, rfl⟩ := hok.pos
     have hk1 := hok.le
     have hln := hok.lm rfl
     simp only at hk1 hln
     have hst := hok.step (x := (rwF ts (k1, false)).1) (rwF_fwd ts hts (k1, false) hk1)
     rw [liG_go] at hJ
     have a1 := awnF 5 (by decide) sOpen ts hts (k1, false)
     have g1 : Fwd ts (k1, false) (wnF ts 5 sOpen (k1, false)) := .wn (by decide) _ hk1
     obtain ⟨q7, hr7⟩ : ∃ r, wnF ts 5 sOpen (k1, false) = r := ⟨_, rfl⟩
     rw [hr7] at a1 g1
     have a2 := axsF ts hts q7 g1.2.1
     obtain ⟨⟨rl, q8⟩, hr8⟩ : ∃ r, xsF ts q7 = r := ⟨_, rfl⟩
     rw [hr8] at a2
     have a3 := awnF 5 (by decide) sShut ts hts q8
     obtain ⟨q6, hr6⟩ : ∃ r, wnF ts 5 sShut q8 = r := ⟨_, rfl⟩
     rw [hr6] at a3
     have hr : rwF ts (k1, false) = (rl, q6) := by simp only [rwF, hr7, hr8, hr6]
     rw [hr] at hst hJ
     simp only at hst hJ
     have hc := arsF sComma ts hts q6
     obtain ⟨v, hv⟩ : ∃ v, isF ts 5 sComma q6 = v := ⟨_, rfl⟩
     obtain ⟨⟨k3, b3⟩, hq3⟩ : ∃ v, psF ts 5 sComma q6 = v := ⟨_, rfl⟩
     rw [hv, hq3] at hc hst hJ
     have hlim1 := tL (n := (l.length + 1) * 24) (by omega)
     have hlim2 := lM (n := l.length + 1) (by omega)
     obtain ⟨k6, b6⟩ := q6
     obtain ⟨k7, b7⟩ := q7
     obtain ⟨k8, b8⟩ := q8
     simp only [sComma, sOpen, sShut, intV] at a1 a3 hc
     repeat' first | ((with_reducible first | refine cs ?_ ?_ | refine ws ?_ ?_ | refine wd ?_ ?_ | refine wu ?_ ?_) <;> intro h <;> try simp only [h]) | simp only [↓wBA, tGi, convA, seval, pl22_7Gi, pl22_14Gi, appendA, srcA, enR_len, hlim1, hlim2, unmaskS, Nat.mul_one] | ((with_reducible show ACalls _ _ _ _ _); first | (refine (a1 _ 0 rfl).mono ?_; rintro _ _ ⟨_, ⟨rfl, rfl⟩, rfl⟩; simp only [rdS, rdO, exA, exC, List.map_cons, List.map_nil]) | (refine (a2 _ 0 rfl).mono ?_; rintro _ _ ⟨_, ⟨rfl, rfl⟩, rfl⟩; simp only [rdS, rdO, exA, exC, List.map_cons, List.map_nil]) | (refine (a3 _ 0 rfl).mono ?_; rintro _ _ ⟨_, ⟨rfl, rfl⟩, rfl⟩; simp only [rdS, rdO, exA, exC, List.map_cons, List.map_nil]) | (refine (hc _ 0 rfl).mono ?_; rintro _ _ ⟨_, ⟨rfl, rfl⟩, rfl⟩; simp only [rdS, rdO, exA, exC, List.map_cons, List.map_nil])) | (with_reducible refine dP pl22_7Gi 8 (some 23) (by decide) (by kernel_rfl) ?_) | (with_reducible refine dP pl22_14Gi 8 (some 46) (by decide) (by kernel_rfl) ?_)
     refine ⟨⟨(g, l ++ [rl], v, (k3, b3)), hst.1, hJ⟩, hst.2, ?_⟩
     simp [wW, leR, smC, stmtI, tokLt, tokLtL, frzRow, toPss, toPs, toP, nilSl, ex_nil, exC, exL, exL_app, exL_len, leaf, nilA, rdS, rdO, emp, coC, soC, itC, keC, enS, enR, Rs.next]
    ·rw [liG_stop _ _ _ _ _ _ (.inr rfl)] at hJ
     simp only [Prod.mk.injEq] at hJ
     obtain ⟨rfl, rfl, rfl⟩ := hJ
     repeat' first | ((with_reducible first | refine cs ?_ ?_ | refine ws ?_ ?_ | refine wd ?_ ?_ | refine wu ?_ ?_) <;> intro h <;> try simp only [h]) | simp only [↓wBA, tGi, convA, seval, pl22_7Gi, pl22_14Gi] | (with_reducible refine dP pl22_7Gi 8 (some 23) (by decide) (by kernel_rfl) ?_) | (with_reducible refine dP pl22_14Gi 8 (some 46) (by decide) (by kernel_rfl) ?_)
     refine ⟨(), ?_⟩
     simp [wW, leR, smC, stmtI, tokLt, tokLtL, frzRow, toPss, toPs, toP, nilSl, ex_nil, exC, exL, exL_app, exL_len, leaf, nilA, rdS, rdO, emp, coC, soC, itC, keC, enS, enR, Rs.next]
  ·intro y
   simp only [rdS, rdO, intV, boolV]
   have e1 := hL
   have e2 := d32 xs.length
   cases bC
   ·skip
    repeat' first | ((with_reducible first | refine cs ?_ ?_ | refine ws ?_ ?_ | refine wd ?_ ?_ | refine wu ?_ ?_) <;> intro h <;> try simp only [h]) | simp only [↓wBA, tGi, convA, seval, pl22_7Gi, pl22_14Gi, enS_len, nilS_len, enR_len, hL, hnil, List.length_nil, e1, e2] | (with_reducible refine dP pl22_7Gi 8 (some 23) (by decide) (by kernel_rfl) ?_) | (with_reducible refine dP pl22_14Gi 8 (some 46) (by decide) (by kernel_rfl) ?_)
    all_goals refine ret_obI (a := .agg ((smC (stmtI nm [] xs)).map .p)) (b := _) (rdP ts _) ?_ rfl rfl
    all_goals simp only [↓wBA, tGi, convA, seval]
    all_goals simp_all [wS, leR, smC, stmtI, tokLt, tokLtL, frzRow, toPss, toPs, toP, nilSl, ex_nil, exC, exL, exL_app, exL_len, leaf, nilA, rdS, rdO, emp, coC, soC, itC, keC, enS, enR, Rs.next]
   ·skip
    repeat' first | ((with_reducible first | refine cs ?_ ?_ | refine ws ?_ ?_ | refine wd ?_ ?_ | refine wu ?_ ?_) <;> intro h <;> try simp only [h]) | simp only [↓wBA, tGi, convA, seval, pl22_7Gi, pl22_14Gi, enS_len, nilS_len, enR_len, hL, hnil, List.length_nil, e1, e2] | (with_reducible refine dP pl22_7Gi 8 (some 23) (by decide) (by kernel_rfl) ?_) | (with_reducible refine dP pl22_14Gi 8 (some 46) (by decide) (by kernel_rfl) ?_)
    all_goals refine ret_obI (a := .agg ((smC (stmtI nm [] xs)).map .p)) (b := _) (rdP ts _) ?_ rfl rfl
    all_goals simp only [↓wBA, tGi, convA, seval]
    all_goals simp_all [wS, leR, smC, stmtI, tokLt, tokLtL, frzRow, toPss, toPs, toP, nilSl, ex_nil, exC, exL, exL_app, exL_len, leaf, nilA, rdS, rdO, emp, coC, soC, itC, keC, enS, enR, Rs.next]
end Go.Proofs.YtcnkmandddfdmaaGreatDoor
namespace Go.Proofs.YtcnkmandddfdmaaGreatDoor
open Go.RowKit
open Nat renaming reduceBEq → ZA, reducePow → ZB, reduceAdd → ZC, reduceSub → ZD, reduceMul → ZE, reduceEqDiff → ZF, reduceLeDiff → ZG, reduceLT → ZH
open Int renaming reduceLT → ZI, reduceLE → ZJ, reduceToNat → ZK
end Go.Proofs.YtcnkmandddfdmaaGreatDoor
