/- The reader's statements. -/
import Derived.Test.YtcnkmandddfdmaaM33
set_option linter.unusedSimpArgs false
set_option linter.unusedVariables false
set_option linter.defProp false
set_option maxRecDepth 100000
set_option maxHeartbeats 32000000
namespace Go.Proofs.Ytcnkmandddfdmaa
open Go.RowKit
open Nat renaming reduceBEq → ZA, reducePow → ZB, reduceAdd → ZC, reduceSub → ZD, reduceMul → ZE, reduceEqDiff → ZF, reduceLeDiff → ZG, reduceLT → ZH
open Int renaming reduceLT → ZI, reduceLE → ZJ, reduceToNat → ZK
def tRs := aa wX <| aa T3 <| aa T4 <| aa T9 <| aa T22 <| aa T29 <| aa T30 <| aa T33 <| aa T36 <| aa T75 T77
structure Sm where
 kind : Int
 tb : ByteArray
 nm : ByteArray
 cols : List Co
 names : List ByteArray
 rows : List (List Ex)
 items : List (Bool × Ex)
 src : List So
 wh : List Ex
 group : List Ex
 order : List (Ex × Bool)
 limit : Int
 sets : List Ex
 hash : Bool
def enS (l : List ByteArray) : List (List PV) := l.map fun s => [.v (.string s)]
def enR (l : List (List Ex)) : List (List PV) := l.map fun r => [.sl 8 (exL r)]
def smC (s : Sm) : List PV := [.v (.int .i64 s.kind), .v (.string s.tb), .v (.string s.nm), .sl 4 (s.cols.map coC), nilSl 1 (enS s.names), .sl 1 (enR s.rows), .sl 9 (s.items.map itC), .sl 3 (s.src.map soC), .sl 8 (exL s.wh), .sl 8 (exL s.group), .sl 9 (s.order.map keC), .v (.int .i64 s.limit), .sl 8 (exL s.sets), .v (.bool s.hash)]
structure Bd (s : Sm) : Prop where
 names : s.names.length ≤ 2050
 rows : s.rows.length ≤ 2050
 row : ∀ r ∈ s.rows, r.length ≤ 2050 ∧ okEL r
 items : s.items.length ≤ 2050
 item : ∀ i ∈ s.items, okE i.2
 src : s.src.length ≤ 2060
 so : ∀ i ∈ s.src, i.2.2.length ≤ 2050 ∧ okEL i.2.2
 wh : s.wh.length ≤ 1 ∧ okEL s.wh
 group : s.group.length ≤ 2050 ∧ okEL s.group
 order : s.order.length ≤ 2050
 key : ∀ i ∈ s.order, okE i.1
 sets : s.sets.length ≤ 2050 ∧ okEL s.sets
def StR (ts : List Tok) (k : Nat) (b : Bool) (r : AV) (k' : Nat) (b' : Bool) : Prop := (∃ s : Sm, r = .agg ((smC s).map .p) ∧ (s.kind = 5 → s.names.length = s.sets.length ∧ (b' = true ∨ s.names ≠ [])) ∧ Bd s) ∧ May ts k b k' b'
theorem enS_len (l : List ByteArray) : (enS l).length = l.length := by simp [enS]
theorem ex_nil (a b : Nat) (L : List (List PV)) : (∃ t e ls, (a = t ∧ b = e ∧ L = ls) ∧ nilSl b L = nilSl e ls) = True := eq_true ⟨_, _, _, ⟨rfl, rfl, rfl⟩, rfl⟩
theorem nilS_len (l : List ByteArray) : lenA cx 29 (.p (nilSl 1 (enS l))) = some l.length := by
 cases l with
 | nil => rfl
 | cons t ts => simp [nilSl, enS, lenA, ck_29, elemsA]
theorem enR_len (l : List (List Ex)) : (enR l).length = l.length := by simp [enR]
theorem aupdate (ts : List Tok) (hts : ts.length ≤ 2048) (k : Nat) (hk : k ≤ ts.length) (b : Bool) : RCalls 27 [] ts k b (StR ts k b) := by
 refine RCalls.of rfl ?_
 refine acalls_of cx_ok dr_ok Try.func27 (by kernel_rfl) rfl (nt := 52) (rs := [.cell 2 36]) rfl rfl ?_
 simp only [↓wBA, tRs, convA, ZA, reduceIte, reduceCtorEq, ZB, ZC, ZD, ZE, ZF, ZG, ZH, ZI, ZJ, ZK]
 refine (aname ts hts _ (by omega) _ _ 0 rfl).mono ?_
 rintro _ _ ⟨k1, b1, ⟨⟨s1, rfl⟩, hv1⟩, rfl⟩
 simp only [Adv, May] at hv1
 simp only [rdO, intV, boolV]
 simp only [↓wBA, tRs, convA, ZA, reduceIte, reduceCtorEq, ZB, ZC, ZD, ZE, ZF, ZG, ZH, ZI, ZJ, ZK]
 refine (awant 1 (by decide) _ ts hts _ (by grind) _ _ 0 rfl).mono ?_
 rintro _ _ ⟨k2, b2, ⟨rfl, hv2⟩, rfl⟩
 simp only [Adv, May] at hv2
 simp only [rdO, intV, boolV]
 simp only [↓wBA, tRs, convA, ZA, reduceIte, reduceCtorEq, ZB, ZC, ZD, ZE, ZF, ZG, ZH, ZI, ZJ, ZK]
 refine awp_loopM (X := { q : List ByteArray × List Ex × Nat × Bool × Bool // k2 ≤ q.2.2.1 ∧ q.2.2.1 ≤ ts.length ∧ q.1.length = q.2.1.length ∧ q.1.length ≤ q.2.2.1 + 1 ∧ (q.2.2.2.1 = false → b2 = false ∧ q.1.length ≤ q.2.2.1) ∧ okEL q.2.1 ∧ (q.1 ≠ [] ∨ q.2.2.2.2 = true) }) (fun q => ([.mp 0 3 0 0, .any, .mp 1 14 0 0, .mp 2 14 0 0, boolV q.1.2.2.2.2, .any, .any, .any, .any, .any, .any, .any, .any, .any, .any, .any, .any, .any, .any, .any, .any, .any, .any, .any, .any, .any, .any, .any, .any, .any, .any, .any, .any, .any, .any, .any, .any, .any, .any, .any, .any, .any, .any, .any, .any, .any, .any, .any, .any, .any, .any, .any, .any], [some (rdO ts q.1.2.2.1 q.1.2.2.2.1), some (.row 14 [[.p (.v (.int .i64 0)), .p (.v (.string ⟨#[]⟩)), .p (.v (.string ⟨#[]⟩)), nilA, nilA, nilA, nilA, nilA, nilA, nilA, nilA, .p (.v (.int .i64 0)), nilA, .p (.v (.bool false))]]), some (.row 14 [[.p (.v (.int .i64 5)), .p (.v (.string s1)), .p (.v (.string ⟨#[]⟩)), nilA, .nown 3 1 (enS q.1.1), nilA, nilA, nilA, nilA, nilA, nilA, .p (.v (.int .i64 (-1))), .nown 4 8 (exL q.1.2.1), .p (.v (.bool false))]]), some (.nright 9 (q.1.1.length)), some (.nright 86 (q.1.2.1.length * 8))])) (fun q => if q.1.2.2.2.1 = true then 0 else ts.length + 1 - q.1.2.2.1) ⟨([], [], k2, b2, true), by simp [okEL]; omega⟩ { y : List ByteArray × List Ex × Nat × Bool // k2 ≤ y.2.2.1 ∧ y.2.2.1 ≤ ts.length ∧ y.1.length = y.2.1.length ∧ (y.2.2.2 = false → b2 = false) ∧ y.1.length ≤ 2050 ∧ okEL y.2.1 ∧ (y.1 ≠ [] ∨ y.2.2.2 = true) } (fun y => (.exit 0, [.mp 0 3 0 0, .any, .mp 1 14 0 0, .mp 2 14 0 0, .any, .any, .any, .any, .any, .any, .any, .any, .any, .any, .any, .any, .any, .any, .any, .any, .any, .any, .any, .any, .any, .any, .any, .any, .any, .any, .any, .any, .any, .any, .any, .any, .any, .any, .any, .any, .any, .any, .any, .any, .any, .any, .any, .any, .any, .any, .any, .any, .any], [some (rdO ts y.1.2.2.1 y.1.2.2.2), some (.row 14 [[.p (.v (.int .i64 0)), .p (.v (.string ⟨#[]⟩)), .p (.v (.string ⟨#[]⟩)), nilA, nilA, nilA, nilA, nilA, nilA, nilA, nilA, .p (.v (.int .i64 0)), nilA, .p (.v (.bool false))]]), some (.row 14 [[.p (.v (.int .i64 5)), .p (.v (.string s1)), .p (.v (.string ⟨#[]⟩)), nilA, .p (nilSl 1 (enS y.1.1)), nilA, nilA, nilA, nilA, nilA, nilA, .p (.v (.int .i64 (-1))), .p (.sl 8 (exL y.1.2.1)), .p (.v (.bool false))]])])) (fun q => by simp) (fun y => by simp) ?_ ?_ ?_
 ·simp [WeakE, Weak, leL, leT, leM, leG, leA, leC, leR, leS, leO, tokLt, tokLtL, intV, boolV, ex_nil, exC, exL, exL_app, exL_len, leaf, nilA, rdO, emp, coC, soC, itC, keC, enS, enR]
 ·rintro ⟨⟨ns, l, k1, b1, more⟩, h1, h2, h3, h4, h5, h6, h7⟩
  simp only at h1 h2 h3 h4 h5 h6 h7
  simp only [rdO, intV, boolV]
  cases more
  ·skip
   simp only [↓wBA, tRs, convA, ZA, reduceIte, reduceCtorEq, ZB, ZC, ZD, ZE, ZF, ZG, ZH, ZI, ZJ, ZK]
   refine ⟨⟨(ns, l, k1, b1), by grind⟩, ?_⟩
   simp [WeakE, Weak, leL, leT, leM, leG, leA, leC, leR, leS, leO, tokLt, tokLtL, intV, boolV, ex_nil, exC, exL, exL_app, exL_len, leaf, nilA, rdO, emp, coC, soC, itC, keC, enS, enR]
  ·cases b1
   ·skip
    have hlim1 := tL (n := (ns.length + 1) * 16) (by omega)
    have hlim2 := lM (n := ns.length + 1) (by omega)
    have hlim3 := tL (n := (l.length + 1) * 104) (by omega)
    have hlim4 := lM (n := l.length + 1) (by omega)
    simp only [↓wBA, tRs, convA, ZA, reduceIte, reduceCtorEq, ZB, ZC, ZD, ZE, ZF, ZG, ZH, ZI, ZJ, ZK]
    refine ⟨(.det 0 (.det 1 (.det 2 (.act 3 (.act 4 (.fin 5 (.det 6 (.fin 7 .done)))))))), by decide, by kernel_rfl, by kernel_rfl, ?_⟩
    simp only [↓wBA, tRs, convA, ZA, reduceIte, reduceCtorEq, ZB, ZC, ZD, ZE, ZF, ZG, ZH, ZI, ZJ, ZK]
    refine (aname ts hts _ (by grind) _ _ 0 rfl).mono ?_
    rintro _ _ ⟨k11, b11, ⟨⟨s11, rfl⟩, hv11⟩, rfl⟩
    simp only [Adv, May] at hv11
    simp only [rdO, intV, boolV]
    simp only [↓wBA, tRs, convA, ZA, reduceIte, reduceCtorEq, ZB, ZC, ZD, ZE, ZF, ZG, ZH, ZI, ZJ, ZK, appendA, srcA, enS_len, exL_len, hlim1, hlim2, hlim3, hlim4, unmaskS, Nat.mul_one]
    refine (awant 5 (by decide) _ ts hts _ (by grind) _ _ 0 rfl).mono ?_
    rintro _ _ ⟨k12, b12, ⟨rfl, hv12⟩, rfl⟩
    simp only [Adv, May] at hv12
    simp only [rdO, intV, boolV]
    simp only [↓wBA, tRs, convA, ZA, reduceIte, reduceCtorEq, ZB, ZC, ZD, ZE, ZF, ZG, ZH, ZI, ZJ, ZK]
    refine ⟨(.det 0 (.det 1 (.det 2 (.act 3 (.act 4 (.fin 5 (.det 6 (.fin 7 .done)))))))), by decide, by kernel_rfl, by kernel_rfl, ?_⟩
    simp only [↓wBA, tRs, convA, ZA, reduceIte, reduceCtorEq, ZB, ZC, ZD, ZE, ZF, ZG, ZH, ZI, ZJ, ZK]
    refine (aExpr ts hts _ (by grind) _ _ _ 0 rfl).mono ?_
    rintro _ _ ⟨k13, b13, ⟨⟨x, rfl, hx⟩, hv13⟩, rfl⟩
    simp only [Adv] at hv13
    rcases x with ⟨kd, vk, vn, vs, tb, nm, sl, kids⟩
    simp only [exA, exC, rdO, intV, boolV, List.map_cons, List.map_nil]
    simp only [↓wBA, tRs, convA, ZA, reduceIte, reduceCtorEq, ZB, ZC, ZD, ZE, ZF, ZG, ZH, ZI, ZJ, ZK, appendA, srcA, enS_len, exL_len, hlim1, hlim2, hlim3, hlim4, unmaskS, Nat.mul_one]
    refine (aRsign _ ts hts _ _ _ 0 rfl).mono ?_
    rintro _ _ ⟨k14, b14, ⟨hb14, v, rfl, e14, f14⟩, rfl⟩
    simp only [rdO, intV, boolV]
    have hq14 : v = true ∨ v = false := by cases v <;> simp
    simp only [↓wBA, tRs, convA, ZA, reduceIte, reduceCtorEq, ZB, ZC, ZD, ZE, ZF, ZG, ZH, ZI, ZJ, ZK]
    clear hlim1 hlim2 hlim3 hlim4
    have hk14 : k13 ≤ k14 ∧ k14 ≤ ts.length := by cases v <;> grind
    refine ⟨⟨(ns ++ [s11], l ++ [.mk kd vk vn vs tb nm sl kids], k14, b14, v), by have := okEL_snoc h6 hx; have hne : ns ++ [s11] ≠ [] := (by simp); simp only [List.length_append, List.length_cons, List.length_nil]; grind⟩, by simp only [Bool.false_eq_true, if_false]; grind, ?_⟩
    simp [WeakE, Weak, leL, leT, leM, leG, leA, leC, leR, leS, leO, tokLt, tokLtL, intV, boolV, ex_nil, exC, exL, exL_app, exL_len, leaf, nilA, rdO, emp, coC, soC, itC, keC, enS, enR]
   ·skip
    simp only [↓wBA, tRs, convA, ZA, reduceIte, reduceCtorEq, ZB, ZC, ZD, ZE, ZF, ZG, ZH, ZI, ZJ, ZK]
    refine ⟨⟨(ns, l, k1, true), by grind⟩, ?_⟩
    simp [WeakE, Weak, leL, leT, leM, leG, leA, leC, leR, leS, leO, tokLt, tokLtL, intV, boolV, ex_nil, exC, exL, exL_app, exL_len, leaf, nilA, rdO, emp, coC, soC, itC, keC, enS, enR]
 ·rintro ⟨⟨ns, l, k1, b1⟩, h1, h2, h3, h4, h5, h6, h7⟩
  simp only at h1 h2 h3 h4 h5 h6 h7
  simp only [rdO, intV, boolV]
  simp only [↓wBA, tRs, convA, ZA, reduceIte, reduceCtorEq, ZB, ZC, ZD, ZE, ZF, ZG, ZH, ZI, ZJ, ZK]
  refine (awhere ts hts _ (by grind) _ _ 0 rfl).mono ?_
  rintro _ _ ⟨k21, b21, ⟨⟨wl, rfl, hwl⟩, hv21⟩, rfl⟩
  simp only [Adv, May] at hv21
  simp only [rdO, intV, boolV]
  cases b21
  ·skip
   simp only [↓wBA, tRs, convA, ZA, reduceIte, reduceCtorEq, ZB, ZC, ZD, ZE, ZF, ZG, ZH, ZI, ZJ, ZK, enS_len, nilS_len]
   exact ret_rdW (k' := k21) (b' := decide ((ns.length : Int) > 16)) (.agg ((smC ({ kind := 5, tb := s1, nm := emp, cols := [], names := ns, rows := [], items := [], src := [], wh := wl, group := [], order := [], limit := -1, sets := l, hash := false })).map .p)) (.inl rfl) rfl (by simp [leT, leG, leC, leA, leM, smC, tokLt, tokLtL, frzRow, toPss, toPs, toP, nilSl, ex_nil, exC, exL, exL_app, exL_len, leaf, nilA, rdO, emp, coC, soC, itC, keC, enS, enR]) rfl rfl ⟨⟨_, rfl, fun _ => ⟨h3, .inr (by grind)⟩, by constructor <;> simp_all [okEL] <;> omega⟩, by simp only [May]; grind⟩
  ·skip
   simp only [↓wBA, tRs, convA, ZA, reduceIte, reduceCtorEq, ZB, ZC, ZD, ZE, ZF, ZG, ZH, ZI, ZJ, ZK, enS_len, nilS_len]
   exact ret_rdW (k' := k21) (b' := true) (.agg ((smC ({ kind := 5, tb := s1, nm := emp, cols := [], names := ns, rows := [], items := [], src := [], wh := wl, group := [], order := [], limit := -1, sets := l, hash := false })).map .p)) (.inl rfl) rfl (by simp [leT, leG, leC, leA, leM, smC, tokLt, tokLtL, frzRow, toPss, toPs, toP, nilSl, ex_nil, exC, exL, exL_app, exL_len, leaf, nilA, rdO, emp, coC, soC, itC, keC, enS, enR]) rfl rfl ⟨⟨_, rfl, fun _ => ⟨h3, .inl rfl⟩, by constructor <;> simp_all [okEL] <;> omega⟩, by simp only [May]; grind⟩
theorem acreate (ts : List Tok) (hts : ts.length ≤ 2048) (k : Nat) (hk : k ≤ ts.length) (b : Bool) : RCalls 24 [] ts k b (StR ts k b) := by
 refine RCalls.of rfl ?_
 refine acalls_of cx_ok dr_ok Try.func24 (by kernel_rfl) rfl (nt := 73) (rs := [.cell 2 36]) rfl rfl ?_
 simp only [↓wBA, tRs, convA, ZA, reduceIte, reduceCtorEq, ZB, ZC, ZD, ZE, ZF, ZG, ZH, ZI, ZJ, ZK]
 refine (aRword _ ts hts _ _ _ 0 rfl).mono ?_
 rintro _ _ ⟨k1, b1, ⟨hb1, v, rfl, e1, f1⟩, rfl⟩
 simp only [rdO, intV, boolV]
 have hq1 : v = true ∨ v = false := by cases v <;> simp
 cases v
 ·skip
  simp only [↓wBA, tRs, convA, ZA, reduceIte, reduceCtorEq, ZB, ZC, ZD, ZE, ZF, ZG, ZH, ZI, ZJ, ZK]
  refine (awant 1 (by decide) _ ts hts _ (by grind) _ _ 0 rfl).mono ?_
  rintro _ _ ⟨k2, b2, ⟨rfl, hv2⟩, rfl⟩
  simp only [Adv, May] at hv2
  simp only [rdO, intV, boolV]
  simp only [↓wBA, tRs, convA, ZA, reduceIte, reduceCtorEq, ZB, ZC, ZD, ZE, ZF, ZG, ZH, ZI, ZJ, ZK]
  refine (aname ts hts _ (by grind) _ _ 0 rfl).mono ?_
  rintro _ _ ⟨k3, b3, ⟨⟨s3, rfl⟩, hv3⟩, rfl⟩
  simp only [Adv, May] at hv3
  simp only [rdO, intV, boolV]
  simp only [↓wBA, tRs, convA, ZA, reduceIte, reduceCtorEq, ZB, ZC, ZD, ZE, ZF, ZG, ZH, ZI, ZJ, ZK]
  refine (awant 1 (by decide) _ ts hts _ (by grind) _ _ 0 rfl).mono ?_
  rintro _ _ ⟨k4, b4, ⟨rfl, hv4⟩, rfl⟩
  simp only [Adv, May] at hv4
  simp only [rdO, intV, boolV]
  simp only [↓wBA, tRs, convA, ZA, reduceIte, reduceCtorEq, ZB, ZC, ZD, ZE, ZF, ZG, ZH, ZI, ZJ, ZK]
  refine (aname ts hts _ (by grind) _ _ 0 rfl).mono ?_
  rintro _ _ ⟨k5, b5, ⟨⟨s5, rfl⟩, hv5⟩, rfl⟩
  simp only [Adv, May] at hv5
  simp only [rdO, intV, boolV]
  simp only [↓wBA, tRs, convA, ZA, reduceIte, reduceCtorEq, ZB, ZC, ZD, ZE, ZF, ZG, ZH, ZI, ZJ, ZK]
  refine (awant 5 (by decide) _ ts hts _ (by grind) _ _ 0 rfl).mono ?_
  rintro _ _ ⟨k6, b6, ⟨rfl, hv6⟩, rfl⟩
  simp only [Adv, May] at hv6
  simp only [rdO, intV, boolV]
  simp only [↓wBA, tRs, convA, ZA, reduceIte, reduceCtorEq, ZB, ZC, ZD, ZE, ZF, ZG, ZH, ZI, ZJ, ZK]
  refine ⟨(.det 0 (.det 1 (.det 2 (.act 3 (.act 4 (.fin 5 (.det 6 (.fin 7 .done)))))))), by decide, by kernel_rfl, by kernel_rfl, ?_⟩
  simp only [↓wBA, tRs, convA, ZA, reduceIte, reduceCtorEq, ZB, ZC, ZD, ZE, ZF, ZG, ZH, ZI, ZJ, ZK]
  refine (aname ts hts _ (by grind) _ _ 0 rfl).mono ?_
  rintro _ _ ⟨k7, b7, ⟨⟨s7, rfl⟩, hv7⟩, rfl⟩
  simp only [Adv, May] at hv7
  simp only [rdO, intV, boolV]
  simp only [↓wBA, tRs, convA, ZA, reduceIte, reduceCtorEq, ZB, ZC, ZD, ZE, ZF, ZG, ZH, ZI, ZJ, ZK, appendA, srcA, unmaskS, Nat.mul_one, maxLen]
  refine (awant 5 (by decide) _ ts hts _ (by grind) _ _ 0 rfl).mono ?_
  rintro _ _ ⟨k8, b8, ⟨rfl, hv8⟩, rfl⟩
  simp only [Adv, May] at hv8
  simp only [rdO, intV, boolV]
  simp only [↓wBA, tRs, convA, ZA, reduceIte, reduceCtorEq, ZB, ZC, ZD, ZE, ZF, ZG, ZH, ZI, ZJ, ZK]
  refine (aRword _ ts hts _ _ _ 0 rfl).mono ?_
  rintro _ _ ⟨k9, b9, ⟨hb9, v, rfl, e9, f9⟩, rfl⟩
  simp only [rdO, intV, boolV]
  have hq9 : v = true ∨ v = false := by cases v <;> simp
  cases v
  ·skip
   simp only [↓wBA, tRs, convA, ZA, reduceIte, reduceCtorEq, ZB, ZC, ZD, ZE, ZF, ZG, ZH, ZI, ZJ, ZK]
   exact ret_rdW (k' := k9) (b' := b9) (.agg ((smC ({ kind := 2, tb := s5, nm := s3, cols := [], names := [s7], rows := [], items := [], src := [], wh := [], group := [], order := [], limit := -1, sets := [], hash := false })).map .p)) (.inl rfl) rfl (by simp [leT, leG, leC, leA, leM, smC, tokLt, tokLtL, frzRow, toPss, toPs, toP, nilSl, ex_nil, exC, exL, exL_app, exL_len, leaf, nilA, rdO, emp, coC, soC, itC, keC, enS, enR]) rfl rfl ⟨⟨_, rfl, by simp, by constructor <;> simp_all [okEL] <;> omega⟩, by simp only [May]; grind⟩
  ·skip
   simp only [↓wBA, tRs, convA, ZA, reduceIte, reduceCtorEq, ZB, ZC, ZD, ZE, ZF, ZG, ZH, ZI, ZJ, ZK]
   refine (awant 1 (by decide) _ ts hts _ (by grind) _ _ 0 rfl).mono ?_
   rintro _ _ ⟨k10, b10, ⟨rfl, hv10⟩, rfl⟩
   simp only [Adv, May] at hv10
   simp only [rdO, intV, boolV]
   simp only [↓wBA, tRs, convA, ZA, reduceIte, reduceCtorEq, ZB, ZC, ZD, ZE, ZF, ZG, ZH, ZI, ZJ, ZK]
   exact ret_rdW (k' := k10) (b' := b10) (.agg ((smC ({ kind := 2, tb := s5, nm := s3, cols := [], names := [s7], rows := [], items := [], src := [], wh := [], group := [], order := [], limit := -1, sets := [], hash := true })).map .p)) (.inl rfl) rfl (by simp [leT, leG, leC, leA, leM, smC, tokLt, tokLtL, frzRow, toPss, toPs, toP, nilSl, ex_nil, exC, exL, exL_app, exL_len, leaf, nilA, rdO, emp, coC, soC, itC, keC, enS, enR]) rfl rfl ⟨⟨_, rfl, by simp, by constructor <;> simp_all [okEL] <;> omega⟩, by simp only [May]; grind⟩
 ·skip
  simp only [↓wBA, tRs, convA, ZA, reduceIte, reduceCtorEq, ZB, ZC, ZD, ZE, ZF, ZG, ZH, ZI, ZJ, ZK]
  refine (aname ts hts _ (by grind) _ _ 0 rfl).mono ?_
  rintro _ _ ⟨k2, b2, ⟨⟨s2, rfl⟩, hv2⟩, rfl⟩
  simp only [Adv, May] at hv2
  simp only [rdO, intV, boolV]
  simp only [↓wBA, tRs, convA, ZA, reduceIte, reduceCtorEq, ZB, ZC, ZD, ZE, ZF, ZG, ZH, ZI, ZJ, ZK]
  refine (awant 5 (by decide) _ ts hts _ (by grind) _ _ 0 rfl).mono ?_
  rintro _ _ ⟨k3, b3, ⟨rfl, hv3⟩, rfl⟩
  simp only [Adv, May] at hv3
  simp only [rdO, intV, boolV]
  simp only [↓wBA, tRs, convA, ZA, reduceIte, reduceCtorEq, ZB, ZC, ZD, ZE, ZF, ZG, ZH, ZI, ZJ, ZK]
  refine awp_loopM (X := { q : List (Co) × Nat × Bool × Bool // k3 ≤ q.2.1 ∧ q.2.1 ≤ ts.length ∧ q.1.length ≤ q.2.1 + 1 ∧ (q.2.2.1 = false → b3 = false ∧ q.1.length ≤ q.2.1) ∧ (True) }) (fun q => ([.mp 0 3 0 0, .any, .mp 1 14 0 0, .mp 2 14 0 0, boolV q.1.2.2.2, .any, .any, .any, .any, .any, .any, .any, .any, .any, .any, .any, .any, .any, .any, .any, .any, .any, .any, .any, .any, .any, .any, .any, .any, .any, .any, .any, .any, .any, .any, .any, .any, .any, .any, .any, .any, .any, .any, .any, .any, .any, .any, .any, .any, .any, .any, .any, .any, .any, .any, .any, .any, .any, .any, .any, .any, .any, .any, .any, .any, .any, .any, .any, .any, .any, .any, .any, .any, .any], [some (rdO ts q.1.2.1 q.1.2.2.1), some (.row 14 [[.p (.v (.int .i64 0)), .p (.v (.string ⟨#[]⟩)), .p (.v (.string ⟨#[]⟩)), nilA, nilA, nilA, nilA, nilA, nilA, nilA, nilA, .p (.v (.int .i64 0)), nilA, .p (.v (.bool false))]]), some (.row 14 [[.p (.v (.int .i64 1)), .p (.v (.string s2)), .p (.v (.string ⟨#[]⟩)), .nown 3 4 (q.1.1.map coC), nilA, nilA, nilA, nilA, nilA, nilA, nilA, .p (.v (.int .i64 (-1))), nilA, .p (.v (.bool false))]]), some (.nright 54 (q.1.1.length * 4))])) (fun q => if q.1.2.2.1 = true then 0 else ts.length + 1 - q.1.2.1) ⟨([], k3, b3, true), by simp [okEL]; grind⟩ { y : List (Co) × Nat × Bool // k3 ≤ y.2.1 ∧ y.2.1 ≤ ts.length ∧ (y.2.2 = false → b3 = false) ∧ y.1.length ≤ 2050 ∧ (True) } (fun y => (.exit 0, [.mp 0 3 0 0, .any, .mp 1 14 0 0, .mp 2 14 0 0, .any, .any, .any, .any, .any, .any, .any, .any, .any, .any, .any, .any, .any, .any, .any, .any, .any, .any, .any, .any, .any, .any, .any, .any, .any, .any, .any, .any, .any, .any, .any, .any, .any, .any, .any, .any, .any, .any, .any, .any, .any, .any, .any, .any, .any, .any, .any, .any, .any, .any, .any, .any, .any, .any, .any, .any, .any, .any, .any, .any, .any, .any, .any, .any, .any, .any, .any, .any, .any, .any], [some (rdO ts y.1.2.1 y.1.2.2), some (.row 14 [[.p (.v (.int .i64 0)), .p (.v (.string ⟨#[]⟩)), .p (.v (.string ⟨#[]⟩)), nilA, nilA, nilA, nilA, nilA, nilA, nilA, nilA, .p (.v (.int .i64 0)), nilA, .p (.v (.bool false))]]), some (.row 14 [[.p (.v (.int .i64 1)), .p (.v (.string s2)), .p (.v (.string ⟨#[]⟩)), .p (.sl 4 (y.1.1.map coC)), nilA, nilA, nilA, nilA, nilA, nilA, nilA, .p (.v (.int .i64 (-1))), nilA, .p (.v (.bool false))]])])) (fun q => by simp) (fun y => by simp) ?_ ?_ ?_
  ·simp [WeakE, Weak, leL, leT, leM, leG, leA, leC, leR, leS, leO, tokLt, tokLtL, intV, boolV, ex_nil, exC, exL, exL_app, exL_len, leaf, nilA, rdO, emp, coC, soC, itC, keC, enS, enR]
  ·rintro ⟨⟨l, kA, bA, more⟩, h1, h2, h3, h4, hinv⟩
   simp only at h1 h2 h3 h4 hinv
   simp only [rdO, intV, boolV]
   cases more
   ·skip
    simp only [↓wBA, tRs, convA, ZA, reduceIte, reduceCtorEq, ZB, ZC, ZD, ZE, ZF, ZG, ZH, ZI, ZJ, ZK]
    refine ⟨⟨(l, kA, bA), by grind⟩, ?_⟩
    simp [WeakE, Weak, leL, leT, leM, leG, leA, leC, leR, leS, leO, tokLt, tokLtL, intV, boolV, ex_nil, exC, exL, exL_app, exL_len, leaf, nilA, rdO, emp, coC, soC, itC, keC, enS, enR]
   ·cases bA
    ·skip
     have hlim1 := tL (n := (l.length + 1) * 32) (by omega)
     have hlim2 := lM (n := l.length + 1) (by omega)
     simp only [↓wBA, tRs, convA, ZA, reduceIte, reduceCtorEq, ZB, ZC, ZD, ZE, ZF, ZG, ZH, ZI, ZJ, ZK]
     refine ⟨(.det 0 (.det 1 (.det 2 (.act 3 (.act 4 (.fin 5 (.det 6 (.fin 7 .done)))))))), by decide, by kernel_rfl, by kernel_rfl, ?_⟩
     simp only [↓wBA, tRs, convA, ZA, reduceIte, reduceCtorEq, ZB, ZC, ZD, ZE, ZF, ZG, ZH, ZI, ZJ, ZK]
     refine (acolumn ts hts _ (by grind) _ _ 0 rfl).mono ?_
     rintro _ _ ⟨k5, b5, ⟨⟨c, rfl⟩, hv5⟩, rfl⟩
     simp only [Adv, May] at hv5
     simp only [rdO, intV, boolV]
     obtain ⟨c1, c2, c3, c4⟩ := c
     simp only [coC, List.map_cons, List.map_nil]
     simp only [↓wBA, tRs, convA, ZA, reduceIte, reduceCtorEq, ZB, ZC, ZD, ZE, ZF, ZG, ZH, ZI, ZJ, ZK, appendA, srcA, List.length_map, hlim1, hlim2, unmaskS, Nat.mul_one]
     refine (aRsign _ ts hts _ _ _ 0 rfl).mono ?_
     rintro _ _ ⟨k6, b6, ⟨hb6, v, rfl, e6, f6⟩, rfl⟩
     simp only [rdO, intV, boolV]
     have hq6 : v = true ∨ v = false := by cases v <;> simp
     simp only [↓wBA, tRs, convA, ZA, reduceIte, reduceCtorEq, ZB, ZC, ZD, ZE, ZF, ZG, ZH, ZI, ZJ, ZK]
     clear hlim1 hlim2
     have hkk : k5 ≤ k6 ∧ k6 ≤ ts.length := by cases v <;> grind
     refine ⟨⟨(l ++ [(c1, c2, c3, c4)], k6, b6, v), by have hnew := trivial; simp only [List.length_append, List.length_cons, List.length_nil]; grind⟩, by simp only [Bool.false_eq_true, if_false]; grind, ?_⟩
     simp [WeakE, Weak, leL, leT, leM, leG, leA, leC, leR, leS, leO, tokLt, tokLtL, intV, boolV, ex_nil, exC, exL, exL_app, exL_len, leaf, nilA, rdO, emp, coC, soC, itC, keC, enS, enR]
    ·skip
     simp only [↓wBA, tRs, convA, ZA, reduceIte, reduceCtorEq, ZB, ZC, ZD, ZE, ZF, ZG, ZH, ZI, ZJ, ZK]
     refine ⟨⟨(l, kA, true), by grind⟩, ?_⟩
     simp [WeakE, Weak, leL, leT, leM, leG, leA, leC, leR, leS, leO, tokLt, tokLtL, intV, boolV, ex_nil, exC, exL, exL_app, exL_len, leaf, nilA, rdO, emp, coC, soC, itC, keC, enS, enR]
  ·rintro ⟨⟨cl, kB, bB⟩, h1, h2, h3, h8, h9⟩
   simp only at h1 h2 h3 h8 h9
   simp only [rdO, intV, boolV]
   simp only [↓wBA, tRs, convA, ZA, reduceIte, reduceCtorEq, ZB, ZC, ZD, ZE, ZF, ZG, ZH, ZI, ZJ, ZK]
   refine (awant 5 (by decide) _ ts hts _ (by grind) _ _ 0 rfl).mono ?_
   rintro _ _ ⟨k31, b31, ⟨rfl, hv31⟩, rfl⟩
   simp only [Adv, May] at hv31
   simp only [rdO, intV, boolV]
   simp only [↓wBA, tRs, convA, ZA, reduceIte, reduceCtorEq, ZB, ZC, ZD, ZE, ZF, ZG, ZH, ZI, ZJ, ZK]
   cases b31
   ·skip
    simp only [↓wBA, tRs, convA, ZA, reduceIte, reduceCtorEq, ZB, ZC, ZD, ZE, ZF, ZG, ZH, ZI, ZJ, ZK, List.length_map]
    exact ret_rdW (k' := k31) (b' := decide ((cl.length : Int) > 16)) (.agg ((smC ({ kind := 1, tb := s2, nm := emp, cols := cl, names := [], rows := [], items := [], src := [], wh := [], group := [], order := [], limit := -1, sets := [], hash := false })).map .p)) (.inl rfl) rfl (by simp [leT, leG, leC, leA, leM, smC, tokLt, tokLtL, frzRow, toPss, toPs, toP, nilSl, ex_nil, exC, exL, exL_app, exL_len, leaf, nilA, rdO, emp, coC, soC, itC, keC, enS, enR]) rfl rfl ⟨⟨_, rfl, by simp, by constructor <;> simp_all [okEL] <;> omega⟩, by simp only [May]; grind⟩
   ·skip
    simp only [↓wBA, tRs, convA, ZA, reduceIte, reduceCtorEq, ZB, ZC, ZD, ZE, ZF, ZG, ZH, ZI, ZJ, ZK, List.length_map]
    exact ret_rdW (k' := k31) (b' := true) (.agg ((smC ({ kind := 1, tb := s2, nm := emp, cols := cl, names := [], rows := [], items := [], src := [], wh := [], group := [], order := [], limit := -1, sets := [], hash := false })).map .p)) (.inl rfl) rfl (by simp [leT, leG, leC, leA, leM, smC, tokLt, tokLtL, frzRow, toPss, toPs, toP, nilSl, ex_nil, exC, exL, exL_app, exL_len, leaf, nilA, rdO, emp, coC, soC, itC, keC, enS, enR]) rfl rfl ⟨⟨_, rfl, by simp, by constructor <;> simp_all [okEL] <;> omega⟩, by simp only [May]; grind⟩
theorem ainsert (ts : List Tok) (hts : ts.length ≤ 2048) (k : Nat) (hk : k ≤ ts.length) (b : Bool) : RCalls 25 [] ts k b (StR ts k b) := by
 refine RCalls.of rfl ?_
 refine acalls_of cx_ok dr_ok Try.func25 (by kernel_rfl) rfl (nt := 74) (rs := [.cell 2 36]) rfl rfl ?_
 simp only [↓wBA, tRs, convA, ZA, reduceIte, reduceCtorEq, ZB, ZC, ZD, ZE, ZF, ZG, ZH, ZI, ZJ, ZK]
 refine (awant 1 (by decide) _ ts hts _ (by omega) _ _ 0 rfl).mono ?_
 rintro _ _ ⟨k1, b1, ⟨rfl, hv1⟩, rfl⟩
 simp only [Adv, May] at hv1
 simp only [rdO, intV, boolV]
 simp only [↓wBA, tRs, convA, ZA, reduceIte, reduceCtorEq, ZB, ZC, ZD, ZE, ZF, ZG, ZH, ZI, ZJ, ZK]
 refine (aname ts hts _ (by grind) _ _ 0 rfl).mono ?_
 rintro _ _ ⟨k2, b2, ⟨⟨s2, rfl⟩, hv2⟩, rfl⟩
 simp only [Adv, May] at hv2
 simp only [rdO, intV, boolV]
 simp only [↓wBA, tRs, convA, ZA, reduceIte, reduceCtorEq, ZB, ZC, ZD, ZE, ZF, ZG, ZH, ZI, ZJ, ZK]
 refine (aRsign _ ts hts _ _ _ 0 rfl).mono ?_
 rintro _ _ ⟨k3, b3, ⟨hb3, v, rfl, e3, f3⟩, rfl⟩
 simp only [rdO, intV, boolV]
 have hq3 : v = true ∨ v = false := by cases v <;> simp
 cases v
 ·skip
  simp only [↓wBA, tRs, convA, ZA, reduceIte, reduceCtorEq, ZB, ZC, ZD, ZE, ZF, ZG, ZH, ZI, ZJ, ZK]
  refine (awant 1 (by decide) _ ts hts _ (by grind) _ _ 0 rfl).mono ?_
  rintro _ _ ⟨k4, b4, ⟨rfl, hv4⟩, rfl⟩
  simp only [Adv, May] at hv4
  simp only [rdO, intV, boolV]
  simp only [↓wBA, tRs, convA, ZA, reduceIte, reduceCtorEq, ZB, ZC, ZD, ZE, ZF, ZG, ZH, ZI, ZJ, ZK]
  have hnil : ((0 : Nat) : Int) = 0 := rfl
  refine awp_loopM (X := { q : List (List Ex) × Nat × Bool × Bool // k4 ≤ q.2.1 ∧ q.2.1 ≤ ts.length ∧ q.1.length ≤ q.2.1 + 1 ∧ (q.2.2.1 = false → b4 = false ∧ q.1.length ≤ q.2.1) ∧ (∀ r ∈ q.1, r.length ≤ 2050 ∧ okEL r) }) (fun q => ([.mp 0 3 0 0, .any, .mp 1 14 0 0, .mp 2 14 0 0, .any, boolV q.1.2.2.2, .any, .any, .any, .any, .any, .any, .any, .any, .any, .any, .any, .any, .any, .any, .any, .any, .any, .any, .any, .any, .any, .any, .any, .any, .any, .any, .any, .any, .any, .any, .any, .any, .any, .any, .any, .any, .any, .any, .any, .any, .any, .any, .any, .any, .any, .any, .any, .any, .any, .any, .any, .any, .any, .any, .any, .any, .any, .any, .any, .any, .any, .any, .any, .any, .any, .any, .any, .any, .any], [some (rdO ts q.1.2.1 q.1.2.2.1), some (.row 14 [[.p (.v (.int .i64 0)), .p (.v (.string ⟨#[]⟩)), .p (.v (.string ⟨#[]⟩)), nilA, nilA, nilA, nilA, nilA, nilA, nilA, nilA, .p (.v (.int .i64 0)), nilA, .p (.v (.bool false))]]), some (.row 14 [[.p (.v (.int .i64 3)), .p (.v (.string s2)), .p (.v (.string ⟨#[]⟩)), nilA, nilA, .nown 3 1 (enR q.1.1), nilA, nilA, nilA, nilA, nilA, .p (.v (.int .i64 (-1))), nilA, .p (.v (.bool false))]]), some (.nright 33 (q.1.1.length))])) (fun q => if q.1.2.2.1 = true then 0 else ts.length + 1 - q.1.2.1) ⟨([], k4, b4, true), by simp [okEL]; grind⟩ { y : List (List Ex) × Nat × Bool // k4 ≤ y.2.1 ∧ y.2.1 ≤ ts.length ∧ (y.2.2 = false → b4 = false) ∧ y.1.length ≤ 2050 ∧ (∀ r ∈ y.1, r.length ≤ 2050 ∧ okEL r) } (fun y => (.exit 2, [.mp 0 3 0 0, .any, .mp 1 14 0 0, .mp 2 14 0 0, .any, .any, .any, .any, .any, .any, .any, .any, .any, .any, .any, .any, .any, .any, .any, .any, .any, .any, .any, .any, .any, .any, .any, .any, .any, .any, .any, .any, .any, .any, .any, .any, .any, .any, .any, .any, .any, .any, .any, .any, .any, .any, .any, .any, .any, .any, .any, .any, .any, .any, .any, .any, .any, .any, .any, .any, .any, .any, .any, .any, .any, .any, .any, .any, .any, .any, .any, .any, .any, .any, .any], [some (rdO ts y.1.2.1 y.1.2.2), some (.row 14 [[.p (.v (.int .i64 0)), .p (.v (.string ⟨#[]⟩)), .p (.v (.string ⟨#[]⟩)), nilA, nilA, nilA, nilA, nilA, nilA, nilA, nilA, .p (.v (.int .i64 0)), nilA, .p (.v (.bool false))]]), some (.row 14 [[.p (.v (.int .i64 3)), .p (.v (.string s2)), .p (.v (.string ⟨#[]⟩)), nilA, nilA, .p (.sl 1 (enR y.1.1)), nilA, nilA, nilA, nilA, nilA, .p (.v (.int .i64 (-1))), nilA, .p (.v (.bool false))]])])) (fun q => by simp) (fun y => by simp) ?_ ?_ ?_
  ·simp [WeakE, Weak, leL, leT, leM, leG, leA, leC, leR, leS, leO, tokLt, tokLtL, intV, boolV, ex_nil, exC, exL, exL_app, exL_len, leaf, nilA, rdO, emp, coC, soC, itC, keC, enS, enR]
  ·rintro ⟨⟨l, kA, bA, more⟩, h1, h2, h3, h4, hinv⟩
   simp only at h1 h2 h3 h4 hinv
   simp only [rdO, intV, boolV]
   cases more
   ·skip
    simp only [↓wBA, tRs, convA, ZA, reduceIte, reduceCtorEq, ZB, ZC, ZD, ZE, ZF, ZG, ZH, ZI, ZJ, ZK]
    refine ⟨⟨(l, kA, bA), by grind⟩, ?_⟩
    simp [WeakE, Weak, leL, leT, leM, leG, leA, leC, leR, leS, leO, tokLt, tokLtL, intV, boolV, ex_nil, exC, exL, exL_app, exL_len, leaf, nilA, rdO, emp, coC, soC, itC, keC, enS, enR]
   ·cases bA
    ·skip
     have hlim1 := tL (n := (l.length + 1) * 24) (by omega)
     have hlim2 := lM (n := l.length + 1) (by omega)
     simp only [↓wBA, tRs, convA, ZA, reduceIte, reduceCtorEq, ZB, ZC, ZD, ZE, ZF, ZG, ZH, ZI, ZJ, ZK]
     refine (awant 5 (by decide) _ ts hts _ (by grind) _ _ 0 rfl).mono ?_
     rintro _ _ ⟨k6, b6, ⟨rfl, hv6⟩, rfl⟩
     simp only [Adv, May] at hv6
     simp only [rdO, intV, boolV]
     simp only [↓wBA, tRs, convA, ZA, reduceIte, reduceCtorEq, ZB, ZC, ZD, ZE, ZF, ZG, ZH, ZI, ZJ, ZK]
     refine ⟨(.det 0 (.det 1 (.det 2 (.act 3 (.act 4 (.fin 5 (.det 6 (.fin 7 .done)))))))), by decide, by kernel_rfl, by kernel_rfl, ?_⟩
     simp only [↓wBA, tRs, convA, ZA, reduceIte, reduceCtorEq, ZB, ZC, ZD, ZE, ZF, ZG, ZH, ZI, ZJ, ZK]
     refine (aexprs ts hts _ (by grind) _ _ 0 rfl).mono ?_
     rintro _ _ ⟨k7, b7, ⟨⟨rl, rfl, hrl⟩, hv7⟩, rfl⟩
     simp only [Adv, May] at hv7
     simp only [rdO, intV, boolV]
     simp only [↓wBA, tRs, convA, ZA, reduceIte, reduceCtorEq, ZB, ZC, ZD, ZE, ZF, ZG, ZH, ZI, ZJ, ZK, appendA, srcA, enR_len, hlim1, hlim2, unmaskS, Nat.mul_one]
     refine (awant 5 (by decide) _ ts hts _ (by grind) _ _ 0 rfl).mono ?_
     rintro _ _ ⟨k8, b8, ⟨rfl, hv8⟩, rfl⟩
     simp only [Adv, May] at hv8
     simp only [rdO, intV, boolV]
     simp only [↓wBA, tRs, convA, ZA, reduceIte, reduceCtorEq, ZB, ZC, ZD, ZE, ZF, ZG, ZH, ZI, ZJ, ZK]
     refine (aRsign _ ts hts _ _ _ 0 rfl).mono ?_
     rintro _ _ ⟨k9, b9, ⟨hb9, v, rfl, e9, f9⟩, rfl⟩
     simp only [rdO, intV, boolV]
     have hq9 : v = true ∨ v = false := by cases v <;> simp
     simp only [↓wBA, tRs, convA, ZA, reduceIte, reduceCtorEq, ZB, ZC, ZD, ZE, ZF, ZG, ZH, ZI, ZJ, ZK]
     clear hlim1 hlim2
     have hkk : k8 ≤ k9 ∧ k9 ≤ ts.length := by cases v <;> grind
     refine ⟨⟨(l ++ [rl], k9, b9, v), by have hnew := mem_snoc (p := fun r => r.length ≤ 2050 ∧ okEL r) hinv hrl; simp only [List.length_append, List.length_cons, List.length_nil]; grind⟩, by simp only [Bool.false_eq_true, if_false]; grind, ?_⟩
     simp [WeakE, Weak, leL, leT, leM, leG, leA, leC, leR, leS, leO, tokLt, tokLtL, intV, boolV, ex_nil, exC, exL, exL_app, exL_len, leaf, nilA, rdO, emp, coC, soC, itC, keC, enS, enR]
    ·skip
     simp only [↓wBA, tRs, convA, ZA, reduceIte, reduceCtorEq, ZB, ZC, ZD, ZE, ZF, ZG, ZH, ZI, ZJ, ZK]
     refine ⟨⟨(l, kA, true), by grind⟩, ?_⟩
     simp [WeakE, Weak, leL, leT, leM, leG, leA, leC, leR, leS, leO, tokLt, tokLtL, intV, boolV, ex_nil, exC, exL, exL_app, exL_len, leaf, nilA, rdO, emp, coC, soC, itC, keC, enS, enR]
  ·rintro ⟨⟨rs, kC, bC⟩, h5, h6, h7, h10, h11⟩
   simp only at h5 h6 h7 h10 h11
   simp only [rdO, intV, boolV]
   cases bC
   ·skip
    have hL : decide ((0 : Int) > 16) = false := by decide
    simp only [↓wBA, tRs, convA, ZA, reduceIte, reduceCtorEq, ZB, ZC, ZD, ZE, ZF, ZG, ZH, ZI, ZJ, ZK, enS_len, nilS_len, enR_len, hL, hnil, List.length_nil]
    exact ret_rdW (k' := kC) (b' := decide ((rs.length : Int) > 32)) (.agg ((smC ({ kind := 3, tb := s2, nm := emp, cols := [], names := ([] : List ByteArray), rows := rs, items := [], src := [], wh := [], group := [], order := [], limit := -1, sets := [], hash := false })).map .p)) (.inl rfl) rfl (by simp [leT, leG, leC, leA, leM, smC, tokLt, tokLtL, frzRow, toPss, toPs, toP, nilSl, ex_nil, exC, exL, exL_app, exL_len, leaf, nilA, rdO, emp, coC, soC, itC, keC, enS, enR]) rfl rfl ⟨⟨_, rfl, by simp, by constructor <;> simp_all [okEL] <;> omega⟩, by simp only [May]; grind⟩
   ·skip
    simp only [↓wBA, tRs, convA, ZA, reduceIte, reduceCtorEq, ZB, ZC, ZD, ZE, ZF, ZG, ZH, ZI, ZJ, ZK, enS_len, nilS_len, enR_len, hnil, List.length_nil]
    exact ret_rdW (k' := kC) (b' := true) (.agg ((smC ({ kind := 3, tb := s2, nm := emp, cols := [], names := ([] : List ByteArray), rows := rs, items := [], src := [], wh := [], group := [], order := [], limit := -1, sets := [], hash := false })).map .p)) (.inl rfl) rfl (by simp [leT, leG, leC, leA, leM, smC, tokLt, tokLtL, frzRow, toPss, toPs, toP, nilSl, ex_nil, exC, exL, exL_app, exL_len, leaf, nilA, rdO, emp, coC, soC, itC, keC, enS, enR]) rfl rfl ⟨⟨_, rfl, by simp, by constructor <;> simp_all [okEL] <;> omega⟩, by simp only [May]; grind⟩
 ·skip
  simp only [↓wBA, tRs, convA, ZA, reduceIte, reduceCtorEq, ZB, ZC, ZD, ZE, ZF, ZG, ZH, ZI, ZJ, ZK]
  refine awp_loopM (X := { q : List (ByteArray) × Nat × Bool × Bool // k3 ≤ q.2.1 ∧ q.2.1 ≤ ts.length ∧ q.1.length ≤ q.2.1 + 1 ∧ (q.2.2.1 = false → b3 = false ∧ q.1.length ≤ q.2.1) ∧ (True) }) (fun q => ([.mp 0 3 0 0, .any, .mp 1 14 0 0, .mp 2 14 0 0, boolV q.1.2.2.2, .any, .any, .any, .any, .any, .any, .any, .any, .any, .any, .any, .any, .any, .any, .any, .any, .any, .any, .any, .any, .any, .any, .any, .any, .any, .any, .any, .any, .any, .any, .any, .any, .any, .any, .any, .any, .any, .any, .any, .any, .any, .any, .any, .any, .any, .any, .any, .any, .any, .any, .any, .any, .any, .any, .any, .any, .any, .any, .any, .any, .any, .any, .any, .any, .any, .any, .any, .any, .any, .any], [some (rdO ts q.1.2.1 q.1.2.2.1), some (.row 14 [[.p (.v (.int .i64 0)), .p (.v (.string ⟨#[]⟩)), .p (.v (.string ⟨#[]⟩)), nilA, nilA, nilA, nilA, nilA, nilA, nilA, nilA, .p (.v (.int .i64 0)), nilA, .p (.v (.bool false))]]), some (.row 14 [[.p (.v (.int .i64 3)), .p (.v (.string s2)), .p (.v (.string ⟨#[]⟩)), nilA, .nown 3 1 (enS q.1.1), nilA, nilA, nilA, nilA, nilA, nilA, .p (.v (.int .i64 (-1))), nilA, .p (.v (.bool false))]]), some (.nright 9 (q.1.1.length))])) (fun q => if q.1.2.2.1 = true then 0 else ts.length + 1 - q.1.2.1) ⟨([], k3, b3, true), by simp [okEL]; grind⟩ { y : List (ByteArray) × Nat × Bool // k3 ≤ y.2.1 ∧ y.2.1 ≤ ts.length ∧ (y.2.2 = false → b3 = false) ∧ y.1.length ≤ 2050 ∧ (True) } (fun y => (.exit 0, [.mp 0 3 0 0, .any, .mp 1 14 0 0, .mp 2 14 0 0, .any, .any, .any, .any, .any, .any, .any, .any, .any, .any, .any, .any, .any, .any, .any, .any, .any, .any, .any, .any, .any, .any, .any, .any, .any, .any, .any, .any, .any, .any, .any, .any, .any, .any, .any, .any, .any, .any, .any, .any, .any, .any, .any, .any, .any, .any, .any, .any, .any, .any, .any, .any, .any, .any, .any, .any, .any, .any, .any, .any, .any, .any, .any, .any, .any, .any, .any, .any, .any, .any, .any], [some (rdO ts y.1.2.1 y.1.2.2), some (.row 14 [[.p (.v (.int .i64 0)), .p (.v (.string ⟨#[]⟩)), .p (.v (.string ⟨#[]⟩)), nilA, nilA, nilA, nilA, nilA, nilA, nilA, nilA, .p (.v (.int .i64 0)), nilA, .p (.v (.bool false))]]), some (.row 14 [[.p (.v (.int .i64 3)), .p (.v (.string s2)), .p (.v (.string ⟨#[]⟩)), nilA, .p (nilSl 1 (enS y.1.1)), nilA, nilA, nilA, nilA, nilA, nilA, .p (.v (.int .i64 (-1))), nilA, .p (.v (.bool false))]])])) (fun q => by simp) (fun y => by simp) ?_ ?_ ?_
  ·simp [WeakE, Weak, leL, leT, leM, leG, leA, leC, leR, leS, leO, tokLt, tokLtL, intV, boolV, ex_nil, exC, exL, exL_app, exL_len, leaf, nilA, rdO, emp, coC, soC, itC, keC, enS, enR]
  ·rintro ⟨⟨l, kA, bA, more⟩, h1, h2, h3, h4, hinv⟩
   simp only at h1 h2 h3 h4 hinv
   simp only [rdO, intV, boolV]
   cases more
   ·skip
    simp only [↓wBA, tRs, convA, ZA, reduceIte, reduceCtorEq, ZB, ZC, ZD, ZE, ZF, ZG, ZH, ZI, ZJ, ZK]
    refine ⟨⟨(l, kA, bA), by grind⟩, ?_⟩
    simp [WeakE, Weak, leL, leT, leM, leG, leA, leC, leR, leS, leO, tokLt, tokLtL, intV, boolV, ex_nil, exC, exL, exL_app, exL_len, leaf, nilA, rdO, emp, coC, soC, itC, keC, enS, enR]
   ·cases bA
    ·skip
     have hlim1 := tL (n := (l.length + 1) * 16) (by omega)
     have hlim2 := lM (n := l.length + 1) (by omega)
     simp only [↓wBA, tRs, convA, ZA, reduceIte, reduceCtorEq, ZB, ZC, ZD, ZE, ZF, ZG, ZH, ZI, ZJ, ZK]
     refine ⟨(.det 0 (.det 1 (.det 2 (.act 3 (.act 4 (.fin 5 (.det 6 (.fin 7 .done)))))))), by decide, by kernel_rfl, by kernel_rfl, ?_⟩
     simp only [↓wBA, tRs, convA, ZA, reduceIte, reduceCtorEq, ZB, ZC, ZD, ZE, ZF, ZG, ZH, ZI, ZJ, ZK]
     refine (aname ts hts _ (by grind) _ _ 0 rfl).mono ?_
     rintro _ _ ⟨k5, b5, ⟨⟨s5, rfl⟩, hv5⟩, rfl⟩
     simp only [Adv, May] at hv5
     simp only [rdO, intV, boolV]
     simp only [↓wBA, tRs, convA, ZA, reduceIte, reduceCtorEq, ZB, ZC, ZD, ZE, ZF, ZG, ZH, ZI, ZJ, ZK, appendA, srcA, enS_len, hlim1, hlim2, unmaskS, Nat.mul_one]
     refine (aRsign _ ts hts _ _ _ 0 rfl).mono ?_
     rintro _ _ ⟨k6, b6, ⟨hb6, v, rfl, e6, f6⟩, rfl⟩
     simp only [rdO, intV, boolV]
     have hq6 : v = true ∨ v = false := by cases v <;> simp
     simp only [↓wBA, tRs, convA, ZA, reduceIte, reduceCtorEq, ZB, ZC, ZD, ZE, ZF, ZG, ZH, ZI, ZJ, ZK]
     clear hlim1 hlim2
     have hkk : k5 ≤ k6 ∧ k6 ≤ ts.length := by cases v <;> grind
     refine ⟨⟨(l ++ [s5], k6, b6, v), by have hnew := trivial; simp only [List.length_append, List.length_cons, List.length_nil]; grind⟩, by simp only [Bool.false_eq_true, if_false]; grind, ?_⟩
     simp [WeakE, Weak, leL, leT, leM, leG, leA, leC, leR, leS, leO, tokLt, tokLtL, intV, boolV, ex_nil, exC, exL, exL_app, exL_len, leaf, nilA, rdO, emp, coC, soC, itC, keC, enS, enR]
    ·skip
     simp only [↓wBA, tRs, convA, ZA, reduceIte, reduceCtorEq, ZB, ZC, ZD, ZE, ZF, ZG, ZH, ZI, ZJ, ZK]
     refine ⟨⟨(l, kA, true), by grind⟩, ?_⟩
     simp [WeakE, Weak, leL, leT, leM, leG, leA, leC, leR, leS, leO, tokLt, tokLtL, intV, boolV, ex_nil, exC, exL, exL_app, exL_len, leaf, nilA, rdO, emp, coC, soC, itC, keC, enS, enR]
  ·rintro ⟨⟨ns, kB, bB⟩, h1, h2, h3, h8, h9⟩
   simp only at h1 h2 h3 h8 h9
   simp only [rdO, intV, boolV]
   have hnil : ((0 : Nat) : Int) = 0 := rfl
   simp only [↓wBA, tRs, convA, ZA, reduceIte, reduceCtorEq, ZB, ZC, ZD, ZE, ZF, ZG, ZH, ZI, ZJ, ZK]
   refine (awant 5 (by decide) _ ts hts _ (by grind) _ _ 0 rfl).mono ?_
   rintro _ _ ⟨k31, b31, ⟨rfl, hv31⟩, rfl⟩
   simp only [Adv, May] at hv31
   simp only [rdO, intV, boolV]
   simp only [↓wBA, tRs, convA, ZA, reduceIte, reduceCtorEq, ZB, ZC, ZD, ZE, ZF, ZG, ZH, ZI, ZJ, ZK]
   refine (awant 1 (by decide) _ ts hts _ (by grind) _ _ 0 rfl).mono ?_
   rintro _ _ ⟨k32, b32, ⟨rfl, hv32⟩, rfl⟩
   simp only [Adv, May] at hv32
   simp only [rdO, intV, boolV]
   simp only [↓wBA, tRs, convA, ZA, reduceIte, reduceCtorEq, ZB, ZC, ZD, ZE, ZF, ZG, ZH, ZI, ZJ, ZK]
   refine awp_loopM (X := { q : List (List Ex) × Nat × Bool × Bool // k32 ≤ q.2.1 ∧ q.2.1 ≤ ts.length ∧ q.1.length ≤ q.2.1 + 1 ∧ (q.2.2.1 = false → b32 = false ∧ q.1.length ≤ q.2.1) ∧ (∀ r ∈ q.1, r.length ≤ 2050 ∧ okEL r) }) (fun q => ([.mp 0 3 0 0, .any, .mp 1 14 0 0, .mp 2 14 0 0, .any, boolV q.1.2.2.2, .any, .any, .any, .any, .any, .any, .any, .any, .any, .any, .any, .any, .any, .any, .any, .any, .any, .any, .any, .any, .any, .any, .any, .any, .any, .any, .any, .any, .any, .any, .any, .any, .any, .any, .any, .any, .any, .any, .any, .any, .any, .any, .any, .any, .any, .any, .any, .any, .any, .any, .any, .any, .any, .any, .any, .any, .any, .any, .any, .any, .any, .any, .any, .any, .any, .any, .any, .any, .any], [some (rdO ts q.1.2.1 q.1.2.2.1), some (.row 14 [[.p (.v (.int .i64 0)), .p (.v (.string ⟨#[]⟩)), .p (.v (.string ⟨#[]⟩)), nilA, nilA, nilA, nilA, nilA, nilA, nilA, nilA, .p (.v (.int .i64 0)), nilA, .p (.v (.bool false))]]), some (.row 14 [[.p (.v (.int .i64 3)), .p (.v (.string s2)), .p (.v (.string ⟨#[]⟩)), nilA, .p (nilSl 1 (enS ns)), .nown 3 1 (enR q.1.1), nilA, nilA, nilA, nilA, nilA, .p (.v (.int .i64 (-1))), nilA, .p (.v (.bool false))]]), some (.nright 33 (q.1.1.length))])) (fun q => if q.1.2.2.1 = true then 0 else ts.length + 1 - q.1.2.1) ⟨([], k32, b32, true), by simp [okEL]; grind⟩ { y : List (List Ex) × Nat × Bool // k32 ≤ y.2.1 ∧ y.2.1 ≤ ts.length ∧ (y.2.2 = false → b32 = false) ∧ y.1.length ≤ 2050 ∧ (∀ r ∈ y.1, r.length ≤ 2050 ∧ okEL r) } (fun y => (.exit 2, [.mp 0 3 0 0, .any, .mp 1 14 0 0, .mp 2 14 0 0, .any, .any, .any, .any, .any, .any, .any, .any, .any, .any, .any, .any, .any, .any, .any, .any, .any, .any, .any, .any, .any, .any, .any, .any, .any, .any, .any, .any, .any, .any, .any, .any, .any, .any, .any, .any, .any, .any, .any, .any, .any, .any, .any, .any, .any, .any, .any, .any, .any, .any, .any, .any, .any, .any, .any, .any, .any, .any, .any, .any, .any, .any, .any, .any, .any, .any, .any, .any, .any, .any, .any], [some (rdO ts y.1.2.1 y.1.2.2), some (.row 14 [[.p (.v (.int .i64 0)), .p (.v (.string ⟨#[]⟩)), .p (.v (.string ⟨#[]⟩)), nilA, nilA, nilA, nilA, nilA, nilA, nilA, nilA, .p (.v (.int .i64 0)), nilA, .p (.v (.bool false))]]), some (.row 14 [[.p (.v (.int .i64 3)), .p (.v (.string s2)), .p (.v (.string ⟨#[]⟩)), nilA, .p (nilSl 1 (enS ns)), .p (.sl 1 (enR y.1.1)), nilA, nilA, nilA, nilA, nilA, .p (.v (.int .i64 (-1))), nilA, .p (.v (.bool false))]])])) (fun q => by simp) (fun y => by simp) ?_ ?_ ?_
   ·simp [WeakE, Weak, leL, leT, leM, leG, leA, leC, leR, leS, leO, tokLt, tokLtL, intV, boolV, ex_nil, exC, exL, exL_app, exL_len, leaf, nilA, rdO, emp, coC, soC, itC, keC, enS, enR]
   ·rintro ⟨⟨l, kA, bA, more⟩, h1, h2, h3, h4, hinv⟩
    simp only at h1 h2 h3 h4 hinv
    simp only [rdO, intV, boolV]
    cases more
    ·skip
     simp only [↓wBA, tRs, convA, ZA, reduceIte, reduceCtorEq, ZB, ZC, ZD, ZE, ZF, ZG, ZH, ZI, ZJ, ZK]
     refine ⟨⟨(l, kA, bA), by grind⟩, ?_⟩
     simp [WeakE, Weak, leL, leT, leM, leG, leA, leC, leR, leS, leO, tokLt, tokLtL, intV, boolV, ex_nil, exC, exL, exL_app, exL_len, leaf, nilA, rdO, emp, coC, soC, itC, keC, enS, enR]
    ·cases bA
     ·skip
      have hlim1 := tL (n := (l.length + 1) * 24) (by omega)
      have hlim2 := lM (n := l.length + 1) (by omega)
      simp only [↓wBA, tRs, convA, ZA, reduceIte, reduceCtorEq, ZB, ZC, ZD, ZE, ZF, ZG, ZH, ZI, ZJ, ZK]
      refine (awant 5 (by decide) _ ts hts _ (by grind) _ _ 0 rfl).mono ?_
      rintro _ _ ⟨k34, b34, ⟨rfl, hv34⟩, rfl⟩
      simp only [Adv, May] at hv34
      simp only [rdO, intV, boolV]
      simp only [↓wBA, tRs, convA, ZA, reduceIte, reduceCtorEq, ZB, ZC, ZD, ZE, ZF, ZG, ZH, ZI, ZJ, ZK]
      refine ⟨(.det 0 (.det 1 (.det 2 (.act 3 (.act 4 (.fin 5 (.det 6 (.fin 7 .done)))))))), by decide, by kernel_rfl, by kernel_rfl, ?_⟩
      simp only [↓wBA, tRs, convA, ZA, reduceIte, reduceCtorEq, ZB, ZC, ZD, ZE, ZF, ZG, ZH, ZI, ZJ, ZK]
      refine (aexprs ts hts _ (by grind) _ _ 0 rfl).mono ?_
      rintro _ _ ⟨k35, b35, ⟨⟨rl, rfl, hrl⟩, hv35⟩, rfl⟩
      simp only [Adv, May] at hv35
      simp only [rdO, intV, boolV]
      simp only [↓wBA, tRs, convA, ZA, reduceIte, reduceCtorEq, ZB, ZC, ZD, ZE, ZF, ZG, ZH, ZI, ZJ, ZK, appendA, srcA, enR_len, hlim1, hlim2, unmaskS, Nat.mul_one]
      refine (awant 5 (by decide) _ ts hts _ (by grind) _ _ 0 rfl).mono ?_
      rintro _ _ ⟨k36, b36, ⟨rfl, hv36⟩, rfl⟩
      simp only [Adv, May] at hv36
      simp only [rdO, intV, boolV]
      simp only [↓wBA, tRs, convA, ZA, reduceIte, reduceCtorEq, ZB, ZC, ZD, ZE, ZF, ZG, ZH, ZI, ZJ, ZK]
      refine (aRsign _ ts hts _ _ _ 0 rfl).mono ?_
      rintro _ _ ⟨k37, b37, ⟨hb37, v, rfl, e37, f37⟩, rfl⟩
      simp only [rdO, intV, boolV]
      have hq37 : v = true ∨ v = false := by cases v <;> simp
      simp only [↓wBA, tRs, convA, ZA, reduceIte, reduceCtorEq, ZB, ZC, ZD, ZE, ZF, ZG, ZH, ZI, ZJ, ZK]
      clear hlim1 hlim2
      have hkk : k36 ≤ k37 ∧ k37 ≤ ts.length := by cases v <;> grind
      refine ⟨⟨(l ++ [rl], k37, b37, v), by have hnew := mem_snoc (p := fun r => r.length ≤ 2050 ∧ okEL r) hinv hrl; simp only [List.length_append, List.length_cons, List.length_nil]; grind⟩, by simp only [Bool.false_eq_true, if_false]; grind, ?_⟩
      simp [WeakE, Weak, leL, leT, leM, leG, leA, leC, leR, leS, leO, tokLt, tokLtL, intV, boolV, ex_nil, exC, exL, exL_app, exL_len, leaf, nilA, rdO, emp, coC, soC, itC, keC, enS, enR]
     ·skip
      simp only [↓wBA, tRs, convA, ZA, reduceIte, reduceCtorEq, ZB, ZC, ZD, ZE, ZF, ZG, ZH, ZI, ZJ, ZK]
      refine ⟨⟨(l, kA, true), by grind⟩, ?_⟩
      simp [WeakE, Weak, leL, leT, leM, leG, leA, leC, leR, leS, leO, tokLt, tokLtL, intV, boolV, ex_nil, exC, exL, exL_app, exL_len, leaf, nilA, rdO, emp, coC, soC, itC, keC, enS, enR]
   ·rintro ⟨⟨rs, kC, bC⟩, h5, h6, h7, h10, h11⟩
    simp only at h5 h6 h7 h10 h11
    simp only [rdO, intV, boolV]
    cases bC
    ·skip
     cases hL : decide ((ns.length : Int) > 16)
     ·skip
      simp only [↓wBA, tRs, convA, ZA, reduceIte, reduceCtorEq, ZB, ZC, ZD, ZE, ZF, ZG, ZH, ZI, ZJ, ZK, enS_len, nilS_len, enR_len, hL, hnil, List.length_nil]
      exact ret_rdW (k' := kC) (b' := decide ((rs.length : Int) > 32)) (.agg ((smC ({ kind := 3, tb := s2, nm := emp, cols := [], names := ns, rows := rs, items := [], src := [], wh := [], group := [], order := [], limit := -1, sets := [], hash := false })).map .p)) (.inl rfl) rfl (by simp [leT, leG, leC, leA, leM, smC, tokLt, tokLtL, frzRow, toPss, toPs, toP, nilSl, ex_nil, exC, exL, exL_app, exL_len, leaf, nilA, rdO, emp, coC, soC, itC, keC, enS, enR]) rfl rfl ⟨⟨_, rfl, by simp, by constructor <;> simp_all [okEL] <;> omega⟩, by simp only [May]; grind⟩
     ·skip
      simp only [↓wBA, tRs, convA, ZA, reduceIte, reduceCtorEq, ZB, ZC, ZD, ZE, ZF, ZG, ZH, ZI, ZJ, ZK, enS_len, nilS_len, enR_len, hL, hnil, List.length_nil]
      exact ret_rdW (k' := kC) (b' := true) (.agg ((smC ({ kind := 3, tb := s2, nm := emp, cols := [], names := ns, rows := rs, items := [], src := [], wh := [], group := [], order := [], limit := -1, sets := [], hash := false })).map .p)) (.inl rfl) rfl (by simp [leT, leG, leC, leA, leM, smC, tokLt, tokLtL, frzRow, toPss, toPs, toP, nilSl, ex_nil, exC, exL, exL_app, exL_len, leaf, nilA, rdO, emp, coC, soC, itC, keC, enS, enR]) rfl rfl ⟨⟨_, rfl, by simp, by constructor <;> simp_all [okEL] <;> omega⟩, by simp only [May]; grind⟩
    ·skip
     simp only [↓wBA, tRs, convA, ZA, reduceIte, reduceCtorEq, ZB, ZC, ZD, ZE, ZF, ZG, ZH, ZI, ZJ, ZK, enS_len, nilS_len, enR_len, hnil, List.length_nil]
     exact ret_rdW (k' := kC) (b' := true) (.agg ((smC ({ kind := 3, tb := s2, nm := emp, cols := [], names := ns, rows := rs, items := [], src := [], wh := [], group := [], order := [], limit := -1, sets := [], hash := false })).map .p)) (.inl rfl) rfl (by simp [leT, leG, leC, leA, leM, smC, tokLt, tokLtL, frzRow, toPss, toPs, toP, nilSl, ex_nil, exC, exL, exL_app, exL_len, leaf, nilA, rdO, emp, coC, soC, itC, keC, enS, enR]) rfl rfl ⟨⟨_, rfl, by simp, by constructor <;> simp_all [okEL] <;> omega⟩, by simp only [May]; grind⟩
end Go.Proofs.Ytcnkmandddfdmaa
