/- The reader's statements. -/
import Derived.Test.YtcnkmandddfdmaaM34
set_option linter.unusedSimpArgs false
set_option linter.unusedVariables false
set_option linter.defProp false
set_option maxRecDepth 100000
set_option maxHeartbeats 32000000
namespace Go.Proofs.Ytcnkmandddfdmaa
open Go.RowKit
open Nat renaming reduceBEq → ZA, reducePow → ZB, reduceAdd → ZC, reduceSub → ZD, reduceMul → ZE, reduceEqDiff → ZF, reduceLeDiff → ZG, reduceLT → ZH
open Int renaming reduceLT → ZI, reduceLE → ZJ, reduceToNat → ZK
def tRq := aa wX <| aa T3 <| aa T4 <| aa T9 <| aa T31 <| aa T32 <| aa T33 <| aa T34 <| aa T36 <| aa T75 <| aa T77 <| aa T102 T116
theorem aquery (ts : List Tok) (hts : ts.length ≤ 2048) (k : Nat) (hk : k ≤ ts.length) (b : Bool) : RCalls 26 [] ts k b (StR ts k b) := by
 refine RCalls.of rfl ?_
 refine acalls_of cx_ok dr_ok Try.func26 (by kernel_rfl) rfl (nt := 122) (rs := [.cell 2 36]) rfl rfl ?_
 simp only [↓wBA, tRq, convA, ZA, reduceIte, reduceCtorEq, ZB, ZC, ZD, ZE, ZF, ZG, ZH, ZI, ZJ, ZK]
 refine awp_loopM (X := { q : List (Bool × Ex) × Nat × Bool × Bool // k ≤ q.2.1 ∧ q.2.1 ≤ ts.length ∧ q.1.length ≤ q.2.1 + 1 ∧ (q.2.2.1 = false → b = false ∧ q.1.length ≤ q.2.1) ∧ (∀ i ∈ q.1, okE i.2) }) (fun q => ([.mp 0 3 0 0, .any, .mp 1 14 0 0, .mp 2 14 0 0, boolV q.1.2.2.2, .any, .any, .any, .any, .any, .any, .any, .any, .any, .any, .any, .any, .any, .any, .any, .any, .any, .any, .any, .any, .any, .any, .any, .any, .any, .any, .any, .any, .any, .any, .any, .any, .any, .any, .any, .any, .any, .any, .any, .any, .any, .any, .any, .any, .any, .any, .any, .any, .any, .any, .any, .any, .any, .any, .any, .any, .any, .any, .any, .any, .any, .any, .any, .any, .any, .any, .any, .any, .any, .any, .any, .any, .any, .any, .any, .any, .any, .any, .any, .any, .any, .any, .any, .any, .any, .any, .any, .any, .any, .any, .any, .any, .any, .any, .any, .any, .any, .any, .any, .any, .any, .any, .any, .any, .any, .any, .any, .any, .any, .any, .any, .any, .any, .any, .any, .any, .any, .any], [some (rdO ts q.1.2.1 q.1.2.2.1), some (.row 14 [[.p (.v (.int .i64 0)), .p (.v (.string ⟨#[]⟩)), .p (.v (.string ⟨#[]⟩)), nilA, nilA, nilA, nilA, nilA, nilA, nilA, nilA, .p (.v (.int .i64 0)), nilA, .p (.v (.bool false))]]), some (.row 14 [[.p (.v (.int .i64 4)), .p (.v (.string ⟨#[]⟩)), .p (.v (.string ⟨#[]⟩)), nilA, nilA, nilA, .nown 3 9 (q.1.1.map itC), nilA, nilA, nilA, nilA, .p (.v (.int .i64 (-1))), nilA, .p (.v (.bool false))]]), some (.nright 113 (q.1.1.length * 9))])) (fun q => if q.1.2.2.1 = true then 0 else ts.length + 1 - q.1.2.1) ⟨([], k, b, true), by simp [okEL]; grind⟩ { y : List (Bool × Ex) × Nat × Bool // k ≤ y.2.1 ∧ y.2.1 ≤ ts.length ∧ (y.2.2 = false → b = false) ∧ y.1.length ≤ 2050 ∧ (∀ i ∈ y.1, okE i.2) } (fun y => (.exit 0, [.mp 0 3 0 0, .any, .mp 1 14 0 0, .mp 2 14 0 0, .any, .any, .any, .any, .any, .any, .any, .any, .any, .any, .any, .any, .any, .any, .any, .any, .any, .any, .any, .any, .any, .any, .any, .any, .any, .any, .any, .any, .any, .any, .any, .any, .any, .any, .any, .any, .any, .any, .any, .any, .any, .any, .any, .any, .any, .any, .any, .any, .any, .any, .any, .any, .any, .any, .any, .any, .any, .any, .any, .any, .any, .any, .any, .any, .any, .any, .any, .any, .any, .any, .any, .any, .any, .any, .any, .any, .any, .any, .any, .any, .any, .any, .any, .any, .any, .any, .any, .any, .any, .any, .any, .any, .any, .any, .any, .any, .any, .any, .any, .any, .any, .any, .any, .any, .any, .any, .any, .any, .any, .any, .any, .any, .any, .any, .any, .any, .any, .any, .any], [some (rdO ts y.1.2.1 y.1.2.2), some (.row 14 [[.p (.v (.int .i64 0)), .p (.v (.string ⟨#[]⟩)), .p (.v (.string ⟨#[]⟩)), nilA, nilA, nilA, nilA, nilA, nilA, nilA, nilA, .p (.v (.int .i64 0)), nilA, .p (.v (.bool false))]]), some (.row 14 [[.p (.v (.int .i64 4)), .p (.v (.string ⟨#[]⟩)), .p (.v (.string ⟨#[]⟩)), nilA, nilA, nilA, .p (.sl 9 (y.1.1.map itC)), nilA, nilA, nilA, nilA, .p (.v (.int .i64 (-1))), nilA, .p (.v (.bool false))]])])) (fun q => by simp) (fun y => by simp) ?_ ?_ ?_
 ·simp [WeakE, Weak, leL, leT, leM, leG, leA, leC, leR, leS, leO, tokLt, tokLtL, intV, boolV, exC, exL, exL_app, exL_len, leaf, nilA, rdO, emp, coC, soC, itC, keC, enS, enR]
 ·rintro ⟨⟨l, kA, bA, more⟩, h1, h2, h3, h4, hinv⟩
  simp only at h1 h2 h3 h4 hinv
  simp only [rdO, intV, boolV]
  cases more
  ·skip
   simp only [↓wBA, tRq, convA, ZA, reduceIte, reduceCtorEq, ZB, ZC, ZD, ZE, ZF, ZG, ZH, ZI, ZJ, ZK]
   refine ⟨⟨(l, kA, bA), by grind⟩, ?_⟩
   simp [WeakE, Weak, leL, leT, leM, leG, leA, leC, leR, leS, leO, tokLt, tokLtL, intV, boolV, exC, exL, exL_app, exL_len, leaf, nilA, rdO, emp, coC, soC, itC, keC, enS, enR]
  ·cases bA
   ·skip
    have hlim1 := tL (n := (l.length + 1) * 112) (by omega)
    have hlim2 := lM (n := l.length + 1) (by omega)
    simp only [↓wBA, tRq, convA, ZA, reduceIte, reduceCtorEq, ZB, ZC, ZD, ZE, ZF, ZG, ZH, ZI, ZJ, ZK]
    refine ⟨(.det 0 (.det 1 (.det 2 (.act 3 (.act 4 (.fin 5 (.det 6 (.fin 7 .done)))))))), by decide, by kernel_rfl, by kernel_rfl, ?_⟩
    simp only [↓wBA, tRq, convA, ZA, reduceIte, reduceCtorEq, ZB, ZC, ZD, ZE, ZF, ZG, ZH, ZI, ZJ, ZK]
    refine (aitem ts hts _ (by grind) _ _ 0 rfl).mono ?_
    rintro _ _ ⟨k2, b2, ⟨⟨c, rfl, hc⟩, hv2⟩, rfl⟩
    simp only [Adv, May] at hv2
    simp only [rdO, intV, boolV]
    obtain ⟨c1, kd, vk, vn, vs, tb, nm, sl, kids⟩ := c
    simp only [itC, exC, List.map_cons, List.map_nil]
    simp only [↓wBA, tRq, convA, ZA, reduceIte, reduceCtorEq, ZB, ZC, ZD, ZE, ZF, ZG, ZH, ZI, ZJ, ZK, appendA, srcA, List.length_map, hlim1, hlim2, unmaskS, Nat.mul_one]
    refine (aRsign _ ts hts _ _ _ 0 rfl).mono ?_
    rintro _ _ ⟨k3, b3, ⟨hb3, v, rfl, e3, f3⟩, rfl⟩
    simp only [rdO, intV, boolV]
    have hq3 : v = true ∨ v = false := by cases v <;> simp
    simp only [↓wBA, tRq, convA, ZA, reduceIte, reduceCtorEq, ZB, ZC, ZD, ZE, ZF, ZG, ZH, ZI, ZJ, ZK]
    clear hlim1 hlim2
    have hkk : k2 ≤ k3 ∧ k3 ≤ ts.length := by cases v <;> grind
    refine ⟨⟨(l ++ [(c1, .mk kd vk vn vs tb nm sl kids)], k3, b3, v), by have hnew := mem_snoc (p := fun i : Bool × Ex => okE i.2) hinv hc; simp only [List.length_append, List.length_cons, List.length_nil]; grind⟩, by simp only [Bool.false_eq_true, if_false]; grind, ?_⟩
    simp [WeakE, Weak, leL, leT, leM, leG, leA, leC, leR, leS, leO, tokLt, tokLtL, intV, boolV, exC, exL, exL_app, exL_len, leaf, nilA, rdO, emp, coC, soC, itC, keC, enS, enR]
   ·skip
    simp only [↓wBA, tRq, convA, ZA, reduceIte, reduceCtorEq, ZB, ZC, ZD, ZE, ZF, ZG, ZH, ZI, ZJ, ZK]
    refine ⟨⟨(l, kA, true), by grind⟩, ?_⟩
    simp [WeakE, Weak, leL, leT, leM, leG, leA, leC, leR, leS, leO, tokLt, tokLtL, intV, boolV, exC, exL, exL_app, exL_len, leaf, nilA, rdO, emp, coC, soC, itC, keC, enS, enR]
 ·rintro ⟨⟨il, kB, bB⟩, h1, h2, h3, hil1, hil2⟩
  simp only at h1 h2 h3 hil1 hil2
  simp only [rdO, intV, boolV]
  simp only [↓wBA, tRq, convA, ZA, reduceIte, reduceCtorEq, ZB, ZC, ZD, ZE, ZF, ZG, ZH, ZI, ZJ, ZK]
  refine (awant 1 (by decide) _ ts hts _ (by grind) _ _ 0 rfl).mono ?_
  rintro _ _ ⟨k31, b31, ⟨rfl, hv31⟩, rfl⟩
  simp only [Adv, May] at hv31
  simp only [rdO, intV, boolV]
  simp only [↓wBA, tRq, convA, ZA, reduceIte, reduceCtorEq, ZB, ZC, ZD, ZE, ZF, ZG, ZH, ZI, ZJ, ZK]
  refine ⟨(.det 0 (.det 1 (.det 2 (.act 3 (.act 4 (.fin 5 (.det 6 (.fin 7 .done)))))))), by decide, by kernel_rfl, by kernel_rfl, ?_⟩
  simp only [↓wBA, tRq, convA, ZA, reduceIte, reduceCtorEq, ZB, ZC, ZD, ZE, ZF, ZG, ZH, ZI, ZJ, ZK]
  refine (asource ts hts _ (by grind) _ _ 0 rfl).mono ?_
  rintro _ _ ⟨k32, b32, ⟨⟨c, rfl⟩, hv32⟩, rfl⟩
  simp only [Adv, May] at hv32
  simp only [rdO, intV, boolV]
  obtain ⟨c1, c2⟩ := c
  simp only [soC, exL, List.map_cons, List.map_nil]
  simp only [↓wBA, tRq, convA, ZA, reduceIte, reduceCtorEq, ZB, ZC, ZD, ZE, ZF, ZG, ZH, ZI, ZJ, ZK, appendA, srcA, unmaskS, maxLen]
  refine awp_loopM (X := { q : List So × Nat × Bool // k32 ≤ q.2.1 ∧ q.2.1 ≤ ts.length ∧ q.1.length ≤ q.2.1 + 2 ∧ (q.2.2 = false → b32 = false ∧ q.1.length ≤ q.2.1 + 1) ∧ (∀ i ∈ q.1, i.2.2.length ≤ 2050 ∧ okEL i.2.2) }) (fun q => ([.mp 0 3 0 0, .any, .mp 1 14 0 0, .mp 2 14 0 0, .any, .any, .any, .any, .any, .any, .any, .any, .any, .any, .any, .any, .any, .any, .any, .any, .any, .any, .any, .any, .any, .any, .any, .any, .any, .any, .any, .any, .any, .any, .any, .any, .any, .any, .any, .any, .any, .any, .any, .any, .any, .any, .any, .any, .any, .any, .any, .any, .any, .any, .any, .any, .any, .any, .any, .any, .any, .any, .any, .any, .any, .any, .any, .any, .any, .any, .any, .any, .any, .any, .any, .any, .any, .any, .any, .any, .any, .any, .any, .any, .any, .any, .any, .any, .any, .any, .any, .any, .any, .any, .any, .any, .any, .any, .any, .any, .any, .any, .any, .any, .any, .any, .any, .any, .any, .any, .any, .any, .any, .any, .any, .any, .any, .any, .any, .any, .any, .any, .any], [some (rdO ts q.1.2.1 q.1.2.2), some (.row 14 [[.p (.v (.int .i64 0)), .p (.v (.string ⟨#[]⟩)), .p (.v (.string ⟨#[]⟩)), nilA, nilA, nilA, nilA, nilA, nilA, nilA, nilA, .p (.v (.int .i64 0)), nilA, .p (.v (.bool false))]]), some (.row 14 [[.p (.v (.int .i64 4)), .p (.v (.string ⟨#[]⟩)), .p (.v (.string ⟨#[]⟩)), nilA, nilA, nilA, .p (.sl 9 (il.map itC)), .own 4 3 (q.1.1.map soC), nilA, nilA, nilA, .p (.v (.int .i64 (-1))), nilA, .p (.v (.bool false))]]), none, some (.right 116 (q.1.1.length * 3))])) (fun q => if q.1.2.2 = true then 0 else ts.length + 1 - q.1.2.1) ⟨([(c1, c2, [])], k32, b32), by simp [okEL]; grind⟩ { y : List So × Nat × Bool // k32 ≤ y.2.1 ∧ y.2.1 ≤ ts.length ∧ (y.2.2 = false → b32 = false) ∧ y.1.length ≤ 2060 ∧ (∀ i ∈ y.1, i.2.2.length ≤ 2050 ∧ okEL i.2.2) } (fun y => (.exit 2, [.mp 0 3 0 0, .any, .mp 1 14 0 0, .mp 2 14 0 0, .any, .any, .any, .any, .any, .any, .any, .any, .any, .any, .any, .any, .any, .any, .any, .any, .any, .any, .any, .any, .any, .any, .any, .any, .any, .any, .any, .any, .any, .any, .any, .any, .any, .any, .any, .any, .any, .any, .any, .any, .any, .any, .any, .any, .any, .any, .any, .any, .any, .any, .any, .any, .any, .any, .any, .any, .any, .any, .any, .any, .any, .any, .any, .any, .any, .any, .any, .any, .any, .any, .any, .any, .any, .any, .any, .any, .any, .any, .any, .any, .any, .any, .any, .any, .any, .any, .any, .any, .any, .any, .any, .any, .any, .any, .any, .any, .any, .any, .any, .any, .any, .any, .any, .any, .any, .any, .any, .any, .any, .any, .any, .any, .any, .any, .any, .any, .any, .any, .any], [some (rdO ts y.1.2.1 y.1.2.2), some (.row 14 [[.p (.v (.int .i64 0)), .p (.v (.string ⟨#[]⟩)), .p (.v (.string ⟨#[]⟩)), nilA, nilA, nilA, nilA, nilA, nilA, nilA, nilA, .p (.v (.int .i64 0)), nilA, .p (.v (.bool false))]]), some (.row 14 [[.p (.v (.int .i64 4)), .p (.v (.string ⟨#[]⟩)), .p (.v (.string ⟨#[]⟩)), nilA, nilA, nilA, .p (.sl 9 (il.map itC)), .p (.sl 3 (y.1.1.map soC)), nilA, nilA, nilA, .p (.v (.int .i64 (-1))), nilA, .p (.v (.bool false))]]), none, none])) (fun q => by simp) (fun y => by simp) ?_ ?_ ?_
  ·simp [WeakE, Weak, leL, leT, leM, leG, leA, leC, leR, leS, leO, tokLt, tokLtL, intV, boolV, exC, exL, exL_app, exL_len, leaf, nilA, rdO, emp, coC, soC, itC, keC, enS, enR]
  ·rintro ⟨⟨l, kA, bA⟩, h4, h5, h6, h7, hinv⟩
   simp only at h4 h5 h6 h7 hinv
   simp only [rdO, intV, boolV]
   cases bA
   ·skip
    simp only [↓wBA, tRq, convA, ZA, reduceIte, reduceCtorEq, ZB, ZC, ZD, ZE, ZF, ZG, ZH, ZI, ZJ, ZK]
    refine (aRword _ ts hts _ _ _ 0 rfl).mono ?_
    rintro _ _ ⟨k41, b41, ⟨hb41, v, rfl, e41, f41⟩, rfl⟩
    simp only [rdO, intV, boolV]
    have hq41 : v = true ∨ v = false := by cases v <;> simp
    cases v
    ·skip
     simp only [↓wBA, tRq, convA, ZA, reduceIte, reduceCtorEq, ZB, ZC, ZD, ZE, ZF, ZG, ZH, ZI, ZJ, ZK]
     refine (aRword _ ts hts _ _ _ 0 rfl).mono ?_
     rintro _ _ ⟨k42, b42, ⟨hb42, v, rfl, e42, f42⟩, rfl⟩
     simp only [rdO, intV, boolV]
     have hq42 : v = true ∨ v = false := by cases v <;> simp
     cases v
     ·skip
      simp only [↓wBA, tRq, convA, ZA, reduceIte, reduceCtorEq, ZB, ZC, ZD, ZE, ZF, ZG, ZH, ZI, ZJ, ZK]
      refine ⟨⟨(l, k42, b42), by grind⟩, ?_⟩
      simp [WeakE, Weak, leL, leT, leM, leG, leA, leC, leR, leS, leO, tokLt, tokLtL, intV, boolV, exC, exL, exL_app, exL_len, leaf, nilA, rdO, emp, coC, soC, itC, keC, enS, enR]
     ·skip
      have hlim1 := tL (n := (l.length + 1) * 56) (by omega)
      have hlim2 := lM (n := l.length + 1) (by omega)
      simp only [↓wBA, tRq, convA, ZA, reduceIte, reduceCtorEq, ZB, ZC, ZD, ZE, ZF, ZG, ZH, ZI, ZJ, ZK]
      refine (asource ts hts _ (by grind) _ _ 0 rfl).mono ?_
      rintro _ _ ⟨k43, b43, ⟨⟨⟨d1, d2⟩, rfl⟩, hv43⟩, rfl⟩
      simp only [Adv, May] at hv43
      simp only [soC, exL, rdO, intV, boolV, List.map_cons, List.map_nil]
      simp only [↓wBA, tRq, convA, ZA, reduceIte, reduceCtorEq, ZB, ZC, ZD, ZE, ZF, ZG, ZH, ZI, ZJ, ZK]
      refine (awant 1 (by decide) _ ts hts _ (by grind) _ _ 0 rfl).mono ?_
      rintro _ _ ⟨k44, b44, ⟨rfl, hv44⟩, rfl⟩
      simp only [Adv, May] at hv44
      simp only [rdO, intV, boolV]
      simp only [↓wBA, tRq, convA, ZA, reduceIte, reduceCtorEq, ZB, ZC, ZD, ZE, ZF, ZG, ZH, ZI, ZJ, ZK]
      refine (aExpr ts hts _ (by grind) _ _ _ 0 rfl).mono ?_
      rintro _ _ ⟨k45, b45, ⟨⟨x, rfl, hx⟩, hv45⟩, rfl⟩
      simp only [Adv] at hv45
      rcases x with ⟨kd, vk, vn, vs, tb, nm, sl, kids⟩
      simp only [exA, exC, rdO, intV, boolV, List.map_cons, List.map_nil]
      simp only [↓wBA, tRq, convA, ZA, reduceIte, reduceCtorEq, ZB, ZC, ZD, ZE, ZF, ZG, ZH, ZI, ZJ, ZK, appendA, srcA, List.length_map, hlim1, hlim2]
      clear hlim1 hlim2
      refine ⟨⟨(l ++ [(d1, d2, [.mk kd vk vn vs tb nm sl kids])], k45, b45), by have hnew := mem_snoc (p := fun i : So => i.2.2.length ≤ 2050 ∧ okEL i.2.2) (x := (d1, d2, [.mk kd vk vn vs tb nm sl kids])) hinv ⟨by simp, okEL_one hx⟩; simp only [List.length_append, List.length_cons, List.length_nil]; grind⟩, by simp only [Bool.false_eq_true, if_false]; grind, ?_⟩
      simp [WeakE, Weak, leL, leT, leM, leG, leA, leC, leR, leS, leO, tokLt, tokLtL, intV, boolV, exC, exL, exL_app, exL_len, leaf, nilA, rdO, emp, coC, soC, itC, keC, enS, enR]
    ·skip
     simp only [↓wBA, tRq, convA, ZA, reduceIte, reduceCtorEq, ZB, ZC, ZD, ZE, ZF, ZG, ZH, ZI, ZJ, ZK]
     refine (awant 1 (by decide) _ ts hts _ (by grind) _ _ 0 rfl).mono ?_
     rintro _ _ ⟨k42, b42, ⟨rfl, hv42⟩, rfl⟩
     simp only [Adv, May] at hv42
     simp only [rdO, intV, boolV]
     have hlim1 := tL (n := (l.length + 1) * 56) (by omega)
     have hlim2 := lM (n := l.length + 1) (by omega)
     simp only [↓wBA, tRq, convA, ZA, reduceIte, reduceCtorEq, ZB, ZC, ZD, ZE, ZF, ZG, ZH, ZI, ZJ, ZK]
     refine (asource ts hts _ (by grind) _ _ 0 rfl).mono ?_
     rintro _ _ ⟨k43, b43, ⟨⟨⟨d1, d2⟩, rfl⟩, hv43⟩, rfl⟩
     simp only [Adv, May] at hv43
     simp only [soC, exL, rdO, intV, boolV, List.map_cons, List.map_nil]
     simp only [↓wBA, tRq, convA, ZA, reduceIte, reduceCtorEq, ZB, ZC, ZD, ZE, ZF, ZG, ZH, ZI, ZJ, ZK]
     refine (awant 1 (by decide) _ ts hts _ (by grind) _ _ 0 rfl).mono ?_
     rintro _ _ ⟨k44, b44, ⟨rfl, hv44⟩, rfl⟩
     simp only [Adv, May] at hv44
     simp only [rdO, intV, boolV]
     simp only [↓wBA, tRq, convA, ZA, reduceIte, reduceCtorEq, ZB, ZC, ZD, ZE, ZF, ZG, ZH, ZI, ZJ, ZK]
     refine (aExpr ts hts _ (by grind) _ _ _ 0 rfl).mono ?_
     rintro _ _ ⟨k45, b45, ⟨⟨x, rfl, hx⟩, hv45⟩, rfl⟩
     simp only [Adv] at hv45
     rcases x with ⟨kd, vk, vn, vs, tb, nm, sl, kids⟩
     simp only [exA, exC, rdO, intV, boolV, List.map_cons, List.map_nil]
     simp only [↓wBA, tRq, convA, ZA, reduceIte, reduceCtorEq, ZB, ZC, ZD, ZE, ZF, ZG, ZH, ZI, ZJ, ZK, appendA, srcA, List.length_map, hlim1, hlim2]
     clear hlim1 hlim2
     refine ⟨⟨(l ++ [(d1, d2, [.mk kd vk vn vs tb nm sl kids])], k45, b45), by have hnew := mem_snoc (p := fun i : So => i.2.2.length ≤ 2050 ∧ okEL i.2.2) (x := (d1, d2, [.mk kd vk vn vs tb nm sl kids])) hinv ⟨by simp, okEL_one hx⟩; simp only [List.length_append, List.length_cons, List.length_nil]; grind⟩, by simp only [Bool.false_eq_true, if_false]; grind, ?_⟩
     simp [WeakE, Weak, leL, leT, leM, leG, leA, leC, leR, leS, leO, tokLt, tokLtL, intV, boolV, exC, exL, exL_app, exL_len, leaf, nilA, rdO, emp, coC, soC, itC, keC, enS, enR]
   ·skip
    simp only [↓wBA, tRq, convA, ZA, reduceIte, reduceCtorEq, ZB, ZC, ZD, ZE, ZF, ZG, ZH, ZI, ZJ, ZK]
    refine ⟨⟨(l, kA, true), by grind⟩, ?_⟩
    simp [WeakE, Weak, leL, leT, leM, leG, leA, leC, leR, leS, leO, tokLt, tokLtL, intV, boolV, exC, exL, exL_app, exL_len, leaf, nilA, rdO, emp, coC, soC, itC, keC, enS, enR]
  ·rintro ⟨⟨sl0, kC, bC⟩, h4, h5, h6, hsl1, hsl2⟩
   simp only at h4 h5 h6 hsl1 hsl2
   simp only [rdO, intV, boolV]
   simp only [↓wBA, tRq, convA, ZA, reduceIte, reduceCtorEq, ZB, ZC, ZD, ZE, ZF, ZG, ZH, ZI, ZJ, ZK]
   refine (awhere ts hts _ (by grind) _ _ 0 rfl).mono ?_
   rintro _ _ ⟨k61, b61, ⟨⟨wl, rfl, hwl⟩, hv61⟩, rfl⟩
   simp only [Adv, May] at hv61
   simp only [rdO, intV, boolV]
   simp only [↓wBA, tRq, convA, ZA, reduceIte, reduceCtorEq, ZB, ZC, ZD, ZE, ZF, ZG, ZH, ZI, ZJ, ZK]
   refine (aRword _ ts hts _ _ _ 0 rfl).mono ?_
   rintro _ _ ⟨k62, b62, ⟨hb62, v, rfl, e62, f62⟩, rfl⟩
   simp only [rdO, intV, boolV]
   have hq62 : v = true ∨ v = false := by cases v <;> simp
   cases v
   ·skip
    have hnil : ((0 : Nat) : Int) = 0 := rfl
    have hZ : decide ((0 : Int) > 16) = false := by decide
    simp only [↓wBA, tRq, convA, ZA, reduceIte, reduceCtorEq, ZB, ZC, ZD, ZE, ZF, ZG, ZH, ZI, ZJ, ZK]
    refine (aRword _ ts hts _ _ _ 0 rfl).mono ?_
    rintro _ _ ⟨k63, b63, ⟨hb63, v, rfl, e63, f63⟩, rfl⟩
    simp only [rdO, intV, boolV]
    have hq63 : v = true ∨ v = false := by cases v <;> simp
    cases v
    ·skip
     simp only [↓wBA, tRq, convA, ZA, reduceIte, reduceCtorEq, ZB, ZC, ZD, ZE, ZF, ZG, ZH, ZI, ZJ, ZK]
     refine (aRword _ ts hts _ _ _ 0 rfl).mono ?_
     rintro _ _ ⟨k64, b64, ⟨hb64, v, rfl, e64, f64⟩, rfl⟩
     simp only [rdO, intV, boolV]
     have hq64 : v = true ∨ v = false := by cases v <;> simp
     cases v
     ·skip
      simp only [↓wBA, tRq, convA, ZA, reduceIte, reduceCtorEq, ZB, ZC, ZD, ZE, ZF, ZG, ZH, ZI, ZJ, ZK]
      cases b64
      ·skip
       cases hA : decide ((il.length : Int) > 16)
       ·skip
        cases hB : decide ((sl0.length : Int) > 4)
        ·skip
         simp only [↓wBA, tRq, convA, ZA, reduceIte, reduceCtorEq, ZB, ZC, ZD, ZE, ZF, ZG, ZH, ZI, ZJ, ZK, List.length_map, hA, hB, hnil, hZ]
         exact ret_rdW (k' := k64) (b' := false) (.agg ((smC ({ kind := 4, tb := emp, nm := emp, cols := [], names := [], rows := [], items := il, src := sl0, wh := wl, group := [], order := [], limit := -1, sets := [], hash := false })).map .p)) (.inl rfl) rfl (by simp [leT, leG, leC, leA, leM, smC, tokLt, tokLtL, frzRow, toPss, toPs, toP, nilSl, exC, exL, exL_app, exL_len, leaf, nilA, rdO, emp, coC, soC, itC, keC, enS, enR]) rfl rfl ⟨⟨_, rfl, by simp, ⟨by simp, by simp, by simp, hil1, hil2, hsl1, hsl2, hwl, ⟨by simp, okEL_nil⟩, by simp, by simp, ⟨by simp, okEL_nil⟩⟩⟩, by simp only [May]; grind⟩
        ·skip
         simp only [↓wBA, tRq, convA, ZA, reduceIte, reduceCtorEq, ZB, ZC, ZD, ZE, ZF, ZG, ZH, ZI, ZJ, ZK, List.length_map, hA, hB, hnil, hZ]
         exact ret_rdW (k' := k64) (b' := true) (.agg ((smC ({ kind := 4, tb := emp, nm := emp, cols := [], names := [], rows := [], items := il, src := sl0, wh := wl, group := [], order := [], limit := -1, sets := [], hash := false })).map .p)) (.inl rfl) rfl (by simp [leT, leG, leC, leA, leM, smC, tokLt, tokLtL, frzRow, toPss, toPs, toP, nilSl, exC, exL, exL_app, exL_len, leaf, nilA, rdO, emp, coC, soC, itC, keC, enS, enR]) rfl rfl ⟨⟨_, rfl, by simp, ⟨by simp, by simp, by simp, hil1, hil2, hsl1, hsl2, hwl, ⟨by simp, okEL_nil⟩, by simp, by simp, ⟨by simp, okEL_nil⟩⟩⟩, by simp only [May]; grind⟩
       ·skip
        simp only [↓wBA, tRq, convA, ZA, reduceIte, reduceCtorEq, ZB, ZC, ZD, ZE, ZF, ZG, ZH, ZI, ZJ, ZK, List.length_map, hA, hnil, hZ]
        exact ret_rdW (k' := k64) (b' := true) (.agg ((smC ({ kind := 4, tb := emp, nm := emp, cols := [], names := [], rows := [], items := il, src := sl0, wh := wl, group := [], order := [], limit := -1, sets := [], hash := false })).map .p)) (.inl rfl) rfl (by simp [leT, leG, leC, leA, leM, smC, tokLt, tokLtL, frzRow, toPss, toPs, toP, nilSl, exC, exL, exL_app, exL_len, leaf, nilA, rdO, emp, coC, soC, itC, keC, enS, enR]) rfl rfl ⟨⟨_, rfl, by simp, ⟨by simp, by simp, by simp, hil1, hil2, hsl1, hsl2, hwl, ⟨by simp, okEL_nil⟩, by simp, by simp, ⟨by simp, okEL_nil⟩⟩⟩, by simp only [May]; grind⟩
      ·skip
       simp only [↓wBA, tRq, convA, ZA, reduceIte, reduceCtorEq, ZB, ZC, ZD, ZE, ZF, ZG, ZH, ZI, ZJ, ZK, List.length_map, hnil, hZ]
       exact ret_rdW (k' := k64) (b' := true) (.agg ((smC ({ kind := 4, tb := emp, nm := emp, cols := [], names := [], rows := [], items := il, src := sl0, wh := wl, group := [], order := [], limit := -1, sets := [], hash := false })).map .p)) (.inl rfl) rfl (by simp [leT, leG, leC, leA, leM, smC, tokLt, tokLtL, frzRow, toPss, toPs, toP, nilSl, exC, exL, exL_app, exL_len, leaf, nilA, rdO, emp, coC, soC, itC, keC, enS, enR]) rfl rfl ⟨⟨_, rfl, by simp, ⟨by simp, by simp, by simp, hil1, hil2, hsl1, hsl2, hwl, ⟨by simp, okEL_nil⟩, by simp, by simp, ⟨by simp, okEL_nil⟩⟩⟩, by simp only [May]; grind⟩
     ·skip
      simp only [↓wBA, tRq, convA, ZA, reduceIte, reduceCtorEq, ZB, ZC, ZD, ZE, ZF, ZG, ZH, ZI, ZJ, ZK]
      refine (aany 3 (by decide) ts hts _ (by grind) _ _ 0 rfl).mono ?_
      rintro _ _ ⟨k65, b65, ⟨⟨⟨t1, t2, t3⟩, rfl⟩, hv65⟩, rfl⟩
      simp only [Adv, May] at hv65
      simp only [tokA, rdO, intV, boolV]
      simp only [↓wBA, tRq, convA, ZA, reduceIte, reduceCtorEq, ZB, ZC, ZD, ZE, ZF, ZG, ZH, ZI, ZJ, ZK]
      cases b65
      ·skip
       cases hA : decide ((il.length : Int) > 16)
       ·skip
        cases hB : decide ((sl0.length : Int) > 4)
        ·skip
         simp only [↓wBA, tRq, convA, ZA, reduceIte, reduceCtorEq, ZB, ZC, ZD, ZE, ZF, ZG, ZH, ZI, ZJ, ZK, List.length_map, hA, hB, hnil, hZ]
         exact ret_rdW (k' := k65) (b' := false) (.agg ((smC ({ kind := 4, tb := emp, nm := emp, cols := [], names := [], rows := [], items := il, src := sl0, wh := wl, group := [], order := [], limit := t3, sets := [], hash := false })).map .p)) (.inl rfl) rfl (by simp [leT, leG, leC, leA, leM, smC, tokLt, tokLtL, frzRow, toPss, toPs, toP, nilSl, exC, exL, exL_app, exL_len, leaf, nilA, rdO, emp, coC, soC, itC, keC, enS, enR]) rfl rfl ⟨⟨_, rfl, by simp, ⟨by simp, by simp, by simp, hil1, hil2, hsl1, hsl2, hwl, ⟨by simp, okEL_nil⟩, by simp, by simp, ⟨by simp, okEL_nil⟩⟩⟩, by simp only [May]; grind⟩
        ·skip
         simp only [↓wBA, tRq, convA, ZA, reduceIte, reduceCtorEq, ZB, ZC, ZD, ZE, ZF, ZG, ZH, ZI, ZJ, ZK, List.length_map, hA, hB, hnil, hZ]
         exact ret_rdW (k' := k65) (b' := true) (.agg ((smC ({ kind := 4, tb := emp, nm := emp, cols := [], names := [], rows := [], items := il, src := sl0, wh := wl, group := [], order := [], limit := t3, sets := [], hash := false })).map .p)) (.inl rfl) rfl (by simp [leT, leG, leC, leA, leM, smC, tokLt, tokLtL, frzRow, toPss, toPs, toP, nilSl, exC, exL, exL_app, exL_len, leaf, nilA, rdO, emp, coC, soC, itC, keC, enS, enR]) rfl rfl ⟨⟨_, rfl, by simp, ⟨by simp, by simp, by simp, hil1, hil2, hsl1, hsl2, hwl, ⟨by simp, okEL_nil⟩, by simp, by simp, ⟨by simp, okEL_nil⟩⟩⟩, by simp only [May]; grind⟩
       ·skip
        simp only [↓wBA, tRq, convA, ZA, reduceIte, reduceCtorEq, ZB, ZC, ZD, ZE, ZF, ZG, ZH, ZI, ZJ, ZK, List.length_map, hA, hnil, hZ]
        exact ret_rdW (k' := k65) (b' := true) (.agg ((smC ({ kind := 4, tb := emp, nm := emp, cols := [], names := [], rows := [], items := il, src := sl0, wh := wl, group := [], order := [], limit := t3, sets := [], hash := false })).map .p)) (.inl rfl) rfl (by simp [leT, leG, leC, leA, leM, smC, tokLt, tokLtL, frzRow, toPss, toPs, toP, nilSl, exC, exL, exL_app, exL_len, leaf, nilA, rdO, emp, coC, soC, itC, keC, enS, enR]) rfl rfl ⟨⟨_, rfl, by simp, ⟨by simp, by simp, by simp, hil1, hil2, hsl1, hsl2, hwl, ⟨by simp, okEL_nil⟩, by simp, by simp, ⟨by simp, okEL_nil⟩⟩⟩, by simp only [May]; grind⟩
      ·skip
       simp only [↓wBA, tRq, convA, ZA, reduceIte, reduceCtorEq, ZB, ZC, ZD, ZE, ZF, ZG, ZH, ZI, ZJ, ZK, List.length_map, hnil, hZ]
       exact ret_rdW (k' := k65) (b' := true) (.agg ((smC ({ kind := 4, tb := emp, nm := emp, cols := [], names := [], rows := [], items := il, src := sl0, wh := wl, group := [], order := [], limit := t3, sets := [], hash := false })).map .p)) (.inl rfl) rfl (by simp [leT, leG, leC, leA, leM, smC, tokLt, tokLtL, frzRow, toPss, toPs, toP, nilSl, exC, exL, exL_app, exL_len, leaf, nilA, rdO, emp, coC, soC, itC, keC, enS, enR]) rfl rfl ⟨⟨_, rfl, by simp, ⟨by simp, by simp, by simp, hil1, hil2, hsl1, hsl2, hwl, ⟨by simp, okEL_nil⟩, by simp, by simp, ⟨by simp, okEL_nil⟩⟩⟩, by simp only [May]; grind⟩
    ·skip
     simp only [↓wBA, tRq, convA, ZA, reduceIte, reduceCtorEq, ZB, ZC, ZD, ZE, ZF, ZG, ZH, ZI, ZJ, ZK]
     refine (awant 1 (by decide) _ ts hts _ (by grind) _ _ 0 rfl).mono ?_
     rintro _ _ ⟨k64, b64, ⟨rfl, hv64⟩, rfl⟩
     simp only [Adv, May] at hv64
     simp only [rdO, intV, boolV]
     simp only [↓wBA, tRq, convA, ZA, reduceIte, reduceCtorEq, ZB, ZC, ZD, ZE, ZF, ZG, ZH, ZI, ZJ, ZK]
     refine awp_loopM (X := { q : List (Ex × Bool) × Nat × Bool × Bool // k64 ≤ q.2.1 ∧ q.2.1 ≤ ts.length ∧ q.1.length ≤ q.2.1 + 1 ∧ (q.2.2.1 = false → b64 = false ∧ q.1.length ≤ q.2.1) ∧ (∀ i ∈ q.1, okE i.1) }) (fun q => ([.mp 0 3 0 0, .any, .mp 1 14 0 0, .mp 2 14 0 0, .any, .any, boolV q.1.2.2.2, .any, .any, .any, .any, .any, .any, .any, .any, .any, .any, .any, .any, .any, .any, .any, .any, .any, .any, .any, .any, .any, .any, .any, .any, .any, .any, .any, .any, .any, .any, .any, .any, .any, .any, .any, .any, .any, .any, .any, .any, .any, .any, .any, .any, .any, .any, .any, .any, .any, .any, .any, .any, .any, .any, .any, .any, .any, .any, .any, .any, .any, .any, .any, .any, .any, .any, .any, .any, .any, .any, .any, .any, .any, .any, .any, .any, .any, .any, .any, .any, .any, .any, .any, .any, .any, .any, .any, .any, .any, .any, .any, .any, .any, .any, .any, .any, .any, .any, .any, .any, .any, .any, .any, .any, .any, .any, .any, .any, .any, .any, .any, .any, .any, .any, .any, .any], [some (rdO ts q.1.2.1 q.1.2.2.1), some (.row 14 [[.p (.v (.int .i64 0)), .p (.v (.string ⟨#[]⟩)), .p (.v (.string ⟨#[]⟩)), nilA, nilA, nilA, nilA, nilA, nilA, nilA, nilA, .p (.v (.int .i64 0)), nilA, .p (.v (.bool false))]]), some (.row 14 [[.p (.v (.int .i64 4)), .p (.v (.string ⟨#[]⟩)), .p (.v (.string ⟨#[]⟩)), nilA, nilA, nilA, .p (.sl 9 (il.map itC)), .p (.sl 3 (sl0.map soC)), .p (.sl 8 (exL wl)), nilA, .nown 5 9 (q.1.1.map keC), .p (.v (.int .i64 (-1))), nilA, .p (.v (.bool false))]]), none, none, some (.nright 120 (q.1.1.length * 9))])) (fun q => if q.1.2.2.1 = true then 0 else ts.length + 1 - q.1.2.1) ⟨([], k64, b64, true), by simp [okEL]; grind⟩ { y : List (Ex × Bool) × Nat × Bool // k64 ≤ y.2.1 ∧ y.2.1 ≤ ts.length ∧ (y.2.2 = false → b64 = false) ∧ y.1.length ≤ 2050 ∧ (∀ i ∈ y.1, okE i.1) } (fun y => (.exit 4, [.mp 0 3 0 0, .any, .mp 1 14 0 0, .mp 2 14 0 0, .any, .any, .any, .any, .any, .any, .any, .any, .any, .any, .any, .any, .any, .any, .any, .any, .any, .any, .any, .any, .any, .any, .any, .any, .any, .any, .any, .any, .any, .any, .any, .any, .any, .any, .any, .any, .any, .any, .any, .any, .any, .any, .any, .any, .any, .any, .any, .any, .any, .any, .any, .any, .any, .any, .any, .any, .any, .any, .any, .any, .any, .any, .any, .any, .any, .any, .any, .any, .any, .any, .any, .any, .any, .any, .any, .any, .any, .any, .any, .any, .any, .any, .any, .any, .any, .any, .any, .any, .any, .any, .any, .any, .any, .any, .any, .any, .any, .any, .any, .any, .any, .any, .any, .any, .any, .any, .any, .any, .any, .any, .any, .any, .any, .any, .any, .any, .any, .any, .any], [some (rdO ts y.1.2.1 y.1.2.2), some (.row 14 [[.p (.v (.int .i64 0)), .p (.v (.string ⟨#[]⟩)), .p (.v (.string ⟨#[]⟩)), nilA, nilA, nilA, nilA, nilA, nilA, nilA, nilA, .p (.v (.int .i64 0)), nilA, .p (.v (.bool false))]]), some (.row 14 [[.p (.v (.int .i64 4)), .p (.v (.string ⟨#[]⟩)), .p (.v (.string ⟨#[]⟩)), nilA, nilA, nilA, .p (.sl 9 (il.map itC)), .p (.sl 3 (sl0.map soC)), .p (.sl 8 (exL wl)), nilA, .p (.sl 9 (y.1.1.map keC)), .p (.v (.int .i64 (-1))), nilA, .p (.v (.bool false))]]), none, none])) (fun q => by simp) (fun y => by simp) ?_ ?_ ?_
     ·simp [WeakE, Weak, leL, leT, leM, leG, leA, leC, leR, leS, leO, tokLt, tokLtL, intV, boolV, exC, exL, exL_app, exL_len, leaf, nilA, rdO, emp, coC, soC, itC, keC, enS, enR]
     ·rintro ⟨⟨l, kA, bA, more⟩, h1, h2, h3, h4, hinv⟩
      simp only at h1 h2 h3 h4 hinv
      simp only [rdO, intV, boolV]
      cases more
      ·skip
       simp only [↓wBA, tRq, convA, ZA, reduceIte, reduceCtorEq, ZB, ZC, ZD, ZE, ZF, ZG, ZH, ZI, ZJ, ZK]
       refine ⟨⟨(l, kA, bA), by grind⟩, ?_⟩
       simp [WeakE, Weak, leL, leT, leM, leG, leA, leC, leR, leS, leO, tokLt, tokLtL, intV, boolV, exC, exL, exL_app, exL_len, leaf, nilA, rdO, emp, coC, soC, itC, keC, enS, enR]
      ·cases bA
       ·skip
        have hlim1 := tL (n := (l.length + 1) * 112) (by omega)
        have hlim2 := lM (n := l.length + 1) (by omega)
        simp only [↓wBA, tRq, convA, ZA, reduceIte, reduceCtorEq, ZB, ZC, ZD, ZE, ZF, ZG, ZH, ZI, ZJ, ZK]
        refine ⟨(.det 0 (.det 1 (.det 2 (.act 3 (.act 4 (.fin 5 (.det 6 (.fin 7 .done)))))))), by decide, by kernel_rfl, by kernel_rfl, ?_⟩
        simp only [↓wBA, tRq, convA, ZA, reduceIte, reduceCtorEq, ZB, ZC, ZD, ZE, ZF, ZG, ZH, ZI, ZJ, ZK]
        refine (akey ts hts _ (by grind) _ _ 0 rfl).mono ?_
        rintro _ _ ⟨k66, b66, ⟨⟨c, rfl, hc⟩, hv66⟩, rfl⟩
        simp only [Adv, May] at hv66
        simp only [rdO, intV, boolV]
        obtain ⟨⟨kd, vk, vn, vs, tb, nm, sl, kids⟩, c2⟩ := c
        simp only [keC, exC, List.map_cons, List.map_nil, List.cons_append, List.nil_append]
        simp only [↓wBA, tRq, convA, ZA, reduceIte, reduceCtorEq, ZB, ZC, ZD, ZE, ZF, ZG, ZH, ZI, ZJ, ZK, appendA, srcA, List.length_map, hlim1, hlim2, unmaskS, Nat.mul_one]
        refine (aRsign _ ts hts _ _ _ 0 rfl).mono ?_
        rintro _ _ ⟨k67, b67, ⟨hb67, v, rfl, e67, f67⟩, rfl⟩
        simp only [rdO, intV, boolV]
        have hq67 : v = true ∨ v = false := by cases v <;> simp
        simp only [↓wBA, tRq, convA, ZA, reduceIte, reduceCtorEq, ZB, ZC, ZD, ZE, ZF, ZG, ZH, ZI, ZJ, ZK]
        clear hlim1 hlim2
        have hkk : k66 ≤ k67 ∧ k67 ≤ ts.length := by cases v <;> grind
        refine ⟨⟨(l ++ [(.mk kd vk vn vs tb nm sl kids, c2)], k67, b67, v), by have hnew := mem_snoc (p := fun i : Ex × Bool => okE i.1) hinv hc; simp only [List.length_append, List.length_cons, List.length_nil]; grind⟩, by simp only [Bool.false_eq_true, if_false]; grind, ?_⟩
        simp [WeakE, Weak, leL, leT, leM, leG, leA, leC, leR, leS, leO, tokLt, tokLtL, intV, boolV, exC, exL, exL_app, exL_len, leaf, nilA, rdO, emp, coC, soC, itC, keC, enS, enR]
       ·skip
        simp only [↓wBA, tRq, convA, ZA, reduceIte, reduceCtorEq, ZB, ZC, ZD, ZE, ZF, ZG, ZH, ZI, ZJ, ZK]
        refine ⟨⟨(l, kA, true), by grind⟩, ?_⟩
        simp [WeakE, Weak, leL, leT, leM, leG, leA, leC, leR, leS, leO, tokLt, tokLtL, intV, boolV, exC, exL, exL_app, exL_len, leaf, nilA, rdO, emp, coC, soC, itC, keC, enS, enR]
     ·rintro ⟨⟨ol, kD, bD⟩, h7, h8, h9, hol1, hol2⟩
      simp only at h7 h8 h9 hol1 hol2
      simp only [rdO, intV, boolV]
      simp only [↓wBA, tRq, convA, ZA, reduceIte, reduceCtorEq, ZB, ZC, ZD, ZE, ZF, ZG, ZH, ZI, ZJ, ZK]
      refine (aRword _ ts hts _ _ _ 0 rfl).mono ?_
      rintro _ _ ⟨k65, b65, ⟨hb65, v, rfl, e65, f65⟩, rfl⟩
      simp only [rdO, intV, boolV]
      have hq65 : v = true ∨ v = false := by cases v <;> simp
      cases v
      ·skip
       simp only [↓wBA, tRq, convA, ZA, reduceIte, reduceCtorEq, ZB, ZC, ZD, ZE, ZF, ZG, ZH, ZI, ZJ, ZK]
       cases b65
       ·skip
        cases hA : decide ((il.length : Int) > 16)
        ·skip
         cases hB : decide ((sl0.length : Int) > 4)
         ·skip
          simp only [↓wBA, tRq, convA, ZA, reduceIte, reduceCtorEq, ZB, ZC, ZD, ZE, ZF, ZG, ZH, ZI, ZJ, ZK, List.length_map, hA, hB, hnil, hZ]
          exact ret_rdW (k' := k65) (b' := decide ((ol.length : Int) > 16)) (.agg ((smC ({ kind := 4, tb := emp, nm := emp, cols := [], names := [], rows := [], items := il, src := sl0, wh := wl, group := [], order := ol, limit := -1, sets := [], hash := false })).map .p)) (.inl rfl) rfl (by simp [leT, leG, leC, leA, leM, smC, tokLt, tokLtL, frzRow, toPss, toPs, toP, nilSl, exC, exL, exL_app, exL_len, leaf, nilA, rdO, emp, coC, soC, itC, keC, enS, enR]) rfl rfl ⟨⟨_, rfl, by simp, ⟨by simp, by simp, by simp, hil1, hil2, hsl1, hsl2, hwl, ⟨by simp, okEL_nil⟩, hol1, hol2, ⟨by simp, okEL_nil⟩⟩⟩, by simp only [May]; grind⟩
         ·skip
          simp only [↓wBA, tRq, convA, ZA, reduceIte, reduceCtorEq, ZB, ZC, ZD, ZE, ZF, ZG, ZH, ZI, ZJ, ZK, List.length_map, hA, hB, hnil, hZ]
          exact ret_rdW (k' := k65) (b' := true) (.agg ((smC ({ kind := 4, tb := emp, nm := emp, cols := [], names := [], rows := [], items := il, src := sl0, wh := wl, group := [], order := ol, limit := -1, sets := [], hash := false })).map .p)) (.inl rfl) rfl (by simp [leT, leG, leC, leA, leM, smC, tokLt, tokLtL, frzRow, toPss, toPs, toP, nilSl, exC, exL, exL_app, exL_len, leaf, nilA, rdO, emp, coC, soC, itC, keC, enS, enR]) rfl rfl ⟨⟨_, rfl, by simp, ⟨by simp, by simp, by simp, hil1, hil2, hsl1, hsl2, hwl, ⟨by simp, okEL_nil⟩, hol1, hol2, ⟨by simp, okEL_nil⟩⟩⟩, by simp only [May]; grind⟩
        ·skip
         simp only [↓wBA, tRq, convA, ZA, reduceIte, reduceCtorEq, ZB, ZC, ZD, ZE, ZF, ZG, ZH, ZI, ZJ, ZK, List.length_map, hA, hnil, hZ]
         exact ret_rdW (k' := k65) (b' := true) (.agg ((smC ({ kind := 4, tb := emp, nm := emp, cols := [], names := [], rows := [], items := il, src := sl0, wh := wl, group := [], order := ol, limit := -1, sets := [], hash := false })).map .p)) (.inl rfl) rfl (by simp [leT, leG, leC, leA, leM, smC, tokLt, tokLtL, frzRow, toPss, toPs, toP, nilSl, exC, exL, exL_app, exL_len, leaf, nilA, rdO, emp, coC, soC, itC, keC, enS, enR]) rfl rfl ⟨⟨_, rfl, by simp, ⟨by simp, by simp, by simp, hil1, hil2, hsl1, hsl2, hwl, ⟨by simp, okEL_nil⟩, hol1, hol2, ⟨by simp, okEL_nil⟩⟩⟩, by simp only [May]; grind⟩
       ·skip
        simp only [↓wBA, tRq, convA, ZA, reduceIte, reduceCtorEq, ZB, ZC, ZD, ZE, ZF, ZG, ZH, ZI, ZJ, ZK, List.length_map, hnil, hZ]
        exact ret_rdW (k' := k65) (b' := true) (.agg ((smC ({ kind := 4, tb := emp, nm := emp, cols := [], names := [], rows := [], items := il, src := sl0, wh := wl, group := [], order := ol, limit := -1, sets := [], hash := false })).map .p)) (.inl rfl) rfl (by simp [leT, leG, leC, leA, leM, smC, tokLt, tokLtL, frzRow, toPss, toPs, toP, nilSl, exC, exL, exL_app, exL_len, leaf, nilA, rdO, emp, coC, soC, itC, keC, enS, enR]) rfl rfl ⟨⟨_, rfl, by simp, ⟨by simp, by simp, by simp, hil1, hil2, hsl1, hsl2, hwl, ⟨by simp, okEL_nil⟩, hol1, hol2, ⟨by simp, okEL_nil⟩⟩⟩, by simp only [May]; grind⟩
      ·skip
       simp only [↓wBA, tRq, convA, ZA, reduceIte, reduceCtorEq, ZB, ZC, ZD, ZE, ZF, ZG, ZH, ZI, ZJ, ZK]
       refine (aany 3 (by decide) ts hts _ (by grind) _ _ 0 rfl).mono ?_
       rintro _ _ ⟨k66, b66, ⟨⟨⟨t1, t2, t3⟩, rfl⟩, hv66⟩, rfl⟩
       simp only [Adv, May] at hv66
       simp only [tokA, rdO, intV, boolV]
       simp only [↓wBA, tRq, convA, ZA, reduceIte, reduceCtorEq, ZB, ZC, ZD, ZE, ZF, ZG, ZH, ZI, ZJ, ZK]
       cases b66
       ·skip
        cases hA : decide ((il.length : Int) > 16)
        ·skip
         cases hB : decide ((sl0.length : Int) > 4)
         ·skip
          simp only [↓wBA, tRq, convA, ZA, reduceIte, reduceCtorEq, ZB, ZC, ZD, ZE, ZF, ZG, ZH, ZI, ZJ, ZK, List.length_map, hA, hB, hnil, hZ]
          exact ret_rdW (k' := k66) (b' := decide ((ol.length : Int) > 16)) (.agg ((smC ({ kind := 4, tb := emp, nm := emp, cols := [], names := [], rows := [], items := il, src := sl0, wh := wl, group := [], order := ol, limit := t3, sets := [], hash := false })).map .p)) (.inl rfl) rfl (by simp [leT, leG, leC, leA, leM, smC, tokLt, tokLtL, frzRow, toPss, toPs, toP, nilSl, exC, exL, exL_app, exL_len, leaf, nilA, rdO, emp, coC, soC, itC, keC, enS, enR]) rfl rfl ⟨⟨_, rfl, by simp, ⟨by simp, by simp, by simp, hil1, hil2, hsl1, hsl2, hwl, ⟨by simp, okEL_nil⟩, hol1, hol2, ⟨by simp, okEL_nil⟩⟩⟩, by simp only [May]; grind⟩
         ·skip
          simp only [↓wBA, tRq, convA, ZA, reduceIte, reduceCtorEq, ZB, ZC, ZD, ZE, ZF, ZG, ZH, ZI, ZJ, ZK, List.length_map, hA, hB, hnil, hZ]
          exact ret_rdW (k' := k66) (b' := true) (.agg ((smC ({ kind := 4, tb := emp, nm := emp, cols := [], names := [], rows := [], items := il, src := sl0, wh := wl, group := [], order := ol, limit := t3, sets := [], hash := false })).map .p)) (.inl rfl) rfl (by simp [leT, leG, leC, leA, leM, smC, tokLt, tokLtL, frzRow, toPss, toPs, toP, nilSl, exC, exL, exL_app, exL_len, leaf, nilA, rdO, emp, coC, soC, itC, keC, enS, enR]) rfl rfl ⟨⟨_, rfl, by simp, ⟨by simp, by simp, by simp, hil1, hil2, hsl1, hsl2, hwl, ⟨by simp, okEL_nil⟩, hol1, hol2, ⟨by simp, okEL_nil⟩⟩⟩, by simp only [May]; grind⟩
        ·skip
         simp only [↓wBA, tRq, convA, ZA, reduceIte, reduceCtorEq, ZB, ZC, ZD, ZE, ZF, ZG, ZH, ZI, ZJ, ZK, List.length_map, hA, hnil, hZ]
         exact ret_rdW (k' := k66) (b' := true) (.agg ((smC ({ kind := 4, tb := emp, nm := emp, cols := [], names := [], rows := [], items := il, src := sl0, wh := wl, group := [], order := ol, limit := t3, sets := [], hash := false })).map .p)) (.inl rfl) rfl (by simp [leT, leG, leC, leA, leM, smC, tokLt, tokLtL, frzRow, toPss, toPs, toP, nilSl, exC, exL, exL_app, exL_len, leaf, nilA, rdO, emp, coC, soC, itC, keC, enS, enR]) rfl rfl ⟨⟨_, rfl, by simp, ⟨by simp, by simp, by simp, hil1, hil2, hsl1, hsl2, hwl, ⟨by simp, okEL_nil⟩, hol1, hol2, ⟨by simp, okEL_nil⟩⟩⟩, by simp only [May]; grind⟩
       ·skip
        simp only [↓wBA, tRq, convA, ZA, reduceIte, reduceCtorEq, ZB, ZC, ZD, ZE, ZF, ZG, ZH, ZI, ZJ, ZK, List.length_map, hnil, hZ]
        exact ret_rdW (k' := k66) (b' := true) (.agg ((smC ({ kind := 4, tb := emp, nm := emp, cols := [], names := [], rows := [], items := il, src := sl0, wh := wl, group := [], order := ol, limit := t3, sets := [], hash := false })).map .p)) (.inl rfl) rfl (by simp [leT, leG, leC, leA, leM, smC, tokLt, tokLtL, frzRow, toPss, toPs, toP, nilSl, exC, exL, exL_app, exL_len, leaf, nilA, rdO, emp, coC, soC, itC, keC, enS, enR]) rfl rfl ⟨⟨_, rfl, by simp, ⟨by simp, by simp, by simp, hil1, hil2, hsl1, hsl2, hwl, ⟨by simp, okEL_nil⟩, hol1, hol2, ⟨by simp, okEL_nil⟩⟩⟩, by simp only [May]; grind⟩
   ·skip
    have hnil : ((0 : Nat) : Int) = 0 := rfl
    have hZ : decide ((0 : Int) > 16) = false := by decide
    simp only [↓wBA, tRq, convA, ZA, reduceIte, reduceCtorEq, ZB, ZC, ZD, ZE, ZF, ZG, ZH, ZI, ZJ, ZK]
    refine (awant 1 (by decide) _ ts hts _ (by grind) _ _ 0 rfl).mono ?_
    rintro _ _ ⟨k63, b63, ⟨rfl, hv63⟩, rfl⟩
    simp only [Adv, May] at hv63
    simp only [rdO, intV, boolV]
    simp only [↓wBA, tRq, convA, ZA, reduceIte, reduceCtorEq, ZB, ZC, ZD, ZE, ZF, ZG, ZH, ZI, ZJ, ZK]
    refine (aexprs ts hts _ (by grind) _ _ 0 rfl).mono ?_
    rintro _ _ ⟨k64, b64, ⟨⟨gl, rfl, hgl⟩, hv64⟩, rfl⟩
    simp only [Adv, May] at hv64
    simp only [rdO, intV, boolV]
    simp only [↓wBA, tRq, convA, ZA, reduceIte, reduceCtorEq, ZB, ZC, ZD, ZE, ZF, ZG, ZH, ZI, ZJ, ZK]
    refine (aRword _ ts hts _ _ _ 0 rfl).mono ?_
    rintro _ _ ⟨k65, b65, ⟨hb65, v, rfl, e65, f65⟩, rfl⟩
    simp only [rdO, intV, boolV]
    have hq65 : v = true ∨ v = false := by cases v <;> simp
    cases v
    ·skip
     simp only [↓wBA, tRq, convA, ZA, reduceIte, reduceCtorEq, ZB, ZC, ZD, ZE, ZF, ZG, ZH, ZI, ZJ, ZK]
     refine (aRword _ ts hts _ _ _ 0 rfl).mono ?_
     rintro _ _ ⟨k66, b66, ⟨hb66, v, rfl, e66, f66⟩, rfl⟩
     simp only [rdO, intV, boolV]
     have hq66 : v = true ∨ v = false := by cases v <;> simp
     cases v
     ·skip
      simp only [↓wBA, tRq, convA, ZA, reduceIte, reduceCtorEq, ZB, ZC, ZD, ZE, ZF, ZG, ZH, ZI, ZJ, ZK]
      cases b66
      ·skip
       cases hA : decide ((il.length : Int) > 16)
       ·skip
        cases hB : decide ((sl0.length : Int) > 4)
        ·skip
         simp only [↓wBA, tRq, convA, ZA, reduceIte, reduceCtorEq, ZB, ZC, ZD, ZE, ZF, ZG, ZH, ZI, ZJ, ZK, List.length_map, hA, hB, hnil, hZ]
         exact ret_rdW (k' := k66) (b' := false) (.agg ((smC ({ kind := 4, tb := emp, nm := emp, cols := [], names := [], rows := [], items := il, src := sl0, wh := wl, group := gl, order := [], limit := -1, sets := [], hash := false })).map .p)) (.inl rfl) rfl (by simp [leT, leG, leC, leA, leM, smC, tokLt, tokLtL, frzRow, toPss, toPs, toP, nilSl, exC, exL, exL_app, exL_len, leaf, nilA, rdO, emp, coC, soC, itC, keC, enS, enR]) rfl rfl ⟨⟨_, rfl, by simp, ⟨by simp, by simp, by simp, hil1, hil2, hsl1, hsl2, hwl, hgl, by simp, by simp, ⟨by simp, okEL_nil⟩⟩⟩, by simp only [May]; grind⟩
        ·skip
         simp only [↓wBA, tRq, convA, ZA, reduceIte, reduceCtorEq, ZB, ZC, ZD, ZE, ZF, ZG, ZH, ZI, ZJ, ZK, List.length_map, hA, hB, hnil, hZ]
         exact ret_rdW (k' := k66) (b' := true) (.agg ((smC ({ kind := 4, tb := emp, nm := emp, cols := [], names := [], rows := [], items := il, src := sl0, wh := wl, group := gl, order := [], limit := -1, sets := [], hash := false })).map .p)) (.inl rfl) rfl (by simp [leT, leG, leC, leA, leM, smC, tokLt, tokLtL, frzRow, toPss, toPs, toP, nilSl, exC, exL, exL_app, exL_len, leaf, nilA, rdO, emp, coC, soC, itC, keC, enS, enR]) rfl rfl ⟨⟨_, rfl, by simp, ⟨by simp, by simp, by simp, hil1, hil2, hsl1, hsl2, hwl, hgl, by simp, by simp, ⟨by simp, okEL_nil⟩⟩⟩, by simp only [May]; grind⟩
       ·skip
        simp only [↓wBA, tRq, convA, ZA, reduceIte, reduceCtorEq, ZB, ZC, ZD, ZE, ZF, ZG, ZH, ZI, ZJ, ZK, List.length_map, hA, hnil, hZ]
        exact ret_rdW (k' := k66) (b' := true) (.agg ((smC ({ kind := 4, tb := emp, nm := emp, cols := [], names := [], rows := [], items := il, src := sl0, wh := wl, group := gl, order := [], limit := -1, sets := [], hash := false })).map .p)) (.inl rfl) rfl (by simp [leT, leG, leC, leA, leM, smC, tokLt, tokLtL, frzRow, toPss, toPs, toP, nilSl, exC, exL, exL_app, exL_len, leaf, nilA, rdO, emp, coC, soC, itC, keC, enS, enR]) rfl rfl ⟨⟨_, rfl, by simp, ⟨by simp, by simp, by simp, hil1, hil2, hsl1, hsl2, hwl, hgl, by simp, by simp, ⟨by simp, okEL_nil⟩⟩⟩, by simp only [May]; grind⟩
      ·skip
       simp only [↓wBA, tRq, convA, ZA, reduceIte, reduceCtorEq, ZB, ZC, ZD, ZE, ZF, ZG, ZH, ZI, ZJ, ZK, List.length_map, hnil, hZ]
       exact ret_rdW (k' := k66) (b' := true) (.agg ((smC ({ kind := 4, tb := emp, nm := emp, cols := [], names := [], rows := [], items := il, src := sl0, wh := wl, group := gl, order := [], limit := -1, sets := [], hash := false })).map .p)) (.inl rfl) rfl (by simp [leT, leG, leC, leA, leM, smC, tokLt, tokLtL, frzRow, toPss, toPs, toP, nilSl, exC, exL, exL_app, exL_len, leaf, nilA, rdO, emp, coC, soC, itC, keC, enS, enR]) rfl rfl ⟨⟨_, rfl, by simp, ⟨by simp, by simp, by simp, hil1, hil2, hsl1, hsl2, hwl, hgl, by simp, by simp, ⟨by simp, okEL_nil⟩⟩⟩, by simp only [May]; grind⟩
     ·skip
      simp only [↓wBA, tRq, convA, ZA, reduceIte, reduceCtorEq, ZB, ZC, ZD, ZE, ZF, ZG, ZH, ZI, ZJ, ZK]
      refine (aany 3 (by decide) ts hts _ (by grind) _ _ 0 rfl).mono ?_
      rintro _ _ ⟨k67, b67, ⟨⟨⟨t1, t2, t3⟩, rfl⟩, hv67⟩, rfl⟩
      simp only [Adv, May] at hv67
      simp only [tokA, rdO, intV, boolV]
      simp only [↓wBA, tRq, convA, ZA, reduceIte, reduceCtorEq, ZB, ZC, ZD, ZE, ZF, ZG, ZH, ZI, ZJ, ZK]
      cases b67
      ·skip
       cases hA : decide ((il.length : Int) > 16)
       ·skip
        cases hB : decide ((sl0.length : Int) > 4)
        ·skip
         simp only [↓wBA, tRq, convA, ZA, reduceIte, reduceCtorEq, ZB, ZC, ZD, ZE, ZF, ZG, ZH, ZI, ZJ, ZK, List.length_map, hA, hB, hnil, hZ]
         exact ret_rdW (k' := k67) (b' := false) (.agg ((smC ({ kind := 4, tb := emp, nm := emp, cols := [], names := [], rows := [], items := il, src := sl0, wh := wl, group := gl, order := [], limit := t3, sets := [], hash := false })).map .p)) (.inl rfl) rfl (by simp [leT, leG, leC, leA, leM, smC, tokLt, tokLtL, frzRow, toPss, toPs, toP, nilSl, exC, exL, exL_app, exL_len, leaf, nilA, rdO, emp, coC, soC, itC, keC, enS, enR]) rfl rfl ⟨⟨_, rfl, by simp, ⟨by simp, by simp, by simp, hil1, hil2, hsl1, hsl2, hwl, hgl, by simp, by simp, ⟨by simp, okEL_nil⟩⟩⟩, by simp only [May]; grind⟩
        ·skip
         simp only [↓wBA, tRq, convA, ZA, reduceIte, reduceCtorEq, ZB, ZC, ZD, ZE, ZF, ZG, ZH, ZI, ZJ, ZK, List.length_map, hA, hB, hnil, hZ]
         exact ret_rdW (k' := k67) (b' := true) (.agg ((smC ({ kind := 4, tb := emp, nm := emp, cols := [], names := [], rows := [], items := il, src := sl0, wh := wl, group := gl, order := [], limit := t3, sets := [], hash := false })).map .p)) (.inl rfl) rfl (by simp [leT, leG, leC, leA, leM, smC, tokLt, tokLtL, frzRow, toPss, toPs, toP, nilSl, exC, exL, exL_app, exL_len, leaf, nilA, rdO, emp, coC, soC, itC, keC, enS, enR]) rfl rfl ⟨⟨_, rfl, by simp, ⟨by simp, by simp, by simp, hil1, hil2, hsl1, hsl2, hwl, hgl, by simp, by simp, ⟨by simp, okEL_nil⟩⟩⟩, by simp only [May]; grind⟩
       ·skip
        simp only [↓wBA, tRq, convA, ZA, reduceIte, reduceCtorEq, ZB, ZC, ZD, ZE, ZF, ZG, ZH, ZI, ZJ, ZK, List.length_map, hA, hnil, hZ]
        exact ret_rdW (k' := k67) (b' := true) (.agg ((smC ({ kind := 4, tb := emp, nm := emp, cols := [], names := [], rows := [], items := il, src := sl0, wh := wl, group := gl, order := [], limit := t3, sets := [], hash := false })).map .p)) (.inl rfl) rfl (by simp [leT, leG, leC, leA, leM, smC, tokLt, tokLtL, frzRow, toPss, toPs, toP, nilSl, exC, exL, exL_app, exL_len, leaf, nilA, rdO, emp, coC, soC, itC, keC, enS, enR]) rfl rfl ⟨⟨_, rfl, by simp, ⟨by simp, by simp, by simp, hil1, hil2, hsl1, hsl2, hwl, hgl, by simp, by simp, ⟨by simp, okEL_nil⟩⟩⟩, by simp only [May]; grind⟩
      ·skip
       simp only [↓wBA, tRq, convA, ZA, reduceIte, reduceCtorEq, ZB, ZC, ZD, ZE, ZF, ZG, ZH, ZI, ZJ, ZK, List.length_map, hnil, hZ]
       exact ret_rdW (k' := k67) (b' := true) (.agg ((smC ({ kind := 4, tb := emp, nm := emp, cols := [], names := [], rows := [], items := il, src := sl0, wh := wl, group := gl, order := [], limit := t3, sets := [], hash := false })).map .p)) (.inl rfl) rfl (by simp [leT, leG, leC, leA, leM, smC, tokLt, tokLtL, frzRow, toPss, toPs, toP, nilSl, exC, exL, exL_app, exL_len, leaf, nilA, rdO, emp, coC, soC, itC, keC, enS, enR]) rfl rfl ⟨⟨_, rfl, by simp, ⟨by simp, by simp, by simp, hil1, hil2, hsl1, hsl2, hwl, hgl, by simp, by simp, ⟨by simp, okEL_nil⟩⟩⟩, by simp only [May]; grind⟩
    ·skip
     simp only [↓wBA, tRq, convA, ZA, reduceIte, reduceCtorEq, ZB, ZC, ZD, ZE, ZF, ZG, ZH, ZI, ZJ, ZK]
     refine (awant 1 (by decide) _ ts hts _ (by grind) _ _ 0 rfl).mono ?_
     rintro _ _ ⟨k66, b66, ⟨rfl, hv66⟩, rfl⟩
     simp only [Adv, May] at hv66
     simp only [rdO, intV, boolV]
     simp only [↓wBA, tRq, convA, ZA, reduceIte, reduceCtorEq, ZB, ZC, ZD, ZE, ZF, ZG, ZH, ZI, ZJ, ZK]
     refine awp_loopM (X := { q : List (Ex × Bool) × Nat × Bool × Bool // k66 ≤ q.2.1 ∧ q.2.1 ≤ ts.length ∧ q.1.length ≤ q.2.1 + 1 ∧ (q.2.2.1 = false → b66 = false ∧ q.1.length ≤ q.2.1) ∧ (∀ i ∈ q.1, okE i.1) }) (fun q => ([.mp 0 3 0 0, .any, .mp 1 14 0 0, .mp 2 14 0 0, .any, .any, boolV q.1.2.2.2, .any, .any, .any, .any, .any, .any, .any, .any, .any, .any, .any, .any, .any, .any, .any, .any, .any, .any, .any, .any, .any, .any, .any, .any, .any, .any, .any, .any, .any, .any, .any, .any, .any, .any, .any, .any, .any, .any, .any, .any, .any, .any, .any, .any, .any, .any, .any, .any, .any, .any, .any, .any, .any, .any, .any, .any, .any, .any, .any, .any, .any, .any, .any, .any, .any, .any, .any, .any, .any, .any, .any, .any, .any, .any, .any, .any, .any, .any, .any, .any, .any, .any, .any, .any, .any, .any, .any, .any, .any, .any, .any, .any, .any, .any, .any, .any, .any, .any, .any, .any, .any, .any, .any, .any, .any, .any, .any, .any, .any, .any, .any, .any, .any, .any, .any, .any], [some (rdO ts q.1.2.1 q.1.2.2.1), some (.row 14 [[.p (.v (.int .i64 0)), .p (.v (.string ⟨#[]⟩)), .p (.v (.string ⟨#[]⟩)), nilA, nilA, nilA, nilA, nilA, nilA, nilA, nilA, .p (.v (.int .i64 0)), nilA, .p (.v (.bool false))]]), some (.row 14 [[.p (.v (.int .i64 4)), .p (.v (.string ⟨#[]⟩)), .p (.v (.string ⟨#[]⟩)), nilA, nilA, nilA, .p (.sl 9 (il.map itC)), .p (.sl 3 (sl0.map soC)), .p (.sl 8 (exL wl)), .p (.sl 8 (exL gl)), .nown 5 9 (q.1.1.map keC), .p (.v (.int .i64 (-1))), nilA, .p (.v (.bool false))]]), none, none, some (.nright 120 (q.1.1.length * 9))])) (fun q => if q.1.2.2.1 = true then 0 else ts.length + 1 - q.1.2.1) ⟨([], k66, b66, true), by simp [okEL]; grind⟩ { y : List (Ex × Bool) × Nat × Bool // k66 ≤ y.2.1 ∧ y.2.1 ≤ ts.length ∧ (y.2.2 = false → b66 = false) ∧ y.1.length ≤ 2050 ∧ (∀ i ∈ y.1, okE i.1) } (fun y => (.exit 4, [.mp 0 3 0 0, .any, .mp 1 14 0 0, .mp 2 14 0 0, .any, .any, .any, .any, .any, .any, .any, .any, .any, .any, .any, .any, .any, .any, .any, .any, .any, .any, .any, .any, .any, .any, .any, .any, .any, .any, .any, .any, .any, .any, .any, .any, .any, .any, .any, .any, .any, .any, .any, .any, .any, .any, .any, .any, .any, .any, .any, .any, .any, .any, .any, .any, .any, .any, .any, .any, .any, .any, .any, .any, .any, .any, .any, .any, .any, .any, .any, .any, .any, .any, .any, .any, .any, .any, .any, .any, .any, .any, .any, .any, .any, .any, .any, .any, .any, .any, .any, .any, .any, .any, .any, .any, .any, .any, .any, .any, .any, .any, .any, .any, .any, .any, .any, .any, .any, .any, .any, .any, .any, .any, .any, .any, .any, .any, .any, .any, .any, .any, .any], [some (rdO ts y.1.2.1 y.1.2.2), some (.row 14 [[.p (.v (.int .i64 0)), .p (.v (.string ⟨#[]⟩)), .p (.v (.string ⟨#[]⟩)), nilA, nilA, nilA, nilA, nilA, nilA, nilA, nilA, .p (.v (.int .i64 0)), nilA, .p (.v (.bool false))]]), some (.row 14 [[.p (.v (.int .i64 4)), .p (.v (.string ⟨#[]⟩)), .p (.v (.string ⟨#[]⟩)), nilA, nilA, nilA, .p (.sl 9 (il.map itC)), .p (.sl 3 (sl0.map soC)), .p (.sl 8 (exL wl)), .p (.sl 8 (exL gl)), .p (.sl 9 (y.1.1.map keC)), .p (.v (.int .i64 (-1))), nilA, .p (.v (.bool false))]]), none, none])) (fun q => by simp) (fun y => by simp) ?_ ?_ ?_
     ·simp [WeakE, Weak, leL, leT, leM, leG, leA, leC, leR, leS, leO, tokLt, tokLtL, intV, boolV, exC, exL, exL_app, exL_len, leaf, nilA, rdO, emp, coC, soC, itC, keC, enS, enR]
     ·rintro ⟨⟨l, kA, bA, more⟩, h1, h2, h3, h4, hinv⟩
      simp only at h1 h2 h3 h4 hinv
      simp only [rdO, intV, boolV]
      cases more
      ·skip
       simp only [↓wBA, tRq, convA, ZA, reduceIte, reduceCtorEq, ZB, ZC, ZD, ZE, ZF, ZG, ZH, ZI, ZJ, ZK]
       refine ⟨⟨(l, kA, bA), by grind⟩, ?_⟩
       simp [WeakE, Weak, leL, leT, leM, leG, leA, leC, leR, leS, leO, tokLt, tokLtL, intV, boolV, exC, exL, exL_app, exL_len, leaf, nilA, rdO, emp, coC, soC, itC, keC, enS, enR]
      ·cases bA
       ·skip
        have hlim1 := tL (n := (l.length + 1) * 112) (by omega)
        have hlim2 := lM (n := l.length + 1) (by omega)
        simp only [↓wBA, tRq, convA, ZA, reduceIte, reduceCtorEq, ZB, ZC, ZD, ZE, ZF, ZG, ZH, ZI, ZJ, ZK]
        refine ⟨(.det 0 (.det 1 (.det 2 (.act 3 (.act 4 (.fin 5 (.det 6 (.fin 7 .done)))))))), by decide, by kernel_rfl, by kernel_rfl, ?_⟩
        simp only [↓wBA, tRq, convA, ZA, reduceIte, reduceCtorEq, ZB, ZC, ZD, ZE, ZF, ZG, ZH, ZI, ZJ, ZK]
        refine (akey ts hts _ (by grind) _ _ 0 rfl).mono ?_
        rintro _ _ ⟨k68, b68, ⟨⟨c, rfl, hc⟩, hv68⟩, rfl⟩
        simp only [Adv, May] at hv68
        simp only [rdO, intV, boolV]
        obtain ⟨⟨kd, vk, vn, vs, tb, nm, sl, kids⟩, c2⟩ := c
        simp only [keC, exC, List.map_cons, List.map_nil, List.cons_append, List.nil_append]
        simp only [↓wBA, tRq, convA, ZA, reduceIte, reduceCtorEq, ZB, ZC, ZD, ZE, ZF, ZG, ZH, ZI, ZJ, ZK, appendA, srcA, List.length_map, hlim1, hlim2, unmaskS, Nat.mul_one]
        refine (aRsign _ ts hts _ _ _ 0 rfl).mono ?_
        rintro _ _ ⟨k69, b69, ⟨hb69, v, rfl, e69, f69⟩, rfl⟩
        simp only [rdO, intV, boolV]
        have hq69 : v = true ∨ v = false := by cases v <;> simp
        simp only [↓wBA, tRq, convA, ZA, reduceIte, reduceCtorEq, ZB, ZC, ZD, ZE, ZF, ZG, ZH, ZI, ZJ, ZK]
        clear hlim1 hlim2
        have hkk : k68 ≤ k69 ∧ k69 ≤ ts.length := by cases v <;> grind
        refine ⟨⟨(l ++ [(.mk kd vk vn vs tb nm sl kids, c2)], k69, b69, v), by have hnew := mem_snoc (p := fun i : Ex × Bool => okE i.1) hinv hc; simp only [List.length_append, List.length_cons, List.length_nil]; grind⟩, by simp only [Bool.false_eq_true, if_false]; grind, ?_⟩
        simp [WeakE, Weak, leL, leT, leM, leG, leA, leC, leR, leS, leO, tokLt, tokLtL, intV, boolV, exC, exL, exL_app, exL_len, leaf, nilA, rdO, emp, coC, soC, itC, keC, enS, enR]
       ·skip
        simp only [↓wBA, tRq, convA, ZA, reduceIte, reduceCtorEq, ZB, ZC, ZD, ZE, ZF, ZG, ZH, ZI, ZJ, ZK]
        refine ⟨⟨(l, kA, true), by grind⟩, ?_⟩
        simp [WeakE, Weak, leL, leT, leM, leG, leA, leC, leR, leS, leO, tokLt, tokLtL, intV, boolV, exC, exL, exL_app, exL_len, leaf, nilA, rdO, emp, coC, soC, itC, keC, enS, enR]
     ·rintro ⟨⟨ol, kD, bD⟩, h7, h8, h9, hol1, hol2⟩
      simp only at h7 h8 h9 hol1 hol2
      simp only [rdO, intV, boolV]
      simp only [↓wBA, tRq, convA, ZA, reduceIte, reduceCtorEq, ZB, ZC, ZD, ZE, ZF, ZG, ZH, ZI, ZJ, ZK]
      refine (aRword _ ts hts _ _ _ 0 rfl).mono ?_
      rintro _ _ ⟨k67, b67, ⟨hb67, v, rfl, e67, f67⟩, rfl⟩
      simp only [rdO, intV, boolV]
      have hq67 : v = true ∨ v = false := by cases v <;> simp
      cases v
      ·skip
       simp only [↓wBA, tRq, convA, ZA, reduceIte, reduceCtorEq, ZB, ZC, ZD, ZE, ZF, ZG, ZH, ZI, ZJ, ZK]
       cases b67
       ·skip
        cases hA : decide ((il.length : Int) > 16)
        ·skip
         cases hB : decide ((sl0.length : Int) > 4)
         ·skip
          simp only [↓wBA, tRq, convA, ZA, reduceIte, reduceCtorEq, ZB, ZC, ZD, ZE, ZF, ZG, ZH, ZI, ZJ, ZK, List.length_map, hA, hB, hnil, hZ]
          exact ret_rdW (k' := k67) (b' := decide ((ol.length : Int) > 16)) (.agg ((smC ({ kind := 4, tb := emp, nm := emp, cols := [], names := [], rows := [], items := il, src := sl0, wh := wl, group := gl, order := ol, limit := -1, sets := [], hash := false })).map .p)) (.inl rfl) rfl (by simp [leT, leG, leC, leA, leM, smC, tokLt, tokLtL, frzRow, toPss, toPs, toP, nilSl, exC, exL, exL_app, exL_len, leaf, nilA, rdO, emp, coC, soC, itC, keC, enS, enR]) rfl rfl ⟨⟨_, rfl, by simp, ⟨by simp, by simp, by simp, hil1, hil2, hsl1, hsl2, hwl, hgl, hol1, hol2, ⟨by simp, okEL_nil⟩⟩⟩, by simp only [May]; grind⟩
         ·skip
          simp only [↓wBA, tRq, convA, ZA, reduceIte, reduceCtorEq, ZB, ZC, ZD, ZE, ZF, ZG, ZH, ZI, ZJ, ZK, List.length_map, hA, hB, hnil, hZ]
          exact ret_rdW (k' := k67) (b' := true) (.agg ((smC ({ kind := 4, tb := emp, nm := emp, cols := [], names := [], rows := [], items := il, src := sl0, wh := wl, group := gl, order := ol, limit := -1, sets := [], hash := false })).map .p)) (.inl rfl) rfl (by simp [leT, leG, leC, leA, leM, smC, tokLt, tokLtL, frzRow, toPss, toPs, toP, nilSl, exC, exL, exL_app, exL_len, leaf, nilA, rdO, emp, coC, soC, itC, keC, enS, enR]) rfl rfl ⟨⟨_, rfl, by simp, ⟨by simp, by simp, by simp, hil1, hil2, hsl1, hsl2, hwl, hgl, hol1, hol2, ⟨by simp, okEL_nil⟩⟩⟩, by simp only [May]; grind⟩
        ·skip
         simp only [↓wBA, tRq, convA, ZA, reduceIte, reduceCtorEq, ZB, ZC, ZD, ZE, ZF, ZG, ZH, ZI, ZJ, ZK, List.length_map, hA, hnil, hZ]
         exact ret_rdW (k' := k67) (b' := true) (.agg ((smC ({ kind := 4, tb := emp, nm := emp, cols := [], names := [], rows := [], items := il, src := sl0, wh := wl, group := gl, order := ol, limit := -1, sets := [], hash := false })).map .p)) (.inl rfl) rfl (by simp [leT, leG, leC, leA, leM, smC, tokLt, tokLtL, frzRow, toPss, toPs, toP, nilSl, exC, exL, exL_app, exL_len, leaf, nilA, rdO, emp, coC, soC, itC, keC, enS, enR]) rfl rfl ⟨⟨_, rfl, by simp, ⟨by simp, by simp, by simp, hil1, hil2, hsl1, hsl2, hwl, hgl, hol1, hol2, ⟨by simp, okEL_nil⟩⟩⟩, by simp only [May]; grind⟩
       ·skip
        simp only [↓wBA, tRq, convA, ZA, reduceIte, reduceCtorEq, ZB, ZC, ZD, ZE, ZF, ZG, ZH, ZI, ZJ, ZK, List.length_map, hnil, hZ]
        exact ret_rdW (k' := k67) (b' := true) (.agg ((smC ({ kind := 4, tb := emp, nm := emp, cols := [], names := [], rows := [], items := il, src := sl0, wh := wl, group := gl, order := ol, limit := -1, sets := [], hash := false })).map .p)) (.inl rfl) rfl (by simp [leT, leG, leC, leA, leM, smC, tokLt, tokLtL, frzRow, toPss, toPs, toP, nilSl, exC, exL, exL_app, exL_len, leaf, nilA, rdO, emp, coC, soC, itC, keC, enS, enR]) rfl rfl ⟨⟨_, rfl, by simp, ⟨by simp, by simp, by simp, hil1, hil2, hsl1, hsl2, hwl, hgl, hol1, hol2, ⟨by simp, okEL_nil⟩⟩⟩, by simp only [May]; grind⟩
      ·skip
       simp only [↓wBA, tRq, convA, ZA, reduceIte, reduceCtorEq, ZB, ZC, ZD, ZE, ZF, ZG, ZH, ZI, ZJ, ZK]
       refine (aany 3 (by decide) ts hts _ (by grind) _ _ 0 rfl).mono ?_
       rintro _ _ ⟨k68, b68, ⟨⟨⟨t1, t2, t3⟩, rfl⟩, hv68⟩, rfl⟩
       simp only [Adv, May] at hv68
       simp only [tokA, rdO, intV, boolV]
       simp only [↓wBA, tRq, convA, ZA, reduceIte, reduceCtorEq, ZB, ZC, ZD, ZE, ZF, ZG, ZH, ZI, ZJ, ZK]
       cases b68
       ·skip
        cases hA : decide ((il.length : Int) > 16)
        ·skip
         cases hB : decide ((sl0.length : Int) > 4)
         ·skip
          simp only [↓wBA, tRq, convA, ZA, reduceIte, reduceCtorEq, ZB, ZC, ZD, ZE, ZF, ZG, ZH, ZI, ZJ, ZK, List.length_map, hA, hB, hnil, hZ]
          exact ret_rdW (k' := k68) (b' := decide ((ol.length : Int) > 16)) (.agg ((smC ({ kind := 4, tb := emp, nm := emp, cols := [], names := [], rows := [], items := il, src := sl0, wh := wl, group := gl, order := ol, limit := t3, sets := [], hash := false })).map .p)) (.inl rfl) rfl (by simp [leT, leG, leC, leA, leM, smC, tokLt, tokLtL, frzRow, toPss, toPs, toP, nilSl, exC, exL, exL_app, exL_len, leaf, nilA, rdO, emp, coC, soC, itC, keC, enS, enR]) rfl rfl ⟨⟨_, rfl, by simp, ⟨by simp, by simp, by simp, hil1, hil2, hsl1, hsl2, hwl, hgl, hol1, hol2, ⟨by simp, okEL_nil⟩⟩⟩, by simp only [May]; grind⟩
         ·skip
          simp only [↓wBA, tRq, convA, ZA, reduceIte, reduceCtorEq, ZB, ZC, ZD, ZE, ZF, ZG, ZH, ZI, ZJ, ZK, List.length_map, hA, hB, hnil, hZ]
          exact ret_rdW (k' := k68) (b' := true) (.agg ((smC ({ kind := 4, tb := emp, nm := emp, cols := [], names := [], rows := [], items := il, src := sl0, wh := wl, group := gl, order := ol, limit := t3, sets := [], hash := false })).map .p)) (.inl rfl) rfl (by simp [leT, leG, leC, leA, leM, smC, tokLt, tokLtL, frzRow, toPss, toPs, toP, nilSl, exC, exL, exL_app, exL_len, leaf, nilA, rdO, emp, coC, soC, itC, keC, enS, enR]) rfl rfl ⟨⟨_, rfl, by simp, ⟨by simp, by simp, by simp, hil1, hil2, hsl1, hsl2, hwl, hgl, hol1, hol2, ⟨by simp, okEL_nil⟩⟩⟩, by simp only [May]; grind⟩
        ·skip
         simp only [↓wBA, tRq, convA, ZA, reduceIte, reduceCtorEq, ZB, ZC, ZD, ZE, ZF, ZG, ZH, ZI, ZJ, ZK, List.length_map, hA, hnil, hZ]
         exact ret_rdW (k' := k68) (b' := true) (.agg ((smC ({ kind := 4, tb := emp, nm := emp, cols := [], names := [], rows := [], items := il, src := sl0, wh := wl, group := gl, order := ol, limit := t3, sets := [], hash := false })).map .p)) (.inl rfl) rfl (by simp [leT, leG, leC, leA, leM, smC, tokLt, tokLtL, frzRow, toPss, toPs, toP, nilSl, exC, exL, exL_app, exL_len, leaf, nilA, rdO, emp, coC, soC, itC, keC, enS, enR]) rfl rfl ⟨⟨_, rfl, by simp, ⟨by simp, by simp, by simp, hil1, hil2, hsl1, hsl2, hwl, hgl, hol1, hol2, ⟨by simp, okEL_nil⟩⟩⟩, by simp only [May]; grind⟩
       ·skip
        simp only [↓wBA, tRq, convA, ZA, reduceIte, reduceCtorEq, ZB, ZC, ZD, ZE, ZF, ZG, ZH, ZI, ZJ, ZK, List.length_map, hnil, hZ]
        exact ret_rdW (k' := k68) (b' := true) (.agg ((smC ({ kind := 4, tb := emp, nm := emp, cols := [], names := [], rows := [], items := il, src := sl0, wh := wl, group := gl, order := ol, limit := t3, sets := [], hash := false })).map .p)) (.inl rfl) rfl (by simp [leT, leG, leC, leA, leM, smC, tokLt, tokLtL, frzRow, toPss, toPs, toP, nilSl, exC, exL, exL_app, exL_len, leaf, nilA, rdO, emp, coC, soC, itC, keC, enS, enR]) rfl rfl ⟨⟨_, rfl, by simp, ⟨by simp, by simp, by simp, hil1, hil2, hsl1, hsl2, hwl, hgl, hol1, hol2, ⟨by simp, okEL_nil⟩⟩⟩, by simp only [May]; grind⟩
end Go.Proofs.Ytcnkmandddfdmaa
