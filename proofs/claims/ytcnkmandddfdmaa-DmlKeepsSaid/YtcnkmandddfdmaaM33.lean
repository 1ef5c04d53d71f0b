/- The reader's lists and small parts. -/
import Derived.Test.YtcnkmandddfdmaaM32
set_option linter.unusedSimpArgs false
set_option linter.unusedVariables false
set_option linter.defProp false
set_option maxRecDepth 100000
set_option maxHeartbeats 32000000
namespace Go.Proofs.Ytcnkmandddfdmaa
open Go.RowKit
open Nat renaming reduceBEq → ZA, reducePow → ZB, reduceAdd → ZC, reduceSub → ZD, reduceMul → ZE, reduceEqDiff → ZF, reduceLeDiff → ZG, reduceLT → ZH
open Int renaming reduceLT → ZI, reduceLE → ZJ, reduceToNat → ZK
def tRl := aa wX <| aa T3 <| aa T4 <| aa T9 <| aa T33 <| aa T54 <| aa T75 <| aa T77 <| aa T102 <| aa T113 <| aa T116 T120
theorem fe_all (ts : List Tok) (hts : ts.length ≤ 2048) : ∀ (m k : Nat), k ≤ ts.length → ts.length - k = m → (∀ b, RCalls 70 [] ts k b (ExR ts k b)) ∧ ∀ b (n : Int), RCalls 53 [intV .i64 n] ts k b (ExR ts k b) := by
 intro m
 induction m using Nat.strongRecOn with
 | ind m ih =>
   intro k hk hm
   have hF : ∀ b, RCalls 70 [] ts k b (ExR ts k b) := fun b =>
    factor_of ts hts k hk b (fun k' b' h1 h2 => (ih (ts.length - k') (by omega) k' h2 rfl).1 b') (fun k' b' n h1 h2 => (ih (ts.length - k') (by omega) k' h2 rfl).2 b' n)
   exact ⟨hF, fun b n => expr_of ts hts k hk b n hF (fun k' b' n h1 h2 => (ih (ts.length - k') (by omega) k' h2 rfl).2 b' n)⟩
theorem aExpr (ts : List Tok) (hts : ts.length ≤ 2048) (k : Nat) (hk : k ≤ ts.length) (b : Bool) (n : Int) : RCalls 53 [intV .i64 n] ts k b (ExR ts k b) := (fe_all ts hts _ k hk rfl).2 b n
def ExsR (ts : List Tok) (k : Nat) (b : Bool) (r : AV) (k' : Nat) (b' : Bool) : Prop := (∃ l : List Ex, r = .p (.sl 8 (exL l)) ∧ l.length ≤ 2050 ∧ okEL l) ∧ Adv ts k b k' b'
def May (ts : List Tok) (k : Nat) (b : Bool) (k' : Nat) (b' : Bool) : Prop := k ≤ k' ∧ k' ≤ ts.length ∧ (b' = false → b = false)
def WhR (ts : List Tok) (k : Nat) (b : Bool) (r : AV) (k' : Nat) (b' : Bool) : Prop := (∃ l : List Ex, r = .p (.sl 8 (exL l)) ∧ l.length ≤ 1 ∧ okEL l) ∧ May ts k b k' b'
abbrev Co := ByteArray × Int × Bool × Bool
def coC (c : Co) : List PV := [.v (.string c.1), .v (.int .i64 c.2.1), .v (.bool c.2.2.1), .v (.bool c.2.2.2)]
abbrev So := ByteArray × ByteArray × List Ex
def soC (s : So) : List PV := [.v (.string s.1), .v (.string s.2.1), .sl 8 (exL s.2.2)]
def itC (s : Bool × Ex) : List PV := .v (.bool s.1) :: exC s.2
def keC (s : Ex × Bool) : List PV := exC s.1 ++ [.v (.bool s.2)]
def CoR (ts : List Tok) (k : Nat) (b : Bool) (r : AV) (k' : Nat) (b' : Bool) : Prop := (∃ c : Co, r = .agg ((coC c).map .p)) ∧ Adv ts k b k' b'
def SoR (ts : List Tok) (k : Nat) (b : Bool) (r : AV) (k' : Nat) (b' : Bool) : Prop := (∃ c : ByteArray × ByteArray, r = .agg ((soC (c.1, c.2, [])).map .p)) ∧ Adv ts k b k' b'
def ItR (ts : List Tok) (k : Nat) (b : Bool) (r : AV) (k' : Nat) (b' : Bool) : Prop := (∃ c : Bool × Ex, r = .agg ((itC c).map .p) ∧ okE c.2) ∧ Adv ts k b k' b'
def KeR (ts : List Tok) (k : Nat) (b : Bool) (r : AV) (k' : Nat) (b' : Bool) : Prop := (∃ c : Ex × Bool, r = .agg ((keC c).map .p) ∧ okE c.1) ∧ Adv ts k b k' b'
theorem aexprs (ts : List Tok) (hts : ts.length ≤ 2048) (k : Nat) (hk : k ≤ ts.length) (b : Bool) : RCalls 50 [] ts k b (ExsR ts k b) := by
 refine RCalls.of rfl ?_
 refine acalls_of cx_ok dr_ok Try.func50 (by kernel_rfl) rfl (nt := 32) (rs := [.tmp 2]) rfl rfl ?_
 simp only [↓wBA, tRl, convA, ZA, reduceIte, reduceCtorEq, ZB, ZC, ZD, ZE, ZF, ZG, ZH, ZI, ZJ, ZK]
 refine awp_loop' (X := { q : List Ex × Nat × Bool × Bool // k ≤ q.2.1 ∧ q.2.1 ≤ ts.length ∧ q.1.length ≤ q.2.1 + 1 ∧ (q.2.2.1 = false → b = false ∧ q.1.length ≤ q.2.1) ∧ (q.2.2.1 = false → q.2.2.2 = false → k < q.2.1) ∧ okEL q.1 }) (fun q => ([.mp 0 3 0 0, .any, .any, .nown 1 8 (exL q.1.1), boolV q.1.2.2.2, .any, .any, .any, .any, .any, .any, .any, .any, .any, .any, .any, .any, .any, .any, .any, .any, .any, .any, .any, .any, .any, .any, .any, .any, .any, .any, .any, .any], [some (rdO ts q.1.2.1 q.1.2.2.1), some (.nright 86 (q.1.1.length * 8))])) (fun q => if q.1.2.2.1 = true then 0 else ts.length + 1 - q.1.2.1) ⟨([], k, b, true), by simp [okEL]; omega⟩ (fun q => by simp) ?_ ?_
 ·simp [WeakE, Weak, leL, leT, leM, leG, leA, leC, leR, leS, leO, tokLt, tokLtL, intV, boolV, exC, exL, exL_app, exL_len, leaf, nilA, rdO, emp]
 ·rintro ⟨⟨l, k1, b1, more⟩, h1, h2, h3, h4, h5, h6⟩
  simp only at h1 h2 h3 h4 h5 h6
  simp only [rdO, intV, boolV]
  cases more
  ·skip
   simp only [↓wBA, tRl, convA, ZA, reduceIte, reduceCtorEq, ZB, ZC, ZD, ZE, ZF, ZG, ZH, ZI, ZJ, ZK]
   cases b1
   ·skip
    simp only [↓wBA, tRl, convA, ZA, reduceIte, reduceCtorEq, ZB, ZC, ZD, ZE, ZF, ZG, ZH, ZI, ZJ, ZK, exL_len]
    exact ret_rdW (k' := k1) (b' := decide ((l.length : Int) > 16)) (.p (.sl 8 (exL l))) (.inl rfl) rfl (by simp [leT, leG, leC, leA, leM, exA, exC, exL, ex0, emp, leaf, tokLt, tokLtL, nilA, frzRow, coC, soC, itC, keC]) rfl rfl ⟨⟨_, rfl, by omega, h6⟩, by simp only [Adv, May]; grind⟩
   ·skip
    simp only [↓wBA, tRl, convA, ZA, reduceIte, reduceCtorEq, ZB, ZC, ZD, ZE, ZF, ZG, ZH, ZI, ZJ, ZK, exL_len]
    exact ret_rdW (k' := k1) (b' := true) (.p (.sl 8 (exL l))) (.inl rfl) rfl (by simp [leT, leG, leC, leA, leM, exA, exC, exL, ex0, emp, leaf, tokLt, tokLtL, nilA, frzRow, coC, soC, itC, keC]) rfl rfl ⟨⟨_, rfl, by omega, h6⟩, by simp only [Adv, May]; grind⟩
  ·cases b1
   ·skip
    simp only [↓wBA, tRl, convA, ZA, reduceIte, reduceCtorEq, ZB, ZC, ZD, ZE, ZF, ZG, ZH, ZI, ZJ, ZK]
    refine (aExpr ts hts _ (by omega) _ _ _ 0 rfl).mono ?_
    rintro _ _ ⟨k1, b1, ⟨⟨x, rfl, hx⟩, hv1⟩, rfl⟩
    simp only [Adv] at hv1
    rcases x with ⟨kd, vk, vn, vs, tb, nm, sl, kids⟩
    simp only [exA, exC, rdO, intV, boolV, List.map_cons, List.map_nil]
    have hlim1 := tL (n := (l.length + 1) * 104) (by omega)
    have hlim2 := lM (n := l.length + 1) (by omega)
    simp only [↓wBA, tRl, convA, ZA, reduceIte, reduceCtorEq, ZB, ZC, ZD, ZE, ZF, ZG, ZH, ZI, ZJ, ZK, appendA, srcA, exL_len, hlim1, hlim2]
    refine (aRsign _ ts hts _ _ _ 0 rfl).mono ?_
    rintro _ _ ⟨k2, b2, ⟨hb2, v, rfl, e2, f2⟩, rfl⟩
    simp only [rdO, intV, boolV]
    have hq2 : v = true ∨ v = false := by cases v <;> simp
    simp only [↓wBA, tRl, convA, ZA, reduceIte, reduceCtorEq, ZB, ZC, ZD, ZE, ZF, ZG, ZH, ZI, ZJ, ZK]
    clear hlim1 hlim2
    have hk2 : k1 ≤ k2 ∧ k2 ≤ ts.length := by cases v <;> grind
    refine ⟨⟨(l ++ [.mk kd vk vn vs tb nm sl kids], k2, b2, v), by have := okEL_snoc h6 hx; simp only [List.length_append, List.length_cons, List.length_nil]; grind⟩, by simp only [Bool.false_eq_true, if_false]; grind, ?_⟩
    simp [WeakE, Weak, leL, leT, leM, leG, leA, leC, leR, leS, leO, tokLt, tokLtL, intV, boolV, exC, exL, exL_app, exL_len, leaf, nilA, rdO, emp]
   ·skip
    simp only [↓wBA, tRl, convA, ZA, reduceIte, reduceCtorEq, ZB, ZC, ZD, ZE, ZF, ZG, ZH, ZI, ZJ, ZK, exL_len]
    exact ret_rdW (k' := k1) (b' := true) (.p (.sl 8 (exL l))) (.inl rfl) rfl (by simp [leT, leG, leC, leA, leM, exA, exC, exL, ex0, emp, leaf, tokLt, tokLtL, nilA, frzRow, coC, soC, itC, keC]) rfl rfl ⟨⟨_, rfl, by omega, h6⟩, by simp only [Adv, May]; grind⟩
theorem awhere (ts : List Tok) (hts : ts.length ≤ 2048) (k : Nat) (hk : k ≤ ts.length) (b : Bool) : RCalls 30 [] ts k b (WhR ts k b) := by
 refine RCalls.of rfl ?_
 refine acalls_of cx_ok dr_ok Try.func30 (by kernel_rfl) rfl (nt := 7) (rs := [.tmp 2]) rfl rfl ?_
 simp only [↓wBA, tRl, convA, ZA, reduceIte, reduceCtorEq, ZB, ZC, ZD, ZE, ZF, ZG, ZH, ZI, ZJ, ZK]
 refine (aRword _ ts hts _ _ _ 0 rfl).mono ?_
 rintro _ _ ⟨k1, b1, ⟨hb1, v, rfl, e1, f1⟩, rfl⟩
 simp only [rdO, intV, boolV]
 have hq1 : v = true ∨ v = false := by cases v <;> simp
 cases v
 ·skip
  simp only [↓wBA, tRl, convA, ZA, reduceIte, reduceCtorEq, ZB, ZC, ZD, ZE, ZF, ZG, ZH, ZI, ZJ, ZK]
  exact ret_rdW (k' := k1) (b' := b1) (.p (.sl 8 (exL []))) (.inl rfl) rfl (by simp [leT, leG, leC, leA, leM, exA, exC, exL, ex0, emp, leaf, tokLt, tokLtL, nilA, frzRow, coC, soC, itC, keC]) rfl rfl ⟨⟨[], rfl, by simp, okEL_nil⟩, by simp only [Adv, May]; grind⟩
 ·skip
  simp only [↓wBA, tRl, convA, ZA, reduceIte, reduceCtorEq, ZB, ZC, ZD, ZE, ZF, ZG, ZH, ZI, ZJ, ZK]
  refine (aExpr ts hts _ (by grind) _ _ _ 0 rfl).mono ?_
  rintro _ _ ⟨k2, b2, ⟨⟨x, rfl, hx⟩, hv2⟩, rfl⟩
  simp only [Adv] at hv2
  rcases x with ⟨kd, vk, vn, vs, tb, nm, sl, kids⟩
  simp only [exA, exC, rdO, intV, boolV, List.map_cons, List.map_nil]
  simp only [↓wBA, tRl, convA, ZA, reduceIte, reduceCtorEq, ZB, ZC, ZD, ZE, ZF, ZG, ZH, ZI, ZJ, ZK]
  exact ret_rdW (k' := k2) (b' := b2) (.p (.sl 8 (exL [.mk kd vk vn vs tb nm sl kids]))) (.inl rfl) rfl (by simp [leT, leG, leC, leA, leM, exA, exC, exL, ex0, emp, leaf, tokLt, tokLtL, nilA, frzRow, coC, soC, itC, keC]) rfl rfl ⟨⟨_, rfl, by simp, okEL_one hx⟩, by simp only [Adv, May]; grind⟩
theorem aitem (ts : List Tok) (hts : ts.length ≤ 2048) (k : Nat) (hk : k ≤ ts.length) (b : Bool) : RCalls 51 [] ts k b (ItR ts k b) := by
 refine RCalls.of rfl ?_
 refine acalls_of cx_ok dr_ok Try.func51 (by kernel_rfl) rfl (nt := 8) (rs := [.cell 2 113]) rfl rfl ?_
 simp only [↓wBA, tRl, convA, ZA, reduceIte, reduceCtorEq, ZB, ZC, ZD, ZE, ZF, ZG, ZH, ZI, ZJ, ZK]
 refine (aRsign _ ts hts _ _ _ 0 rfl).mono ?_
 rintro _ _ ⟨k1, b1, ⟨hb1, v, rfl, e1, f1⟩, rfl⟩
 simp only [rdO, intV, boolV]
 have hq1 : v = true ∨ v = false := by cases v <;> simp
 cases v
 ·skip
  simp only [↓wBA, tRl, convA, ZA, reduceIte, reduceCtorEq, ZB, ZC, ZD, ZE, ZF, ZG, ZH, ZI, ZJ, ZK]
  refine (aExpr ts hts _ (by grind) _ _ _ 0 rfl).mono ?_
  rintro _ _ ⟨k2, b2, ⟨⟨x, rfl, hx⟩, hv2⟩, rfl⟩
  simp only [Adv] at hv2
  rcases x with ⟨kd, vk, vn, vs, tb, nm, sl, kids⟩
  simp only [exA, exC, rdO, intV, boolV, List.map_cons, List.map_nil]
  simp only [↓wBA, tRl, convA, ZA, reduceIte, reduceCtorEq, ZB, ZC, ZD, ZE, ZF, ZG, ZH, ZI, ZJ, ZK]
  exact ret_rdW (k' := k2) (b' := b2) (.agg ((itC (false, .mk kd vk vn vs tb nm sl kids)).map .p)) (.inl rfl) rfl (by simp [leT, leG, leC, leA, leM, exA, exC, exL, ex0, emp, leaf, tokLt, tokLtL, nilA, frzRow, coC, soC, itC, keC]) rfl rfl ⟨⟨_, rfl, hx⟩, by simp only [Adv, May]; grind⟩
 ·skip
  simp only [↓wBA, tRl, convA, ZA, reduceIte, reduceCtorEq, ZB, ZC, ZD, ZE, ZF, ZG, ZH, ZI, ZJ, ZK]
  exact ret_rdW (k' := k1) (b' := b1) (.agg ((itC (true, ex0)).map .p)) (.inl rfl) rfl (by simp [leT, leG, leC, leA, leM, exA, exC, exL, ex0, emp, leaf, tokLt, tokLtL, nilA, frzRow, coC, soC, itC, keC]) rfl rfl ⟨⟨_, rfl, okE_ex0⟩, by simp only [Adv, May]; grind⟩
theorem akey (ts : List Tok) (hts : ts.length ≤ 2048) (k : Nat) (hk : k ≤ ts.length) (b : Bool) : RCalls 54 [] ts k b (KeR ts k b) := by
 refine RCalls.of rfl ?_
 refine acalls_of cx_ok dr_ok Try.func54 (by kernel_rfl) rfl (nt := 12) (rs := [.cell 2 120]) rfl rfl ?_
 simp only [↓wBA, tRl, convA, ZA, reduceIte, reduceCtorEq, ZB, ZC, ZD, ZE, ZF, ZG, ZH, ZI, ZJ, ZK]
 refine (aExpr ts hts _ (by omega) _ _ _ 0 rfl).mono ?_
 rintro _ _ ⟨k1, b1, ⟨⟨x, rfl, hx⟩, hv1⟩, rfl⟩
 simp only [Adv] at hv1
 rcases x with ⟨kd, vk, vn, vs, tb, nm, sl, kids⟩
 simp only [exA, exC, rdO, intV, boolV, List.map_cons, List.map_nil]
 simp only [↓wBA, tRl, convA, ZA, reduceIte, reduceCtorEq, ZB, ZC, ZD, ZE, ZF, ZG, ZH, ZI, ZJ, ZK]
 refine (aRword _ ts hts _ _ _ 0 rfl).mono ?_
 rintro _ _ ⟨k2, b2, ⟨hb2, v, rfl, e2, f2⟩, rfl⟩
 simp only [rdO, intV, boolV]
 have hq2 : v = true ∨ v = false := by cases v <;> simp
 cases v
 ·skip
  simp only [↓wBA, tRl, convA, ZA, reduceIte, reduceCtorEq, ZB, ZC, ZD, ZE, ZF, ZG, ZH, ZI, ZJ, ZK]
  refine (aRword _ ts hts _ _ _ 0 rfl).mono ?_
  rintro _ _ ⟨k3, b3, ⟨hb3, v, rfl, e3, f3⟩, rfl⟩
  simp only [rdO, intV, boolV]
  have hq3 : v = true ∨ v = false := by cases v <;> simp
  simp only [↓wBA, tRl, convA, ZA, reduceIte, reduceCtorEq, ZB, ZC, ZD, ZE, ZF, ZG, ZH, ZI, ZJ, ZK]
  exact ret_rdW (k' := k3) (b' := b3) (.agg ((keC (.mk kd vk vn vs tb nm sl kids, false)).map .p)) (.inl rfl) rfl (by simp [leT, leG, leC, leA, leM, exA, exC, exL, ex0, emp, leaf, tokLt, tokLtL, nilA, frzRow, coC, soC, itC, keC]) rfl rfl ⟨⟨_, rfl, hx⟩, by simp only [Adv, May]; grind⟩
 ·skip
  simp only [↓wBA, tRl, convA, ZA, reduceIte, reduceCtorEq, ZB, ZC, ZD, ZE, ZF, ZG, ZH, ZI, ZJ, ZK]
  exact ret_rdW (k' := k2) (b' := b2) (.agg ((keC (.mk kd vk vn vs tb nm sl kids, true)).map .p)) (.inl rfl) rfl (by simp [leT, leG, leC, leA, leM, exA, exC, exL, ex0, emp, leaf, tokLt, tokLtL, nilA, frzRow, coC, soC, itC, keC]) rfl rfl ⟨⟨_, rfl, hx⟩, by simp only [Adv, May]; grind⟩
theorem asource (ts : List Tok) (hts : ts.length ≤ 2048) (k : Nat) (hk : k ≤ ts.length) (b : Bool) : RCalls 52 [] ts k b (SoR ts k b) := by
 refine RCalls.of rfl ?_
 refine acalls_of cx_ok dr_ok Try.func52 (by kernel_rfl) rfl (nt := 21) (rs := [.cell 2 116]) rfl rfl ?_
 simp only [↓wBA, tRl, convA, ZA, reduceIte, reduceCtorEq, ZB, ZC, ZD, ZE, ZF, ZG, ZH, ZI, ZJ, ZK]
 refine (aname ts hts _ (by omega) _ _ 0 rfl).mono ?_
 rintro _ _ ⟨k1, b1, ⟨⟨s1, rfl⟩, hv1⟩, rfl⟩
 simp only [Adv] at hv1
 simp only [rdO, intV, boolV]
 simp only [↓wBA, tRl, convA, ZA, reduceIte, reduceCtorEq, ZB, ZC, ZD, ZE, ZF, ZG, ZH, ZI, ZJ, ZK]
 refine (aRword _ ts hts _ _ _ 0 rfl).mono ?_
 rintro _ _ ⟨k2, b2, ⟨hb2, v, rfl, e2, f2⟩, rfl⟩
 simp only [rdO, intV, boolV]
 have hq2 : v = true ∨ v = false := by cases v <;> simp
 cases v
 ·skip
  simp only [↓wBA, tRl, convA, ZA, reduceIte, reduceCtorEq, ZB, ZC, ZD, ZE, ZF, ZG, ZH, ZI, ZJ, ZK]
  refine (apeek ts _ _ _ 0 rfl).mono ?_
  rintro _ _ ⟨k3, b3, ⟨hk3, hb3, t, rfl, ht⟩, rfl⟩
  simp only [tokA, rdO, intV, boolV]
  simp only [↓wBA, tRl, convA, ZA, reduceIte, reduceCtorEq, ZB, ZC, ZD, ZE, ZF, ZG, ZH, ZI, ZJ, ZK]
  refine cond_split (fun hT => ?_) (fun hT => ?_)
  ·skip
   simp only [↓wBA, tRl, convA, ZA, reduceIte, reduceCtorEq, ZB, ZC, ZD, ZE, ZF, ZG, ZH, ZI, ZJ, ZK]
   refine (aname ts hts _ (by grind) _ _ 0 rfl).mono ?_
   rintro _ _ ⟨k4, b4, ⟨⟨s4, rfl⟩, hv4⟩, rfl⟩
   simp only [Adv] at hv4
   simp only [rdO, intV, boolV]
   simp only [↓wBA, tRl, convA, ZA, reduceIte, reduceCtorEq, ZB, ZC, ZD, ZE, ZF, ZG, ZH, ZI, ZJ, ZK]
   exact ret_rdW (k' := k4) (b' := b4) (.agg ((soC (s1, s4, [])).map .p)) (.inl rfl) rfl (by simp [leT, leG, leC, leA, leM, exA, exC, exL, ex0, emp, leaf, tokLt, tokLtL, nilA, frzRow, coC, soC, itC, keC]) rfl rfl ⟨⟨(_, _), rfl⟩, by simp only [Adv, May]; grind⟩
  ·skip
   simp only [↓wBA, tRl, convA, ZA, reduceIte, reduceCtorEq, ZB, ZC, ZD, ZE, ZF, ZG, ZH, ZI, ZJ, ZK]
   exact ret_rdW (k' := k3) (b' := b3) (.agg ((soC (s1, s1, [])).map .p)) (.inl rfl) rfl (by simp [leT, leG, leC, leA, leM, exA, exC, exL, ex0, emp, leaf, tokLt, tokLtL, nilA, frzRow, coC, soC, itC, keC]) rfl rfl ⟨⟨(_, _), rfl⟩, by simp only [Adv, May]; grind⟩
 ·skip
  simp only [↓wBA, tRl, convA, ZA, reduceIte, reduceCtorEq, ZB, ZC, ZD, ZE, ZF, ZG, ZH, ZI, ZJ, ZK]
  refine (aname ts hts _ (by grind) _ _ 0 rfl).mono ?_
  rintro _ _ ⟨k5, b5, ⟨⟨s5, rfl⟩, hv5⟩, rfl⟩
  simp only [Adv] at hv5
  simp only [rdO, intV, boolV]
  simp only [↓wBA, tRl, convA, ZA, reduceIte, reduceCtorEq, ZB, ZC, ZD, ZE, ZF, ZG, ZH, ZI, ZJ, ZK]
  exact ret_rdW (k' := k5) (b' := b5) (.agg ((soC (s1, s5, [])).map .p)) (.inl rfl) rfl (by simp [leT, leG, leC, leA, leM, exA, exC, exL, ex0, emp, leaf, tokLt, tokLtL, nilA, frzRow, coC, soC, itC, keC]) rfl rfl ⟨⟨(_, _), rfl⟩, by simp only [Adv, May]; grind⟩
theorem acolumn (ts : List Tok) (hts : ts.length ≤ 2048) (k : Nat) (hk : k ≤ ts.length) (b : Bool) : RCalls 49 [] ts k b (CoR ts k b) := by
 refine RCalls.of rfl ?_
 refine acalls_of cx_ok dr_ok Try.func49 (by kernel_rfl) rfl (nt := 36) (rs := [.cell 2 54]) rfl rfl ?_
 simp only [↓wBA, tRl, convA, ZA, reduceIte, reduceCtorEq, ZB, ZC, ZD, ZE, ZF, ZG, ZH, ZI, ZJ, ZK]
 refine (aname ts hts _ (by omega) _ _ 0 rfl).mono ?_
 rintro _ _ ⟨k1, b1, ⟨⟨s1, rfl⟩, hv1⟩, rfl⟩
 simp only [Adv] at hv1
 simp only [rdO, intV, boolV]
 simp only [↓wBA, tRl, convA, ZA, reduceIte, reduceCtorEq, ZB, ZC, ZD, ZE, ZF, ZG, ZH, ZI, ZJ, ZK]
 refine (aRword _ ts hts _ _ _ 0 rfl).mono ?_
 rintro _ _ ⟨k2, b2, ⟨hb2, v, rfl, e2, f2⟩, rfl⟩
 simp only [rdO, intV, boolV]
 have hq2 : v = true ∨ v = false := by cases v <;> simp
 cases v
 ·skip
  simp only [↓wBA, tRl, convA, ZA, reduceIte, reduceCtorEq, ZB, ZC, ZD, ZE, ZF, ZG, ZH, ZI, ZJ, ZK]
  refine (aRword _ ts hts _ _ _ 0 rfl).mono ?_
  rintro _ _ ⟨k3, b3, ⟨hb3, v, rfl, e3, f3⟩, rfl⟩
  simp only [rdO, intV, boolV]
  have hq3 : v = true ∨ v = false := by cases v <;> simp
  cases v
  ·skip
   simp only [↓wBA, tRl, convA, ZA, reduceIte, reduceCtorEq, ZB, ZC, ZD, ZE, ZF, ZG, ZH, ZI, ZJ, ZK]
   refine (aRword _ ts hts _ _ _ 0 rfl).mono ?_
   rintro _ _ ⟨k4, b4, ⟨hb4, v, rfl, e4, f4⟩, rfl⟩
   simp only [rdO, intV, boolV]
   have hq4 : v = true ∨ v = false := by cases v <;> simp
   cases v
   ·skip
    simp only [↓wBA, tRl, convA, ZA, reduceIte, reduceCtorEq, ZB, ZC, ZD, ZE, ZF, ZG, ZH, ZI, ZJ, ZK]
    refine (aRword _ ts hts _ _ _ 0 rfl).mono ?_
    rintro _ _ ⟨k5, b5, ⟨hb5, v, rfl, e5, f5⟩, rfl⟩
    simp only [rdO, intV, boolV]
    have hq5 : v = true ∨ v = false := by cases v <;> simp
    cases v
    ·skip
     simp only [↓wBA, tRl, convA, ZA, reduceIte, reduceCtorEq, ZB, ZC, ZD, ZE, ZF, ZG, ZH, ZI, ZJ, ZK]
     refine (aRword _ ts hts _ _ _ 0 rfl).mono ?_
     rintro _ _ ⟨k6, b6, ⟨hb6, v, rfl, e6, f6⟩, rfl⟩
     simp only [rdO, intV, boolV]
     have hq6 : v = true ∨ v = false := by cases v <;> simp
     cases v
     ·skip
      simp only [↓wBA, tRl, convA, ZA, reduceIte, reduceCtorEq, ZB, ZC, ZD, ZE, ZF, ZG, ZH, ZI, ZJ, ZK]
      refine (aRword _ ts hts _ _ _ 0 rfl).mono ?_
      rintro _ _ ⟨k7, b7, ⟨hb7, v, rfl, e7, f7⟩, rfl⟩
      simp only [rdO, intV, boolV]
      have hq7 : v = true ∨ v = false := by cases v <;> simp
      cases v
      ·skip
       simp only [↓wBA, tRl, convA, ZA, reduceIte, reduceCtorEq, ZB, ZC, ZD, ZE, ZF, ZG, ZH, ZI, ZJ, ZK]
       exact ret_rdW (k' := k7) (b' := b7) (.agg ((coC (s1, 0, false, false)).map .p)) (.inl rfl) rfl (by simp [leT, leG, leC, leA, leM, exA, exC, exL, ex0, emp, leaf, tokLt, tokLtL, nilA, frzRow, coC, soC, itC, keC]) rfl rfl ⟨⟨_, rfl⟩, by simp only [Adv, May]; grind⟩
      ·skip
       simp only [↓wBA, tRl, convA, ZA, reduceIte, reduceCtorEq, ZB, ZC, ZD, ZE, ZF, ZG, ZH, ZI, ZJ, ZK]
       refine (awant 1 (by decide) _ ts hts _ (by grind) _ _ 0 rfl).mono ?_
       rintro _ _ ⟨k8, b8, ⟨rfl, hv8⟩, rfl⟩
       simp only [Adv] at hv8
       simp only [rdO, intV, boolV]
       simp only [↓wBA, tRl, convA, ZA, reduceIte, reduceCtorEq, ZB, ZC, ZD, ZE, ZF, ZG, ZH, ZI, ZJ, ZK]
       exact ret_rdW (k' := k8) (b' := b8) (.agg ((coC (s1, 0, true, true)).map .p)) (.inl rfl) rfl (by simp [leT, leG, leC, leA, leM, exA, exC, exL, ex0, emp, leaf, tokLt, tokLtL, nilA, frzRow, coC, soC, itC, keC]) rfl rfl ⟨⟨_, rfl⟩, by simp only [Adv, May]; grind⟩
     ·skip
      simp only [↓wBA, tRl, convA, ZA, reduceIte, reduceCtorEq, ZB, ZC, ZD, ZE, ZF, ZG, ZH, ZI, ZJ, ZK]
      exact ret_rdW (k' := k6) (b' := b6) (.agg ((coC (s1, 0, false, true)).map .p)) (.inl rfl) rfl (by simp [leT, leG, leC, leA, leM, exA, exC, exL, ex0, emp, leaf, tokLt, tokLtL, nilA, frzRow, coC, soC, itC, keC]) rfl rfl ⟨⟨_, rfl⟩, by simp only [Adv, May]; grind⟩
    ·skip
     simp only [↓wBA, tRl, convA, ZA, reduceIte, reduceCtorEq, ZB, ZC, ZD, ZE, ZF, ZG, ZH, ZI, ZJ, ZK]
     refine (awant 1 (by decide) _ ts hts _ (by grind) _ _ 0 rfl).mono ?_
     rintro _ _ ⟨k6, b6, ⟨rfl, hv6⟩, rfl⟩
     simp only [Adv] at hv6
     simp only [rdO, intV, boolV]
     simp only [↓wBA, tRl, convA, ZA, reduceIte, reduceCtorEq, ZB, ZC, ZD, ZE, ZF, ZG, ZH, ZI, ZJ, ZK]
     refine (aRword _ ts hts _ _ _ 0 rfl).mono ?_
     rintro _ _ ⟨k7, b7, ⟨hb7, v, rfl, e7, f7⟩, rfl⟩
     simp only [rdO, intV, boolV]
     have hq7 : v = true ∨ v = false := by cases v <;> simp
     cases v
     ·skip
      simp only [↓wBA, tRl, convA, ZA, reduceIte, reduceCtorEq, ZB, ZC, ZD, ZE, ZF, ZG, ZH, ZI, ZJ, ZK]
      refine (aRword _ ts hts _ _ _ 0 rfl).mono ?_
      rintro _ _ ⟨k8, b8, ⟨hb8, v, rfl, e8, f8⟩, rfl⟩
      simp only [rdO, intV, boolV]
      have hq8 : v = true ∨ v = false := by cases v <;> simp
      cases v
      ·skip
       simp only [↓wBA, tRl, convA, ZA, reduceIte, reduceCtorEq, ZB, ZC, ZD, ZE, ZF, ZG, ZH, ZI, ZJ, ZK]
       exact ret_rdW (k' := k8) (b' := b8) (.agg ((coC (s1, 0, true, false)).map .p)) (.inl rfl) rfl (by simp [leT, leG, leC, leA, leM, exA, exC, exL, ex0, emp, leaf, tokLt, tokLtL, nilA, frzRow, coC, soC, itC, keC]) rfl rfl ⟨⟨_, rfl⟩, by simp only [Adv, May]; grind⟩
      ·skip
       simp only [↓wBA, tRl, convA, ZA, reduceIte, reduceCtorEq, ZB, ZC, ZD, ZE, ZF, ZG, ZH, ZI, ZJ, ZK]
       refine (awant 1 (by decide) _ ts hts _ (by grind) _ _ 0 rfl).mono ?_
       rintro _ _ ⟨k9, b9, ⟨rfl, hv9⟩, rfl⟩
       simp only [Adv] at hv9
       simp only [rdO, intV, boolV]
       simp only [↓wBA, tRl, convA, ZA, reduceIte, reduceCtorEq, ZB, ZC, ZD, ZE, ZF, ZG, ZH, ZI, ZJ, ZK]
       exact ret_rdW (k' := k9) (b' := b9) (.agg ((coC (s1, 0, true, true)).map .p)) (.inl rfl) rfl (by simp [leT, leG, leC, leA, leM, exA, exC, exL, ex0, emp, leaf, tokLt, tokLtL, nilA, frzRow, coC, soC, itC, keC]) rfl rfl ⟨⟨_, rfl⟩, by simp only [Adv, May]; grind⟩
     ·skip
      simp only [↓wBA, tRl, convA, ZA, reduceIte, reduceCtorEq, ZB, ZC, ZD, ZE, ZF, ZG, ZH, ZI, ZJ, ZK]
      exact ret_rdW (k' := k7) (b' := b7) (.agg ((coC (s1, 0, true, true)).map .p)) (.inl rfl) rfl (by simp [leT, leG, leC, leA, leM, exA, exC, exL, ex0, emp, leaf, tokLt, tokLtL, nilA, frzRow, coC, soC, itC, keC]) rfl rfl ⟨⟨_, rfl⟩, by simp only [Adv, May]; grind⟩
   ·skip
    simp only [↓wBA, tRl, convA, ZA, reduceIte, reduceCtorEq, ZB, ZC, ZD, ZE, ZF, ZG, ZH, ZI, ZJ, ZK]
    refine (aRword _ ts hts _ _ _ 0 rfl).mono ?_
    rintro _ _ ⟨k5, b5, ⟨hb5, v, rfl, e5, f5⟩, rfl⟩
    simp only [rdO, intV, boolV]
    have hq5 : v = true ∨ v = false := by cases v <;> simp
    cases v
    ·skip
     simp only [↓wBA, tRl, convA, ZA, reduceIte, reduceCtorEq, ZB, ZC, ZD, ZE, ZF, ZG, ZH, ZI, ZJ, ZK]
     refine (aRword _ ts hts _ _ _ 0 rfl).mono ?_
     rintro _ _ ⟨k6, b6, ⟨hb6, v, rfl, e6, f6⟩, rfl⟩
     simp only [rdO, intV, boolV]
     have hq6 : v = true ∨ v = false := by cases v <;> simp
     cases v
     ·skip
      simp only [↓wBA, tRl, convA, ZA, reduceIte, reduceCtorEq, ZB, ZC, ZD, ZE, ZF, ZG, ZH, ZI, ZJ, ZK]
      refine (aRword _ ts hts _ _ _ 0 rfl).mono ?_
      rintro _ _ ⟨k7, b7, ⟨hb7, v, rfl, e7, f7⟩, rfl⟩
      simp only [rdO, intV, boolV]
      have hq7 : v = true ∨ v = false := by cases v <;> simp
      cases v
      ·skip
       simp only [↓wBA, tRl, convA, ZA, reduceIte, reduceCtorEq, ZB, ZC, ZD, ZE, ZF, ZG, ZH, ZI, ZJ, ZK]
       exact ret_rdW (k' := k7) (b' := b7) (.agg ((coC (s1, 3, false, false)).map .p)) (.inl rfl) rfl (by simp [leT, leG, leC, leA, leM, exA, exC, exL, ex0, emp, leaf, tokLt, tokLtL, nilA, frzRow, coC, soC, itC, keC]) rfl rfl ⟨⟨_, rfl⟩, by simp only [Adv, May]; grind⟩
      ·skip
       simp only [↓wBA, tRl, convA, ZA, reduceIte, reduceCtorEq, ZB, ZC, ZD, ZE, ZF, ZG, ZH, ZI, ZJ, ZK]
       refine (awant 1 (by decide) _ ts hts _ (by grind) _ _ 0 rfl).mono ?_
       rintro _ _ ⟨k8, b8, ⟨rfl, hv8⟩, rfl⟩
       simp only [Adv] at hv8
       simp only [rdO, intV, boolV]
       simp only [↓wBA, tRl, convA, ZA, reduceIte, reduceCtorEq, ZB, ZC, ZD, ZE, ZF, ZG, ZH, ZI, ZJ, ZK]
       exact ret_rdW (k' := k8) (b' := b8) (.agg ((coC (s1, 3, true, true)).map .p)) (.inl rfl) rfl (by simp [leT, leG, leC, leA, leM, exA, exC, exL, ex0, emp, leaf, tokLt, tokLtL, nilA, frzRow, coC, soC, itC, keC]) rfl rfl ⟨⟨_, rfl⟩, by simp only [Adv, May]; grind⟩
     ·skip
      simp only [↓wBA, tRl, convA, ZA, reduceIte, reduceCtorEq, ZB, ZC, ZD, ZE, ZF, ZG, ZH, ZI, ZJ, ZK]
      exact ret_rdW (k' := k6) (b' := b6) (.agg ((coC (s1, 3, false, true)).map .p)) (.inl rfl) rfl (by simp [leT, leG, leC, leA, leM, exA, exC, exL, ex0, emp, leaf, tokLt, tokLtL, nilA, frzRow, coC, soC, itC, keC]) rfl rfl ⟨⟨_, rfl⟩, by simp only [Adv, May]; grind⟩
    ·skip
     simp only [↓wBA, tRl, convA, ZA, reduceIte, reduceCtorEq, ZB, ZC, ZD, ZE, ZF, ZG, ZH, ZI, ZJ, ZK]
     refine (awant 1 (by decide) _ ts hts _ (by grind) _ _ 0 rfl).mono ?_
     rintro _ _ ⟨k6, b6, ⟨rfl, hv6⟩, rfl⟩
     simp only [Adv] at hv6
     simp only [rdO, intV, boolV]
     simp only [↓wBA, tRl, convA, ZA, reduceIte, reduceCtorEq, ZB, ZC, ZD, ZE, ZF, ZG, ZH, ZI, ZJ, ZK]
     refine (aRword _ ts hts _ _ _ 0 rfl).mono ?_
     rintro _ _ ⟨k7, b7, ⟨hb7, v, rfl, e7, f7⟩, rfl⟩
     simp only [rdO, intV, boolV]
     have hq7 : v = true ∨ v = false := by cases v <;> simp
     cases v
     ·skip
      simp only [↓wBA, tRl, convA, ZA, reduceIte, reduceCtorEq, ZB, ZC, ZD, ZE, ZF, ZG, ZH, ZI, ZJ, ZK]
      refine (aRword _ ts hts _ _ _ 0 rfl).mono ?_
      rintro _ _ ⟨k8, b8, ⟨hb8, v, rfl, e8, f8⟩, rfl⟩
      simp only [rdO, intV, boolV]
      have hq8 : v = true ∨ v = false := by cases v <;> simp
      cases v
      ·skip
       simp only [↓wBA, tRl, convA, ZA, reduceIte, reduceCtorEq, ZB, ZC, ZD, ZE, ZF, ZG, ZH, ZI, ZJ, ZK]
       exact ret_rdW (k' := k8) (b' := b8) (.agg ((coC (s1, 3, true, false)).map .p)) (.inl rfl) rfl (by simp [leT, leG, leC, leA, leM, exA, exC, exL, ex0, emp, leaf, tokLt, tokLtL, nilA, frzRow, coC, soC, itC, keC]) rfl rfl ⟨⟨_, rfl⟩, by simp only [Adv, May]; grind⟩
      ·skip
       simp only [↓wBA, tRl, convA, ZA, reduceIte, reduceCtorEq, ZB, ZC, ZD, ZE, ZF, ZG, ZH, ZI, ZJ, ZK]
       refine (awant 1 (by decide) _ ts hts _ (by grind) _ _ 0 rfl).mono ?_
       rintro _ _ ⟨k9, b9, ⟨rfl, hv9⟩, rfl⟩
       simp only [Adv] at hv9
       simp only [rdO, intV, boolV]
       simp only [↓wBA, tRl, convA, ZA, reduceIte, reduceCtorEq, ZB, ZC, ZD, ZE, ZF, ZG, ZH, ZI, ZJ, ZK]
       exact ret_rdW (k' := k9) (b' := b9) (.agg ((coC (s1, 3, true, true)).map .p)) (.inl rfl) rfl (by simp [leT, leG, leC, leA, leM, exA, exC, exL, ex0, emp, leaf, tokLt, tokLtL, nilA, frzRow, coC, soC, itC, keC]) rfl rfl ⟨⟨_, rfl⟩, by simp only [Adv, May]; grind⟩
     ·skip
      simp only [↓wBA, tRl, convA, ZA, reduceIte, reduceCtorEq, ZB, ZC, ZD, ZE, ZF, ZG, ZH, ZI, ZJ, ZK]
      exact ret_rdW (k' := k7) (b' := b7) (.agg ((coC (s1, 3, true, true)).map .p)) (.inl rfl) rfl (by simp [leT, leG, leC, leA, leM, exA, exC, exL, ex0, emp, leaf, tokLt, tokLtL, nilA, frzRow, coC, soC, itC, keC]) rfl rfl ⟨⟨_, rfl⟩, by simp only [Adv, May]; grind⟩
  ·skip
   simp only [↓wBA, tRl, convA, ZA, reduceIte, reduceCtorEq, ZB, ZC, ZD, ZE, ZF, ZG, ZH, ZI, ZJ, ZK]
   refine (aRword _ ts hts _ _ _ 0 rfl).mono ?_
   rintro _ _ ⟨k4, b4, ⟨hb4, v, rfl, e4, f4⟩, rfl⟩
   simp only [rdO, intV, boolV]
   have hq4 : v = true ∨ v = false := by cases v <;> simp
   cases v
   ·skip
    simp only [↓wBA, tRl, convA, ZA, reduceIte, reduceCtorEq, ZB, ZC, ZD, ZE, ZF, ZG, ZH, ZI, ZJ, ZK]
    refine (aRword _ ts hts _ _ _ 0 rfl).mono ?_
    rintro _ _ ⟨k5, b5, ⟨hb5, v, rfl, e5, f5⟩, rfl⟩
    simp only [rdO, intV, boolV]
    have hq5 : v = true ∨ v = false := by cases v <;> simp
    cases v
    ·skip
     simp only [↓wBA, tRl, convA, ZA, reduceIte, reduceCtorEq, ZB, ZC, ZD, ZE, ZF, ZG, ZH, ZI, ZJ, ZK]
     refine (aRword _ ts hts _ _ _ 0 rfl).mono ?_
     rintro _ _ ⟨k6, b6, ⟨hb6, v, rfl, e6, f6⟩, rfl⟩
     simp only [rdO, intV, boolV]
     have hq6 : v = true ∨ v = false := by cases v <;> simp
     cases v
     ·skip
      simp only [↓wBA, tRl, convA, ZA, reduceIte, reduceCtorEq, ZB, ZC, ZD, ZE, ZF, ZG, ZH, ZI, ZJ, ZK]
      exact ret_rdW (k' := k6) (b' := b6) (.agg ((coC (s1, 2, false, false)).map .p)) (.inl rfl) rfl (by simp [leT, leG, leC, leA, leM, exA, exC, exL, ex0, emp, leaf, tokLt, tokLtL, nilA, frzRow, coC, soC, itC, keC]) rfl rfl ⟨⟨_, rfl⟩, by simp only [Adv, May]; grind⟩
     ·skip
      simp only [↓wBA, tRl, convA, ZA, reduceIte, reduceCtorEq, ZB, ZC, ZD, ZE, ZF, ZG, ZH, ZI, ZJ, ZK]
      refine (awant 1 (by decide) _ ts hts _ (by grind) _ _ 0 rfl).mono ?_
      rintro _ _ ⟨k7, b7, ⟨rfl, hv7⟩, rfl⟩
      simp only [Adv] at hv7
      simp only [rdO, intV, boolV]
      simp only [↓wBA, tRl, convA, ZA, reduceIte, reduceCtorEq, ZB, ZC, ZD, ZE, ZF, ZG, ZH, ZI, ZJ, ZK]
      exact ret_rdW (k' := k7) (b' := b7) (.agg ((coC (s1, 2, true, true)).map .p)) (.inl rfl) rfl (by simp [leT, leG, leC, leA, leM, exA, exC, exL, ex0, emp, leaf, tokLt, tokLtL, nilA, frzRow, coC, soC, itC, keC]) rfl rfl ⟨⟨_, rfl⟩, by simp only [Adv, May]; grind⟩
    ·skip
     simp only [↓wBA, tRl, convA, ZA, reduceIte, reduceCtorEq, ZB, ZC, ZD, ZE, ZF, ZG, ZH, ZI, ZJ, ZK]
     exact ret_rdW (k' := k5) (b' := b5) (.agg ((coC (s1, 2, false, true)).map .p)) (.inl rfl) rfl (by simp [leT, leG, leC, leA, leM, exA, exC, exL, ex0, emp, leaf, tokLt, tokLtL, nilA, frzRow, coC, soC, itC, keC]) rfl rfl ⟨⟨_, rfl⟩, by simp only [Adv, May]; grind⟩
   ·skip
    simp only [↓wBA, tRl, convA, ZA, reduceIte, reduceCtorEq, ZB, ZC, ZD, ZE, ZF, ZG, ZH, ZI, ZJ, ZK]
    refine (awant 1 (by decide) _ ts hts _ (by grind) _ _ 0 rfl).mono ?_
    rintro _ _ ⟨k5, b5, ⟨rfl, hv5⟩, rfl⟩
    simp only [Adv] at hv5
    simp only [rdO, intV, boolV]
    simp only [↓wBA, tRl, convA, ZA, reduceIte, reduceCtorEq, ZB, ZC, ZD, ZE, ZF, ZG, ZH, ZI, ZJ, ZK]
    refine (aRword _ ts hts _ _ _ 0 rfl).mono ?_
    rintro _ _ ⟨k6, b6, ⟨hb6, v, rfl, e6, f6⟩, rfl⟩
    simp only [rdO, intV, boolV]
    have hq6 : v = true ∨ v = false := by cases v <;> simp
    cases v
    ·skip
     simp only [↓wBA, tRl, convA, ZA, reduceIte, reduceCtorEq, ZB, ZC, ZD, ZE, ZF, ZG, ZH, ZI, ZJ, ZK]
     refine (aRword _ ts hts _ _ _ 0 rfl).mono ?_
     rintro _ _ ⟨k7, b7, ⟨hb7, v, rfl, e7, f7⟩, rfl⟩
     simp only [rdO, intV, boolV]
     have hq7 : v = true ∨ v = false := by cases v <;> simp
     cases v
     ·skip
      simp only [↓wBA, tRl, convA, ZA, reduceIte, reduceCtorEq, ZB, ZC, ZD, ZE, ZF, ZG, ZH, ZI, ZJ, ZK]
      exact ret_rdW (k' := k7) (b' := b7) (.agg ((coC (s1, 2, true, false)).map .p)) (.inl rfl) rfl (by simp [leT, leG, leC, leA, leM, exA, exC, exL, ex0, emp, leaf, tokLt, tokLtL, nilA, frzRow, coC, soC, itC, keC]) rfl rfl ⟨⟨_, rfl⟩, by simp only [Adv, May]; grind⟩
     ·skip
      simp only [↓wBA, tRl, convA, ZA, reduceIte, reduceCtorEq, ZB, ZC, ZD, ZE, ZF, ZG, ZH, ZI, ZJ, ZK]
      refine (awant 1 (by decide) _ ts hts _ (by grind) _ _ 0 rfl).mono ?_
      rintro _ _ ⟨k8, b8, ⟨rfl, hv8⟩, rfl⟩
      simp only [Adv] at hv8
      simp only [rdO, intV, boolV]
      simp only [↓wBA, tRl, convA, ZA, reduceIte, reduceCtorEq, ZB, ZC, ZD, ZE, ZF, ZG, ZH, ZI, ZJ, ZK]
      exact ret_rdW (k' := k8) (b' := b8) (.agg ((coC (s1, 2, true, true)).map .p)) (.inl rfl) rfl (by simp [leT, leG, leC, leA, leM, exA, exC, exL, ex0, emp, leaf, tokLt, tokLtL, nilA, frzRow, coC, soC, itC, keC]) rfl rfl ⟨⟨_, rfl⟩, by simp only [Adv, May]; grind⟩
    ·skip
     simp only [↓wBA, tRl, convA, ZA, reduceIte, reduceCtorEq, ZB, ZC, ZD, ZE, ZF, ZG, ZH, ZI, ZJ, ZK]
     exact ret_rdW (k' := k6) (b' := b6) (.agg ((coC (s1, 2, true, true)).map .p)) (.inl rfl) rfl (by simp [leT, leG, leC, leA, leM, exA, exC, exL, ex0, emp, leaf, tokLt, tokLtL, nilA, frzRow, coC, soC, itC, keC]) rfl rfl ⟨⟨_, rfl⟩, by simp only [Adv, May]; grind⟩
 ·skip
  simp only [↓wBA, tRl, convA, ZA, reduceIte, reduceCtorEq, ZB, ZC, ZD, ZE, ZF, ZG, ZH, ZI, ZJ, ZK]
  refine (aRword _ ts hts _ _ _ 0 rfl).mono ?_
  rintro _ _ ⟨k3, b3, ⟨hb3, v, rfl, e3, f3⟩, rfl⟩
  simp only [rdO, intV, boolV]
  have hq3 : v = true ∨ v = false := by cases v <;> simp
  cases v
  ·skip
   simp only [↓wBA, tRl, convA, ZA, reduceIte, reduceCtorEq, ZB, ZC, ZD, ZE, ZF, ZG, ZH, ZI, ZJ, ZK]
   refine (aRword _ ts hts _ _ _ 0 rfl).mono ?_
   rintro _ _ ⟨k4, b4, ⟨hb4, v, rfl, e4, f4⟩, rfl⟩
   simp only [rdO, intV, boolV]
   have hq4 : v = true ∨ v = false := by cases v <;> simp
   cases v
   ·skip
    simp only [↓wBA, tRl, convA, ZA, reduceIte, reduceCtorEq, ZB, ZC, ZD, ZE, ZF, ZG, ZH, ZI, ZJ, ZK]
    refine (aRword _ ts hts _ _ _ 0 rfl).mono ?_
    rintro _ _ ⟨k5, b5, ⟨hb5, v, rfl, e5, f5⟩, rfl⟩
    simp only [rdO, intV, boolV]
    have hq5 : v = true ∨ v = false := by cases v <;> simp
    cases v
    ·skip
     simp only [↓wBA, tRl, convA, ZA, reduceIte, reduceCtorEq, ZB, ZC, ZD, ZE, ZF, ZG, ZH, ZI, ZJ, ZK]
     exact ret_rdW (k' := k5) (b' := b5) (.agg ((coC (s1, 1, false, false)).map .p)) (.inl rfl) rfl (by simp [leT, leG, leC, leA, leM, exA, exC, exL, ex0, emp, leaf, tokLt, tokLtL, nilA, frzRow, coC, soC, itC, keC]) rfl rfl ⟨⟨_, rfl⟩, by simp only [Adv, May]; grind⟩
    ·skip
     simp only [↓wBA, tRl, convA, ZA, reduceIte, reduceCtorEq, ZB, ZC, ZD, ZE, ZF, ZG, ZH, ZI, ZJ, ZK]
     refine (awant 1 (by decide) _ ts hts _ (by grind) _ _ 0 rfl).mono ?_
     rintro _ _ ⟨k6, b6, ⟨rfl, hv6⟩, rfl⟩
     simp only [Adv] at hv6
     simp only [rdO, intV, boolV]
     simp only [↓wBA, tRl, convA, ZA, reduceIte, reduceCtorEq, ZB, ZC, ZD, ZE, ZF, ZG, ZH, ZI, ZJ, ZK]
     exact ret_rdW (k' := k6) (b' := b6) (.agg ((coC (s1, 1, true, true)).map .p)) (.inl rfl) rfl (by simp [leT, leG, leC, leA, leM, exA, exC, exL, ex0, emp, leaf, tokLt, tokLtL, nilA, frzRow, coC, soC, itC, keC]) rfl rfl ⟨⟨_, rfl⟩, by simp only [Adv, May]; grind⟩
   ·skip
    simp only [↓wBA, tRl, convA, ZA, reduceIte, reduceCtorEq, ZB, ZC, ZD, ZE, ZF, ZG, ZH, ZI, ZJ, ZK]
    exact ret_rdW (k' := k4) (b' := b4) (.agg ((coC (s1, 1, false, true)).map .p)) (.inl rfl) rfl (by simp [leT, leG, leC, leA, leM, exA, exC, exL, ex0, emp, leaf, tokLt, tokLtL, nilA, frzRow, coC, soC, itC, keC]) rfl rfl ⟨⟨_, rfl⟩, by simp only [Adv, May]; grind⟩
  ·skip
   simp only [↓wBA, tRl, convA, ZA, reduceIte, reduceCtorEq, ZB, ZC, ZD, ZE, ZF, ZG, ZH, ZI, ZJ, ZK]
   refine (awant 1 (by decide) _ ts hts _ (by grind) _ _ 0 rfl).mono ?_
   rintro _ _ ⟨k4, b4, ⟨rfl, hv4⟩, rfl⟩
   simp only [Adv] at hv4
   simp only [rdO, intV, boolV]
   simp only [↓wBA, tRl, convA, ZA, reduceIte, reduceCtorEq, ZB, ZC, ZD, ZE, ZF, ZG, ZH, ZI, ZJ, ZK]
   refine (aRword _ ts hts _ _ _ 0 rfl).mono ?_
   rintro _ _ ⟨k5, b5, ⟨hb5, v, rfl, e5, f5⟩, rfl⟩
   simp only [rdO, intV, boolV]
   have hq5 : v = true ∨ v = false := by cases v <;> simp
   cases v
   ·skip
    simp only [↓wBA, tRl, convA, ZA, reduceIte, reduceCtorEq, ZB, ZC, ZD, ZE, ZF, ZG, ZH, ZI, ZJ, ZK]
    refine (aRword _ ts hts _ _ _ 0 rfl).mono ?_
    rintro _ _ ⟨k6, b6, ⟨hb6, v, rfl, e6, f6⟩, rfl⟩
    simp only [rdO, intV, boolV]
    have hq6 : v = true ∨ v = false := by cases v <;> simp
    cases v
    ·skip
     simp only [↓wBA, tRl, convA, ZA, reduceIte, reduceCtorEq, ZB, ZC, ZD, ZE, ZF, ZG, ZH, ZI, ZJ, ZK]
     exact ret_rdW (k' := k6) (b' := b6) (.agg ((coC (s1, 1, true, false)).map .p)) (.inl rfl) rfl (by simp [leT, leG, leC, leA, leM, exA, exC, exL, ex0, emp, leaf, tokLt, tokLtL, nilA, frzRow, coC, soC, itC, keC]) rfl rfl ⟨⟨_, rfl⟩, by simp only [Adv, May]; grind⟩
    ·skip
     simp only [↓wBA, tRl, convA, ZA, reduceIte, reduceCtorEq, ZB, ZC, ZD, ZE, ZF, ZG, ZH, ZI, ZJ, ZK]
     refine (awant 1 (by decide) _ ts hts _ (by grind) _ _ 0 rfl).mono ?_
     rintro _ _ ⟨k7, b7, ⟨rfl, hv7⟩, rfl⟩
     simp only [Adv] at hv7
     simp only [rdO, intV, boolV]
     simp only [↓wBA, tRl, convA, ZA, reduceIte, reduceCtorEq, ZB, ZC, ZD, ZE, ZF, ZG, ZH, ZI, ZJ, ZK]
     exact ret_rdW (k' := k7) (b' := b7) (.agg ((coC (s1, 1, true, true)).map .p)) (.inl rfl) rfl (by simp [leT, leG, leC, leA, leM, exA, exC, exL, ex0, emp, leaf, tokLt, tokLtL, nilA, frzRow, coC, soC, itC, keC]) rfl rfl ⟨⟨_, rfl⟩, by simp only [Adv, May]; grind⟩
   ·skip
    simp only [↓wBA, tRl, convA, ZA, reduceIte, reduceCtorEq, ZB, ZC, ZD, ZE, ZF, ZG, ZH, ZI, ZJ, ZK]
    exact ret_rdW (k' := k5) (b' := b5) (.agg ((coC (s1, 1, true, true)).map .p)) (.inl rfl) rfl (by simp [leT, leG, leC, leA, leM, exA, exC, exL, ex0, emp, leaf, tokLt, tokLtL, nilA, frzRow, coC, soC, itC, keC]) rfl rfl ⟨⟨_, rfl⟩, by simp only [Adv, May]; grind⟩
end Go.Proofs.Ytcnkmandddfdmaa
