/- Parse: whatever the text, a statement with lists that are not long, or an error. -/
import Derived.Test.YtcnkmandddfdmaaM37
import Derived.Test.YtcnkmandddfdmaaM38
set_option linter.unusedSimpArgs false
set_option linter.unusedVariables false
set_option linter.defProp false
set_option maxRecDepth 100000
set_option maxHeartbeats 32000000
namespace Go.Proofs.Ytcnkmandddfdmaa
open Go.RowKit
open Nat renaming reduceBEq → ZA, reducePow → ZB, reduceAdd → ZC, reduceSub → ZD, reduceMul → ZE, reduceEqDiff → ZF, reduceLeDiff → ZG, reduceLT → ZH
open Int renaming reduceLT → ZI, reduceLE → ZJ, reduceToNat → ZK
def tPa := aa wX <| aa T3 <| aa T4 <| aa T9 <| aa T33 <| aa T36 <| aa T40 <| aa T72 <| aa T75 <| aa T77 T86
def ParseR (r : AV) : Prop := ∃ (s : Sm) (e : Int), r = .tup [.agg ((smC s).map .p), intV .i64 e] ∧ (s.kind = 5 → s.names.length = s.sets.length ∧ s.names ≠ []) ∧ Bd s
def sm0 : Sm := { kind := 0, tb := emp, nm := emp, cols := [], names := [], rows := [], items := [], src := [], wh := [], group := [], order := [], limit := 0, sets := [], hash := false }
theorem bd0 : Bd sm0 := by constructor <;> simp [sm0, okEL]
theorem len_nilT (ts : List Tok) : lenA cx 72 (.p (nilSl 3 (encT ts))) = some ts.length := by
 cases ts with
 | nil => rfl
 | cons t ts => simp [nilSl, encT, lenA, ck_72, elemsA]
def nleC : List AV → List AV → Prop
 | [], [] => True
 | x :: l, y :: m => (x = y ∨ (x = nilA ∧ ∃ e, y = .p (.sl e []))) ∧ leaf y = true ∧ nleC l m
 | _, _ => False
theorem nleC.rep {M : View} : ∀ {l m : List AV} {us : List Value}, nleC l m → ARepL M l us → ARepL M m us ∧ m.all leaf = true
 | [], [], us, h, hx => by simpa [ARepL] using hx
 | x :: l, y :: m, us, h, hx => by
   simp only [ARepL] at hx ⊢
   obtain ⟨u, us', rfl, h1, h2⟩ := hx
   obtain ⟨g1, g2⟩ := nleC.rep h.2.2 h2
   refine ⟨⟨u, us', rfl, ?_, g1⟩, by simp [h.2.1, g2]⟩
   rcases h.1 with rfl | ⟨rfl, e, rfl⟩
   ·exact h1
   ·have := (rep_v h1).2; subst this
    simp only [ARep, PRep]
    exact .inl ⟨trivial, none, 0, rfl, fun _ => rfl⟩
 | [], y :: m, us, h, hx => h.elim
 | x :: l, [], us, h, hx => h.elim
theorem ACalls.aggW {P : Program} {f : FuncId} {l m rest : List AV} {σ : St} {R : AV → St → Prop} (h : nleC l m) (hc : ACalls P f (.agg m :: rest) σ R) : ACalls P f (.agg l :: rest) σ R :=
 ⟨hc.1, fun M vs hM hv => hc.2 M vs hM (by
  simp only [ARepL, ARep] at hv ⊢
  obtain ⟨u, us', rfl, ⟨_, us, rfl, h2⟩, h3⟩ := hv
  obtain ⟨g1, g2⟩ := h.rep h2
  exact ⟨_, us', rfl, ⟨g2, us, rfl, g1⟩, h3⟩)⟩
theorem aparse (txt : ByteArray) (σ : St) : ACalls Try.prog 12 [.p (.v (.string txt))] σ fun r s => s = σ ∧ ParseR r := by
 refine ACalls.pureF ?_ rfl σ
 refine acalls_of cx_ok dr_ok Try.func12 (by kernel_rfl) rfl (nt := 101) (rs := [.cell 2 36, .tmp 3]) rfl rfl ?_
 simp only [↓wBA, tPa, convA, ZA, reduceIte, reduceCtorEq, ZB, ZC, ZD, ZE, ZF, ZG, ZH, ZI, ZJ, ZK]
 refine (aall txt _).mono ?_
 rintro _ _ ⟨rfl, ts, e, hts, rfl⟩
 simp only [↓wBA, tPa, convA, ZA, reduceIte, reduceCtorEq, ZB, ZC, ZD, ZE, ZF, ZG, ZH, ZI, ZJ, ZK]
 cases hE : (e != 0)
 ·skip
  simp only [↓wBA, tPa, convA, ZA, reduceIte, reduceCtorEq, ZB, ZC, ZD, ZE, ZF, ZG, ZH, ZI, ZJ, ZK, hE]
  refine (aRword _ ts hts _ _ _ 1 rfl).mono ?_
  rintro _ _ ⟨k1, b1, ⟨hb1, v, rfl, e1, f1⟩, rfl⟩
  simp only [rdO, intV, boolV]
  have hq1 : v = true ∨ v = false := by cases v <;> simp
  cases v
  ·skip
   simp only [↓wBA, tPa, convA, ZA, reduceIte, reduceCtorEq, ZB, ZC, ZD, ZE, ZF, ZG, ZH, ZI, ZJ, ZK]
   refine (aRword _ ts hts _ _ _ 1 rfl).mono ?_
   rintro _ _ ⟨k2, b2, ⟨hb2, v, rfl, e2, f2⟩, rfl⟩
   simp only [rdO, intV, boolV]
   have hq2 : v = true ∨ v = false := by cases v <;> simp
   cases v
   ·skip
    simp only [↓wBA, tPa, convA, ZA, reduceIte, reduceCtorEq, ZB, ZC, ZD, ZE, ZF, ZG, ZH, ZI, ZJ, ZK]
    refine (aRword _ ts hts _ _ _ 1 rfl).mono ?_
    rintro _ _ ⟨k3, b3, ⟨hb3, v, rfl, e3, f3⟩, rfl⟩
    simp only [rdO, intV, boolV]
    have hq3 : v = true ∨ v = false := by cases v <;> simp
    cases v
    ·skip
     simp only [↓wBA, tPa, convA, ZA, reduceIte, reduceCtorEq, ZB, ZC, ZD, ZE, ZF, ZG, ZH, ZI, ZJ, ZK]
     refine (aRword _ ts hts _ _ _ 1 rfl).mono ?_
     rintro _ _ ⟨k4, b4, ⟨hb4, v, rfl, e4, f4⟩, rfl⟩
     simp only [rdO, intV, boolV]
     have hq4 : v = true ∨ v = false := by cases v <;> simp
     cases v
     ·skip
      simp only [↓wBA, tPa, convA, ZA, reduceIte, reduceCtorEq, ZB, ZC, ZD, ZE, ZF, ZG, ZH, ZI, ZJ, ZK]
      refine (aRword _ ts hts _ _ _ 1 rfl).mono ?_
      rintro _ _ ⟨k5, b5, ⟨hb5, v, rfl, e5, f5⟩, rfl⟩
      simp only [rdO, intV, boolV]
      have hq5 : v = true ∨ v = false := by cases v <;> simp
      cases v
      ·skip
       simp only [↓wBA, tPa, convA, ZA, reduceIte, reduceCtorEq, ZB, ZC, ZD, ZE, ZF, ZG, ZH, ZI, ZJ, ZK]
       refine (aRword _ ts hts _ _ _ 1 rfl).mono ?_
       rintro _ _ ⟨k6, b6, ⟨hb6, v, rfl, e6, f6⟩, rfl⟩
       simp only [rdO, intV, boolV]
       have hq6 : v = true ∨ v = false := by cases v <;> simp
       cases v
       ·skip
        simp only [↓wBA, tPa, convA, ZA, reduceIte, reduceCtorEq, ZB, ZC, ZD, ZE, ZF, ZG, ZH, ZI, ZJ, ZK]
        refine (aRword _ ts hts _ _ _ 1 rfl).mono ?_
        rintro _ _ ⟨k7, b7, ⟨hb7, v, rfl, e7, f7⟩, rfl⟩
        simp only [rdO, intV, boolV]
        have hq7 : v = true ∨ v = false := by cases v <;> simp
        cases v
        ·skip
         simp only [↓wBA, tPa, convA, ZA, reduceIte, reduceCtorEq, ZB, ZC, ZD, ZE, ZF, ZG, ZH, ZI, ZJ, ZK]
         refine (aRword _ ts hts _ _ _ 1 rfl).mono ?_
         rintro _ _ ⟨k8, b8, ⟨hb8, v, rfl, e8, f8⟩, rfl⟩
         simp only [rdO, intV, boolV]
         have hq8 : v = true ∨ v = false := by cases v <;> simp
         cases v
         ·skip
          simp only [↓wBA, tPa, convA, ZA, reduceIte, reduceCtorEq, ZB, ZC, ZD, ZE, ZF, ZG, ZH, ZI, ZJ, ZK]
          have hbd : Bd ({ kind := 0, tb := emp, nm := emp, cols := [], names := [], rows := [], items := [], src := [], wh := [], group := [], order := [], limit := -1, sets := [], hash := false }) := by constructor <;> simp [okEL]
          refine (aRsign _ ts hts _ _ _ 1 rfl).mono ?_
          rintro _ _ ⟨k9, b9, ⟨hb9, v, rfl, e9, f9⟩, rfl⟩
          simp only [rdO, intV, boolV]
          have hq9 : v = true ∨ v = false := by cases v <;> simp
          simp only [↓wBA, tPa, convA, ZA, reduceIte, reduceCtorEq, ZB, ZC, ZD, ZE, ZF, ZG, ZH, ZI, ZJ, ZK]
          cases b9
          ·cases hA : (((k9 : Nat) : Int) != (ts.length : Int))
           ·skip
            simp only [↓wBA, tPa, convA, ZA, reduceIte, reduceCtorEq, ZB, ZC, ZD, ZE, ZF, ZG, ZH, ZI, ZJ, ZK, len_nilT, hA]
            refine (ACalls.aggW (m := (smC ({ kind := 0, tb := emp, nm := emp, cols := [], names := [], rows := [], items := [], src := [], wh := [], group := [], order := [], limit := -1, sets := [], hash := false })).map .p) (by simp [nleC, smC, nilSl, exC, exL, enS, enR, emp, leaf, nilA, List.map_nil, List.map_cons]) (aallE ({ kind := 0, tb := emp, nm := emp, cols := [], names := [], rows := [], items := [], src := [], wh := [], group := [], order := [], limit := -1, sets := [], hash := false }) hbd _)).mono ?_
            rintro _ _ ⟨rfl, xs, rfl, hxl, hxo⟩
            simp only [↓wBA, tPa, convA, ZA, reduceIte, reduceCtorEq, ZB, ZC, ZD, ZE, ZF, ZG, ZH, ZI, ZJ, ZK]
            refine awp_loopS (X := { i : Nat // i ≤ xs.length }) (fun i => [.any, .any, .mp 0 14 0 0, .any, .any, .any, .any, .mp 2 14 0 0, .p (.sl 8 (exL xs)), intV .i64 (i.1 : Nat), .any, .any, .any, .any, .any, .any, .any, .any, .any, .any, .any, .any, .any, .any, .any, .any, .any, .any, .any, .any, .any, .any, .any, .any, .any, .any, .any, .any, .any, .any, .any, .any, .any, .any, .any, .any, .any, .any, .any, .any, .any, .any, .any, .any, .any, .any, .any, .any, .any, .any, .any, .any, .any, .any, .any, .any, .any, .any, .any, .any, .any, .any, .any, .any, .any, .any, .any, .any, .any, .any, .any, .any, .any, .any, .any, .any, .any, .any, .any, .any, .any, .any, .any, .any, .any, .any, .any, .any, .any, .any, .any, .any]) (fun i => xs.length - i.1) ⟨0, by omega⟩ ?_ ?_
            ·simp [WeakE, Weak, leL, leT, leM, leG, leA, leC, leS, leO, tokLt, tokLtL, intV, boolV]
            ·rintro ⟨i, hi⟩
             by_cases hlt : i < xs.length
             ·have hdec := dT (i := i) (n := xs.length) (by omega)
              have hi0 := nnI i
              have hw := wI i (by omega)
              have hg := exL_get xs i hlt
              simp only [↓wBA, tPa, convA, ZA, reduceIte, reduceCtorEq, ZB, ZC, ZD, ZE, ZF, ZG, ZH, ZI, ZJ, ZK, exL_len, hdec, hi0, hg, exC_len, List.length_map]
              refine (aheight xs[i] (okEL_iff.1 hxo _ (List.getElem_mem hlt)) _).mono ?_
              rintro _ _ ⟨rfl, rfl⟩
              simp only [↓wBA, tPa, convA, ZA, reduceIte, reduceCtorEq, ZB, ZC, ZD, ZE, ZF, ZG, ZH, ZI, ZJ, ZK]
              refine cond_split (fun hH => ?_) (fun hH => ?_)
              ·skip
               simp only [↓wBA, tPa, convA, ZA, reduceIte, reduceCtorEq, ZB, ZC, ZD, ZE, ZF, ZG, ZH, ZI, ZJ, ZK]
               exact ret_sl (R := ParseR) (r1 := .tup [.agg ((smC sm0).map .p), intV .i64 31]) rfl (by simp [leT, leG, leC, leA, leM, sm0, intV, tokLt, smC, nilSl, exC, exL, enS, enR, emp, leaf, nilA, List.map_nil, List.map_cons]) rfl ⟨sm0, 31, rfl, by simp [sm0], bd0⟩
              ·skip
               simp only [↓wBA, tPa, convA, ZA, reduceIte, reduceCtorEq, ZB, ZC, ZD, ZE, ZF, ZG, ZH, ZI, ZJ, ZK, hw]
               refine ⟨⟨i + 1, by omega⟩, by show xs.length - (i + 1) < xs.length - i; omega, ?_⟩
               simp [WeakE, Weak, leL, leT, leM, leG, leA, leC, leS, leO, tokLt, tokLtL, intV, boolV]
             ·have hdec := dF (i := i) (n := xs.length) (by omega)
              simp only [↓wBA, tPa, convA, ZA, reduceIte, reduceCtorEq, ZB, ZC, ZD, ZE, ZF, ZG, ZH, ZI, ZJ, ZK, exL_len, hdec]
              exact ret_sl (R := ParseR) (r1 := .tup [.agg ((smC ({ kind := 0, tb := emp, nm := emp, cols := [], names := [], rows := [], items := [], src := [], wh := [], group := [], order := [], limit := -1, sets := [], hash := false })).map .p), intV .i64 0]) rfl (by simp [leT, leG, leC, leA, leM, intV, tokLt, tokLtL, smC, nilSl, exC, exL, enS, enR, emp, leaf, nilA, List.map_nil, List.map_cons]) rfl ⟨{ kind := 0, tb := emp, nm := emp, cols := [], names := [], rows := [], items := [], src := [], wh := [], group := [], order := [], limit := -1, sets := [], hash := false }, 0, rfl, by simp, hbd⟩
           ·skip
            simp only [↓wBA, tPa, convA, ZA, reduceIte, reduceCtorEq, ZB, ZC, ZD, ZE, ZF, ZG, ZH, ZI, ZJ, ZK, len_nilT, hA]
            exact ret_sl (R := ParseR) (r1 := .tup [.agg ((smC sm0).map .p), intV .i64 30]) rfl (by simp [leT, leG, leC, leA, leM, sm0, intV, tokLt, smC, nilSl, exC, exL, enS, enR, emp, leaf, nilA, List.map_nil, List.map_cons]) rfl ⟨sm0, 30, rfl, by simp [sm0], bd0⟩
          ·skip
           simp only [↓wBA, tPa, convA, ZA, reduceIte, reduceCtorEq, ZB, ZC, ZD, ZE, ZF, ZG, ZH, ZI, ZJ, ZK]
           exact ret_sl (R := ParseR) (r1 := .tup [.agg ((smC sm0).map .p), intV .i64 30]) rfl (by simp [leT, leG, leC, leA, leM, sm0, intV, tokLt, smC, nilSl, exC, exL, enS, enR, emp, leaf, nilA, List.map_nil, List.map_cons]) rfl ⟨sm0, 30, rfl, by simp [sm0], bd0⟩
         ·skip
          simp only [↓wBA, tPa, convA, ZA, reduceIte, reduceCtorEq, ZB, ZC, ZD, ZE, ZF, ZG, ZH, ZI, ZJ, ZK]
          have hbd : Bd ({ kind := 9, tb := emp, nm := emp, cols := [], names := [], rows := [], items := [], src := [], wh := [], group := [], order := [], limit := -1, sets := [], hash := false }) := by constructor <;> simp [okEL]
          refine (aRsign _ ts hts _ _ _ 1 rfl).mono ?_
          rintro _ _ ⟨k9, b9, ⟨hb9, v, rfl, e9, f9⟩, rfl⟩
          simp only [rdO, intV, boolV]
          have hq9 : v = true ∨ v = false := by cases v <;> simp
          simp only [↓wBA, tPa, convA, ZA, reduceIte, reduceCtorEq, ZB, ZC, ZD, ZE, ZF, ZG, ZH, ZI, ZJ, ZK]
          cases b9
          ·cases hA : (((k9 : Nat) : Int) != (ts.length : Int))
           ·skip
            simp only [↓wBA, tPa, convA, ZA, reduceIte, reduceCtorEq, ZB, ZC, ZD, ZE, ZF, ZG, ZH, ZI, ZJ, ZK, len_nilT, hA]
            refine (ACalls.aggW (m := (smC ({ kind := 9, tb := emp, nm := emp, cols := [], names := [], rows := [], items := [], src := [], wh := [], group := [], order := [], limit := -1, sets := [], hash := false })).map .p) (by simp [nleC, smC, nilSl, exC, exL, enS, enR, emp, leaf, nilA, List.map_nil, List.map_cons]) (aallE ({ kind := 9, tb := emp, nm := emp, cols := [], names := [], rows := [], items := [], src := [], wh := [], group := [], order := [], limit := -1, sets := [], hash := false }) hbd _)).mono ?_
            rintro _ _ ⟨rfl, xs, rfl, hxl, hxo⟩
            simp only [↓wBA, tPa, convA, ZA, reduceIte, reduceCtorEq, ZB, ZC, ZD, ZE, ZF, ZG, ZH, ZI, ZJ, ZK]
            refine awp_loopS (X := { i : Nat // i ≤ xs.length }) (fun i => [.any, .any, .mp 0 14 0 0, .any, .any, .any, .any, .mp 2 14 0 0, .p (.sl 8 (exL xs)), intV .i64 (i.1 : Nat), .any, .any, .any, .any, .any, .any, .any, .any, .any, .any, .any, .any, .any, .any, .any, .any, .any, .any, .any, .any, .any, .any, .any, .any, .any, .any, .any, .any, .any, .any, .any, .any, .any, .any, .any, .any, .any, .any, .any, .any, .any, .any, .any, .any, .any, .any, .any, .any, .any, .any, .any, .any, .any, .any, .any, .any, .any, .any, .any, .any, .any, .any, .any, .any, .any, .any, .any, .any, .any, .any, .any, .any, .any, .any, .any, .any, .any, .any, .any, .any, .any, .any, .any, .any, .any, .any, .any, .any, .any, .any, .any, .any]) (fun i => xs.length - i.1) ⟨0, by omega⟩ ?_ ?_
            ·simp [WeakE, Weak, leL, leT, leM, leG, leA, leC, leS, leO, tokLt, tokLtL, intV, boolV]
            ·rintro ⟨i, hi⟩
             by_cases hlt : i < xs.length
             ·have hdec := dT (i := i) (n := xs.length) (by omega)
              have hi0 := nnI i
              have hw := wI i (by omega)
              have hg := exL_get xs i hlt
              simp only [↓wBA, tPa, convA, ZA, reduceIte, reduceCtorEq, ZB, ZC, ZD, ZE, ZF, ZG, ZH, ZI, ZJ, ZK, exL_len, hdec, hi0, hg, exC_len, List.length_map]
              refine (aheight xs[i] (okEL_iff.1 hxo _ (List.getElem_mem hlt)) _).mono ?_
              rintro _ _ ⟨rfl, rfl⟩
              simp only [↓wBA, tPa, convA, ZA, reduceIte, reduceCtorEq, ZB, ZC, ZD, ZE, ZF, ZG, ZH, ZI, ZJ, ZK]
              refine cond_split (fun hH => ?_) (fun hH => ?_)
              ·skip
               simp only [↓wBA, tPa, convA, ZA, reduceIte, reduceCtorEq, ZB, ZC, ZD, ZE, ZF, ZG, ZH, ZI, ZJ, ZK]
               exact ret_sl (R := ParseR) (r1 := .tup [.agg ((smC sm0).map .p), intV .i64 31]) rfl (by simp [leT, leG, leC, leA, leM, sm0, intV, tokLt, smC, nilSl, exC, exL, enS, enR, emp, leaf, nilA, List.map_nil, List.map_cons]) rfl ⟨sm0, 31, rfl, by simp [sm0], bd0⟩
              ·skip
               simp only [↓wBA, tPa, convA, ZA, reduceIte, reduceCtorEq, ZB, ZC, ZD, ZE, ZF, ZG, ZH, ZI, ZJ, ZK, hw]
               refine ⟨⟨i + 1, by omega⟩, by show xs.length - (i + 1) < xs.length - i; omega, ?_⟩
               simp [WeakE, Weak, leL, leT, leM, leG, leA, leC, leS, leO, tokLt, tokLtL, intV, boolV]
             ·have hdec := dF (i := i) (n := xs.length) (by omega)
              simp only [↓wBA, tPa, convA, ZA, reduceIte, reduceCtorEq, ZB, ZC, ZD, ZE, ZF, ZG, ZH, ZI, ZJ, ZK, exL_len, hdec]
              exact ret_sl (R := ParseR) (r1 := .tup [.agg ((smC ({ kind := 9, tb := emp, nm := emp, cols := [], names := [], rows := [], items := [], src := [], wh := [], group := [], order := [], limit := -1, sets := [], hash := false })).map .p), intV .i64 0]) rfl (by simp [leT, leG, leC, leA, leM, intV, tokLt, tokLtL, smC, nilSl, exC, exL, enS, enR, emp, leaf, nilA, List.map_nil, List.map_cons]) rfl ⟨{ kind := 9, tb := emp, nm := emp, cols := [], names := [], rows := [], items := [], src := [], wh := [], group := [], order := [], limit := -1, sets := [], hash := false }, 0, rfl, by simp, hbd⟩
           ·skip
            simp only [↓wBA, tPa, convA, ZA, reduceIte, reduceCtorEq, ZB, ZC, ZD, ZE, ZF, ZG, ZH, ZI, ZJ, ZK, len_nilT, hA]
            exact ret_sl (R := ParseR) (r1 := .tup [.agg ((smC sm0).map .p), intV .i64 30]) rfl (by simp [leT, leG, leC, leA, leM, sm0, intV, tokLt, smC, nilSl, exC, exL, enS, enR, emp, leaf, nilA, List.map_nil, List.map_cons]) rfl ⟨sm0, 30, rfl, by simp [sm0], bd0⟩
          ·skip
           simp only [↓wBA, tPa, convA, ZA, reduceIte, reduceCtorEq, ZB, ZC, ZD, ZE, ZF, ZG, ZH, ZI, ZJ, ZK]
           exact ret_sl (R := ParseR) (r1 := .tup [.agg ((smC sm0).map .p), intV .i64 30]) rfl (by simp [leT, leG, leC, leA, leM, sm0, intV, tokLt, smC, nilSl, exC, exL, enS, enR, emp, leaf, nilA, List.map_nil, List.map_cons]) rfl ⟨sm0, 30, rfl, by simp [sm0], bd0⟩
        ·skip
         simp only [↓wBA, tPa, convA, ZA, reduceIte, reduceCtorEq, ZB, ZC, ZD, ZE, ZF, ZG, ZH, ZI, ZJ, ZK]
         have hbd : Bd ({ kind := 8, tb := emp, nm := emp, cols := [], names := [], rows := [], items := [], src := [], wh := [], group := [], order := [], limit := -1, sets := [], hash := false }) := by constructor <;> simp [okEL]
         refine (aRsign _ ts hts _ _ _ 1 rfl).mono ?_
         rintro _ _ ⟨k8, b8, ⟨hb8, v, rfl, e8, f8⟩, rfl⟩
         simp only [rdO, intV, boolV]
         have hq8 : v = true ∨ v = false := by cases v <;> simp
         simp only [↓wBA, tPa, convA, ZA, reduceIte, reduceCtorEq, ZB, ZC, ZD, ZE, ZF, ZG, ZH, ZI, ZJ, ZK]
         cases b8
         ·cases hA : (((k8 : Nat) : Int) != (ts.length : Int))
          ·skip
           simp only [↓wBA, tPa, convA, ZA, reduceIte, reduceCtorEq, ZB, ZC, ZD, ZE, ZF, ZG, ZH, ZI, ZJ, ZK, len_nilT, hA]
           refine (ACalls.aggW (m := (smC ({ kind := 8, tb := emp, nm := emp, cols := [], names := [], rows := [], items := [], src := [], wh := [], group := [], order := [], limit := -1, sets := [], hash := false })).map .p) (by simp [nleC, smC, nilSl, exC, exL, enS, enR, emp, leaf, nilA, List.map_nil, List.map_cons]) (aallE ({ kind := 8, tb := emp, nm := emp, cols := [], names := [], rows := [], items := [], src := [], wh := [], group := [], order := [], limit := -1, sets := [], hash := false }) hbd _)).mono ?_
           rintro _ _ ⟨rfl, xs, rfl, hxl, hxo⟩
           simp only [↓wBA, tPa, convA, ZA, reduceIte, reduceCtorEq, ZB, ZC, ZD, ZE, ZF, ZG, ZH, ZI, ZJ, ZK]
           refine awp_loopS (X := { i : Nat // i ≤ xs.length }) (fun i => [.any, .any, .mp 0 14 0 0, .any, .any, .any, .any, .mp 2 14 0 0, .p (.sl 8 (exL xs)), intV .i64 (i.1 : Nat), .any, .any, .any, .any, .any, .any, .any, .any, .any, .any, .any, .any, .any, .any, .any, .any, .any, .any, .any, .any, .any, .any, .any, .any, .any, .any, .any, .any, .any, .any, .any, .any, .any, .any, .any, .any, .any, .any, .any, .any, .any, .any, .any, .any, .any, .any, .any, .any, .any, .any, .any, .any, .any, .any, .any, .any, .any, .any, .any, .any, .any, .any, .any, .any, .any, .any, .any, .any, .any, .any, .any, .any, .any, .any, .any, .any, .any, .any, .any, .any, .any, .any, .any, .any, .any, .any, .any, .any, .any, .any, .any, .any]) (fun i => xs.length - i.1) ⟨0, by omega⟩ ?_ ?_
           ·simp [WeakE, Weak, leL, leT, leM, leG, leA, leC, leS, leO, tokLt, tokLtL, intV, boolV]
           ·rintro ⟨i, hi⟩
            by_cases hlt : i < xs.length
            ·have hdec := dT (i := i) (n := xs.length) (by omega)
             have hi0 := nnI i
             have hw := wI i (by omega)
             have hg := exL_get xs i hlt
             simp only [↓wBA, tPa, convA, ZA, reduceIte, reduceCtorEq, ZB, ZC, ZD, ZE, ZF, ZG, ZH, ZI, ZJ, ZK, exL_len, hdec, hi0, hg, exC_len, List.length_map]
             refine (aheight xs[i] (okEL_iff.1 hxo _ (List.getElem_mem hlt)) _).mono ?_
             rintro _ _ ⟨rfl, rfl⟩
             simp only [↓wBA, tPa, convA, ZA, reduceIte, reduceCtorEq, ZB, ZC, ZD, ZE, ZF, ZG, ZH, ZI, ZJ, ZK]
             refine cond_split (fun hH => ?_) (fun hH => ?_)
             ·skip
              simp only [↓wBA, tPa, convA, ZA, reduceIte, reduceCtorEq, ZB, ZC, ZD, ZE, ZF, ZG, ZH, ZI, ZJ, ZK]
              exact ret_sl (R := ParseR) (r1 := .tup [.agg ((smC sm0).map .p), intV .i64 31]) rfl (by simp [leT, leG, leC, leA, leM, sm0, intV, tokLt, smC, nilSl, exC, exL, enS, enR, emp, leaf, nilA, List.map_nil, List.map_cons]) rfl ⟨sm0, 31, rfl, by simp [sm0], bd0⟩
             ·skip
              simp only [↓wBA, tPa, convA, ZA, reduceIte, reduceCtorEq, ZB, ZC, ZD, ZE, ZF, ZG, ZH, ZI, ZJ, ZK, hw]
              refine ⟨⟨i + 1, by omega⟩, by show xs.length - (i + 1) < xs.length - i; omega, ?_⟩
              simp [WeakE, Weak, leL, leT, leM, leG, leA, leC, leS, leO, tokLt, tokLtL, intV, boolV]
            ·have hdec := dF (i := i) (n := xs.length) (by omega)
             simp only [↓wBA, tPa, convA, ZA, reduceIte, reduceCtorEq, ZB, ZC, ZD, ZE, ZF, ZG, ZH, ZI, ZJ, ZK, exL_len, hdec]
             exact ret_sl (R := ParseR) (r1 := .tup [.agg ((smC ({ kind := 8, tb := emp, nm := emp, cols := [], names := [], rows := [], items := [], src := [], wh := [], group := [], order := [], limit := -1, sets := [], hash := false })).map .p), intV .i64 0]) rfl (by simp [leT, leG, leC, leA, leM, intV, tokLt, tokLtL, smC, nilSl, exC, exL, enS, enR, emp, leaf, nilA, List.map_nil, List.map_cons]) rfl ⟨{ kind := 8, tb := emp, nm := emp, cols := [], names := [], rows := [], items := [], src := [], wh := [], group := [], order := [], limit := -1, sets := [], hash := false }, 0, rfl, by simp, hbd⟩
          ·skip
           simp only [↓wBA, tPa, convA, ZA, reduceIte, reduceCtorEq, ZB, ZC, ZD, ZE, ZF, ZG, ZH, ZI, ZJ, ZK, len_nilT, hA]
           exact ret_sl (R := ParseR) (r1 := .tup [.agg ((smC sm0).map .p), intV .i64 30]) rfl (by simp [leT, leG, leC, leA, leM, sm0, intV, tokLt, smC, nilSl, exC, exL, enS, enR, emp, leaf, nilA, List.map_nil, List.map_cons]) rfl ⟨sm0, 30, rfl, by simp [sm0], bd0⟩
         ·skip
          simp only [↓wBA, tPa, convA, ZA, reduceIte, reduceCtorEq, ZB, ZC, ZD, ZE, ZF, ZG, ZH, ZI, ZJ, ZK]
          exact ret_sl (R := ParseR) (r1 := .tup [.agg ((smC sm0).map .p), intV .i64 30]) rfl (by simp [leT, leG, leC, leA, leM, sm0, intV, tokLt, smC, nilSl, exC, exL, enS, enR, emp, leaf, nilA, List.map_nil, List.map_cons]) rfl ⟨sm0, 30, rfl, by simp [sm0], bd0⟩
       ·skip
        simp only [↓wBA, tPa, convA, ZA, reduceIte, reduceCtorEq, ZB, ZC, ZD, ZE, ZF, ZG, ZH, ZI, ZJ, ZK]
        have hbd : Bd ({ kind := 7, tb := emp, nm := emp, cols := [], names := [], rows := [], items := [], src := [], wh := [], group := [], order := [], limit := -1, sets := [], hash := false }) := by constructor <;> simp [okEL]
        refine (aRsign _ ts hts _ _ _ 1 rfl).mono ?_
        rintro _ _ ⟨k7, b7, ⟨hb7, v, rfl, e7, f7⟩, rfl⟩
        simp only [rdO, intV, boolV]
        have hq7 : v = true ∨ v = false := by cases v <;> simp
        simp only [↓wBA, tPa, convA, ZA, reduceIte, reduceCtorEq, ZB, ZC, ZD, ZE, ZF, ZG, ZH, ZI, ZJ, ZK]
        cases b7
        ·cases hA : (((k7 : Nat) : Int) != (ts.length : Int))
         ·skip
          simp only [↓wBA, tPa, convA, ZA, reduceIte, reduceCtorEq, ZB, ZC, ZD, ZE, ZF, ZG, ZH, ZI, ZJ, ZK, len_nilT, hA]
          refine (ACalls.aggW (m := (smC ({ kind := 7, tb := emp, nm := emp, cols := [], names := [], rows := [], items := [], src := [], wh := [], group := [], order := [], limit := -1, sets := [], hash := false })).map .p) (by simp [nleC, smC, nilSl, exC, exL, enS, enR, emp, leaf, nilA, List.map_nil, List.map_cons]) (aallE ({ kind := 7, tb := emp, nm := emp, cols := [], names := [], rows := [], items := [], src := [], wh := [], group := [], order := [], limit := -1, sets := [], hash := false }) hbd _)).mono ?_
          rintro _ _ ⟨rfl, xs, rfl, hxl, hxo⟩
          simp only [↓wBA, tPa, convA, ZA, reduceIte, reduceCtorEq, ZB, ZC, ZD, ZE, ZF, ZG, ZH, ZI, ZJ, ZK]
          refine awp_loopS (X := { i : Nat // i ≤ xs.length }) (fun i => [.any, .any, .mp 0 14 0 0, .any, .any, .any, .any, .mp 2 14 0 0, .p (.sl 8 (exL xs)), intV .i64 (i.1 : Nat), .any, .any, .any, .any, .any, .any, .any, .any, .any, .any, .any, .any, .any, .any, .any, .any, .any, .any, .any, .any, .any, .any, .any, .any, .any, .any, .any, .any, .any, .any, .any, .any, .any, .any, .any, .any, .any, .any, .any, .any, .any, .any, .any, .any, .any, .any, .any, .any, .any, .any, .any, .any, .any, .any, .any, .any, .any, .any, .any, .any, .any, .any, .any, .any, .any, .any, .any, .any, .any, .any, .any, .any, .any, .any, .any, .any, .any, .any, .any, .any, .any, .any, .any, .any, .any, .any, .any, .any, .any, .any, .any, .any]) (fun i => xs.length - i.1) ⟨0, by omega⟩ ?_ ?_
          ·simp [WeakE, Weak, leL, leT, leM, leG, leA, leC, leS, leO, tokLt, tokLtL, intV, boolV]
          ·rintro ⟨i, hi⟩
           by_cases hlt : i < xs.length
           ·have hdec := dT (i := i) (n := xs.length) (by omega)
            have hi0 := nnI i
            have hw := wI i (by omega)
            have hg := exL_get xs i hlt
            simp only [↓wBA, tPa, convA, ZA, reduceIte, reduceCtorEq, ZB, ZC, ZD, ZE, ZF, ZG, ZH, ZI, ZJ, ZK, exL_len, hdec, hi0, hg, exC_len, List.length_map]
            refine (aheight xs[i] (okEL_iff.1 hxo _ (List.getElem_mem hlt)) _).mono ?_
            rintro _ _ ⟨rfl, rfl⟩
            simp only [↓wBA, tPa, convA, ZA, reduceIte, reduceCtorEq, ZB, ZC, ZD, ZE, ZF, ZG, ZH, ZI, ZJ, ZK]
            refine cond_split (fun hH => ?_) (fun hH => ?_)
            ·skip
             simp only [↓wBA, tPa, convA, ZA, reduceIte, reduceCtorEq, ZB, ZC, ZD, ZE, ZF, ZG, ZH, ZI, ZJ, ZK]
             exact ret_sl (R := ParseR) (r1 := .tup [.agg ((smC sm0).map .p), intV .i64 31]) rfl (by simp [leT, leG, leC, leA, leM, sm0, intV, tokLt, smC, nilSl, exC, exL, enS, enR, emp, leaf, nilA, List.map_nil, List.map_cons]) rfl ⟨sm0, 31, rfl, by simp [sm0], bd0⟩
            ·skip
             simp only [↓wBA, tPa, convA, ZA, reduceIte, reduceCtorEq, ZB, ZC, ZD, ZE, ZF, ZG, ZH, ZI, ZJ, ZK, hw]
             refine ⟨⟨i + 1, by omega⟩, by show xs.length - (i + 1) < xs.length - i; omega, ?_⟩
             simp [WeakE, Weak, leL, leT, leM, leG, leA, leC, leS, leO, tokLt, tokLtL, intV, boolV]
           ·have hdec := dF (i := i) (n := xs.length) (by omega)
            simp only [↓wBA, tPa, convA, ZA, reduceIte, reduceCtorEq, ZB, ZC, ZD, ZE, ZF, ZG, ZH, ZI, ZJ, ZK, exL_len, hdec]
            exact ret_sl (R := ParseR) (r1 := .tup [.agg ((smC ({ kind := 7, tb := emp, nm := emp, cols := [], names := [], rows := [], items := [], src := [], wh := [], group := [], order := [], limit := -1, sets := [], hash := false })).map .p), intV .i64 0]) rfl (by simp [leT, leG, leC, leA, leM, intV, tokLt, tokLtL, smC, nilSl, exC, exL, enS, enR, emp, leaf, nilA, List.map_nil, List.map_cons]) rfl ⟨{ kind := 7, tb := emp, nm := emp, cols := [], names := [], rows := [], items := [], src := [], wh := [], group := [], order := [], limit := -1, sets := [], hash := false }, 0, rfl, by simp, hbd⟩
         ·skip
          simp only [↓wBA, tPa, convA, ZA, reduceIte, reduceCtorEq, ZB, ZC, ZD, ZE, ZF, ZG, ZH, ZI, ZJ, ZK, len_nilT, hA]
          exact ret_sl (R := ParseR) (r1 := .tup [.agg ((smC sm0).map .p), intV .i64 30]) rfl (by simp [leT, leG, leC, leA, leM, sm0, intV, tokLt, smC, nilSl, exC, exL, enS, enR, emp, leaf, nilA, List.map_nil, List.map_cons]) rfl ⟨sm0, 30, rfl, by simp [sm0], bd0⟩
        ·skip
         simp only [↓wBA, tPa, convA, ZA, reduceIte, reduceCtorEq, ZB, ZC, ZD, ZE, ZF, ZG, ZH, ZI, ZJ, ZK]
         exact ret_sl (R := ParseR) (r1 := .tup [.agg ((smC sm0).map .p), intV .i64 30]) rfl (by simp [leT, leG, leC, leA, leM, sm0, intV, tokLt, smC, nilSl, exC, exL, enS, enR, emp, leaf, nilA, List.map_nil, List.map_cons]) rfl ⟨sm0, 30, rfl, by simp [sm0], bd0⟩
      ·skip
       simp only [↓wBA, tPa, convA, ZA, reduceIte, reduceCtorEq, ZB, ZC, ZD, ZE, ZF, ZG, ZH, ZI, ZJ, ZK]
       refine (awant 1 (by decide) _ ts hts _ (by grind) _ _ 1 rfl).mono ?_
       rintro _ _ ⟨k6, b6, ⟨rfl, hv6⟩, rfl⟩
       simp only [Adv] at hv6
       simp only [rdO, intV, boolV]
       simp only [↓wBA, tPa, convA, ZA, reduceIte, reduceCtorEq, ZB, ZC, ZD, ZE, ZF, ZG, ZH, ZI, ZJ, ZK]
       refine (aname ts hts _ (by grind) _ _ 1 rfl).mono ?_
       rintro _ _ ⟨k7, b7, ⟨⟨s, rfl⟩, hv7⟩, rfl⟩
       simp only [Adv] at hv7
       simp only [rdO, intV, boolV]
       simp only [↓wBA, tPa, convA, ZA, reduceIte, reduceCtorEq, ZB, ZC, ZD, ZE, ZF, ZG, ZH, ZI, ZJ, ZK]
       refine (awhere ts hts _ (by grind) _ _ 1 rfl).mono ?_
       rintro _ _ ⟨k8, b8, ⟨⟨wl, rfl, hwl⟩, hv8⟩, rfl⟩
       simp only [May] at hv8
       simp only [rdO, intV, boolV]
       simp only [↓wBA, tPa, convA, ZA, reduceIte, reduceCtorEq, ZB, ZC, ZD, ZE, ZF, ZG, ZH, ZI, ZJ, ZK]
       have hbd : Bd ({ kind := 6, tb := s, nm := emp, cols := [], names := [], rows := [], items := [], src := [], wh := wl, group := [], order := [], limit := -1, sets := [], hash := false }) := by constructor <;> simp_all [okEL]
       refine (aRsign _ ts hts _ _ _ 1 rfl).mono ?_
       rintro _ _ ⟨k9, b9, ⟨hb9, v, rfl, e9, f9⟩, rfl⟩
       simp only [rdO, intV, boolV]
       have hq9 : v = true ∨ v = false := by cases v <;> simp
       simp only [↓wBA, tPa, convA, ZA, reduceIte, reduceCtorEq, ZB, ZC, ZD, ZE, ZF, ZG, ZH, ZI, ZJ, ZK]
       cases b9
       ·cases hA : (((k9 : Nat) : Int) != (ts.length : Int))
        ·skip
         simp only [↓wBA, tPa, convA, ZA, reduceIte, reduceCtorEq, ZB, ZC, ZD, ZE, ZF, ZG, ZH, ZI, ZJ, ZK, len_nilT, hA]
         refine (ACalls.aggW (m := (smC ({ kind := 6, tb := s, nm := emp, cols := [], names := [], rows := [], items := [], src := [], wh := wl, group := [], order := [], limit := -1, sets := [], hash := false })).map .p) (by simp [nleC, smC, nilSl, exC, exL, enS, enR, emp, leaf, nilA, List.map_nil, List.map_cons]) (aallE ({ kind := 6, tb := s, nm := emp, cols := [], names := [], rows := [], items := [], src := [], wh := wl, group := [], order := [], limit := -1, sets := [], hash := false }) hbd _)).mono ?_
         rintro _ _ ⟨rfl, xs, rfl, hxl, hxo⟩
         simp only [↓wBA, tPa, convA, ZA, reduceIte, reduceCtorEq, ZB, ZC, ZD, ZE, ZF, ZG, ZH, ZI, ZJ, ZK]
         refine awp_loopS (X := { i : Nat // i ≤ xs.length }) (fun i => [.any, .any, .mp 0 14 0 0, .any, .any, .any, .any, .mp 2 14 0 0, .p (.sl 8 (exL xs)), intV .i64 (i.1 : Nat), .any, .any, .any, .any, .any, .any, .any, .any, .any, .any, .any, .any, .any, .any, .any, .any, .any, .any, .any, .any, .any, .any, .any, .any, .any, .any, .any, .any, .any, .any, .any, .any, .any, .any, .any, .any, .any, .any, .any, .any, .any, .any, .any, .any, .any, .any, .any, .any, .any, .any, .any, .any, .any, .any, .any, .any, .any, .any, .any, .any, .any, .any, .any, .any, .any, .any, .any, .any, .any, .any, .any, .any, .any, .any, .any, .any, .any, .any, .any, .any, .any, .any, .any, .any, .any, .any, .any, .any, .any, .any, .any, .any]) (fun i => xs.length - i.1) ⟨0, by omega⟩ ?_ ?_
         ·simp [WeakE, Weak, leL, leT, leM, leG, leA, leC, leS, leO, tokLt, tokLtL, intV, boolV]
         ·rintro ⟨i, hi⟩
          by_cases hlt : i < xs.length
          ·have hdec := dT (i := i) (n := xs.length) (by omega)
           have hi0 := nnI i
           have hw := wI i (by omega)
           have hg := exL_get xs i hlt
           simp only [↓wBA, tPa, convA, ZA, reduceIte, reduceCtorEq, ZB, ZC, ZD, ZE, ZF, ZG, ZH, ZI, ZJ, ZK, exL_len, hdec, hi0, hg, exC_len, List.length_map]
           refine (aheight xs[i] (okEL_iff.1 hxo _ (List.getElem_mem hlt)) _).mono ?_
           rintro _ _ ⟨rfl, rfl⟩
           simp only [↓wBA, tPa, convA, ZA, reduceIte, reduceCtorEq, ZB, ZC, ZD, ZE, ZF, ZG, ZH, ZI, ZJ, ZK]
           refine cond_split (fun hH => ?_) (fun hH => ?_)
           ·skip
            simp only [↓wBA, tPa, convA, ZA, reduceIte, reduceCtorEq, ZB, ZC, ZD, ZE, ZF, ZG, ZH, ZI, ZJ, ZK]
            exact ret_sl (R := ParseR) (r1 := .tup [.agg ((smC sm0).map .p), intV .i64 31]) rfl (by simp [leT, leG, leC, leA, leM, sm0, intV, tokLt, smC, nilSl, exC, exL, enS, enR, emp, leaf, nilA, List.map_nil, List.map_cons]) rfl ⟨sm0, 31, rfl, by simp [sm0], bd0⟩
           ·skip
            simp only [↓wBA, tPa, convA, ZA, reduceIte, reduceCtorEq, ZB, ZC, ZD, ZE, ZF, ZG, ZH, ZI, ZJ, ZK, hw]
            refine ⟨⟨i + 1, by omega⟩, by show xs.length - (i + 1) < xs.length - i; omega, ?_⟩
            simp [WeakE, Weak, leL, leT, leM, leG, leA, leC, leS, leO, tokLt, tokLtL, intV, boolV]
          ·have hdec := dF (i := i) (n := xs.length) (by omega)
           simp only [↓wBA, tPa, convA, ZA, reduceIte, reduceCtorEq, ZB, ZC, ZD, ZE, ZF, ZG, ZH, ZI, ZJ, ZK, exL_len, hdec]
           exact ret_sl (R := ParseR) (r1 := .tup [.agg ((smC ({ kind := 6, tb := s, nm := emp, cols := [], names := [], rows := [], items := [], src := [], wh := wl, group := [], order := [], limit := -1, sets := [], hash := false })).map .p), intV .i64 0]) rfl (by simp [leT, leG, leC, leA, leM, intV, tokLt, tokLtL, smC, nilSl, exC, exL, enS, enR, emp, leaf, nilA, List.map_nil, List.map_cons]) rfl ⟨{ kind := 6, tb := s, nm := emp, cols := [], names := [], rows := [], items := [], src := [], wh := wl, group := [], order := [], limit := -1, sets := [], hash := false }, 0, rfl, by simp, hbd⟩
        ·skip
         simp only [↓wBA, tPa, convA, ZA, reduceIte, reduceCtorEq, ZB, ZC, ZD, ZE, ZF, ZG, ZH, ZI, ZJ, ZK, len_nilT, hA]
         exact ret_sl (R := ParseR) (r1 := .tup [.agg ((smC sm0).map .p), intV .i64 30]) rfl (by simp [leT, leG, leC, leA, leM, sm0, intV, tokLt, smC, nilSl, exC, exL, enS, enR, emp, leaf, nilA, List.map_nil, List.map_cons]) rfl ⟨sm0, 30, rfl, by simp [sm0], bd0⟩
       ·skip
        simp only [↓wBA, tPa, convA, ZA, reduceIte, reduceCtorEq, ZB, ZC, ZD, ZE, ZF, ZG, ZH, ZI, ZJ, ZK]
        exact ret_sl (R := ParseR) (r1 := .tup [.agg ((smC sm0).map .p), intV .i64 30]) rfl (by simp [leT, leG, leC, leA, leM, sm0, intV, tokLt, smC, nilSl, exC, exL, enS, enR, emp, leaf, nilA, List.map_nil, List.map_cons]) rfl ⟨sm0, 30, rfl, by simp [sm0], bd0⟩
     ·skip
      simp only [↓wBA, tPa, convA, ZA, reduceIte, reduceCtorEq, ZB, ZC, ZD, ZE, ZF, ZG, ZH, ZI, ZJ, ZK]
      refine (aupdate ts hts _ (by grind) _ _ 1 rfl).mono ?_
      rintro _ _ ⟨k5, b5, ⟨⟨⟨kind, tb, nm, cols, names, rows, items, src, wh, group, order, limit, sets, hash⟩, rfl, hs1, hs2⟩, hv5⟩, rfl⟩
      simp only [May] at hv5
      simp only [smC, rdO, intV, boolV, List.map_cons, List.map_nil]
      simp only [↓wBA, tPa, convA, ZA, reduceIte, reduceCtorEq, ZB, ZC, ZD, ZE, ZF, ZG, ZH, ZI, ZJ, ZK]
      have hbd : Bd ({ kind := kind, tb := tb, nm := nm, cols := cols, names := names, rows := rows, items := items, src := src, wh := wh, group := group, order := order, limit := limit, sets := sets, hash := hash }) := hs2
      refine (aRsign _ ts hts _ _ _ 1 rfl).mono ?_
      rintro _ _ ⟨k6, b6, ⟨hb6, v, rfl, e6, f6⟩, rfl⟩
      simp only [rdO, intV, boolV]
      have hq6 : v = true ∨ v = false := by cases v <;> simp
      simp only [↓wBA, tPa, convA, ZA, reduceIte, reduceCtorEq, ZB, ZC, ZD, ZE, ZF, ZG, ZH, ZI, ZJ, ZK]
      cases b6
      ·cases hA : (((k6 : Nat) : Int) != (ts.length : Int))
       ·skip
        simp only [↓wBA, tPa, convA, ZA, reduceIte, reduceCtorEq, ZB, ZC, ZD, ZE, ZF, ZG, ZH, ZI, ZJ, ZK, len_nilT, hA]
        refine (ACalls.aggW (m := (smC ({ kind := kind, tb := tb, nm := nm, cols := cols, names := names, rows := rows, items := items, src := src, wh := wh, group := group, order := order, limit := limit, sets := sets, hash := hash })).map .p) (by simp [nleC, smC, nilSl, exC, exL, enS, enR, emp, leaf, nilA, List.map_nil, List.map_cons]) (aallE ({ kind := kind, tb := tb, nm := nm, cols := cols, names := names, rows := rows, items := items, src := src, wh := wh, group := group, order := order, limit := limit, sets := sets, hash := hash }) hbd _)).mono ?_
        rintro _ _ ⟨rfl, xs, rfl, hxl, hxo⟩
        simp only [↓wBA, tPa, convA, ZA, reduceIte, reduceCtorEq, ZB, ZC, ZD, ZE, ZF, ZG, ZH, ZI, ZJ, ZK]
        refine awp_loopS (X := { i : Nat // i ≤ xs.length }) (fun i => [.any, .any, .mp 0 14 0 0, .any, .any, .any, .any, .mp 2 14 0 0, .p (.sl 8 (exL xs)), intV .i64 (i.1 : Nat), .any, .any, .any, .any, .any, .any, .any, .any, .any, .any, .any, .any, .any, .any, .any, .any, .any, .any, .any, .any, .any, .any, .any, .any, .any, .any, .any, .any, .any, .any, .any, .any, .any, .any, .any, .any, .any, .any, .any, .any, .any, .any, .any, .any, .any, .any, .any, .any, .any, .any, .any, .any, .any, .any, .any, .any, .any, .any, .any, .any, .any, .any, .any, .any, .any, .any, .any, .any, .any, .any, .any, .any, .any, .any, .any, .any, .any, .any, .any, .any, .any, .any, .any, .any, .any, .any, .any, .any, .any, .any, .any, .any]) (fun i => xs.length - i.1) ⟨0, by omega⟩ ?_ ?_
        ·simp [WeakE, Weak, leL, leT, leM, leG, leA, leC, leS, leO, tokLt, tokLtL, intV, boolV]
        ·rintro ⟨i, hi⟩
         by_cases hlt : i < xs.length
         ·have hdec := dT (i := i) (n := xs.length) (by omega)
          have hi0 := nnI i
          have hw := wI i (by omega)
          have hg := exL_get xs i hlt
          simp only [↓wBA, tPa, convA, ZA, reduceIte, reduceCtorEq, ZB, ZC, ZD, ZE, ZF, ZG, ZH, ZI, ZJ, ZK, exL_len, hdec, hi0, hg, exC_len, List.length_map]
          refine (aheight xs[i] (okEL_iff.1 hxo _ (List.getElem_mem hlt)) _).mono ?_
          rintro _ _ ⟨rfl, rfl⟩
          simp only [↓wBA, tPa, convA, ZA, reduceIte, reduceCtorEq, ZB, ZC, ZD, ZE, ZF, ZG, ZH, ZI, ZJ, ZK]
          refine cond_split (fun hH => ?_) (fun hH => ?_)
          ·skip
           simp only [↓wBA, tPa, convA, ZA, reduceIte, reduceCtorEq, ZB, ZC, ZD, ZE, ZF, ZG, ZH, ZI, ZJ, ZK]
           exact ret_sl (R := ParseR) (r1 := .tup [.agg ((smC sm0).map .p), intV .i64 31]) rfl (by simp [leT, leG, leC, leA, leM, sm0, intV, tokLt, smC, nilSl, exC, exL, enS, enR, emp, leaf, nilA, List.map_nil, List.map_cons]) rfl ⟨sm0, 31, rfl, by simp [sm0], bd0⟩
          ·skip
           simp only [↓wBA, tPa, convA, ZA, reduceIte, reduceCtorEq, ZB, ZC, ZD, ZE, ZF, ZG, ZH, ZI, ZJ, ZK, hw]
           refine ⟨⟨i + 1, by omega⟩, by show xs.length - (i + 1) < xs.length - i; omega, ?_⟩
           simp [WeakE, Weak, leL, leT, leM, leG, leA, leC, leS, leO, tokLt, tokLtL, intV, boolV]
         ·have hdec := dF (i := i) (n := xs.length) (by omega)
          simp only [↓wBA, tPa, convA, ZA, reduceIte, reduceCtorEq, ZB, ZC, ZD, ZE, ZF, ZG, ZH, ZI, ZJ, ZK, exL_len, hdec]
          exact ret_sl (R := ParseR) (r1 := .tup [.agg ((smC ({ kind := kind, tb := tb, nm := nm, cols := cols, names := names, rows := rows, items := items, src := src, wh := wh, group := group, order := order, limit := limit, sets := sets, hash := hash })).map .p), intV .i64 0]) rfl (by simp [leT, leG, leC, leA, leM, intV, tokLt, tokLtL, smC, nilSl, exC, exL, enS, enR, emp, leaf, nilA, List.map_nil, List.map_cons]) rfl ⟨{ kind := kind, tb := tb, nm := nm, cols := cols, names := names, rows := rows, items := items, src := src, wh := wh, group := group, order := order, limit := limit, sets := sets, hash := hash }, 0, rfl, (fun h5 => ⟨(hs1 h5).1, (hs1 h5).2.resolve_left (by grind)⟩), hbd⟩
       ·skip
        simp only [↓wBA, tPa, convA, ZA, reduceIte, reduceCtorEq, ZB, ZC, ZD, ZE, ZF, ZG, ZH, ZI, ZJ, ZK, len_nilT, hA]
        exact ret_sl (R := ParseR) (r1 := .tup [.agg ((smC sm0).map .p), intV .i64 30]) rfl (by simp [leT, leG, leC, leA, leM, sm0, intV, tokLt, smC, nilSl, exC, exL, enS, enR, emp, leaf, nilA, List.map_nil, List.map_cons]) rfl ⟨sm0, 30, rfl, by simp [sm0], bd0⟩
      ·skip
       simp only [↓wBA, tPa, convA, ZA, reduceIte, reduceCtorEq, ZB, ZC, ZD, ZE, ZF, ZG, ZH, ZI, ZJ, ZK]
       exact ret_sl (R := ParseR) (r1 := .tup [.agg ((smC sm0).map .p), intV .i64 30]) rfl (by simp [leT, leG, leC, leA, leM, sm0, intV, tokLt, smC, nilSl, exC, exL, enS, enR, emp, leaf, nilA, List.map_nil, List.map_cons]) rfl ⟨sm0, 30, rfl, by simp [sm0], bd0⟩
    ·skip
     simp only [↓wBA, tPa, convA, ZA, reduceIte, reduceCtorEq, ZB, ZC, ZD, ZE, ZF, ZG, ZH, ZI, ZJ, ZK]
     refine (aquery ts hts _ (by grind) _ _ 1 rfl).mono ?_
     rintro _ _ ⟨k4, b4, ⟨⟨⟨kind, tb, nm, cols, names, rows, items, src, wh, group, order, limit, sets, hash⟩, rfl, hs1, hs2⟩, hv4⟩, rfl⟩
     simp only [May] at hv4
     simp only [smC, rdO, intV, boolV, List.map_cons, List.map_nil]
     simp only [↓wBA, tPa, convA, ZA, reduceIte, reduceCtorEq, ZB, ZC, ZD, ZE, ZF, ZG, ZH, ZI, ZJ, ZK]
     have hbd : Bd ({ kind := kind, tb := tb, nm := nm, cols := cols, names := names, rows := rows, items := items, src := src, wh := wh, group := group, order := order, limit := limit, sets := sets, hash := hash }) := hs2
     refine (aRsign _ ts hts _ _ _ 1 rfl).mono ?_
     rintro _ _ ⟨k5, b5, ⟨hb5, v, rfl, e5, f5⟩, rfl⟩
     simp only [rdO, intV, boolV]
     have hq5 : v = true ∨ v = false := by cases v <;> simp
     simp only [↓wBA, tPa, convA, ZA, reduceIte, reduceCtorEq, ZB, ZC, ZD, ZE, ZF, ZG, ZH, ZI, ZJ, ZK]
     cases b5
     ·cases hA : (((k5 : Nat) : Int) != (ts.length : Int))
      ·skip
       simp only [↓wBA, tPa, convA, ZA, reduceIte, reduceCtorEq, ZB, ZC, ZD, ZE, ZF, ZG, ZH, ZI, ZJ, ZK, len_nilT, hA]
       refine (ACalls.aggW (m := (smC ({ kind := kind, tb := tb, nm := nm, cols := cols, names := names, rows := rows, items := items, src := src, wh := wh, group := group, order := order, limit := limit, sets := sets, hash := hash })).map .p) (by simp [nleC, smC, nilSl, exC, exL, enS, enR, emp, leaf, nilA, List.map_nil, List.map_cons]) (aallE ({ kind := kind, tb := tb, nm := nm, cols := cols, names := names, rows := rows, items := items, src := src, wh := wh, group := group, order := order, limit := limit, sets := sets, hash := hash }) hbd _)).mono ?_
       rintro _ _ ⟨rfl, xs, rfl, hxl, hxo⟩
       simp only [↓wBA, tPa, convA, ZA, reduceIte, reduceCtorEq, ZB, ZC, ZD, ZE, ZF, ZG, ZH, ZI, ZJ, ZK]
       refine awp_loopS (X := { i : Nat // i ≤ xs.length }) (fun i => [.any, .any, .mp 0 14 0 0, .any, .any, .any, .any, .mp 2 14 0 0, .p (.sl 8 (exL xs)), intV .i64 (i.1 : Nat), .any, .any, .any, .any, .any, .any, .any, .any, .any, .any, .any, .any, .any, .any, .any, .any, .any, .any, .any, .any, .any, .any, .any, .any, .any, .any, .any, .any, .any, .any, .any, .any, .any, .any, .any, .any, .any, .any, .any, .any, .any, .any, .any, .any, .any, .any, .any, .any, .any, .any, .any, .any, .any, .any, .any, .any, .any, .any, .any, .any, .any, .any, .any, .any, .any, .any, .any, .any, .any, .any, .any, .any, .any, .any, .any, .any, .any, .any, .any, .any, .any, .any, .any, .any, .any, .any, .any, .any, .any, .any, .any, .any]) (fun i => xs.length - i.1) ⟨0, by omega⟩ ?_ ?_
       ·simp [WeakE, Weak, leL, leT, leM, leG, leA, leC, leS, leO, tokLt, tokLtL, intV, boolV]
       ·rintro ⟨i, hi⟩
        by_cases hlt : i < xs.length
        ·have hdec := dT (i := i) (n := xs.length) (by omega)
         have hi0 := nnI i
         have hw := wI i (by omega)
         have hg := exL_get xs i hlt
         simp only [↓wBA, tPa, convA, ZA, reduceIte, reduceCtorEq, ZB, ZC, ZD, ZE, ZF, ZG, ZH, ZI, ZJ, ZK, exL_len, hdec, hi0, hg, exC_len, List.length_map]
         refine (aheight xs[i] (okEL_iff.1 hxo _ (List.getElem_mem hlt)) _).mono ?_
         rintro _ _ ⟨rfl, rfl⟩
         simp only [↓wBA, tPa, convA, ZA, reduceIte, reduceCtorEq, ZB, ZC, ZD, ZE, ZF, ZG, ZH, ZI, ZJ, ZK]
         refine cond_split (fun hH => ?_) (fun hH => ?_)
         ·skip
          simp only [↓wBA, tPa, convA, ZA, reduceIte, reduceCtorEq, ZB, ZC, ZD, ZE, ZF, ZG, ZH, ZI, ZJ, ZK]
          exact ret_sl (R := ParseR) (r1 := .tup [.agg ((smC sm0).map .p), intV .i64 31]) rfl (by simp [leT, leG, leC, leA, leM, sm0, intV, tokLt, smC, nilSl, exC, exL, enS, enR, emp, leaf, nilA, List.map_nil, List.map_cons]) rfl ⟨sm0, 31, rfl, by simp [sm0], bd0⟩
         ·skip
          simp only [↓wBA, tPa, convA, ZA, reduceIte, reduceCtorEq, ZB, ZC, ZD, ZE, ZF, ZG, ZH, ZI, ZJ, ZK, hw]
          refine ⟨⟨i + 1, by omega⟩, by show xs.length - (i + 1) < xs.length - i; omega, ?_⟩
          simp [WeakE, Weak, leL, leT, leM, leG, leA, leC, leS, leO, tokLt, tokLtL, intV, boolV]
        ·have hdec := dF (i := i) (n := xs.length) (by omega)
         simp only [↓wBA, tPa, convA, ZA, reduceIte, reduceCtorEq, ZB, ZC, ZD, ZE, ZF, ZG, ZH, ZI, ZJ, ZK, exL_len, hdec]
         exact ret_sl (R := ParseR) (r1 := .tup [.agg ((smC ({ kind := kind, tb := tb, nm := nm, cols := cols, names := names, rows := rows, items := items, src := src, wh := wh, group := group, order := order, limit := limit, sets := sets, hash := hash })).map .p), intV .i64 0]) rfl (by simp [leT, leG, leC, leA, leM, intV, tokLt, tokLtL, smC, nilSl, exC, exL, enS, enR, emp, leaf, nilA, List.map_nil, List.map_cons]) rfl ⟨{ kind := kind, tb := tb, nm := nm, cols := cols, names := names, rows := rows, items := items, src := src, wh := wh, group := group, order := order, limit := limit, sets := sets, hash := hash }, 0, rfl, (fun h5 => ⟨(hs1 h5).1, (hs1 h5).2.resolve_left (by grind)⟩), hbd⟩
      ·skip
       simp only [↓wBA, tPa, convA, ZA, reduceIte, reduceCtorEq, ZB, ZC, ZD, ZE, ZF, ZG, ZH, ZI, ZJ, ZK, len_nilT, hA]
       exact ret_sl (R := ParseR) (r1 := .tup [.agg ((smC sm0).map .p), intV .i64 30]) rfl (by simp [leT, leG, leC, leA, leM, sm0, intV, tokLt, smC, nilSl, exC, exL, enS, enR, emp, leaf, nilA, List.map_nil, List.map_cons]) rfl ⟨sm0, 30, rfl, by simp [sm0], bd0⟩
     ·skip
      simp only [↓wBA, tPa, convA, ZA, reduceIte, reduceCtorEq, ZB, ZC, ZD, ZE, ZF, ZG, ZH, ZI, ZJ, ZK]
      exact ret_sl (R := ParseR) (r1 := .tup [.agg ((smC sm0).map .p), intV .i64 30]) rfl (by simp [leT, leG, leC, leA, leM, sm0, intV, tokLt, smC, nilSl, exC, exL, enS, enR, emp, leaf, nilA, List.map_nil, List.map_cons]) rfl ⟨sm0, 30, rfl, by simp [sm0], bd0⟩
   ·skip
    simp only [↓wBA, tPa, convA, ZA, reduceIte, reduceCtorEq, ZB, ZC, ZD, ZE, ZF, ZG, ZH, ZI, ZJ, ZK]
    refine (ainsert ts hts _ (by grind) _ _ 1 rfl).mono ?_
    rintro _ _ ⟨k3, b3, ⟨⟨⟨kind, tb, nm, cols, names, rows, items, src, wh, group, order, limit, sets, hash⟩, rfl, hs1, hs2⟩, hv3⟩, rfl⟩
    simp only [May] at hv3
    simp only [smC, rdO, intV, boolV, List.map_cons, List.map_nil]
    simp only [↓wBA, tPa, convA, ZA, reduceIte, reduceCtorEq, ZB, ZC, ZD, ZE, ZF, ZG, ZH, ZI, ZJ, ZK]
    have hbd : Bd ({ kind := kind, tb := tb, nm := nm, cols := cols, names := names, rows := rows, items := items, src := src, wh := wh, group := group, order := order, limit := limit, sets := sets, hash := hash }) := hs2
    refine (aRsign _ ts hts _ _ _ 1 rfl).mono ?_
    rintro _ _ ⟨k4, b4, ⟨hb4, v, rfl, e4, f4⟩, rfl⟩
    simp only [rdO, intV, boolV]
    have hq4 : v = true ∨ v = false := by cases v <;> simp
    simp only [↓wBA, tPa, convA, ZA, reduceIte, reduceCtorEq, ZB, ZC, ZD, ZE, ZF, ZG, ZH, ZI, ZJ, ZK]
    cases b4
    ·cases hA : (((k4 : Nat) : Int) != (ts.length : Int))
     ·skip
      simp only [↓wBA, tPa, convA, ZA, reduceIte, reduceCtorEq, ZB, ZC, ZD, ZE, ZF, ZG, ZH, ZI, ZJ, ZK, len_nilT, hA]
      refine (ACalls.aggW (m := (smC ({ kind := kind, tb := tb, nm := nm, cols := cols, names := names, rows := rows, items := items, src := src, wh := wh, group := group, order := order, limit := limit, sets := sets, hash := hash })).map .p) (by simp [nleC, smC, nilSl, exC, exL, enS, enR, emp, leaf, nilA, List.map_nil, List.map_cons]) (aallE ({ kind := kind, tb := tb, nm := nm, cols := cols, names := names, rows := rows, items := items, src := src, wh := wh, group := group, order := order, limit := limit, sets := sets, hash := hash }) hbd _)).mono ?_
      rintro _ _ ⟨rfl, xs, rfl, hxl, hxo⟩
      simp only [↓wBA, tPa, convA, ZA, reduceIte, reduceCtorEq, ZB, ZC, ZD, ZE, ZF, ZG, ZH, ZI, ZJ, ZK]
      refine awp_loopS (X := { i : Nat // i ≤ xs.length }) (fun i => [.any, .any, .mp 0 14 0 0, .any, .any, .any, .any, .mp 2 14 0 0, .p (.sl 8 (exL xs)), intV .i64 (i.1 : Nat), .any, .any, .any, .any, .any, .any, .any, .any, .any, .any, .any, .any, .any, .any, .any, .any, .any, .any, .any, .any, .any, .any, .any, .any, .any, .any, .any, .any, .any, .any, .any, .any, .any, .any, .any, .any, .any, .any, .any, .any, .any, .any, .any, .any, .any, .any, .any, .any, .any, .any, .any, .any, .any, .any, .any, .any, .any, .any, .any, .any, .any, .any, .any, .any, .any, .any, .any, .any, .any, .any, .any, .any, .any, .any, .any, .any, .any, .any, .any, .any, .any, .any, .any, .any, .any, .any, .any, .any, .any, .any, .any, .any]) (fun i => xs.length - i.1) ⟨0, by omega⟩ ?_ ?_
      ·simp [WeakE, Weak, leL, leT, leM, leG, leA, leC, leS, leO, tokLt, tokLtL, intV, boolV]
      ·rintro ⟨i, hi⟩
       by_cases hlt : i < xs.length
       ·have hdec := dT (i := i) (n := xs.length) (by omega)
        have hi0 := nnI i
        have hw := wI i (by omega)
        have hg := exL_get xs i hlt
        simp only [↓wBA, tPa, convA, ZA, reduceIte, reduceCtorEq, ZB, ZC, ZD, ZE, ZF, ZG, ZH, ZI, ZJ, ZK, exL_len, hdec, hi0, hg, exC_len, List.length_map]
        refine (aheight xs[i] (okEL_iff.1 hxo _ (List.getElem_mem hlt)) _).mono ?_
        rintro _ _ ⟨rfl, rfl⟩
        simp only [↓wBA, tPa, convA, ZA, reduceIte, reduceCtorEq, ZB, ZC, ZD, ZE, ZF, ZG, ZH, ZI, ZJ, ZK]
        refine cond_split (fun hH => ?_) (fun hH => ?_)
        ·skip
         simp only [↓wBA, tPa, convA, ZA, reduceIte, reduceCtorEq, ZB, ZC, ZD, ZE, ZF, ZG, ZH, ZI, ZJ, ZK]
         exact ret_sl (R := ParseR) (r1 := .tup [.agg ((smC sm0).map .p), intV .i64 31]) rfl (by simp [leT, leG, leC, leA, leM, sm0, intV, tokLt, smC, nilSl, exC, exL, enS, enR, emp, leaf, nilA, List.map_nil, List.map_cons]) rfl ⟨sm0, 31, rfl, by simp [sm0], bd0⟩
        ·skip
         simp only [↓wBA, tPa, convA, ZA, reduceIte, reduceCtorEq, ZB, ZC, ZD, ZE, ZF, ZG, ZH, ZI, ZJ, ZK, hw]
         refine ⟨⟨i + 1, by omega⟩, by show xs.length - (i + 1) < xs.length - i; omega, ?_⟩
         simp [WeakE, Weak, leL, leT, leM, leG, leA, leC, leS, leO, tokLt, tokLtL, intV, boolV]
       ·have hdec := dF (i := i) (n := xs.length) (by omega)
        simp only [↓wBA, tPa, convA, ZA, reduceIte, reduceCtorEq, ZB, ZC, ZD, ZE, ZF, ZG, ZH, ZI, ZJ, ZK, exL_len, hdec]
        exact ret_sl (R := ParseR) (r1 := .tup [.agg ((smC ({ kind := kind, tb := tb, nm := nm, cols := cols, names := names, rows := rows, items := items, src := src, wh := wh, group := group, order := order, limit := limit, sets := sets, hash := hash })).map .p), intV .i64 0]) rfl (by simp [leT, leG, leC, leA, leM, intV, tokLt, tokLtL, smC, nilSl, exC, exL, enS, enR, emp, leaf, nilA, List.map_nil, List.map_cons]) rfl ⟨{ kind := kind, tb := tb, nm := nm, cols := cols, names := names, rows := rows, items := items, src := src, wh := wh, group := group, order := order, limit := limit, sets := sets, hash := hash }, 0, rfl, (fun h5 => ⟨(hs1 h5).1, (hs1 h5).2.resolve_left (by grind)⟩), hbd⟩
     ·skip
      simp only [↓wBA, tPa, convA, ZA, reduceIte, reduceCtorEq, ZB, ZC, ZD, ZE, ZF, ZG, ZH, ZI, ZJ, ZK, len_nilT, hA]
      exact ret_sl (R := ParseR) (r1 := .tup [.agg ((smC sm0).map .p), intV .i64 30]) rfl (by simp [leT, leG, leC, leA, leM, sm0, intV, tokLt, smC, nilSl, exC, exL, enS, enR, emp, leaf, nilA, List.map_nil, List.map_cons]) rfl ⟨sm0, 30, rfl, by simp [sm0], bd0⟩
    ·skip
     simp only [↓wBA, tPa, convA, ZA, reduceIte, reduceCtorEq, ZB, ZC, ZD, ZE, ZF, ZG, ZH, ZI, ZJ, ZK]
     exact ret_sl (R := ParseR) (r1 := .tup [.agg ((smC sm0).map .p), intV .i64 30]) rfl (by simp [leT, leG, leC, leA, leM, sm0, intV, tokLt, smC, nilSl, exC, exL, enS, enR, emp, leaf, nilA, List.map_nil, List.map_cons]) rfl ⟨sm0, 30, rfl, by simp [sm0], bd0⟩
  ·skip
   simp only [↓wBA, tPa, convA, ZA, reduceIte, reduceCtorEq, ZB, ZC, ZD, ZE, ZF, ZG, ZH, ZI, ZJ, ZK]
   refine (acreate ts hts _ (by grind) _ _ 1 rfl).mono ?_
   rintro _ _ ⟨k2, b2, ⟨⟨⟨kind, tb, nm, cols, names, rows, items, src, wh, group, order, limit, sets, hash⟩, rfl, hs1, hs2⟩, hv2⟩, rfl⟩
   simp only [May] at hv2
   simp only [smC, rdO, intV, boolV, List.map_cons, List.map_nil]
   simp only [↓wBA, tPa, convA, ZA, reduceIte, reduceCtorEq, ZB, ZC, ZD, ZE, ZF, ZG, ZH, ZI, ZJ, ZK]
   have hbd : Bd ({ kind := kind, tb := tb, nm := nm, cols := cols, names := names, rows := rows, items := items, src := src, wh := wh, group := group, order := order, limit := limit, sets := sets, hash := hash }) := hs2
   refine (aRsign _ ts hts _ _ _ 1 rfl).mono ?_
   rintro _ _ ⟨k3, b3, ⟨hb3, v, rfl, e3, f3⟩, rfl⟩
   simp only [rdO, intV, boolV]
   have hq3 : v = true ∨ v = false := by cases v <;> simp
   simp only [↓wBA, tPa, convA, ZA, reduceIte, reduceCtorEq, ZB, ZC, ZD, ZE, ZF, ZG, ZH, ZI, ZJ, ZK]
   cases b3
   ·cases hA : (((k3 : Nat) : Int) != (ts.length : Int))
    ·skip
     simp only [↓wBA, tPa, convA, ZA, reduceIte, reduceCtorEq, ZB, ZC, ZD, ZE, ZF, ZG, ZH, ZI, ZJ, ZK, len_nilT, hA]
     refine (ACalls.aggW (m := (smC ({ kind := kind, tb := tb, nm := nm, cols := cols, names := names, rows := rows, items := items, src := src, wh := wh, group := group, order := order, limit := limit, sets := sets, hash := hash })).map .p) (by simp [nleC, smC, nilSl, exC, exL, enS, enR, emp, leaf, nilA, List.map_nil, List.map_cons]) (aallE ({ kind := kind, tb := tb, nm := nm, cols := cols, names := names, rows := rows, items := items, src := src, wh := wh, group := group, order := order, limit := limit, sets := sets, hash := hash }) hbd _)).mono ?_
     rintro _ _ ⟨rfl, xs, rfl, hxl, hxo⟩
     simp only [↓wBA, tPa, convA, ZA, reduceIte, reduceCtorEq, ZB, ZC, ZD, ZE, ZF, ZG, ZH, ZI, ZJ, ZK]
     refine awp_loopS (X := { i : Nat // i ≤ xs.length }) (fun i => [.any, .any, .mp 0 14 0 0, .any, .any, .any, .any, .mp 2 14 0 0, .p (.sl 8 (exL xs)), intV .i64 (i.1 : Nat), .any, .any, .any, .any, .any, .any, .any, .any, .any, .any, .any, .any, .any, .any, .any, .any, .any, .any, .any, .any, .any, .any, .any, .any, .any, .any, .any, .any, .any, .any, .any, .any, .any, .any, .any, .any, .any, .any, .any, .any, .any, .any, .any, .any, .any, .any, .any, .any, .any, .any, .any, .any, .any, .any, .any, .any, .any, .any, .any, .any, .any, .any, .any, .any, .any, .any, .any, .any, .any, .any, .any, .any, .any, .any, .any, .any, .any, .any, .any, .any, .any, .any, .any, .any, .any, .any, .any, .any, .any, .any, .any, .any]) (fun i => xs.length - i.1) ⟨0, by omega⟩ ?_ ?_
     ·simp [WeakE, Weak, leL, leT, leM, leG, leA, leC, leS, leO, tokLt, tokLtL, intV, boolV]
     ·rintro ⟨i, hi⟩
      by_cases hlt : i < xs.length
      ·have hdec := dT (i := i) (n := xs.length) (by omega)
       have hi0 := nnI i
       have hw := wI i (by omega)
       have hg := exL_get xs i hlt
       simp only [↓wBA, tPa, convA, ZA, reduceIte, reduceCtorEq, ZB, ZC, ZD, ZE, ZF, ZG, ZH, ZI, ZJ, ZK, exL_len, hdec, hi0, hg, exC_len, List.length_map]
       refine (aheight xs[i] (okEL_iff.1 hxo _ (List.getElem_mem hlt)) _).mono ?_
       rintro _ _ ⟨rfl, rfl⟩
       simp only [↓wBA, tPa, convA, ZA, reduceIte, reduceCtorEq, ZB, ZC, ZD, ZE, ZF, ZG, ZH, ZI, ZJ, ZK]
       refine cond_split (fun hH => ?_) (fun hH => ?_)
       ·skip
        simp only [↓wBA, tPa, convA, ZA, reduceIte, reduceCtorEq, ZB, ZC, ZD, ZE, ZF, ZG, ZH, ZI, ZJ, ZK]
        exact ret_sl (R := ParseR) (r1 := .tup [.agg ((smC sm0).map .p), intV .i64 31]) rfl (by simp [leT, leG, leC, leA, leM, sm0, intV, tokLt, smC, nilSl, exC, exL, enS, enR, emp, leaf, nilA, List.map_nil, List.map_cons]) rfl ⟨sm0, 31, rfl, by simp [sm0], bd0⟩
       ·skip
        simp only [↓wBA, tPa, convA, ZA, reduceIte, reduceCtorEq, ZB, ZC, ZD, ZE, ZF, ZG, ZH, ZI, ZJ, ZK, hw]
        refine ⟨⟨i + 1, by omega⟩, by show xs.length - (i + 1) < xs.length - i; omega, ?_⟩
        simp [WeakE, Weak, leL, leT, leM, leG, leA, leC, leS, leO, tokLt, tokLtL, intV, boolV]
      ·have hdec := dF (i := i) (n := xs.length) (by omega)
       simp only [↓wBA, tPa, convA, ZA, reduceIte, reduceCtorEq, ZB, ZC, ZD, ZE, ZF, ZG, ZH, ZI, ZJ, ZK, exL_len, hdec]
       exact ret_sl (R := ParseR) (r1 := .tup [.agg ((smC ({ kind := kind, tb := tb, nm := nm, cols := cols, names := names, rows := rows, items := items, src := src, wh := wh, group := group, order := order, limit := limit, sets := sets, hash := hash })).map .p), intV .i64 0]) rfl (by simp [leT, leG, leC, leA, leM, intV, tokLt, tokLtL, smC, nilSl, exC, exL, enS, enR, emp, leaf, nilA, List.map_nil, List.map_cons]) rfl ⟨{ kind := kind, tb := tb, nm := nm, cols := cols, names := names, rows := rows, items := items, src := src, wh := wh, group := group, order := order, limit := limit, sets := sets, hash := hash }, 0, rfl, (fun h5 => ⟨(hs1 h5).1, (hs1 h5).2.resolve_left (by grind)⟩), hbd⟩
    ·skip
     simp only [↓wBA, tPa, convA, ZA, reduceIte, reduceCtorEq, ZB, ZC, ZD, ZE, ZF, ZG, ZH, ZI, ZJ, ZK, len_nilT, hA]
     exact ret_sl (R := ParseR) (r1 := .tup [.agg ((smC sm0).map .p), intV .i64 30]) rfl (by simp [leT, leG, leC, leA, leM, sm0, intV, tokLt, smC, nilSl, exC, exL, enS, enR, emp, leaf, nilA, List.map_nil, List.map_cons]) rfl ⟨sm0, 30, rfl, by simp [sm0], bd0⟩
   ·skip
    simp only [↓wBA, tPa, convA, ZA, reduceIte, reduceCtorEq, ZB, ZC, ZD, ZE, ZF, ZG, ZH, ZI, ZJ, ZK]
    exact ret_sl (R := ParseR) (r1 := .tup [.agg ((smC sm0).map .p), intV .i64 30]) rfl (by simp [leT, leG, leC, leA, leM, sm0, intV, tokLt, smC, nilSl, exC, exL, enS, enR, emp, leaf, nilA, List.map_nil, List.map_cons]) rfl ⟨sm0, 30, rfl, by simp [sm0], bd0⟩
 ·skip
  simp only [↓wBA, tPa, convA, ZA, reduceIte, reduceCtorEq, ZB, ZC, ZD, ZE, ZF, ZG, ZH, ZI, ZJ, ZK, hE]
  exact ret_sl (R := ParseR) (r1 := .tup [.agg ((smC sm0).map .p), intV .i64 e]) rfl (by simp [leT, leG, leC, leA, leM, sm0, intV, tokLt, smC, nilSl, exC, exL, enS, enR, emp, leaf, nilA, List.map_nil, List.map_cons]) rfl ⟨sm0, e, rfl, by simp [sm0], bd0⟩
end Go.Proofs.Ytcnkmandddfdmaa
