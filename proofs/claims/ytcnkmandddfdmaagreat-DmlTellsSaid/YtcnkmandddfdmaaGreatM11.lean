/- Expressions as trees, and their cells. The reference's lexer on the abstract machine: it ends, and answers tokens. The reference's lexer, on: numbers. The reference's lexer, on: signs, quoted texts. The reference's lexer, on: words. The reference's lexer: it ends, and answers tokens. A reader of tokens, as an object of the abstract machine: contracts of its methods at any state. -/
import Derived.Test.YtcnkmandddfdmaaGreatM08
import Derived.Test.YtcnkmandddfdmaaGreatM09
set_option linter.unusedSimpArgs false
set_option linter.unusedVariables false
set_option linter.defProp false
set_option maxRecDepth 100000
set_option maxHeartbeats 32000000
namespace Go.Proofs.YtcnkmandddfdmaaGreat
open Go.RowKit
theorem awp_loopS {P : Program} {C : Ctx} {fr : List AV} {σ : St} {Q : Exit → List AV → St → Prop} {c : Code} {X : Type} (F : X → List AV) (m : X → Nat) (x0 : X) (h2 : WeakE fr σ (F x0) σ)
 (h3 : ∀ x, AWp P C (aDraw P C) c (F x) σ (roundA (fun x => (F x, σ)) m x Q)) : AWp P C (aDraw P C) (.loop c) fr σ Q :=
 awp_loop' (fun x => (F x, σ)) m x0 (fun _ => Nat.le_refl _) h2 h3
inductive Ex where
 | mk (kind vk vn : Int) (vs tb nm : ByteArray) (slot : Int) (kids : List Ex)
mutual
def exC : Ex → List PV
 | .mk kind vk vn vs tb nm slot kids => [.v (.int .i64 kind), .v (.int .i64 vk), .v (.int .i64 vn), .v (.string vs), .v (.string tb), .v (.string nm), .v (.int .i64 slot), .sl 8 (exL kids)]
def exL : List Ex → List (List PV)
 | [] => []
 | x :: l => exC x :: exL l
end
def exA (x : Ex) : AV := .agg ((exC x).map .p)
def emp : ByteArray := ⟨#[]⟩
def ex0 : Ex := .mk 0 0 0 emp emp emp 0 []
theorem exL_len : ∀ l : List Ex, (exL l).length = l.length
 | [] => rfl
 | x :: l => by simp [exL, exL_len l]
theorem exL_app : ∀ (l m : List Ex), exL (l ++ m) = exL l ++ exL m
 | [], m => rfl
 | x :: l, m => by simp [exL, exL_app l m]
mutual
def okE : Ex → Prop
 | .mk _ _ n _ _ _ _ kids => (kids.length ≤ 140737488351232 ∧ i64R n) ∧ okEL kids
def okEL : List Ex → Prop
 | [] => True
 | x :: l => okE x ∧ okEL l
end
theorem okEL_iff : ∀ {l : List Ex}, okEL l ↔ ∀ x ∈ l, okE x
 | [] => by simp [okEL]
 | x :: l => by simp [okEL, okEL_iff (l := l)]
theorem okE_mk0 {a b c g : Int} {d e f : ByteArray} (hc : i64R c := by decide) : okE (.mk a b c d e f g []) := by simp [okE, okEL, hc]
theorem okE_mk1 {a b c g : Int} {d e f : ByteArray} {x : Ex} (h : okE x) (hc : i64R c := by decide) : okE (.mk a b c d e f g [x]) := by simp [okE, okEL, h, hc]
theorem okE_mk2 {a b c g : Int} {d e f : ByteArray} {x y : Ex} (h : okE x) (h' : okE y) (hc : i64R c := by decide) : okE (.mk a b c d e f g [x, y]) := by simp [okE, okEL, h, h', hc]
theorem okE_ex0 : okE ex0 := by simp [ex0, okE, okEL, show i64R 0 by decide]
theorem okEL_nil : okEL [] := trivial
theorem okEL_one {x : Ex} (h : okE x) : okEL [x] := ⟨h, trivial⟩
theorem okEL_snoc {l : List Ex} {x : Ex} (h : okEL l) (hx : okE x) : okEL (l ++ [x]) := okEL_iff.2 fun y hy => by
 rcases List.mem_append.1 hy with hy | hy
 ·exact okEL_iff.1 h y hy
 ·simp at hy; subst hy; exact hx
theorem mem_snoc {α : Type} {p : α → Prop} {l : List α} {x : α} (h : ∀ y ∈ l, p y) (hx : p x) : ∀ y ∈ l ++ [x], p y := fun y hy => by
 rcases List.mem_append.1 hy with hy | hy
 ·exact h y hy
 ·simp at hy; subst hy; exact hx
theorem exC_len (x : Ex) : (exC x).length = 8 := by cases x; rfl
end Go.Proofs.YtcnkmandddfdmaaGreat
namespace Go.Proofs.YtcnkmandddfdmaaGreat
open Go.RowKit
def tLx := aa wX <| aa T3 <| aa T5 <| aa T9 T145
theorem ba_get (s : ByteArray) (k : Nat) (h : k < s.size) : ∃ b, s[k]? = some b := ⟨s[k], by simp [h]⟩
def classL (n : Int) : Int := if (n ≥ 97 ∧ n ≤ 122) ∨ (n ≥ 65 ∧ n ≤ 90) ∨ n = 95 then 1 else if n ≥ 48 ∧ n ≤ 57 then 2 else if n = 32 ∨ n = 9 ∨ n = 10 ∨ n = 13 then 3 else 0
theorem aclass (c : UInt8) (σ : St) : ACalls Tryz.prog 65 [intV .u8 (c.toNat : Int)] σ fun r σ' => σ' = σ ∧ r = intV .i64 (classL (c.toNat : Int)) := by
 refine ACalls.pure ?_ rfl σ
 refine acalls_of cx_ok dr_ok Tryz.func65 (by kernel_rfl) rfl (nt := 43) (rs := [.tmp 2]) rfl rfl ?_
 simp only [↓wBA, tLx, convA, seval]
 generalize (c.toNat : Int) = n
 repeat' (first
  | refine ret_pure rfl rfl ?_
  | refine want_split ?_ ?_
  | refine cond_split ?_ ?_
  | (intro hb
     try simp only [hb]
     simp only [↓wBA, tLx, convA, seval, hb]
     ))
 all_goals
  simp only [decide_eq_true_eq, decide_eq_false_iff_not, beq_iff_eq, beq_eq_false_iff_ne, ne_eq, Bool.not_true, Bool.not_false] at *
  refine congrArg (intV .i64) (Eq.symm ?_)
  unfold classL
  repeat' split
  all_goals omega
def byteP (b : UInt8) : PV := .v (.int .u8 b.toNat)
def encB (r : List UInt8) : List (List PV) := r.map fun b => [byteP b]
theorem byteOf_byteP (b : UInt8) : byteOfV (.int .u8 b.toNat) = some b := by
 have h : (b.toNat : Int) < 256 := by have := b.toNat_lt; omega
 simp [byteOfV, h]
theorem bytesOf_enc : ∀ r : List UInt8, bytesOfR (encB r) = some r
 | [] => rfl
 | b :: r => by
   have := bytesOf_enc r
   simp only [encB, byteP] at this
   simp only [encB, List.map_cons, bytesOfR, byteP, byteOf_byteP, this]
theorem wrap_u8 (n : Int) : ∃ c : UInt8, IntKind.u8.wrap n = (c.toNat : Int) := by
 refine ⟨UInt8.ofNat (n % 256).toNat, ?_⟩
 rw [UInt8.toNat_ofNat']
 simp [IntKind.wrap, IntKind.signed, IntKind.bits]
 omega
theorem aupper (s : ByteArray) (x y : UInt8) (by_ : Int) (hs : s.size ≤ 140737488351232) (σ : St) : ACalls Tryz.prog 96 [.p (.v (.string s)), intV .u8 (x.toNat : Int), intV .u8 (y.toNat : Int), intV .i64 by_] σ fun r σ' => σ' = σ ∧ ∃ s' : ByteArray, s'.size = s.size ∧ r = .p (.v (.string s')) := by
 refine ACalls.pure ?_ rfl σ
 refine acalls_of cx_ok dr_ok Tryz.func96 (by kernel_rfl) rfl (nt := 36) (rs := [.tmp 8]) rfl rfl ?_
 simp only [↓wBA, tLx, convA, seval]
 refine awp_loop' (X := { bs : List UInt8 // bs.length ≤ s.size }) (fun bs => ([.p (.v (.string s)), intV .u8 (x.toNat : Int), intV .u8 (y.toNat : Int), intV .i64 by_, .any, .any, .any, .any, .any, .nown 0 1 (encB bs.1), intV .i64 (bs.1.length : Nat), .any, .any, .any, .any, .any, .any, .any, .any, .any, .any, .any, .any, .any, .any, .any, .any, .any, .any, .any, .any, .any, .any, .any, .any, .any, .any, .any, .any, .any], [some (.nright 5 (bs.1.length * 1))])) (fun bs => s.size - bs.1.length) ⟨[], by simp⟩ (fun _ => by simp) ?_ ?_
 ·simp [WeakE, Weak, leL, leT, leM, leG, leA, leC, leS, leO, tokLt, tokLtL, intV, nilA, encB]
 ·rintro ⟨bs, hbs⟩
  have hen : (encB bs).length = bs.length := by simp [encB]
  by_cases hlt : bs.length < s.size
  ·have hdec := dT (i := bs.length) (n := s.size) (by omega)
   obtain ⟨b, hb⟩ : ∃ b, s[bs.length]? = some b := ⟨s[bs.length], by simp [hlt]⟩
   simp only [↓wBA, tLx, convA, seval, hdec, hb]
   have hlim1 := tL (n := (bs.length + 1) * 1) (by omega)
   have hlim2 := lM (n := bs.length + 1) (by omega)
   refine want_split (fun h1 => ?_) (fun h1 => ?_)
   ·skip
    simp only [↓wBA, tLx, convA, seval, h1, hb]
    refine cond_split (fun h2 => ?_) (fun h2 => ?_)
    ·obtain ⟨c, hc⟩ := wrap_u8 (IntKind.i64.wrap (IntKind.i64.wrap (b.toNat : Int) + by_))
     simp only [↓wBA, tLx, convA, seval, h2, hc, appendA, srcA, hen, hlim1, hlim2, toPss, toPs, toP, fillS, Nat.reducePow]
     rw [wrap_i64 (n := (bs.length : Int) + 1) (by omega) (by omega)]
     refine ⟨⟨bs ++ [c], by simp; omega⟩, by simp; omega, ?_⟩
     simp [WeakE, Weak, leL, leT, leM, leG, leA, leC, leS, leO, tokLt, tokLtL, intV, encB, byteP]
    ·skip
     simp only [↓wBA, tLx, convA, seval, h2, appendA, srcA, hen, hlim1, hlim2, toPss, toPs, toP, fillS, Nat.reducePow]
     rw [wrap_i64 (n := (bs.length : Int) + 1) (by omega) (by omega)]
     refine ⟨⟨bs ++ [b], by simp; omega⟩, by simp; omega, ?_⟩
     simp [WeakE, Weak, leL, leT, leM, leG, leA, leC, leS, leO, tokLt, tokLtL, intV, encB, byteP]
   ·simp only [Bool.not_true] at h1
    simp only [↓wBA, tLx, convA, seval, h1, appendA, srcA, hen, hlim1, hlim2, toPss, toPs, toP, fillS, Nat.reducePow]
    rw [wrap_i64 (n := (bs.length : Int) + 1) (by omega) (by omega)]
    refine ⟨⟨bs ++ [b], by simp; omega⟩, by simp; omega, ?_⟩
    simp [WeakE, Weak, leL, leT, leM, leG, leA, leC, leS, leO, tokLt, tokLtL, intV, encB, byteP]
  ·have hdec := dF (i := bs.length) (n := s.size) (by omega)
   have hbo := bytesOf_enc bs
   simp only [↓wBA, tLx, convA, seval, hdec, convB, hbo]
   exact ret_pure rfl rfl ⟨⟨bs.toArray⟩, by show bs.toArray.size = s.size; rw [List.size_toArray]; omega, rfl⟩
end Go.Proofs.YtcnkmandddfdmaaGreat
namespace Go.Proofs.YtcnkmandddfdmaaGreat
open Go.RowKit
def tLy := aa wX <| aa T2 <| aa T3 <| aa T5 <| aa T9 T165
theorem anumL (s : ByteArray) (hs : s.size ≤ 140737488351232) (σ : St) : ACalls Tryz.prog 67 [.p (.v (.string s))] σ fun r σ' => σ' = σ ∧ ∃ (n : Int) (b : Bool), r = .tup [intV .i64 (IntKind.i64.wrap n), boolV b] := by
 refine ACalls.pure ?_ rfl σ
 refine acalls_of cx_ok dr_ok Tryz.func67 (by kernel_rfl) rfl (nt := 33) (rs := [.tmp 2, .tmp 3]) rfl rfl ?_
 simp only [↓wBA, tLy, convA, seval]
 refine awp_loop' (X := { q : Nat × Int // q.1 ≤ s.size }) (fun q => ([.p (.v (.string s)), .any, .any, .any, intV .u64 q.1.2, intV .i64 (q.1.1 : Nat), .any, .any, .any, .any, .any, .any, .any, .any, .any, .any, .any, .any, .any, .any, .any, .any, .any, .any, .any, .any, .any, .any, .any, .any, .any, .any, .any, .any], [])) (fun q => s.size - q.1.1) ⟨(0, 0), by simp⟩ (fun _ => by simp) ?_ ?_
 ·simp [WeakE, Weak, leL, leT, leM, leG, leA, leC, leS, leO, tokLt, tokLtL, intV]
 ·rintro ⟨⟨k, u⟩, hk⟩
  simp only at hk
  by_cases hlt : k < s.size
  ·have hdec := dT (i := k) (n := s.size) (by omega)
   obtain ⟨b, hb⟩ : ∃ b, s[k]? = some b := ⟨s[k], by simp [hlt]⟩
   have hw : IntKind.i64.wrap ((k : Int) + 1) = (k : Int) + 1 := wrap_i64 (by omega) (by omega)
   simp only [↓wBA, tLy, convA, seval, hdec, hb]
   repeat' (first
    | exact ret_pure rfl rfl ⟨_, _, rfl⟩
    | exact ret_pure rfl rfl ⟨0, _, rfl⟩
    | refine want_split ?_ ?_
    | refine cond_split ?_ ?_
    | (refine ⟨⟨(k + 1, IntKind.u64.wrap (IntKind.u64.wrap (10 * u) + IntKind.u64.wrap (IntKind.u8.wrap ((b.toNat : Int) - 48)))), by show k + 1 ≤ s.size; omega⟩, by show s.size - (k + 1) < s.size - k; omega, ?_⟩
       simp [WeakE, Weak, leL, leT, leM, leG, leA, leC, leS, leO, tokLt, tokLtL, intV, hw]
       done)
    | (intro h1
       try simp only [h1]
       simp only [↓wBA, tLy, convA, seval, h1, hdec, hb]
       ))
  ·have hdec := dF (i := k) (n := s.size) (by omega)
   simp only [↓wBA, tLy, convA, seval, hdec]
   exact ret_pure rfl rfl ⟨_, _, rfl⟩
end Go.Proofs.YtcnkmandddfdmaaGreat
namespace Go.Proofs.YtcnkmandddfdmaaGreat
open Go.RowKit
open Nat renaming reduceBEq → ZA, reducePow → ZB, reduceAdd → ZC, reduceSub → ZD, reduceMul → ZE, reduceEqDiff → ZF, reduceLeDiff → ZG, reduceLT → ZH
open Int renaming reduceLT → ZI, reduceLE → ZJ, reduceToNat → ZK
def tLz := aa wX <| aa T3 <| aa T5 <| aa T9 T145
def oneS : ByteArray := ⟨#[40, 41, 44, 59, 42, 43, 45, 47, 37, 61, 60, 62, 46]⟩
theorem asign (s : ByteArray) (h0 : 0 < s.size) (σ : St) : ACalls Tryz.prog 69 [.p (.v (.string s))] σ fun r σ' => σ' = σ ∧ ∃ n : Nat, n ≤ 2 ∧ n ≤ s.size ∧ r = intV .i64 (n : Nat) := by
 refine ACalls.pure ?_ rfl σ
 obtain ⟨b0, hb0⟩ : ∃ b, s[0]? = some b := ⟨s[0], by simp [h0]⟩
 obtain ⟨d, hd, hd2⟩ : ∃ d, decide ((s.size : Int) ≥ 2) = d ∧ (d = true → ((2 : Int) ≤ (s.size : Int)) = True) := ⟨_, rfl, fun h => eq_true (of_decide_eq_true h)⟩
 have h22 : (d = true → 2 ≤ s.size) := fun h => by have := of_eq_true (hd2 h); omega
 refine acalls_of cx_ok dr_ok Tryz.func69 (by kernel_rfl) rfl (nt := 34) (rs := [.tmp 2]) rfl rfl ?_
 simp only [↓wBA, tLz, convA, ZA, reduceIte, reduceCtorEq, ZB, ZC, ZD, ZE, ZF, ZG, ZH, ZI, ZJ, ZK, hd]
 cases d
 case' false =>
  simp only [↓wBA, tLz, convA, ZA, reduceIte, reduceCtorEq, ZB, ZC, ZD, ZE, ZF, ZG, ZH, ZI, ZJ, ZK]
 case' true =>
  have hd3 := hd2 rfl
  have h23 := h22 rfl
  simp only [↓wBA, tLz, convA, ZA, reduceIte, reduceCtorEq, ZB, ZC, ZD, ZE, ZF, ZG, ZH, ZI, ZJ, ZK, hd3, sliceA, boundA, intA, binStr, Option.map_none, Int.le_refl, Int.reduceLE, Int.toNat_zero]
  repeat' (first
   | exact ret_pure rfl rfl ⟨2, by omega, h23, rfl⟩
   | refine want_split ?_ ?_
   | refine cond_split ?_ ?_
   | (intro h1
      try simp only [h1]
      simp only [↓wBA, tLz, convA, ZA, reduceIte, reduceCtorEq, ZB, ZC, ZD, ZE, ZF, ZG, ZH, ZI, ZJ, ZK, h1, hd3, sliceA, boundA, intA, binStr, Option.map_none, Int.le_refl, Int.reduceLE, Int.toNat_zero]
      ))
 all_goals
  refine awp_loop' (X := { k : Nat // k ≤ 13 }) (fun k => ([.p (.v (.string s)), .any, .any, .p (.v (.string oneS)), intV .i64 (k.1 : Nat), .any, .any, .any, .any, .any, .any, .any, .any, .any, .any, .any, .any, .any, .any, .any, .any, .any, .any, .any, .any, .any, .any, .any, .any, .any, .any, .any, .any, .any, .any], [])) (fun k => 13 - k.1) ⟨0, by omega⟩ (fun _ => by simp) ?_ ?_
  ·simp [WeakE, Weak, leL, leT, leM, leG, leA, leC, leS, leO, tokLt, tokLtL, intV, oneS]
  ·rintro ⟨k, hk⟩
   try simp only at hk
   have hsz : oneS.size = 13 := rfl
   have hi0 : (Int.toNat 0) = 0 := rfl
   by_cases hlt : k < 13
   ·have hdec : decide ((k : Int) < ((13 : Nat) : Int)) = true := by simp; omega
    obtain ⟨c, hc⟩ : ∃ b, oneS[k]? = some b := ba_get oneS k (by omega)
    have hw1 := wI k (by omega)
    simp only [↓wBA, tLz, convA, ZA, reduceIte, reduceCtorEq, ZB, ZC, ZD, ZE, ZF, ZG, ZH, ZI, ZJ, ZK, hsz, hdec]
    refine ⟨(.det 0 (.det 1 (.det 2 (.det 3 (.det 4 (.det 5 .done)))))), by decide, by kernel_rfl, by kernel_rfl, ?_⟩
    simp only [↓wBA, tLz, convA, ZA, reduceIte, reduceCtorEq, ZB, ZC, ZD, ZE, ZF, ZG, ZH, ZI, ZJ, ZK, Int.le_refl, Int.reduceLE, hi0, hb0, hc]
    refine cond_split (fun h1 => ?_) (fun h1 => ?_)
    ·skip
     simp only [↓wBA, tLz, convA, ZA, reduceIte, reduceCtorEq, ZB, ZC, ZD, ZE, ZF, ZG, ZH, ZI, ZJ, ZK]
     exact ret_pure rfl rfl ⟨1, by omega, by omega, rfl⟩
    ·skip
     simp only [↓wBA, tLz, convA, ZA, reduceIte, reduceCtorEq, ZB, ZC, ZD, ZE, ZF, ZG, ZH, ZI, ZJ, ZK, hw1]
     refine ⟨⟨k + 1, by omega⟩, by show 13 - (k + 1) < 13 - k; omega, ?_⟩
     simp [WeakE, Weak, leL, leT, leM, leG, leA, leC, leS, leO, tokLt, tokLtL, intV]
   ·have hdec : decide ((k : Int) < ((13 : Nat) : Int)) = false := by simp; omega
    simp only [↓wBA, tLz, convA, ZA, reduceIte, reduceCtorEq, ZB, ZC, ZD, ZE, ZF, ZG, ZH, ZI, ZJ, ZK, hsz, hdec]
    exact ret_pure rfl rfl ⟨0, by omega, by omega, rfl⟩
theorem aquoted (s : ByteArray) (at_ : Nat) (hs : s.size ≤ 140737488351232) (h0 : at_ < s.size) (σ : St) : ACalls Tryz.prog 68 [.p (.v (.string s)), intV .i64 (at_ : Nat)] σ fun r σ' => σ' = σ ∧ ∃ (s' : ByteArray) (k : Int), (k = -1 ∨ ∃ j : Nat, k = (j : Nat) ∧ at_ < j ∧ j ≤ s.size) ∧ r = .tup [.p (.v (.string s')), intV .i64 k] := by
 refine ACalls.pure ?_ rfl σ
 have hw0 := wI at_ (by omega)
 refine acalls_of cx_ok dr_ok Tryz.func68 (by kernel_rfl) rfl (nt := 45) (rs := [.tmp 4, .tmp 5]) rfl rfl ?_
 simp only [↓wBA, tLz, convA, ZA, reduceIte, reduceCtorEq, ZB, ZC, ZD, ZE, ZF, ZG, ZH, ZI, ZJ, ZK, hw0]
 refine awp_loop' (X := { q : List UInt8 × Nat // q.1.length ≤ q.2 ∧ at_ < q.2 ∧ q.2 ≤ s.size + 1 }) (fun q => ([.p (.v (.string s)), .any, .any, .any, .any, .any, .nown 0 1 (encB q.1.1), intV .i64 (q.1.2 : Nat), .any, .any, .any, .any, .any, .any, .any, .any, .any, .any, .any, .any, .any, .any, .any, .any, .any, .any, .any, .any, .any, .any, .any, .any, .any, .any, .any, .any, .any, .any, .any, .any, .any, .any, .any, .any, .any, .any, .any], [some (.nright 5 (q.1.1.length * 1))])) (fun q => s.size + 1 - q.1.2) ⟨([], at_ + 1), by simp; omega⟩ (fun _ => by simp) ?_ ?_
 ·simp [WeakE, Weak, leL, leT, leM, leG, leA, leC, leS, leO, tokLt, tokLtL, intV, nilA, encB]
 ·rintro ⟨⟨bs, k⟩, hbs, hk, hk2⟩
  simp only at hbs hk hk2
  have hen : (encB bs).length = bs.length := by simp [encB]
  by_cases hlt : k < s.size
  ·have hdec := dT (i := k) (n := s.size) (by omega)
   obtain ⟨b, hb⟩ : ∃ b, s[k]? = some b := ⟨s[k], by simp [hlt]⟩
   have hw1 := wI k (by omega)
   have hw2 : IntKind.i64.wrap (((k + 1 : Nat) : Int) + 1) = ((k + 1 + 1 : Nat) : Int) := by rw [wrap_i64 (by omega) (by omega)]; simp
   have hlim1 := tL (n := (bs.length + 1) * 1) (by omega)
   have hlim2 := lM (n := bs.length + 1) (by omega)
   have hbo := bytesOf_enc bs
   simp only [↓wBA, tLz, convA, ZA, reduceIte, reduceCtorEq, ZB, ZC, ZD, ZE, ZF, ZG, ZH, ZI, ZJ, ZK, hdec, hb]
   refine cond_split (fun h1 => ?_) (fun h1 => ?_)
   ·skip
    simp only [↓wBA, tLz, convA, ZA, reduceIte, reduceCtorEq, ZB, ZC, ZD, ZE, ZF, ZG, ZH, ZI, ZJ, ZK, hb, appendA, srcA, hen, hlim1, hlim2, toPss, toPs, toP, fillS, Nat.reducePow, hw1]
    refine ⟨⟨(bs ++ [b], k + 1), by simp; omega⟩, by show s.size + 1 - (k + 1) < s.size + 1 - k; omega, ?_⟩
    simp [WeakE, Weak, leL, leT, leM, leG, leA, leC, leS, leO, tokLt, tokLtL, intV, encB, byteP]
   ·by_cases hlt2 : k + 1 < s.size
    ·have hdec2 : decide (((k + 1 : Nat) : Int) < (s.size : Int)) = true := by simp; omega
     obtain ⟨b2, hb2⟩ : ∃ b, s[k + 1]? = some b := ⟨s[k + 1], by simp [hlt2]⟩
     simp only [↓wBA, tLz, convA, ZA, reduceIte, reduceCtorEq, ZB, ZC, ZD, ZE, ZF, ZG, ZH, ZI, ZJ, ZK, hb, hw1, hdec2, hb2]
     refine cond_split (fun h2 => ?_) (fun h2 => ?_)
     ·skip
      simp only [↓wBA, tLz, convA, ZA, reduceIte, reduceCtorEq, ZB, ZC, ZD, ZE, ZF, ZG, ZH, ZI, ZJ, ZK, hb, appendA, srcA, hen, hlim1, hlim2, toPss, toPs, toP, fillS, Nat.reducePow, hw1, hw2]
      refine ⟨⟨(bs ++ [39], k + 1 + 1), by simp; omega⟩, by show s.size + 1 - (k + 1 + 1) < s.size + 1 - k; omega, ?_⟩
      simp [WeakE, Weak, leL, leT, leM, leG, leA, leC, leS, leO, tokLt, tokLtL, intV, encB, byteP]
     ·skip
      simp only [↓wBA, tLz, convA, ZA, reduceIte, reduceCtorEq, ZB, ZC, ZD, ZE, ZF, ZG, ZH, ZI, ZJ, ZK, hw1, convB, hbo]
      exact ret_pure rfl rfl ⟨_, _, .inr ⟨k + 1, rfl, by omega, by omega⟩, rfl⟩
    ·have hdec2 : decide (((k + 1 : Nat) : Int) < (s.size : Int)) = false := by simp; omega
     simp only [↓wBA, tLz, convA, ZA, reduceIte, reduceCtorEq, ZB, ZC, ZD, ZE, ZF, ZG, ZH, ZI, ZJ, ZK, hb, hw1, hdec2, convB, hbo]
     exact ret_pure rfl rfl ⟨_, _, .inr ⟨k + 1, rfl, by omega, by omega⟩, rfl⟩
  ·have hdec := dF (i := k) (n := s.size) (by omega)
   simp only [↓wBA, tLz, convA, ZA, reduceIte, reduceCtorEq, ZB, ZC, ZD, ZE, ZF, ZG, ZH, ZI, ZJ, ZK, hdec]
   exact ret_pure rfl rfl ⟨_, _, .inl rfl, rfl⟩
end Go.Proofs.YtcnkmandddfdmaaGreat
namespace Go.Proofs.YtcnkmandddfdmaaGreat
open Go.RowKit
open Nat renaming reduceBEq → ZA, reducePow → ZB, reduceAdd → ZC, reduceSub → ZD, reduceMul → ZE, reduceEqDiff → ZF, reduceLeDiff → ZG, reduceLT → ZH
open Int renaming reduceLT → ZI, reduceLE → ZJ, reduceToNat → ZK
def tLw := aa wX <| aa T3 <| aa T5 <| aa T9 <| aa T29 T119
def encS (l : List ByteArray) : List (List PV) := l.map fun w => [.v (.string w)]
def tokC (k : Int) (s : ByteArray) (n : Int) : List PV := [.v (.int .i64 k), .v (.string s), .v (.int .i64 n)]
def tokA (k : Int) (s : ByteArray) (n : Int) : AV := .agg [intV .i64 k, .p (.v (.string s)), intV .i64 n]
def WordsR (r : AV) : Prop := ∃ ws : List ByteArray, ws.length = 44 ∧ r = .p (.sl 1 (encS ws))
theorem awords (σ : St) : ACalls Tryz.prog 97 [] σ fun r σ' => σ' = σ ∧ WordsR r := by
 refine ACalls.pureF ?_ rfl σ
 refine acalls_of cx_ok dr_ok Tryz.func97 (by kernel_rfl) rfl (nt := 2) (rs := [.tmp 0]) rfl rfl ?_
 simp only [↓wBA, tLw, convA, ZA, reduceIte, reduceCtorEq, ZB, ZC, ZD, ZE, ZF, ZG, ZH, ZI, ZJ, ZK, toPss, toPs, toP, fillS, Nat.reducePow]
 refine ret_own (R := WordsR) rfl rfl rfl ⟨[_, _, _, _, _, _, _, _, _, _, _, _, _, _, _, _, _, _, _, _, _, _, _, _, _, _, _, _, _, _, _, _, _, _, _, _, _, _, _, _, _, _, _, _], rfl, rfl⟩
theorem aword (s : ByteArray) (hs : s.size ≤ 140737488351232) (σ : St) : ACalls Tryz.prog 66 [.p (.v (.string s))] σ fun r σ' => σ' = σ ∧ ∃ (k : Int) (t : ByteArray) (e : Int), r = .tup [tokA k t 0, intV .i64 e] := by
 refine ACalls.pure ?_ rfl σ
 refine acalls_of cx_ok dr_ok Tryz.func66 (by kernel_rfl) rfl (nt := 30) (rs := [.cell 2 119, .tmp 3]) rfl rfl ?_
 simp only [↓wBA, tLw, convA, ZA, reduceIte, reduceCtorEq, ZB, ZC, ZD, ZE, ZF, ZG, ZH, ZI, ZJ, ZK]
 refine (aupper s 97 122 (-32) hs _).mono ?_
 rintro _ _ ⟨rfl, up, hup, rfl⟩
 simp only [↓wBA, tLw, convA, ZA, reduceIte, reduceCtorEq, ZB, ZC, ZD, ZE, ZF, ZG, ZH, ZI, ZJ, ZK]
 refine (awords _).mono ?_
 rintro _ _ ⟨rfl, ws, hws, rfl⟩
 simp only [↓wBA, tLw, convA, ZA, reduceIte, reduceCtorEq, ZB, ZC, ZD, ZE, ZF, ZG, ZH, ZI, ZJ, ZK]
 have hen : (encS ws).length = 44 := by simp [encS, hws]
 refine awp_loop' (X := { k : Nat // k ≤ 44 }) (fun k => ([.p (.v (.string s)), .any, .mp 0 3 0 0, .any, .p (.v (.string up)), .p (.sl 1 (encS ws)), intV .i64 (k.1 : Nat), .any, .any, .any, .any, .any, .any, .any, .any, .any, .any, .any, .any, .any, .any, .any, .any, .any, .any, .any, .any, .any, .any, .any, .any], [some (.row 3 [[intV .i64 0, .p (.v (.string ⟨#[]⟩)), intV .i64 0]])])) (fun k => 44 - k.1) ⟨0, by omega⟩ (fun _ => by simp) ?_ ?_
 ·simp [WeakE, Weak, leL, leT, leM, leG, leA, leC, leS, leO, tokLt, tokLtL, intV]
 ·rintro ⟨k, hk⟩
  try simp only at hk
  by_cases hlt : k < 44
  ·have hdec : decide ((k : Int) < ((44 : Nat) : Int)) = true := by simp; omega
   obtain ⟨w, hw⟩ : ∃ w, (encS ws)[k]? = some [.v (.string w)] := ⟨ws[k], by simp [encS, hws, hlt]⟩
   have hw1 := wI k (by omega)
   simp only [↓wBA, tLw, convA, ZA, reduceIte, reduceCtorEq, ZB, ZC, ZD, ZE, ZF, ZG, ZH, ZI, ZJ, ZK, hen, hdec, hw, binStr]
   refine cond_split (fun h1 => ?_) (fun h1 => ?_)
   ·skip
    simp only [↓wBA, tLw, convA, ZA, reduceIte, reduceCtorEq, ZB, ZC, ZD, ZE, ZF, ZG, ZH, ZI, ZJ, ZK]
    exact ret_pure rfl rfl ⟨_, _, _, rfl⟩
   ·skip
    simp only [↓wBA, tLw, convA, ZA, reduceIte, reduceCtorEq, ZB, ZC, ZD, ZE, ZF, ZG, ZH, ZI, ZJ, ZK, hw1]
    refine ⟨⟨k + 1, by omega⟩, by show 44 - (k + 1) < 44 - k; omega, ?_⟩
    simp [WeakE, Weak, leL, leT, leM, leG, leA, leC, leS, leO, tokLt, tokLtL, intV]
  ·have hdec : decide ((k : Int) < ((44 : Nat) : Int)) = false := by simp; omega
   simp only [↓wBA, tLw, convA, ZA, reduceIte, reduceCtorEq, ZB, ZC, ZD, ZE, ZF, ZG, ZH, ZI, ZJ, ZK, hen, hdec]
   refine cond_split (fun h1 => ?_) (fun h1 => ?_)
   ·skip
    simp only [↓wBA, tLw, convA, ZA, reduceIte, reduceCtorEq, ZB, ZC, ZD, ZE, ZF, ZG, ZH, ZI, ZJ, ZK]
    exact ret_pure rfl rfl ⟨_, _, _, rfl⟩
   ·skip
    simp only [↓wBA, tLw, convA, ZA, reduceIte, reduceCtorEq, ZB, ZC, ZD, ZE, ZF, ZG, ZH, ZI, ZJ, ZK]
    refine (aupper s 65 90 32 hs _).mono ?_
    rintro _ _ ⟨rfl, lo, hlo, rfl⟩
    simp only [↓wBA, tLw, convA, ZA, reduceIte, reduceCtorEq, ZB, ZC, ZD, ZE, ZF, ZG, ZH, ZI, ZJ, ZK]
    exact ret_pure rfl rfl ⟨_, _, _, rfl⟩
end Go.Proofs.YtcnkmandddfdmaaGreat
namespace Go.Proofs.YtcnkmandddfdmaaGreat
open Go.RowKit
open Nat renaming reduceBEq → ZA, reducePow → ZB, reduceAdd → ZC, reduceSub → ZD, reduceMul → ZE, reduceEqDiff → ZF, reduceLeDiff → ZG, reduceLT → ZH
open Int renaming reduceLT → ZI, reduceLE → ZJ, reduceToNat → ZK
def tLa := aa wX <| aa T3 <| aa T4 <| aa T5 <| aa T9 <| aa T39 <| aa T85 T119
abbrev Tok := Int × ByteArray × Int
def encT (l : List Tok) : List (List PV) := l.map fun t => tokC t.1 t.2.1 (IntKind.i64.wrap t.2.2)
theorem encT_len (l : List Tok) : (encT l).length = l.length := by simp [encT]
theorem ext_size (s : ByteArray) (i j : Nat) (h : j ≤ s.size) : (s.extract i j).size = j - i := by simp [ByteArray.size_extract]; omega
theorem slice_ij {C : Ctx} {T : Nat} (hT : C.kind T = some .str) (s : ByteArray) (i j : Nat) (hij : i ≤ j) (hj : j ≤ s.size) :
 sliceA C T (.p (.v (.string s))) (some (.p (.v (.int .i64 (i : Int))))) (some (.p (.v (.int .i64 (j : Int))))) = some (.p (.v (.string (s.extract i j)))) := by
 simp [sliceA, hT, boundA, intA, hij, hj]
theorem slice_i {C : Ctx} {T : Nat} (hT : C.kind T = some .str) (s : ByteArray) (i : Nat) (hij : i ≤ s.size) :
 sliceA C T (.p (.v (.string s))) (some (.p (.v (.int .i64 (i : Int))))) none = some (.p (.v (.string (s.extract i s.size)))) := by
 simp [sliceA, hT, boundA, intA, hij]
def AllR (r : AV) : Prop := ∃ (ts : List Tok) (e : Int), ts.length ≤ 2048 ∧ r = .tup [.p (nilSl 3 (encT ts)), intV .i64 e]
theorem aall (s : ByteArray) (σ : St) : ACalls Tryz.prog 36 [.p (.v (.string s))] σ fun r σ' => σ' = σ ∧ AllR r := by
 refine ACalls.pureF ?_ rfl σ
 refine acalls_of cx_ok dr_ok Tryz.func36 (by kernel_rfl) rfl (nt := 155) (rs := [.tmp 2, .tmp 3]) rfl rfl ?_
 by_cases hbig : 2048 < s.size
 ·have hdec : decide ((s.size : Int) > 2048) = true := by simp; omega
  simp only [↓wBA, tLa, convA, ZA, reduceIte, reduceCtorEq, ZB, ZC, ZD, ZE, ZF, ZG, ZH, ZI, ZJ, ZK, hdec]
  exact ret_own (R := AllR) rfl rfl rfl ⟨[], _, by simp, rfl⟩
 ·have hdec : decide ((s.size : Int) > 2048) = false := by simp; omega
  simp only [↓wBA, tLa, convA, ZA, reduceIte, reduceCtorEq, ZB, ZC, ZD, ZE, ZF, ZG, ZH, ZI, ZJ, ZK, hdec]
  refine awp_loop' (X := { q : List Tok × Nat // q.1.length ≤ q.2 ∧ q.2 ≤ s.size }) (fun q => ([.p (.v (.string s)), .any, .any, .any, .nown 0 3 (encT q.1.1), intV .i64 (q.1.2 : Nat), .any, .any, .any, .any, .any, .any, .any, .any, .any, .any, .any, .any, .any, .any, .any, .any, .any, .any, .any, .any, .any, .any, .any, .any, .any, .any, .any, .any, .any, .any, .any, .any, .any, .any, .any, .any, .any, .any, .any, .any, .any, .any, .any, .any, .any, .any, .any, .any, .any, .any, .any, .any, .any, .any, .any, .any, .any, .any, .any, .any, .any, .any, .any, .any, .any, .any, .any, .any, .any, .any, .any, .any, .any, .any, .any, .any, .any, .any, .any, .any, .any, .any, .any, .any, .any, .any, .any, .any, .any, .any, .any, .any, .any, .any, .any, .any, .any, .any, .any, .any, .any, .any, .any, .any, .any, .any, .any, .any, .any, .any, .any, .any, .any, .any, .any, .any, .any, .any, .any, .any, .any, .any, .any, .any, .any, .any, .any, .any, .any, .any, .any, .any, .any, .any, .any, .any, .any, .any, .any, .any, .any, .any, .any, .any, .any, .any, .any, .any, .any, .any], [some (.nright 119 (q.1.1.length * 3))])) (fun q => s.size - q.1.2) ⟨([], 0), by simp⟩ (fun _ => by simp) ?_ ?_
  ·simp [WeakE, Weak, leL, leT, leM, leG, leA, leC, leS, leO, tokLt, tokLtL, intV, nilA, encT]
  ·rintro ⟨⟨ts, k⟩, hts, hk⟩
   simp only at hts hk
   have hen := encT_len ts
   by_cases hlt : k < s.size
   ·have hd1 := dT (i := k) (n := s.size) (by omega)
    obtain ⟨b, hb⟩ := ba_get s k hlt
    have hw1 := wI k (by omega)
    have hlim1 := tL (n := (ts.length + 1) * 40) (by omega)
    have hlim1' := tL (n := (ts.length + 1) * 32) (by omega)
    have hlim2 := lM (n := ts.length + 1) (by omega)
    simp only [↓wBA, tLa, convA, ZA, reduceIte, reduceCtorEq, ZB, ZC, ZD, ZE, ZF, ZG, ZH, ZI, ZJ, ZK, hd1, hb]
    refine (aclass b _).mono ?_
    rintro _ _ ⟨rfl, rfl⟩
    generalize hcl : classL (b.toNat : Int) = c
    simp only [↓wBA, tLa, convA, ZA, reduceIte, reduceCtorEq, ZB, ZC, ZD, ZE, ZF, ZG, ZH, ZI, ZJ, ZK]
    refine cond_split (fun h1 => ?_) (fun h1 => ?_)
    ·skip
     simp only [↓wBA, tLa, convA, ZA, reduceIte, reduceCtorEq, ZB, ZC, ZD, ZE, ZF, ZG, ZH, ZI, ZJ, ZK, hw1]
     refine ⟨⟨(ts, k + 1), by simp; omega⟩, by show s.size - (k + 1) < s.size - k; omega, ?_⟩
     simp [WeakE, Weak, leL, leT, leM, leG, leA, leC, leS, leO, tokLt, tokLtL, intV]
    ·skip
     simp only [↓wBA, tLa, convA, ZA, reduceIte, reduceCtorEq, ZB, ZC, ZD, ZE, ZF, ZG, ZH, ZI, ZJ, ZK]
     refine cond_split (fun h2 => ?_) (fun h2 => ?_)
     ·skip
      simp only [↓wBA, tLa, convA, ZA, reduceIte, reduceCtorEq, ZB, ZC, ZD, ZE, ZF, ZG, ZH, ZI, ZJ, ZK]
      refine awp_loop' (X := { j : Nat // k ≤ j ∧ j ≤ s.size }) (fun j => ([.p (.v (.string s)), .any, .any, .any, .nown 0 3 (encT ts), intV .i64 (j.1 : Nat), .any, intV .i64 (k : Nat), .any, .any, .any, .any, .any, .any, .any, .any, .any, .any, .any, .any, .any, .any, .any, .any, .any, .any, .any, .any, .any, .any, .any, .any, .any, .any, .any, .any, .any, .any, .any, .any, .any, .any, .any, .any, .any, .any, .any, .any, .any, .any, .any, .any, .any, .any, .any, .any, .any, .any, .any, .any, .any, .any, .any, .any, .any, .any, .any, .any, .any, .any, .any, .any, .any, .any, .any, .any, .any, .any, .any, .any, .any, .any, .any, .any, .any, .any, .any, .any, .any, .any, .any, .any, .any, .any, .any, .any, .any, .any, .any, .any, .any, .any, .any, .any, .any, .any, .any, .any, .any, .any, .any, .any, .any, .any, .any, .any, .any, .any, .any, .any, .any, .any, .any, .any, .any, .any, .any, .any, .any, .any, .any, .any, .any, .any, .any, .any, .any, .any, .any, .any, .any, .any, .any, .any, .any, .any, .any, .any, .any, .any, .any, .any, .any, .any, .any, .any], [some (.nright 119 (ts.length * 3))])) (fun j => s.size - j.1) ⟨k, by omega⟩ (fun _ => by simp) ?_ ?_
      ·simp [WeakE, Weak, leL, leT, leM, leG, leA, leC, leS, leO, tokLt, tokLtL, intV]
      ·rintro ⟨j, hj1, hj2⟩
       have hwj := wI j (by omega)
       have hsl := slice_ij (C := cx) (T := 9) ck_9 s k j hj1 hj2
       by_cases hjl : j < s.size
       ·have hd2 := dT (i := j) (n := s.size) (by omega)
        obtain ⟨b2, hb2⟩ := ba_get s j hjl
        simp only [↓wBA, tLa, convA, ZA, reduceIte, reduceCtorEq, ZB, ZC, ZD, ZE, ZF, ZG, ZH, ZI, ZJ, ZK, hd2, hb2]
        refine (aclass b2 _).mono ?_
        rintro _ _ ⟨rfl, rfl⟩
        cases hc1 : (classL (b2.toNat : Int) == 1)
        ·skip
         simp only [↓wBA, tLa, convA, ZA, reduceIte, reduceCtorEq, ZB, ZC, ZD, ZE, ZF, ZG, ZH, ZI, ZJ, ZK, hc1, hb2]
         refine (aclass b2 _).mono ?_
         rintro _ _ ⟨rfl, rfl⟩
         simp only [↓wBA, tLa, convA, ZA, reduceIte, reduceCtorEq, ZB, ZC, ZD, ZE, ZF, ZG, ZH, ZI, ZJ, ZK]
         refine cond_split (fun h3 => ?_) (fun h3 => ?_)
         ·skip
          simp only [↓wBA, tLa, convA, ZA, reduceIte, reduceCtorEq, ZB, ZC, ZD, ZE, ZF, ZG, ZH, ZI, ZJ, ZK, hwj]
          refine ⟨⟨j + 1, by omega⟩, by show s.size - (j + 1) < s.size - j; omega, ?_⟩
          simp [WeakE, Weak, leL, leT, leM, leG, leA, leC, leS, leO, tokLt, tokLtL, intV]
         ·have hkj : k < j := by
           rcases Nat.lt_or_ge k j with h | h
           ·exact h
           ·have : j = k := by omega
            subst this
            rw [hb] at hb2
            simp at hb2; subst hb2
            rw [hcl, h2] at hc1; simp at hc1
          simp only [↓wBA, tLa, convA, ZA, reduceIte, reduceCtorEq, ZB, ZC, ZD, ZE, ZF, ZG, ZH, ZI, ZJ, ZK, hsl]
          refine (aword _ (by rw [ext_size _ _ _ hj2]; omega) _).mono ?_
          rintro _ _ ⟨rfl, k', t', e', rfl⟩
          simp only [tokA, intV]
          simp only [↓wBA, tLa, convA, ZA, reduceIte, reduceCtorEq, ZB, ZC, ZD, ZE, ZF, ZG, ZH, ZI, ZJ, ZK]
          refine cond_split (fun h4 => ?_) (fun h4 => ?_)
          ·skip
           simp only [↓wBA, tLa, convA, ZA, reduceIte, reduceCtorEq, ZB, ZC, ZD, ZE, ZF, ZG, ZH, ZI, ZJ, ZK]
           exact ret_own (R := AllR) rfl rfl rfl ⟨[], _, by simp, rfl⟩
          ·skip
           simp only [↓wBA, tLa, convA, ZA, reduceIte, reduceCtorEq, ZB, ZC, ZD, ZE, ZF, ZG, ZH, ZI, ZJ, ZK, appendA, srcA, hen, hlim1, hlim1', hlim2, toPss, toPs, toP, fillS, Nat.reducePow]
           refine ⟨⟨(ts ++ [(k', t', 0)], j), by simp; omega⟩, by show s.size - j < s.size - k; omega, ?_⟩
           simp [WeakE, Weak, leL, leT, leM, leG, leA, leC, leS, leO, tokLt, tokLtL, intV, encT, tokC, wz0]
        ·skip
         simp only [↓wBA, tLa, convA, ZA, reduceIte, reduceCtorEq, ZB, ZC, ZD, ZE, ZF, ZG, ZH, ZI, ZJ, ZK, hc1, hwj]
         refine ⟨⟨j + 1, by omega⟩, by show s.size - (j + 1) < s.size - j; omega, ?_⟩
         simp [WeakE, Weak, leL, leT, leM, leG, leA, leC, leS, leO, tokLt, tokLtL, intV]
       ·have hd2 := dF (i := j) (n := s.size) (by omega)
        simp only [↓wBA, tLa, convA, ZA, reduceIte, reduceCtorEq, ZB, ZC, ZD, ZE, ZF, ZG, ZH, ZI, ZJ, ZK, hd2, hsl]
        refine (aword _ (by rw [ext_size _ _ _ hj2]; omega) _).mono ?_
        rintro _ _ ⟨rfl, k', t', e', rfl⟩
        simp only [tokA, intV]
        simp only [↓wBA, tLa, convA, ZA, reduceIte, reduceCtorEq, ZB, ZC, ZD, ZE, ZF, ZG, ZH, ZI, ZJ, ZK]
        refine cond_split (fun h4 => ?_) (fun h4 => ?_)
        ·skip
         simp only [↓wBA, tLa, convA, ZA, reduceIte, reduceCtorEq, ZB, ZC, ZD, ZE, ZF, ZG, ZH, ZI, ZJ, ZK]
         exact ret_own (R := AllR) rfl rfl rfl ⟨[], _, by simp, rfl⟩
        ·skip
         simp only [↓wBA, tLa, convA, ZA, reduceIte, reduceCtorEq, ZB, ZC, ZD, ZE, ZF, ZG, ZH, ZI, ZJ, ZK, appendA, srcA, hen, hlim1, hlim1', hlim2, toPss, toPs, toP, fillS, Nat.reducePow]
         refine ⟨⟨(ts ++ [(k', t', 0)], j), by simp; omega⟩, by show s.size - j < s.size - k; omega, ?_⟩
         simp [WeakE, Weak, leL, leT, leM, leG, leA, leC, leS, leO, tokLt, tokLtL, intV, encT, tokC, wz0]
     ·skip
      simp only [↓wBA, tLa, convA, ZA, reduceIte, reduceCtorEq, ZB, ZC, ZD, ZE, ZF, ZG, ZH, ZI, ZJ, ZK]
      refine cond_split (fun h2' => ?_) (fun h2' => ?_)
      ·skip
       simp only [↓wBA, tLa, convA, ZA, reduceIte, reduceCtorEq, ZB, ZC, ZD, ZE, ZF, ZG, ZH, ZI, ZJ, ZK]
       refine awp_loop' (X := { j : Nat // k ≤ j ∧ j ≤ s.size }) (fun j => ([.p (.v (.string s)), .any, .any, .any, .nown 0 3 (encT ts), intV .i64 (j.1 : Nat), .any, intV .i64 (k : Nat), .any, .any, .any, .any, .any, .any, .any, .any, .any, .any, .any, .any, .any, .any, .any, .any, .any, .any, .any, .any, .any, .any, .any, .any, .any, .any, .any, .any, .any, .any, .any, .any, .any, .any, .any, .any, .any, .any, .any, .any, .any, .any, .any, .any, .any, .any, .any, .any, .any, .any, .any, .any, .any, .any, .any, .any, .any, .any, .any, .any, .any, .any, .any, .any, .any, .any, .any, .any, .any, .any, .any, .any, .any, .any, .any, .any, .any, .any, .any, .any, .any, .any, .any, .any, .any, .any, .any, .any, .any, .any, .any, .any, .any, .any, .any, .any, .any, .any, .any, .any, .any, .any, .any, .any, .any, .any, .any, .any, .any, .any, .any, .any, .any, .any, .any, .any, .any, .any, .any, .any, .any, .any, .any, .any, .any, .any, .any, .any, .any, .any, .any, .any, .any, .any, .any, .any, .any, .any, .any, .any, .any, .any, .any, .any, .any, .any, .any, .any], [some (.nright 119 (ts.length * 3))])) (fun j => s.size - j.1) ⟨k, by omega⟩ (fun _ => by simp) ?_ ?_
       ·simp [WeakE, Weak, leL, leT, leM, leG, leA, leC, leS, leO, tokLt, tokLtL, intV]
       ·rintro ⟨j, hj1, hj2⟩
        have hwj := wI j (by omega)
        have hsl := slice_ij (C := cx) (T := 9) ck_9 s k j hj1 hj2
        by_cases hjl : j < s.size
        ·have hd2 := dT (i := j) (n := s.size) (by omega)
         obtain ⟨b2, hb2⟩ := ba_get s j hjl
         simp only [↓wBA, tLa, convA, ZA, reduceIte, reduceCtorEq, ZB, ZC, ZD, ZE, ZF, ZG, ZH, ZI, ZJ, ZK, hd2, hb2]
         refine (aclass b2 _).mono ?_
         rintro _ _ ⟨rfl, rfl⟩
         simp only [↓wBA, tLa, convA, ZA, reduceIte, reduceCtorEq, ZB, ZC, ZD, ZE, ZF, ZG, ZH, ZI, ZJ, ZK]
         refine cond_split (fun h3 => ?_) (fun h3 => ?_)
         ·skip
          simp only [↓wBA, tLa, convA, ZA, reduceIte, reduceCtorEq, ZB, ZC, ZD, ZE, ZF, ZG, ZH, ZI, ZJ, ZK, hwj]
          refine ⟨⟨j + 1, by omega⟩, by show s.size - (j + 1) < s.size - j; omega, ?_⟩
          simp [WeakE, Weak, leL, leT, leM, leG, leA, leC, leS, leO, tokLt, tokLtL, intV]
         ·have hkj : k < j := by
           rcases Nat.lt_or_ge k j with h | h
           ·exact h
           ·have : j = k := by omega
            subst this
            rw [hb] at hb2
            simp at hb2; subst hb2
            rw [hcl, h2'] at h3; simp at h3
          simp only [↓wBA, tLa, convA, ZA, reduceIte, reduceCtorEq, ZB, ZC, ZD, ZE, ZF, ZG, ZH, ZI, ZJ, ZK, hd2, hb2]
          refine (aclass b2 _).mono ?_
          rintro _ _ ⟨rfl, rfl⟩
          simp only [↓wBA, tLa, convA, ZA, reduceIte, reduceCtorEq, ZB, ZC, ZD, ZE, ZF, ZG, ZH, ZI, ZJ, ZK]
          refine cond_split (fun h4 => ?_) (fun h4 => ?_)
          ·skip
           simp only [↓wBA, tLa, convA, ZA, reduceIte, reduceCtorEq, ZB, ZC, ZD, ZE, ZF, ZG, ZH, ZI, ZJ, ZK]
           exact ret_own (R := AllR) rfl rfl rfl ⟨[], _, by simp, rfl⟩
          ·skip
           simp only [↓wBA, tLa, convA, ZA, reduceIte, reduceCtorEq, ZB, ZC, ZD, ZE, ZF, ZG, ZH, ZI, ZJ, ZK, hsl]
           refine (anumL _ (by rw [ext_size _ _ _ hj2]; omega) _).mono ?_
           rintro _ _ ⟨rfl, n', ok', rfl⟩
           simp only [intV, boolV]
           simp only [↓wBA, tLa, convA, ZA, reduceIte, reduceCtorEq, ZB, ZC, ZD, ZE, ZF, ZG, ZH, ZI, ZJ, ZK]
           refine cond_split (fun h5 => ?_) (fun h5 => ?_)
           ·skip
            simp only [↓wBA, tLa, convA, ZA, reduceIte, reduceCtorEq, ZB, ZC, ZD, ZE, ZF, ZG, ZH, ZI, ZJ, ZK]
            exact ret_own (R := AllR) rfl rfl rfl ⟨[], _, by simp, rfl⟩
           ·skip
            simp only [↓wBA, tLa, convA, ZA, reduceIte, reduceCtorEq, ZB, ZC, ZD, ZE, ZF, ZG, ZH, ZI, ZJ, ZK, appendA, srcA, hen, hlim1, hlim1', hlim2, toPss, toPs, toP, fillS, Nat.reducePow]
            refine ⟨⟨(ts ++ [(3, ⟨#[]⟩, n')], j), by simp; omega⟩, by show s.size - j < s.size - k; omega, ?_⟩
            simp [WeakE, Weak, leL, leT, leM, leG, leA, leC, leS, leO, tokLt, tokLtL, intV, encT, tokC, wz0]
        ·have hd2 := dF (i := j) (n := s.size) (by omega)
         simp only [↓wBA, tLa, convA, ZA, reduceIte, reduceCtorEq, ZB, ZC, ZD, ZE, ZF, ZG, ZH, ZI, ZJ, ZK, hd2, hsl]
         refine (anumL _ (by rw [ext_size _ _ _ hj2]; omega) _).mono ?_
         rintro _ _ ⟨rfl, n', ok', rfl⟩
         simp only [intV, boolV]
         simp only [↓wBA, tLa, convA, ZA, reduceIte, reduceCtorEq, ZB, ZC, ZD, ZE, ZF, ZG, ZH, ZI, ZJ, ZK]
         refine cond_split (fun h5 => ?_) (fun h5 => ?_)
         ·skip
          simp only [↓wBA, tLa, convA, ZA, reduceIte, reduceCtorEq, ZB, ZC, ZD, ZE, ZF, ZG, ZH, ZI, ZJ, ZK]
          exact ret_own (R := AllR) rfl rfl rfl ⟨[], _, by simp, rfl⟩
         ·skip
          simp only [↓wBA, tLa, convA, ZA, reduceIte, reduceCtorEq, ZB, ZC, ZD, ZE, ZF, ZG, ZH, ZI, ZJ, ZK, appendA, srcA, hen, hlim1, hlim1', hlim2, toPss, toPs, toP, fillS, Nat.reducePow]
          refine ⟨⟨(ts ++ [(3, ⟨#[]⟩, n')], j), by simp; omega⟩, by show s.size - j < s.size - k; omega, ?_⟩
          simp [WeakE, Weak, leL, leT, leM, leG, leA, leC, leS, leO, tokLt, tokLtL, intV, encT, tokC, wz0]
      ·skip
       simp only [↓wBA, tLa, convA, ZA, reduceIte, reduceCtorEq, ZB, ZC, ZD, ZE, ZF, ZG, ZH, ZI, ZJ, ZK, hb]
       refine cond_split (fun h6 => ?_) (fun h6 => ?_)
       ·skip
        simp only [↓wBA, tLa, convA, ZA, reduceIte, reduceCtorEq, ZB, ZC, ZD, ZE, ZF, ZG, ZH, ZI, ZJ, ZK]
        refine (aquoted s k (by omega) hlt _).mono ?_
        rintro _ _ ⟨rfl, s', q, hq, rfl⟩
        simp only [intV]
        simp only [↓wBA, tLa, convA, ZA, reduceIte, reduceCtorEq, ZB, ZC, ZD, ZE, ZF, ZG, ZH, ZI, ZJ, ZK]
        rcases hq with rfl | ⟨q, rfl, hq1, hq2⟩
        ·skip
         simp only [↓wBA, tLa, convA, ZA, reduceIte, reduceCtorEq, ZB, ZC, ZD, ZE, ZF, ZG, ZH, ZI, ZJ, ZK, Int.reduceLT, Int.reduceNeg, Int.reduceLT]
         exact ret_own (R := AllR) rfl rfl rfl ⟨[], _, by simp, rfl⟩
        ·have hd3 : decide ((q : Int) < 0) = false := by simp
         simp only [↓wBA, tLa, convA, ZA, reduceIte, reduceCtorEq, ZB, ZC, ZD, ZE, ZF, ZG, ZH, ZI, ZJ, ZK, hd3]
         refine cond_split (fun h7 => ?_) (fun h7 => ?_)
         ·skip
          simp only [↓wBA, tLa, convA, ZA, reduceIte, reduceCtorEq, ZB, ZC, ZD, ZE, ZF, ZG, ZH, ZI, ZJ, ZK]
          exact ret_own (R := AllR) rfl rfl rfl ⟨[], _, by simp, rfl⟩
         ·skip
          simp only [↓wBA, tLa, convA, ZA, reduceIte, reduceCtorEq, ZB, ZC, ZD, ZE, ZF, ZG, ZH, ZI, ZJ, ZK, appendA, srcA, hen, hlim1, hlim1', hlim2, toPss, toPs, toP, fillS, Nat.reducePow]
          refine ⟨⟨(ts ++ [(4, s', 0)], q), by simp; omega⟩, by show s.size - q < s.size - k; omega, ?_⟩
          simp [WeakE, Weak, leL, leT, leM, leG, leA, leC, leS, leO, tokLt, tokLtL, intV, encT, tokC, wz0]
       ·have hsl := slice_i (C := cx) (T := 9) ck_9 s k hk
        simp only [↓wBA, tLa, convA, ZA, reduceIte, reduceCtorEq, ZB, ZC, ZD, ZE, ZF, ZG, ZH, ZI, ZJ, ZK, hsl, Option.map_none]
        refine (asign _ (by rw [ext_size _ _ _ (Nat.le_refl _)]; omega) _).mono ?_
        rintro _ _ ⟨rfl, n, hn1, hn2, rfl⟩
        rw [ext_size _ _ _ (Nat.le_refl _)] at hn2
        simp only [intV]
        by_cases hn0 : n = 0
        ·subst hn0
         simp only [↓wBA, tLa, convA, ZA, reduceIte, reduceCtorEq, ZB, ZC, ZD, ZE, ZF, ZG, ZH, ZI, ZJ, ZK, Int.natCast_zero, Int.reduceBEq]
         exact ret_own (R := AllR) rfl rfl rfl ⟨[], _, by simp, rfl⟩
        ·have hd3 : (((n : Nat) : Int) == 0) = false := by simp; omega
         have hwn : IntKind.i64.wrap ((k : Int) + (n : Int)) = ((k + n : Nat) : Int) := by rw [wrap_i64 (by omega) (by omega)]; simp
         have hsl2 := slice_ij (C := cx) (T := 9) ck_9 s k (k + n) (by omega) (by omega)
         simp only [↓wBA, tLa, convA, ZA, reduceIte, reduceCtorEq, ZB, ZC, ZD, ZE, ZF, ZG, ZH, ZI, ZJ, ZK, hd3, hwn, hsl2, appendA, srcA, hen, hlim1, hlim1', hlim2, toPss, toPs, toP, fillS, Nat.reducePow]
         refine ⟨⟨(ts ++ [(5, s.extract k (k + n), 0)], k + n), by simp; omega⟩, by show s.size - (k + n) < s.size - k; omega, ?_⟩
         simp [WeakE, Weak, leL, leT, leM, leG, leA, leC, leS, leO, tokLt, tokLtL, intV, encT, tokC, wz0]
   ·have hd1 := dF (i := k) (n := s.size) (by omega)
    simp only [↓wBA, tLa, convA, ZA, reduceIte, reduceCtorEq, ZB, ZC, ZD, ZE, ZF, ZG, ZH, ZI, ZJ, ZK, hd1]
    exact ret_own (R := AllR) rfl rfl rfl ⟨ts, _, by omega, rfl⟩
end Go.Proofs.YtcnkmandddfdmaaGreat
namespace Go.Proofs.YtcnkmandddfdmaaGreat
open Go.RowKit
def rdO (ts : List Tok) (k : Nat) (b : Bool) : Ob := .row 3 [[.p (nilSl 3 (encT ts)), intV .i64 (k : Nat), boolV b]]
def RCalls (f : FuncId) (args : List AV) (ts : List Tok) (k : Nat) (b : Bool) (R : AV → Nat → Bool → Prop) : Prop :=
 ∀ (σ : St) (t : Nat), σ[t]? = some (some (rdO ts k b)) → ACalls Tryz.prog f (.mp t 3 0 0 :: args) σ fun r σ' => ∃ k' b', R r k' b' ∧ σ' = σ.set t (some (rdO ts k' b'))
def RdPost (ts : List Tok) (R : AV → Nat → Bool → Prop) (r : AV) (σ' : St) : Prop := ∃ k' b', tokLt 0 r = true ∧ R r k' b' ∧ σ'[0]? = some (some (rdO ts k' b'))
theorem rdO_ren (g : Nat → Nat) (ts : List Tok) (k : Nat) (b : Bool) : renOb g (rdO ts k b) = rdO ts k b := by simp [renOb, rdO, renL, renA, intV, boolV]
theorem rdO_tok (n : Nat) (ts : List Tok) (k : Nat) (b : Bool) : tokOb n (rdO ts k b) = true := by simp [tokOb, rdO, tokLtL, tokLt, intV, boolV]
theorem RCalls.of {f : FuncId} {args : List AV} {ts : List Tok} {k : Nat} {b : Bool} {R : AV → Nat → Bool → Prop} (ha : tokLtL 0 args = true)
 (h : ACalls Tryz.prog f (.mp 0 3 0 0 :: args) [some (rdO ts k b)] fun r σ' => RdPost ts R (frzA r) σ') : RCalls f args ts k b R := by
 intro σ t ht
 have h1 := ACalls.frz (R := RdPost ts R) h
 have h2 := ACalls.at h1 [t] σ (by simp) rfl (fun t' s hs => by
  cases t' with
  | zero =>
    simp at hs; subst hs
    exact ⟨rdO ts k b, rfl, rdO_tok _ _ _ _, by rw [rdO_ren]; exact ht⟩
  | succ t' => simp at hs) (by
    simp only [tokLtL, Bool.and_eq_true]
    exact ⟨by simp [tokLt], tokLtL_mono _ _ ha⟩) (fun r s ⟨k', b', h1, h2, h3⟩ => ⟨tokLt_mono _ _ h1, fun t' ob ht' ho => by
     have : t' = 0 := by simp at ht'; omega
     subst this
     unfold St.at at ho
     rw [h3] at ho
     simp at ho; subst ho
     exact rdO_tok _ _ _ _⟩)
 have e1 : renL (fun t' => [t].getD t' 0) (.mp 0 3 0 0 :: args) = .mp t 3 0 0 :: args := by
  simp only [renL, renL_free _ args ha]
  rfl
 rw [e1] at h2
 refine h2.mono ?_
 rintro r σ' ⟨r0, σ0, ⟨k', b', h3, h4, h5⟩, rfl, rfl⟩
 refine ⟨k', b', by rw [renA_free _ _ h3]; exact h4, ?_⟩
 cases σ0 with
 | nil => simp at h5
 | cons o σ0 =>
   simp at h5; subst h5
   simp [setsS, rdO_ren]
theorem ret_rd {C : Ctx} {fr : List AV} {ts : List Tok} {k' : Nat} {b' : Bool} {rest : St} {rs : List ResultVar} {R : AV → Nat → Bool → Prop} {r0 : AV} {e : Exit} (he : e = .ret ∨ e = .normal) (h1 : resA C rs fr (some (rdO ts k' b') :: rest) = some r0) (h2 : tokLt (rest.length + 1) r0 = true) (h3 : tokLt 0 (frzA r0) = true) (h4 : R (frzA r0) k' b') :
 retA C rs 1 (fun r σ' => RdPost ts R (frzA r) σ') e fr (some (rdO ts k' b') :: rest) := by
 refine ⟨he, r0, r0, some (rdO ts k' b') :: List.replicate rest.length none, h1, .inr ⟨⟨.inl (.inl (.inr (.inl ⟨rfl, by simpa using h2⟩))), trivial⟩, ?_⟩, by simp, k', b', h3, h4, rfl⟩
 simp only [leS]
 refine ⟨?_, leS_none _ _ _ rest⟩
 simp [rdO, leO, tokLtL, tokLt, intV, boolV]
def Adv (ts : List Tok) (k : Nat) (b : Bool) (k' : Nat) (b' : Bool) : Prop := k ≤ k' ∧ k' ≤ ts.length ∧ (b' = false → b = false ∧ k < k')
theorem tok_get (ts : List Tok) (k : Nat) (h : k < ts.length) : ∃ t : Tok, i64R t.2.2 ∧ (encT ts)[k]? = some (tokC t.1 t.2.1 t.2.2) := ⟨(ts[k].1, ts[k].2.1, IntKind.i64.wrap ts[k].2.2), i64R_wrap _, by simp [encT, h]⟩
theorem nilT (ts : List Tok) (h : ts ≠ []) : nilSl 3 (encT ts) = .sl 3 (encT ts) := by
 cases ts with
 | nil => exact (h rfl).elim
 | cons t ts => rfl
end Go.Proofs.YtcnkmandddfdmaaGreat
