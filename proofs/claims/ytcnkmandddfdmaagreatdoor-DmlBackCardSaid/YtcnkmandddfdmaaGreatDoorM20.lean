/- The reference's lexer on the abstract machine: it ends, and answers tokens. The reference's lexer, on: numbers. The reference's lexer, on: signs, quoted texts. The reference's lexer, on: words. The reference's lexer: it ends, and answers tokens. What the lexer tells: bytes as lists, the next token. Expressions as trees, and their cells. Values, rows, and what expressions come to over a row, as the program reckons it. Small functions of values and of expressions. Values compared. The finder's methods: what expressions come to. -/
import Derived.Test.YtcnkmandddfdmaaGreatDoorM18
import Derived.Test.YtcnkmandddfdmaaGreatDoorM15
import Derived.Test.YtcnkmandddfdmaaGreatDoorM19
set_option linter.unusedSimpArgs false
set_option linter.unusedVariables false
set_option linter.defProp false
set_option maxRecDepth 100000
set_option maxHeartbeats 32000000
namespace Go.Proofs.YtcnkmandddfdmaaGreatDoor
open Go.RowKit
def tLx := aa wX <| aa T3 <| aa T5 <| aa T9 T92
theorem ba_get (s : ByteArray) (k : Nat) (h : k < s.size) : ∃ b, s[k]? = some b := ⟨s[k], by simp [h]⟩
def classL (n : Int) : Int := if (n ≥ 97 ∧ n ≤ 122) ∨ (n ≥ 65 ∧ n ≤ 90) ∨ n = 95 then 1 else if n ≥ 48 ∧ n ≤ 57 then 2 else if n = 32 ∨ n = 9 ∨ n = 10 ∨ n = 13 then 3 else 0
theorem aclass (c : UInt8) (σ : St) : ACalls Tryz.prog 46 [intV .u8 (c.toNat : Int)] σ fun r σ' => σ' = σ ∧ r = intV .i64 (classL (c.toNat : Int)) := by
 refine ACalls.pure ?_ rfl σ
 refine acalls_of cx_ok dr_ok Tryz.func46 (by kernel_rfl) rfl (nt := 43) (rs := [.tmp 2]) rfl rfl ?_
 simp only [↓wBA, tLx, convA, seval]
 generalize (c.toNat : Int) = n
 repeat' (first
  | refine ret_pure rfl rfl ?_
  | refine want_split ?_ ?_
  | refine cond_split ?_ ?_
  | (intro hb
     try simp only [hb]
     simp only [↓wBA, tLx, convA, seval, hb]
     ))
 all_goals
  simp only [decide_eq_true_eq, decide_eq_false_iff_not, beq_iff_eq, beq_eq_false_iff_ne, ne_eq, Bool.not_true, Bool.not_false] at *
  refine congrArg (intV .i64) (Eq.symm ?_)
  unfold classL
  repeat' split
  all_goals omega
def byteP (b : UInt8) : PV := .v (.int .u8 b.toNat)
def encB (r : List UInt8) : List (List PV) := r.map fun b => [byteP b]
theorem byteOf_byteP (b : UInt8) : byteOfV (.int .u8 b.toNat) = some b := by
 have h : (b.toNat : Int) < 256 := by have := b.toNat_lt; omega
 simp [byteOfV, h]
theorem bytesOf_enc : ∀ r : List UInt8, bytesOfR (encB r) = some r
 | [] => rfl
 | b :: r => by
   have := bytesOf_enc r
   simp only [encB, byteP] at this
   simp only [encB, List.map_cons, bytesOfR, byteP, byteOf_byteP, this]
end Go.Proofs.YtcnkmandddfdmaaGreatDoor
namespace Go.Proofs.YtcnkmandddfdmaaGreatDoor
open Go.RowKit
end Go.Proofs.YtcnkmandddfdmaaGreatDoor
namespace Go.Proofs.YtcnkmandddfdmaaGreatDoor
open Go.RowKit
open Nat renaming reduceBEq → ZA, reducePow → ZB, reduceAdd → ZC, reduceSub → ZD, reduceMul → ZE, reduceEqDiff → ZF, reduceLeDiff → ZG, reduceLT → ZH
open Int renaming reduceLT → ZI, reduceLE → ZJ, reduceToNat → ZK
def oneS : ByteArray := ⟨#[40, 41, 44, 59, 42, 43, 45, 47, 37, 61, 60, 62, 46]⟩
end Go.Proofs.YtcnkmandddfdmaaGreatDoor
namespace Go.Proofs.YtcnkmandddfdmaaGreatDoor
open Go.RowKit
open Nat renaming reduceBEq → ZA, reducePow → ZB, reduceAdd → ZC, reduceSub → ZD, reduceMul → ZE, reduceEqDiff → ZF, reduceLeDiff → ZG, reduceLT → ZH
open Int renaming reduceLT → ZI, reduceLE → ZJ, reduceToNat → ZK
def encS (l : List ByteArray) : List (List PV) := l.map fun w => [.v (.string w)]
def tokC (k : Int) (s : ByteArray) (n : Int) : List PV := [.v (.int .i64 k), .v (.string s), .v (.int .i64 n)]
def tokA (k : Int) (s : ByteArray) (n : Int) : AV := .agg [intV .i64 k, .p (.v (.string s)), intV .i64 n]
end Go.Proofs.YtcnkmandddfdmaaGreatDoor
namespace Go.Proofs.YtcnkmandddfdmaaGreatDoor
open Go.RowKit
open Nat renaming reduceBEq → ZA, reducePow → ZB, reduceAdd → ZC, reduceSub → ZD, reduceMul → ZE, reduceEqDiff → ZF, reduceLeDiff → ZG, reduceLT → ZH
open Int renaming reduceLT → ZI, reduceLE → ZJ, reduceToNat → ZK
abbrev Tok := Int × ByteArray × Int
def encT (l : List Tok) : List (List PV) := l.map fun t => tokC t.1 t.2.1 (IntKind.i64.wrap t.2.2)
theorem encT_len (l : List Tok) : (encT l).length = l.length := by simp [encT]
theorem ext_size (s : ByteArray) (i j : Nat) (h : j ≤ s.size) : (s.extract i j).size = j - i := by simp [ByteArray.size_extract]; omega
theorem slice_ij {C : Ctx} {T : Nat} (hT : C.kind T = some .str) (s : ByteArray) (i j : Nat) (hij : i ≤ j) (hj : j ≤ s.size) :
 sliceA C T (.p (.v (.string s))) (some (.p (.v (.int .i64 (i : Int))))) (some (.p (.v (.int .i64 (j : Int))))) = some (.p (.v (.string (s.extract i j)))) := by
 simp [sliceA, hT, boundA, intA, hij, hj]
theorem slice_i {C : Ctx} {T : Nat} (hT : C.kind T = some .str) (s : ByteArray) (i : Nat) (hij : i ≤ s.size) :
 sliceA C T (.p (.v (.string s))) (some (.p (.v (.int .i64 (i : Int))))) none = some (.p (.v (.string (s.extract i s.size)))) := by
 simp [sliceA, hT, boundA, intA, hij]
end Go.Proofs.YtcnkmandddfdmaaGreatDoor
namespace Go.Proofs.YtcnkmandddfdmaaGreatDoor
open Go.RowKit
def tGx := aa wX <| aa wbu <| aa T3 <| aa T5 <| aa T9 T92
def bl (s : ByteArray) : List UInt8 := s.data.toList
def mkB (l : List UInt8) : ByteArray := ⟨l.toArray⟩
theorem bl_len (s : ByteArray) : (bl s).length = s.size := by simp [bl]
theorem bl_mk (l : List UInt8) : bl (mkB l) = l := by simp [bl, mkB]
theorem mk_bl (s : ByteArray) : mkB (bl s) = s := by simp [bl, mkB]
theorem bl_get (s : ByteArray) (k : Nat) : (bl s)[k]? = s[k]? := by
 by_cases h : k < s.size
 ·have h1 : k < (bl s).length := by rw [bl_len]; exact h
  rw [List.getElem?_eq_getElem h1]
  simp only [h, getElem?_pos]
  simp [bl, ByteArray.getElem_eq_getElem_data]
 ·rw [List.getElem?_eq_none (by rw [bl_len]; omega)]
  simp [h]
def capF (x y : UInt8) (by_ : Int) (c : UInt8) : UInt8 := if decide ((c.toNat : Int) ≥ (x.toNat : Int)) = true ∧ decide ((c.toNat : Int) ≤ (y.toNat : Int)) = true then UInt8.ofNat ((IntKind.i64.wrap (IntKind.i64.wrap (c.toNat : Int) + by_)) % 256).toNat else c
theorem u8_wrap (n : Int) : IntKind.u8.wrap n = ((UInt8.ofNat (n % 256).toNat).toNat : Int) := by
 rw [UInt8.toNat_ofNat']
 simp [IntKind.wrap, IntKind.signed, IntKind.bits]
 omega
theorem encB_len (l : List UInt8) : (encB l).length = l.length := by simp [encB]
theorem encB_snoc (l : List UInt8) (b : UInt8) : encB (l ++ [b]) = encB l ++ [[.v (.int .u8 b.toNat)]] := by simp [encB, byteP]
theorem aupperF (s : ByteArray) (x y : UInt8) (by_ : Int) (hs : s.size ≤ 140737488351232) (σ : St) : ACalls Tryz.prog 81 [.p (.v (.string s)), intV .u8 (x.toNat : Int), intV .u8 (y.toNat : Int), intV .i64 by_] σ fun r σ' => σ' = σ ∧ r = .p (.v (.string (mkB ((bl s).map (capF x y by_))))) := by
 refine ACalls.pureF (R := fun r => r = .p (.v (.string (mkB ((bl s).map (capF x y by_)))))) ?_ rfl σ
 refine acalls_of cx_ok dr_ok Tryz.func81 (by kernel_rfl) rfl (nt := 36) (rs := [.tmp 8]) rfl rfl ?_
 repeat' first | ((with_reducible first | refine cs ?_ ?_ | refine ws ?_ ?_) <;> intro h <;> try simp only [h]) | simp only [↓wBA, tGx, convA, seval]
 refine awp_loopN (s.size) (fun i => [(9, .nown 0 1 (encB (((bl s).take i).map (capF x y by_)))), (10, intV .i64 (i : Nat)), (11, .any), (12, .any), (13, .any), (14, .any), (15, .any), (16, .any), (17, .any), (18, .any), (19, .any), (20, .any), (21, .any), (22, .any), (23, .any), (24, .any), (25, .any), (26, .any), (27, .any), (28, .any), (29, .any), (30, .any), (31, .any), (32, .any), (33, .any), (34, .any), (35, .any), (36, .any), (37, .any)]) (fun i => [(0, .nright 5 (i * 1))]) (fun i => True) ?_ ?_ ?_
 ·trivial
 ·skip
  simp only [wR, Nat.reduceAdd, Nat.reduceLT, reduceIte]
  simp [wW, encB]
 ·intro i hi _
  simp only [wR, Nat.reduceAdd, Nat.reduceLT, reduceIte]
  by_cases hlt : i < s.size
  ·have hdec := dT (i := i) (n := s.size) hlt
   have hi0 := nnI i
   have hic : ((i : Int) < (s.size : Int)) = True := eq_true (by omega)
   have hw := wI i (by omega)
   have hb1 : i < (bl s).length := by rw [bl_len]; exact hlt
   obtain ⟨b, hb⟩ : ∃ b, (bl s)[i] = b := ⟨_, rfl⟩
   have hb2 : s[i]? = some b := by rw [← bl_get, List.getElem?_eq_getElem hb1, hb]
   have hst : ((bl s).take (i + 1)).map (capF x y by_) = ((bl s).take i).map (capF x y by_) ++ [capF x y by_ b] := by rw [List.take_succ_eq_append_getElem hb1, List.map_append, hb]; rfl
   have hen : (encB (((bl s).take i).map (capF x y by_))).length = i := by simp [encB, bl_len]; omega
   have hlim1 := tL (n := (i + 1) * 1) (by omega)
   have hlim2 := lM (n := i + 1) (by omega)
   have hu := u8_wrap (IntKind.i64.wrap (IntKind.i64.wrap (b.toNat : Int) + by_))
   repeat' first | ((with_reducible first | refine cs ?_ ?_ | refine ws ?_ ?_) <;> intro h <;> try simp only [h]) | simp only [↓wBA, tGx, convA, seval, hdec, hi0, hic, hw, hb2, hen, hlim1, hlim2, hu, appendA, srcA]
   all_goals refine ⟨⟨i + 1, by omega, trivial⟩, by show s.size - (i + 1) < s.size - i; omega, ?_⟩
   all_goals simp only [wR, Nat.reduceAdd, Nat.reduceLT, reduceIte, hst, encB_snoc]
   all_goals simp_all [wW, capF]
   all_goals rw [if_neg (by omega)]
  ·have hdec := dF (i := i) (n := s.size) (by omega)
   have ht : (bl s).take i = bl s := List.take_of_length_le (by rw [bl_len]; omega)
   have hbo := bytesOf_enc ((bl s).map (capF x y by_))
   simp only [ht]
   repeat' first | ((with_reducible first | refine cs ?_ ?_ | refine ws ?_ ?_) <;> intro h <;> try simp only [h]) | simp only [↓wBA, tGx, convA, seval, hdec, convB, hbo]
   all_goals refine ret_is (a := _) ?_ rfl rfl
   all_goals simp only [↓wBA, tGx, convA, seval]
   all_goals simp_all [wS, mkB]
end Go.Proofs.YtcnkmandddfdmaaGreatDoor
namespace Go.Proofs.YtcnkmandddfdmaaGreatDoor
open Go.RowKit
theorem awp_loopS {P : Program} {C : Ctx} {fr : List AV} {σ : St} {Q : Exit → List AV → St → Prop} {c : Code} {X : Type} (F : X → List AV) (m : X → Nat) (x0 : X) (h2 : WeakE fr σ (F x0) σ)
 (h3 : ∀ x, AWp P C (aDraw P C) c (F x) σ (roundA (fun x => (F x, σ)) m x Q)) : AWp P C (aDraw P C) (.loop c) fr σ Q :=
 awp_loop' (fun x => (F x, σ)) m x0 (fun _ => Nat.le_refl _) h2 h3
inductive Ex where
 | mk (kind vk vn : Int) (vs tb nm : ByteArray) (slot : Int) (kids : List Ex)
mutual
def exC : Ex → List PV
 | .mk kind vk vn vs tb nm slot kids => [.v (.int .i64 kind), .v (.int .i64 vk), .v (.int .i64 vn), .v (.string vs), .v (.string tb), .v (.string nm), .v (.int .i64 slot), .sl 8 (exL kids)]
def exL : List Ex → List (List PV)
 | [] => []
 | x :: l => exC x :: exL l
end
def exA (x : Ex) : AV := .agg ((exC x).map .p)
def emp : ByteArray := ⟨#[]⟩
def ex0 : Ex := .mk 0 0 0 emp emp emp 0 []
theorem exL_len : ∀ l : List Ex, (exL l).length = l.length
 | [] => rfl
 | x :: l => by simp [exL, exL_len l]
theorem exL_app : ∀ (l m : List Ex), exL (l ++ m) = exL l ++ exL m
 | [], m => rfl
 | x :: l, m => by simp [exL, exL_app l m]
mutual
def okE : Ex → Prop
 | .mk _ _ n _ _ _ _ kids => (kids.length ≤ 140737488351232 ∧ i64R n) ∧ okEL kids
def okEL : List Ex → Prop
 | [] => True
 | x :: l => okE x ∧ okEL l
end
theorem okEL_iff : ∀ {l : List Ex}, okEL l ↔ ∀ x ∈ l, okE x
 | [] => by simp [okEL]
 | x :: l => by simp [okEL, okEL_iff (l := l)]
theorem okE_mk0 {a b c g : Int} {d e f : ByteArray} (hc : i64R c := by decide) : okE (.mk a b c d e f g []) := by simp [okE, okEL, hc]
theorem okE_mk1 {a b c g : Int} {d e f : ByteArray} {x : Ex} (h : okE x) (hc : i64R c := by decide) : okE (.mk a b c d e f g [x]) := by simp [okE, okEL, h, hc]
theorem okE_mk2 {a b c g : Int} {d e f : ByteArray} {x y : Ex} (h : okE x) (h' : okE y) (hc : i64R c := by decide) : okE (.mk a b c d e f g [x, y]) := by simp [okE, okEL, h, h', hc]
theorem okE_ex0 : okE ex0 := by simp [ex0, okE, okEL, show i64R 0 by decide]
theorem okEL_one {x : Ex} (h : okE x) : okEL [x] := ⟨h, trivial⟩
theorem mem_snoc {α : Type} {p : α → Prop} {l : List α} {x : α} (h : ∀ y ∈ l, p y) (hx : p x) : ∀ y ∈ l ++ [x], p y := fun y hy => by
 rcases List.mem_append.1 hy with hy | hy
 ·exact h y hy
 ·simp at hy; subst hy; exact hx
theorem exC_len (x : Ex) : (exC x).length = 8 := by cases x; rfl
end Go.Proofs.YtcnkmandddfdmaaGreatDoor
namespace Go.Proofs.YtcnkmandddfdmaaGreatDoor
open Go.RowKit
abbrev Va := Int × Int × ByteArray
def vaC (v : Va) : List PV := [.v (.int .i64 v.1), .v (.int .i64 v.2.1), .v (.string v.2.2)]
def vaA (v : Va) : AV := .agg ((vaC v).map .p)
def va0 : Va := (0, 0, emp)
def enV (l : List Va) : List (List PV) := l.map vaC
theorem enV_len (l : List Va) : (enV l).length = l.length := by simp [enV]
theorem enV_get (l : List Va) (i : Nat) (h : i < l.length) : (enV l)[i]? = some (vaC l[i]) := by simp [enV, h]
theorem vaC_len (v : Va) : (vaC v).length = 3 := rfl
def enVV (l : List (List Va)) : List (List PV) := l.map fun r => [.sl 3 (enV r)]
theorem enVV_len (l : List (List Va)) : (enVV l).length = l.length := by simp [enVV]
theorem enVV_get (l : List (List Va)) (i : Nat) (h : i < l.length) : (enVV l)[i]? = some [.sl 3 (enV l[i])] := by simp [enVV, h]
def okV (v : Va) : Bool :=
 if v.1 = 0 then decide (v.2.1 = 0) && (v.2.2.toList == emp.toList)
 else if v.1 = 1 then v.2.2.toList == emp.toList
 else if v.1 = 2 then (v.2.1.fdiv 2 == 0) && (v.2.2.toList == emp.toList)
 else (v.1 == 3) && (v.2.1 == 0) && decide ((v.2.2.size : Int) ≤ 64)
def trV (b : Bool) : Va := (2, if b then 1 else 0, emp)
def failV (c : Int) (e : Int) : Va × Int := (va0, if e = 0 then c else e)
def kidsV (k : Int) : Int := if k = 1 ∨ k = 24 ∨ k = 2 then 0 else if k = 3 ∨ k = 4 ∨ k = 18 ∨ k = 19 then 1 else if 5 ≤ k ∧ k ≤ 17 then 2 else -1
def cmpI (a b : Int) : Int := if a < b then -1 else if a > b then 1 else 0
def cmpS (a b : ByteArray) : Int := if Op.bytesLess a.toList b.toList then -1 else if a.toList == b.toList then 0 else 1
def cmpV (a b : Va) : Int := if cmpI a.1 b.1 ≠ 0 then cmpI a.1 b.1 else if cmpI a.2.1 b.2.1 ≠ 0 then cmpI a.2.1 b.2.1 else cmpS a.2.2 b.2.2
def numV (k a b : Int) (e : Int) : Va × Int :=
 let w := IntKind.i64.wrap
 let fin := fun (n : Int) (ok : Bool) => if ok then (((1, n, emp) : Va), e) else failV 35 e
 if k = 5 then fin (w (a + b)) (decide (w (a + b) > a) == decide (b > 0))
 else if k = 6 then fin (w (a - b)) (decide (w (a - b) < a) == decide (b > 0))
 else if k = 7 then fin (w (a * b)) (decide (a = 0) || (w ((w (a * b)).tdiv a) == b && !(decide (a = -1) && decide (b = -9223372036854775808))))
 else if b = 0 then failV 36 e
 else if b = -1 then (if k = 9 then fin 0 true else fin (w (0 - a)) (decide (a ≠ -9223372036854775808)))
 else if k = 9 then fin (a.tmod b) true
 else fin (w (a.tdiv b)) true
def leafV (row : List Va) (k : Int) (v : Va) (s : Int) (e : Int) : Va × Int :=
 if k = 2 then failV 32 e
 else if k = 1 ∧ okV v = true then (v, e)
 else if k = 24 ∧ 0 ≤ s ∧ s < row.length ∧ okV (row.getD s.toNat va0) = true then (row.getD s.toNat va0, e)
 else failV 1 e
def oneV (k : Int) (v : Va) (e : Int) : Va × Int :=
 if k = 18 then (trV (v.1 = 0), e)
 else if k = 19 then (trV (v.1 ≠ 0), e)
 else if v.1 = 0 then (v, e)
 else if k = 4 ∧ v.1 = 2 then (trV (v.2.1 = 0), e)
 else if k = 4 ∨ v.1 ≠ 1 then failV 33 e
 else if v.2.1 = -9223372036854775808 then failV 35 e
 else ((1, IntKind.i64.wrap (0 - v.2.1), emp), e)
def relV (k : Int) (c : Int) : Bool := if k = 10 then c = 0 else if k = 11 then c ≠ 0 else if k = 12 then c < 0 else if k = 13 then c ≤ 0 else if k = 14 then c > 0 else c ≥ 0
def twoV (k : Int) (a b : Va) (e : Int) : Va × Int :=
 if e ≠ 0 then (va0, e)
 else if k ≤ 9 then
  if a.1 > 1 ∨ b.1 > 1 then failV 33 e
  else if a.1 = 0 ∨ b.1 = 0 then (va0, e)
  else numV k a.2.1 b.2.1 e
 else if a.1 = 0 ∨ b.1 = 0 then (va0, e)
 else if a.1 ≠ b.1 then failV 33 e
 else (trV (relV k (cmpV a b)), e)
def someV (v : Va) : Bool := v.1 ≠ 0 ∧ v.1 ≠ 2
def eqV (a b : Va) : Bool := a.1 = b.1 ∧ a.2.1 = b.2.1 ∧ a.2.2.toList = b.2.2.toList
def logA (k : Int) (a : Va) (e : Int) : Option (Va × Int) :=
 if e = 0 ∧ someV a = true then some (failV 33 e)
 else if e ≠ 0 ∨ eqV a (trV (k = 17)) = true then some (a, e)
 else none
def logB (k : Int) (a b : Va) (e : Int) : Va × Int :=
 if e = 0 ∧ someV b = true then failV 33 e
 else if eqV b (trV (k = 17)) = true then (b, e)
 else if a.1 = 0 then (a, e)
 else (b, e)
def findV (row : List Va) : Ex → Int → Va × Int
 | .mk k vk vn vs tb nm s [], e => if kidsV k ≠ 0 then failV 1 e else leafV row k (vk, vn, vs) s e
 | .mk k vk vn vs tb nm s [x], e => if kidsV k ≠ 1 then failV 1 e else oneV k (findV row x e).1 (findV row x e).2
 | .mk k vk vn vs tb nm s [x, y], e =>
   if kidsV k ≠ 2 then failV 1 e
   else if 16 ≤ k then (match logA k (findV row x e).1 (findV row x e).2 with
    | some r => r
    | none => logB k (findV row x e).1 (findV row y (findV row x e).2).1 (findV row y (findV row x e).2).2)
   else twoV k (findV row x e).1 (findV row y (findV row x e).2).1 (findV row y (findV row x e).2).2
 | .mk k vk vn vs tb nm s (_ :: _ :: _ :: _), e => failV 1 e
def evalV (row : List Va) (x : Ex) : Va × Int := if (findV row x 0).2 ≠ 0 then (va0, (findV row x 0).2) else ((findV row x 0).1, 0)
def holdsV (row : List Va) (x : Ex) : Bool × Int :=
 let r := evalV row x
 let e := if r.2 = 0 ∧ r.1.1 ≠ 0 ∧ r.1.1 ≠ 2 then 33 else r.2
 (decide (e = 0) && decide (r.1.1 = 2) && decide (r.1.2.1 = 1), e)
end Go.Proofs.YtcnkmandddfdmaaGreatDoor
namespace Go.Proofs.YtcnkmandddfdmaaGreatDoor
open Go.RowKit
def tVo := aa wX <| aa wbu <| aa T2 <| aa T3 <| aa T9 T41
theorem sh1 : (2 : Int) ^ (min 1 IntKind.i64.bits) = 2 := nr (by decide)
theorem aokV (v : Va) (σ : St) : ACalls Tryz.prog 14 [vaA v] σ fun r s => s = σ ∧ r = boolV (okV v) := by
 refine ACalls.pureF (R := fun r => r = boolV (okV v)) ?_ rfl σ
 obtain ⟨k, n, t⟩ := v
 refine acalls_of cx_ok dr_ok Tryz.func14 (by kernel_rfl) rfl (nt := 44) (rs := [.tmp 2]) rfl rfl ?_
 simp only [vaA, vaC, List.map_cons, List.map_nil]
 repeat' first | ((with_reducible first | refine cs ?_ ?_ | refine ws ?_ ?_) <;> intro h <;> try simp only [h]) | simp only [↓wBA, tVo, convA, seval, binStr, sh1]
 all_goals refine ret_is (a := _) ?_ rfl rfl
 all_goals simp only [↓wBA, tVo, convA, seval]
 all_goals simp_all [wS, okV, emp]
def kidsB (k : Int) : Int := if k = 1 ∨ k = 2 then 0 else if k = 3 ∨ k = 4 ∨ k = 18 ∨ k = 19 then 1 else if 5 ≤ k ∧ k ≤ 17 then 2 else -1
theorem akidsB (k : Int) (σ : St) : ACalls Tryz.prog 88 [intV .i64 k] σ fun r s => s = σ ∧ r = intV .i64 (kidsB k) := by
 refine ACalls.pureF (R := fun r => r = intV .i64 (kidsB k)) ?_ rfl σ
 refine acalls_of cx_ok dr_ok Tryz.func88 (by kernel_rfl) rfl (nt := 23) (rs := [.tmp 2]) rfl rfl ?_
 repeat' first | ((with_reducible first | refine cs ?_ ?_ | refine ws ?_ ?_) <;> intro h <;> try simp only [h]) | simp only [↓wBA, tVo, convA, seval]
 all_goals refine ret_is (a := _) ?_ rfl rfl
 all_goals simp only [↓wBA, tVo, convA, seval]
 all_goals simp_all [wS, kidsB]
 all_goals grind
theorem akidsV (k : Int) (σ : St) : ACalls Tryz.prog 112 [intV .i64 k] σ fun r s => s = σ ∧ r = intV .i64 (kidsV k) := by
 refine ACalls.pureF (R := fun r => r = intV .i64 (kidsV k)) ?_ rfl σ
 refine acalls_of cx_ok dr_ok Tryz.func112 (by kernel_rfl) rfl (nt := 25) (rs := [.tmp 2]) rfl rfl ?_
 repeat' first | ((with_reducible first | refine cs ?_ ?_ | refine ws ?_ ?_) <;> intro h <;> try simp only [h]) | simp only [↓wBA, tVo, convA, seval]
 all_goals refine ret_is (a := _) ?_ rfl rfl
 all_goals simp only [↓wBA, tVo, convA, seval]
 all_goals simp_all [wS, kidsV]
 all_goals grind
def aggB (k : Int) : Bool := decide (20 ≤ k) && decide (k ≤ 23)
theorem aaggB (k : Int) (σ : St) : ACalls Tryz.prog 87 [intV .i64 k] σ fun r s => s = σ ∧ r = boolV (aggB k) := by
 refine ACalls.pureF (R := fun r => r = boolV (aggB k)) ?_ rfl σ
 refine acalls_of cx_ok dr_ok Tryz.func87 (by kernel_rfl) rfl (nt := 8) (rs := [.tmp 2]) rfl rfl ?_
 repeat' first | ((with_reducible first | refine cs ?_ ?_ | refine ws ?_ ?_) <;> intro h <;> try simp only [h]) | simp only [↓wBA, tVo, convA, seval]
 all_goals refine ret_is (a := _) ?_ rfl rfl
 all_goals simp only [↓wBA, tVo, convA, seval]
 all_goals simp_all [wS, aggB]
 all_goals grind
theorem atruth (b : Bool) (σ : St) : ACalls Tryz.prog 128 [boolV b] σ fun r s => s = σ ∧ r = vaA (trV b) := by
 refine ACalls.pureF (R := fun r => r = vaA (trV b)) ?_ rfl σ
 refine acalls_of cx_ok dr_ok Tryz.func128 (by kernel_rfl) rfl (nt := 5) (rs := [.cell 2 41]) rfl rfl ?_
 repeat' first | ((with_reducible first | refine cs ?_ ?_ | refine ws ?_ ?_) <;> intro h <;> try simp only [h]) | simp only [↓wBA, tVo, convA, seval]
 all_goals refine ret_is (a := _) ?_ rfl rfl
 all_goals simp only [↓wBA, tVo, convA, seval]
 all_goals simp_all [wS, vaA, vaC, trV, emp]
end Go.Proofs.YtcnkmandddfdmaaGreatDoor
namespace Go.Proofs.YtcnkmandddfdmaaGreatDoor
open Go.RowKit
def pl131_1Cm : Plan := (.det 0 (.det 1 (.det 2 (.det 3 (.det 5 (.det 6 (.det 7 (.det 8 (.det 10 (.det 11 (.det 12 (.det 13 (.act 4 (.act 9 (.fin 14 (.fin 15 (.fin 16 (.det 17 .done))))))))))))))))))
def tCm := aa wX <| aa wbu <| aa T2 <| aa T3 <| aa T9 <| aa T41 T79
theorem aNaN (k : IntKind) (n : Int) (f : FuncId) (hf : f = 139 ∨ f = 140) (σ : St) : ACalls Tryz.prog f [intV k n] σ fun r s => s = σ ∧ r = boolV false := by
 refine ACalls.pureF (R := fun r => r = boolV false) ?_ rfl σ
 rcases hf with rfl | rfl
 ·skip
  refine acalls_of cx_ok dr_ok Tryz.func139 (by kernel_rfl) rfl (nt := 5) (rs := [.tmp 2]) rfl rfl ?_
  repeat' first | ((with_reducible first | refine cs ?_ ?_ | refine ws ?_ ?_) <;> intro h <;> try simp only [h]) | simp only [↓wBA, tCm, convA, seval]
  all_goals refine ret_is (a := _) ?_ rfl rfl
  all_goals simp only [↓wBA, tCm, convA, seval]
  all_goals simp_all [wS]
 ·skip
  refine acalls_of cx_ok dr_ok Tryz.func140 (by kernel_rfl) rfl (nt := 5) (rs := [.tmp 2]) rfl rfl ?_
  repeat' first | ((with_reducible first | refine cs ?_ ?_ | refine ws ?_ ?_) <;> intro h <;> try simp only [h]) | simp only [↓wBA, tCm, convA, seval]
  all_goals refine ret_is (a := _) ?_ rfl rfl
  all_goals simp only [↓wBA, tCm, convA, seval]
  all_goals simp_all [wS]
theorem aNaNs (s : ByteArray) (σ : St) : ACalls Tryz.prog 141 [.p (.v (.string s))] σ fun r s => s = σ ∧ r = boolV false := by
 refine ACalls.pureF (R := fun r => r = boolV false) ?_ rfl σ
 refine acalls_of cx_ok dr_ok Tryz.func141 (by kernel_rfl) rfl (nt := 5) (rs := [.tmp 2]) rfl rfl ?_
 repeat' first | ((with_reducible first | refine cs ?_ ?_ | refine ws ?_ ?_) <;> intro h <;> try simp only [h]) | simp only [↓wBA, tCm, convA, seval, binStr]
 all_goals refine ret_is (a := _) ?_ rfl rfl
 all_goals simp only [↓wBA, tCm, convA, seval]
 all_goals simp_all [wS]
theorem acmpI (a b : Int) (f : FuncId) (hf : f = 136 ∨ f = 137) (σ : St) : ACalls Tryz.prog f [intV .i64 a, intV .i64 b] σ fun r s => s = σ ∧ r = intV .i64 (cmpI a b) := by
 refine ACalls.pureF (R := fun r => r = intV .i64 (cmpI a b)) ?_ rfl σ
 rcases hf with rfl | rfl
 ·skip
  refine acalls_of cx_ok dr_ok Tryz.func136 (by kernel_rfl) rfl (nt := 18) (rs := [.tmp 4]) rfl rfl ?_
  repeat' first | ((with_reducible first | refine cs ?_ ?_ | refine ws ?_ ?_) <;> intro h <;> try simp only [h]) | simp only [↓wBA, tCm, convA, seval] | ((with_reducible show ACalls _ _ _ _ _); refine (aNaN _ _ _ (.inl rfl) _).eq ?_)
  all_goals refine ret_is (a := _) ?_ rfl rfl
  all_goals simp only [↓wBA, tCm, convA, seval]
  all_goals simp_all [wS, cmpI]
  all_goals grind
 ·skip
  refine acalls_of cx_ok dr_ok Tryz.func137 (by kernel_rfl) rfl (nt := 18) (rs := [.tmp 4]) rfl rfl ?_
  repeat' first | ((with_reducible first | refine cs ?_ ?_ | refine ws ?_ ?_) <;> intro h <;> try simp only [h]) | simp only [↓wBA, tCm, convA, seval] | ((with_reducible show ACalls _ _ _ _ _); refine (aNaN _ _ _ (.inr rfl) _).eq ?_)
  all_goals refine ret_is (a := _) ?_ rfl rfl
  all_goals simp only [↓wBA, tCm, convA, seval]
  all_goals simp_all [wS, cmpI]
  all_goals grind
theorem acmpS (a b : ByteArray) (σ : St) : ACalls Tryz.prog 138 [.p (.v (.string a)), .p (.v (.string b))] σ fun r s => s = σ ∧ r = intV .i64 (cmpS a b) := by
 refine ACalls.pureF (R := fun r => r = intV .i64 (cmpS a b)) ?_ rfl σ
 refine acalls_of cx_ok dr_ok Tryz.func138 (by kernel_rfl) rfl (nt := 18) (rs := [.tmp 4]) rfl rfl ?_
 repeat' first | ((with_reducible first | refine cs ?_ ?_ | refine ws ?_ ?_) <;> intro h <;> try simp only [h]) | simp only [↓wBA, tCm, convA, seval, binStr] | ((with_reducible show ACalls _ _ _ _ _); refine (aNaNs _ _).eq ?_)
 all_goals refine ret_is (a := _) ?_ rfl rfl
 all_goals simp only [↓wBA, tCm, convA, seval]
 all_goals simp_all [wS, cmpS]
 all_goals grind
def orI : List Int → Int
 | [] => 0
 | a :: l => if a ≠ 0 then a else orI l
theorem orI_drop (l : List Int) (i : Nat) (h : i < l.length) : orI (l.drop i) = if l[i] ≠ 0 then l[i] else orI (l.drop (i + 1)) := by
 rw [List.drop_eq_getElem_cons h]; rfl
theorem aor (l : List Int) (hl : l.length ≤ 1000) (σ : St) : ACalls Tryz.prog 135 [.p (.sl 1 (l.map fun n => [.v (.int .i64 n)]))] σ fun r s => s = σ ∧ r = intV .i64 (orI l) := by
 refine ACalls.pureF (R := fun r => r = intV .i64 (orI l)) ?_ rfl σ
 refine acalls_of cx_ok dr_ok Tryz.func135 (by kernel_rfl) rfl (nt := 17) (rs := [.tmp 2]) rfl rfl ?_
 simp only [↓wBA, tCm, convA, seval]
 refine awp_loopN (l.length) (fun i => [(8, intV .i64 (i : Nat)), (2, .any), (5, .any), (9, .any), (10, .any), (11, .any), (12, .any), (13, .any), (14, .any), (15, .any), (16, .any)]) (fun i => []) (fun i => orI (l.drop i) = orI l) ?_ ?_ ?_
 ·rfl
 ·skip
  simp only [wR, Nat.reduceAdd, Nat.reduceLT, reduceIte]
  simp [wW]
 ·intro i hi hI
  simp only [wR, Nat.reduceAdd, Nat.reduceLT, reduceIte]
  by_cases hlt : i < l.length
  ·have hdec := dT (i := i) (n := l.length) (by omega)
   have hi0 := nnI i
   have hw := wI i (by omega)
   have hg : (l.map fun n => [PV.v (.int .i64 n)])[i]? = some [.v (.int .i64 l[i])] := by simp [hlt]
   have hI' := orI_drop l i hlt
   rw [hI] at hI'
   repeat' first | ((with_reducible first | refine cs ?_ ?_ | refine ws ?_ ?_) <;> intro h <;> try simp only [h]) | simp only [↓wBA, tCm, convA, seval, List.length_map, hdec, hi0, hg, hw]
   ·skip
    all_goals refine ret_is (a := _) ?_ rfl rfl
    all_goals simp only [↓wBA, tCm, convA, seval]
    all_goals simp_all [wS]
   ·skip
    refine ⟨⟨i + 1, by omega, ?_⟩, by show l.length - (i + 1) < l.length - i; omega, ?_⟩
    ·simp_all
    ·skip
     simp only [wR, Nat.reduceAdd, Nat.reduceLT, reduceIte]
     simp [wW]
  ·have hdec := dF (i := i) (n := l.length) (by omega)
   have hI' : orI l = 0 := by rw [← hI, List.drop_of_length_le (by omega)]; rfl
   repeat' first | ((with_reducible first | refine cs ?_ ?_ | refine ws ?_ ?_) <;> intro h <;> try simp only [h]) | simp only [↓wBA, tCm, convA, seval, List.length_map, hdec]
   all_goals refine ret_is (a := _) ?_ rfl rfl
   all_goals simp only [↓wBA, tCm, convA, seval]
   all_goals simp_all [wS, hI']
theorem acmpV (a b : Va) (σ : St) : ACalls Tryz.prog 131 [vaA a, vaA b] σ fun r s => s = σ ∧ r = intV .i64 (cmpV a b) := by
 refine ACalls.pureF (R := fun r => r = intV .i64 (cmpV a b)) ?_ rfl σ
 obtain ⟨a1, a2, a3⟩ := a
 obtain ⟨b1, b2, b3⟩ := b
 refine acalls_of cx_ok dr_ok Tryz.func131 (by kernel_rfl) rfl (nt := 20) (rs := [.tmp 4]) rfl rfl ?_
 simp only [vaA, vaC, List.map_cons, List.map_nil]
 repeat' first | ((with_reducible first | refine cs ?_ ?_ | refine ws ?_ ?_ | refine wd ?_ ?_ | refine wu ?_ ?_) <;> intro h <;> try simp only [h]) | simp only [↓wBA, tCm, convA, seval, pl131_1Cm] | ((with_reducible show ACalls _ _ _ _ _); first | refine (acmpI _ _ _ (.inl rfl) _).eq ?_ | refine (acmpI _ _ _ (.inr rfl) _).eq ?_ | refine (acmpS _ _ _).eq ?_ | (refine ACalls.frzArgs ((aor [_, _, _] (by simp) _).mono ?_); rintro _ _ ⟨rfl, rfl⟩)) | (with_reducible refine dP pl131_1Cm 18 (some 5) (by decide) (by kernel_rfl) ?_)
 all_goals refine ret_is (a := _) ?_ rfl rfl
 all_goals simp only [↓wBA, tCm, convA, seval]
 all_goals simp_all [wS, cmpV, orI]
 all_goals grind
end Go.Proofs.YtcnkmandddfdmaaGreatDoor
namespace Go.Proofs.YtcnkmandddfdmaaGreatDoor
open Go.RowKit
def pl114_5Fd : Plan := (.det 0 (.det 1 (.det 2 (.det 3 (.det 4 (.det 5 (.det 6 (.det 7 (.det 8 (.det 9 (.det 10 (.det 11 (.det 12 (.det 13 (.det 14 (.det 15 (.det 16 (.det 17 (.det 18 (.det 19 (.det 20 (.det 21 (.det 22 (.det 23 (.det 24 (.det 25 (.det 26 (.fin 27 (.det 28 (.det 29 .done))))))))))))))))))))))))))))))
def pl114_6Fd : Plan := (.det 0 (.det 1 (.det 2 (.det 3 (.det 4 (.det 5 (.det 6 (.det 7 (.fin 8 .done)))))))))
def tFd := aa wX <| aa wbu <| aa T2 <| aa T3 <| aa T4 <| aa T39 <| aa T41 <| aa T45 <| aa T78 <| aa T168 T170
def fdO (row : List Va) (e : Int) : Ob := .row 2 [[.p (.sl 3 (enV row)), intV .i64 e]]
theorem fdP (row : List Va) (e : Int) : PlainOb (fdO row e) := ⟨fun g => by simp [renOb, fdO, renL, renA, intV], fun n => by simp [tokOb, fdO, tokLtL, tokLt, intV], 2, _, rfl⟩
theorem afail (row : List Va) (c e : Int) : OCalls (fdO row) 113 (fun t => [.mp t 2 0 0, intV .i64 c]) e fun r e' => r = vaA (failV c e).1 ∧ e' = (failV c e).2 := by
 refine OCalls.of (fdP row) (fun t => rfl) rfl ?_
 refine acalls_of cx_ok dr_ok Tryz.func113 (by kernel_rfl) rfl (nt := 13) (rs := [.cell 4 41]) rfl rfl ?_
 simp only [fdO]
 repeat' first | ((with_reducible first | refine cs ?_ ?_ | refine ws ?_ ?_) <;> intro h <;> try simp only [h]) | simp only [↓wBA, tFd, convA, seval]
 all_goals refine ret_obI (a := _) (b := _) (fdP _ _) ?_ rfl rfl
 all_goals simp only [↓wBA, tFd, convA, seval]
 all_goals simp_all [wS, fdO, vaA, vaC, failV, va0, emp]
theorem anumV (row : List Va) (k a b e : Int) : OCalls (fdO row) 130 (fun t => [.mp t 2 0 0, intV .i64 k, intV .i64 a, intV .i64 b]) e fun r e' => r = vaA (numV k a b e).1 ∧ e' = (numV k a b e).2 := by
 refine OCalls.of (fdP row) (fun t => rfl) rfl ?_
 refine acalls_of cx_ok dr_ok Tryz.func130 (by kernel_rfl) rfl (nt := 79) (rs := [.cell 8 41]) rfl rfl ?_
 simp only [fdO]
 have ha : (a == 0) = true ∨ ((a == 0) = false ∧ (a = 0) = False) := by by_cases h : a = 0 <;> simp [h]
 have hb : (b == 0) = true ∨ ((b == 0) = false ∧ (b = 0) = False) := by by_cases h : b = 0 <;> simp [h]
 rcases ha with ha | ⟨ha, ha2⟩ <;> rcases hb with hb | ⟨hb, hb2⟩
 ·skip
  repeat' first | ((with_reducible first | refine cs ?_ ?_ | refine ws ?_ ?_) <;> intro h <;> try simp only [h]) | simp only [↓wBA, tFd, convA, seval, ha, hb] | ((with_reducible show ACalls _ _ _ _ _); refine (afail row _ _ _ 0 rfl).mono ?_; rintro _ _ ⟨_, ⟨rfl, rfl⟩, rfl⟩; simp only [fdO, vaA, vaC, List.map_cons, List.map_nil])
  all_goals refine ret_obI (a := _) (b := _) (fdP _ _) ?_ rfl rfl
  all_goals simp only [↓wBA, tFd, convA, seval]
  all_goals simp_all [wS, fdO, vaA, vaC, numV, failV, va0, emp]
 ·skip
  repeat' first | ((with_reducible first | refine cs ?_ ?_ | refine ws ?_ ?_) <;> intro h <;> try simp only [h]) | simp only [↓wBA, tFd, convA, seval, ha, hb, hb2] | ((with_reducible show ACalls _ _ _ _ _); refine (afail row _ _ _ 0 rfl).mono ?_; rintro _ _ ⟨_, ⟨rfl, rfl⟩, rfl⟩; simp only [fdO, vaA, vaC, List.map_cons, List.map_nil])
  all_goals refine ret_obI (a := _) (b := _) (fdP _ _) ?_ rfl rfl
  all_goals simp only [↓wBA, tFd, convA, seval]
  all_goals simp_all [wS, fdO, vaA, vaC, numV, failV, va0, emp]
 ·skip
  repeat' first | ((with_reducible first | refine cs ?_ ?_ | refine ws ?_ ?_) <;> intro h <;> try simp only [h]) | simp only [↓wBA, tFd, convA, seval, ha, ha2, hb] | ((with_reducible show ACalls _ _ _ _ _); refine (afail row _ _ _ 0 rfl).mono ?_; rintro _ _ ⟨_, ⟨rfl, rfl⟩, rfl⟩; simp only [fdO, vaA, vaC, List.map_cons, List.map_nil])
  all_goals refine ret_obI (a := _) (b := _) (fdP _ _) ?_ rfl rfl
  all_goals simp only [↓wBA, tFd, convA, seval]
  all_goals simp_all [wS, fdO, vaA, vaC, numV, failV, va0, emp]
 ·skip
  repeat' first | ((with_reducible first | refine cs ?_ ?_ | refine ws ?_ ?_) <;> intro h <;> try simp only [h]) | simp only [↓wBA, tFd, convA, seval, ha, ha2, hb, hb2] | ((with_reducible show ACalls _ _ _ _ _); refine (afail row _ _ _ 0 rfl).mono ?_; rintro _ _ ⟨_, ⟨rfl, rfl⟩, rfl⟩; simp only [fdO, vaA, vaC, List.map_cons, List.map_nil])
  all_goals refine ret_obI (a := _) (b := _) (fdP _ _) ?_ rfl rfl
  all_goals simp only [↓wBA, tFd, convA, seval]
  all_goals simp_all [wS, fdO, vaA, vaC, numV, failV, va0, emp]
theorem aleafV (row : List Va) (k vk vn : Int) (vs tb nm : ByteArray) (s : Int) (kids : List Ex) (e : Int) : OCalls (fdO row) 114 (fun t => [.mp t 2 0 0, exA (.mk k vk vn vs tb nm s kids)]) e fun r e' => r = vaA (leafV row k (vk, vn, vs) s e).1 ∧ e' = (leafV row k (vk, vn, vs) s e).2 := by
 refine OCalls.of (fdP row) (fun t => rfl) rfl ?_
 refine acalls_of cx_ok dr_ok Tryz.func114 (by kernel_rfl) rfl (nt := 60) (rs := [.cell 4 41]) rfl rfl ?_
 simp only [fdO, exA, exC, List.map_cons, List.map_nil]
 have hs : (0 ≤ s ∧ s < (row.length : Int)) ∨ ¬ (0 ≤ s) ∨ (0 ≤ s ∧ ¬ s < (row.length : Int)) := by omega
 rcases hs with ⟨hs, hs2⟩ | hs | ⟨hs, hs2⟩
 ·have hg : (enV row)[s.toNat]? = some (vaC (row.getD s.toNat va0)) := by rw [enV_get row s.toNat (by omega)]; simp [List.getD, show s.toNat < row.length by omega]
  have h1 : decide (s ≥ 0) = true := by simp; omega
  have h2 : decide (s < (row.length : Int)) = true := by simp; omega
  have h0 : ((0 : Int) ≤ s) = True := eq_true hs
  repeat' first | ((with_reducible first | refine cs ?_ ?_ | refine ws ?_ ?_ | refine wd ?_ ?_ | refine wu ?_ ?_) <;> intro h <;> try simp only [h]) | simp only [↓wBA, tFd, convA, seval, pl114_5Fd, pl114_6Fd, enV_len, hg, h1, h2, h0, vaC_len, List.length_map] | ((with_reducible show ACalls _ _ _ _ _); first | (refine (afail row _ _ _ 0 rfl).mono ?_; rintro _ _ ⟨_, ⟨rfl, rfl⟩, rfl⟩; simp only [fdO, vaA, vaC, List.map_cons, List.map_nil]) | refine (aokV (_, _, _) _).eq ?_ | refine (aokV _ _).eq ?_) | (with_reducible refine dP pl114_5Fd 30 (some 23) (by decide) (by kernel_rfl) ?_) | (with_reducible refine dP pl114_6Fd 9 (some 52) (by decide) (by kernel_rfl) ?_)
  all_goals refine ret_obI (a := _) (b := _) (fdP _ _) ?_ rfl rfl
  all_goals simp only [↓wBA, tFd, convA, seval]
  all_goals simp_all [wS, fdO, vaA, vaC, leafV, failV, va0, emp]
  all_goals grind
 ·have h1 : decide (s ≥ 0) = false := by simp; omega
  repeat' first | ((with_reducible first | refine cs ?_ ?_ | refine ws ?_ ?_ | refine wd ?_ ?_ | refine wu ?_ ?_) <;> intro h <;> try simp only [h]) | simp only [↓wBA, tFd, convA, seval, pl114_5Fd, pl114_6Fd, enV_len, h1, vaC_len, List.length_map] | ((with_reducible show ACalls _ _ _ _ _); first | (refine (afail row _ _ _ 0 rfl).mono ?_; rintro _ _ ⟨_, ⟨rfl, rfl⟩, rfl⟩; simp only [fdO, vaA, vaC, List.map_cons, List.map_nil]) | refine (aokV (_, _, _) _).eq ?_) | (with_reducible refine dP pl114_5Fd 30 (some 23) (by decide) (by kernel_rfl) ?_) | (with_reducible refine dP pl114_6Fd 9 (some 52) (by decide) (by kernel_rfl) ?_)
  all_goals refine ret_obI (a := _) (b := _) (fdP _ _) ?_ rfl rfl
  all_goals simp only [↓wBA, tFd, convA, seval]
  all_goals simp_all [wS, fdO, vaA, vaC, leafV, failV, va0, emp]
  all_goals grind
 ·have h1 : decide (s ≥ 0) = true := by simp; omega
  have h2 : decide (s < (row.length : Int)) = false := by simp; omega
  repeat' first | ((with_reducible first | refine cs ?_ ?_ | refine ws ?_ ?_ | refine wd ?_ ?_ | refine wu ?_ ?_) <;> intro h <;> try simp only [h]) | simp only [↓wBA, tFd, convA, seval, pl114_5Fd, pl114_6Fd, enV_len, h1, h2, vaC_len, List.length_map] | ((with_reducible show ACalls _ _ _ _ _); first | (refine (afail row _ _ _ 0 rfl).mono ?_; rintro _ _ ⟨_, ⟨rfl, rfl⟩, rfl⟩; simp only [fdO, vaA, vaC, List.map_cons, List.map_nil]) | refine (aokV (_, _, _) _).eq ?_) | (with_reducible refine dP pl114_5Fd 30 (some 23) (by decide) (by kernel_rfl) ?_) | (with_reducible refine dP pl114_6Fd 9 (some 52) (by decide) (by kernel_rfl) ?_)
  all_goals refine ret_obI (a := _) (b := _) (fdP _ _) ?_ rfl rfl
  all_goals simp only [↓wBA, tFd, convA, seval]
  all_goals simp_all [wS, fdO, vaA, vaC, leafV, failV, va0, emp]
  all_goals grind
end Go.Proofs.YtcnkmandddfdmaaGreatDoor
