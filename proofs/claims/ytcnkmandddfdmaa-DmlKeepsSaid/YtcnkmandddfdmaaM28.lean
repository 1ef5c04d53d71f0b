/- dml.worked, whose row is the caller's own; it may be handed rows that are written. The reference's lexer on the abstract machine: it ends, and answers tokens. The reference's lexer, on: numbers. The reference's lexer, on: signs, quoted texts. The reference's lexer, on: words. -/
import Derived.Test.YtcnkmandddfdmaaM26
import Derived.Test.YtcnkmandddfdmaaM27
import Derived.Test.YtcnkmandddfdmaaM20
import Derived.Test.YtcnkmandddfdmaaM17
set_option linter.unusedSimpArgs false
set_option linter.unusedVariables false
set_option linter.defProp false
set_option maxRecDepth 100000
set_option maxHeartbeats 32000000
namespace Go.Proofs.Ytcnkmandddfdmaa
open Go.RowKit
def pl20_8Wm : Plan := (.det 0 (.det 1 (.det 2 (.det 3 (.det 4 (.det 5 (.det 6 (.fin 7 .done))))))))
def tWm := aa wX <| aa wbu <| aa T3 <| aa T33 <| aa T40 <| aa T46 <| aa T50 <| aa T61 T86
theorem muR_nm (l : List Va) : ((muR l).all fun c => c.all elemNM) = true := by
 simp only [muR, List.all_map, List.all_eq_true]
 intro v _
 rfl
theorem rd_row {σ : St} {t k : Nat} {v : Va} {l : List Va} (h : σ.at t (.row 3 (muR (v :: l)))) : Rd σ (k + 1) (.ms t 3 0 (l.length + 1)) (.sl 3 (enV (v :: l))) := by
 refine .inr ⟨t, 3, 0, l.length + 1, muR (v :: l), enV (v :: l), rfl, rfl, h, by simp [muR_len], by simp [enV_len], fun i c hc => ?_⟩
 rw [Nat.zero_add]
 unfold enV at hc
 rw [List.getElem?_map] at hc
 cases hi : (v :: l)[i]? with
 | none => rw [hi] at hc; simp at hc
 | some w =>
   rw [hi] at hc; simp only [Option.map_some, Option.some.injEq] at hc; subst hc
   refine ⟨(vaC w).map .p, by unfold muR; rw [List.getElem?_map, hi]; rfl, by simp, fun q y hy => ⟨.p y, by rw [List.getElem?_map, hy]; rfl, Rd.data k⟩⟩
where
 Rd.data {σ : St} {x : PV} : ∀ k, Rd σ k (.p x) x
  | 0 => .inl rfl
  | k + 1 => .inl (Rd.data k)
theorem rd_p {σ : St} {k : Nat} {x : PV} : Rd σ k (.p x) x := rd_row.Rd.data k
theorem aworkedM0 (v : Va) (l : List Va) (xs : List Ex) (ks : List Int) (least : Int) (hx : xs.length ≤ ks.length) (hcs : ∀ c ∈ ks, 0 ≤ c ∧ c.toNat < (v :: l).length) (hl : (v :: l).length ≤ 4398046511104) (hxl : xs.length ≤ 4398046511104) : ACalls Try.prog 20 [.p (.sl 3 (enV (v :: l))), .p (.sl 8 (exL xs)), .p (.sl 1 (enI ks)), intV .i64 least] [] fun r s => tokLt s.length r = true ∧ tokS s.length s ∧ noMemT r = true ∧ noMemS s = true ∧ r = .tup [.ms 1 3 0 (l.length + 1), intV .i64 (wrkS (v :: l) xs ks least).2] ∧ s = [none, some (.row 3 (muR (wrkS (v :: l) xs ks least).1))] := by
 have hzl : (xs.zip ks).length = xs.length := by simp; omega
 have hclone := acloneM v l (by simpa using hl)
 unfold wrkS
 generalize hrow : v :: l = row at *
 have hrl : row.length = l.length + 1 := by rw [← hrow]; rfl
 refine acalls_of cx_ok dr_ok Try.func20 (by kernel_rfl) rfl (nt := 48) (rs := [.tmp 8, .tmp 9]) rfl rfl ?_
 repeat' first | ((with_reducible first | refine cs ?_ ?_ | refine ws ?_ ?_ | refine wd ?_ ?_ | refine wu ?_ ?_) <;> intro h <;> try simp only [h]) | simp only [↓wBA, tWm, convA, seval, pl20_8Wm, exL_len] | ((with_reducible show ACalls _ _ _ _ _); refine (hclone _).mono ?_; rintro _ _ ⟨rfl,rfl⟩) | (with_reducible refine dP pl20_8Wm 8 (some 42) (by decide) (by kernel_rfl) ?_)
 refine awp_loopN (xs.length) (fun i => [(3, intV .i64 (((xs.zip ks).take i).foldl (wStep row) (row, least)).2), (19, intV .i64 (i : Nat)), (11, .any), (12, .any), (13, .any), (14, .any), (20, .any), (21, .any), (22, .any), (23, .any), (24, .any), (25, .any), (26, .any), (27, .any), (28, .any), (29, .any), (30, .any), (31, .any), (32, .any), (33, .any), (34, .any), (35, .any), (36, .any), (37, .any), (38, .any), (39, .any), (40, .any), (41, .any), (42, .any), (43, .any), (44, .any), (45, .any), (46, .any), (47, .any), (48, .any), (49, .any)]) (fun i => [(1, .row 3 (muR (((xs.zip ks).take i).foldl (wStep row) (row, least)).1))]) (fun i => True) ?_ ?_ ?_
 ·trivial
 ·skip
  simp only [wR, Nat.reduceAdd, Nat.reduceLT, reduceIte]
  simp [wW, mu_tok]
 ·intro i hi _
  simp only [wR, Nat.reduceAdd, Nat.reduceLT, reduceIte]
  by_cases hlt : i < xs.length
  ·have hdec := dT (i := i) (n := xs.length) (by omega)
   have hi0 := nnI i
   have hw := wI i (by omega)
   have hg := exL_at xs i hlt
   have hci : i < ks.length := by omega
   have hgc := enI_get ks i hci
   obtain ⟨hc0, hcl⟩ := hcs ks[i] (List.getElem_mem hci)
   have hc0' : ((0 : Int) ≤ ks[i]) = True := eq_true hc0
   have hc1' : (ks[i] < ((l.length + 1 : Nat) : Int)) = True := eq_true (by omega)
   have hst := take_step (wStep row) (row, least) (xs.zip ks) i (by omega)
   have hzi : (xs.zip ks)[i]'(by omega) = (xs[i], ks[i]) := by simp
   rw [hzi] at hst
   have hsl := wGo_len row ((xs.zip ks).take i) (row, least)
   have hE := aevalV row xs[i]
   simp only [wStep] at hst
   have hmg : (muR (((xs.zip ks).take i).foldl (wStep row) (row, least)).1)[ks[i].toNat]? = some ((vaC ((((xs.zip ks).take i).foldl (wStep row) (row, least)).1[ks[i].toNat]'(by rw [hsl]; exact hcl))).map .p) := muR_get _ _ _
   rcases hev : evalV row xs[i] with ⟨⟨v1, v2, v3⟩, e⟩
   simp only [hev, exA, vaA, vaC, List.map_cons, List.map_nil] at hE hst
   generalize hcc : ((((xs.zip ks).take i).foldl (wStep row) (row, least)).1[ks[i].toNat]'(by rw [hsl]; exact hcl)) = oldv at *
   have hvl : ((vaC oldv).map AV.p).length = 3 := rfl
   have hset : (muR (((xs.zip ks).take i).foldl (wStep row) (row, least)).1).set ks[i].toNat [.p (.v (.int .i64 v1)), .p (.v (.int .i64 v2)), .p (.v (.string v3))] = muR ((((xs.zip ks).take i).foldl (wStep row) (row, least)).1.set ks[i].toNat (v1, v2, v3)) := muR_set _ _ (v1, v2, v3)
   repeat' first | ((with_reducible first | refine cs ?_ ?_ | refine ws ?_ ?_ | refine wd ?_ ?_ | refine wu ?_ ?_) <;> intro h <;> try simp only [h]) | simp only [↓wBA, tWm, convA, seval, pl20_8Wm, exL_len, enI_len, hdec, hi0, hg, hw, hgc, hc0', hc1', hmg, hvl, hset, exC_len, List.length_map] | ((with_reducible show ACalls _ _ _ _ _); refine (hE _).eq ?_) | (with_reducible refine dP pl20_8Wm 8 (some 42) (by decide) (by kernel_rfl) ?_)
   all_goals refine ⟨⟨i + 1, by omega, trivial⟩, by show xs.length - (i + 1) < xs.length - i; omega, ?_⟩
   all_goals simp only [hst]
   all_goals simp [wW, mu_tok]
   all_goals grind [leastI]
  ·have hdec := dF (i := i) (n := xs.length) (by omega)
   have ht : (xs.zip ks).take i = xs.zip ks := List.take_of_length_le (by omega)
   simp only [ht]
   generalize (xs.zip ks).foldl (wStep row) (row, least) = st at *
   obtain ⟨out, e⟩ := st
   have hmt := muR_tok 2 out
   have hnm := muR_nm out
   repeat' first | ((with_reducible first | refine cs ?_ ?_ | refine ws ?_ ?_ | refine wd ?_ ?_ | refine wu ?_ ?_) <;> intro h <;> try simp only [h]) | simp only [↓wBA, tWm, convA, seval, pl20_8Wm, exL_len, hdec] | (with_reducible refine dP pl20_8Wm 8 (some 42) (by decide) (by kernel_rfl) ?_)
   refine ⟨.inl rfl, _, .tup [.ms 1 3 0 (l.length + 1), intV .i64 e], [none, some (.row 3 (muR out))], rfl, .inl ⟨rfl, rfl⟩, Nat.zero_le _, rfl, okO_tokS ?_, rfl, ?_, rfl, rfl⟩
   ·simp [okO, hmt]
   ·simp [noMemS, noMemO, hnm]
theorem aworkedM {σ : St} {t : Nat} (v : Va) (l : List Va) (xs : List Ex) (ks : List Int) (least : Int) (hx : xs.length ≤ ks.length) (hcs : ∀ c ∈ ks, 0 ≤ c ∧ c.toNat < (v :: l).length) (hl : (v :: l).length ≤ 4398046511104) (hxl : xs.length ≤ 4398046511104) (h : σ.at t (.row 3 (muR (v :: l)))) : ACalls Try.prog 20 [.ms t 3 0 (l.length + 1), .p (.sl 8 (exL xs)), .p (.sl 1 (enI ks)), intV .i64 least] σ fun r s => r = .tup [.ms (1 + σ.length) 3 0 (l.length + 1), intV .i64 (wrkS (v :: l) xs ks least).2] ∧ s = σ ++ [none, some (.row 3 (muR (wrkS (v :: l) xs ks least).1))] := by
 refine (ACalls.borrowF (σ := σ) (args := [.ms t 3 0 (l.length + 1), .p (.sl 8 (exL xs)), .p (.sl 1 (enI ks)), intV .i64 least]) 2 (aworkedM0 v l xs ks least hx hcs hl hxl) ⟨.inl ⟨_, rd_row h, rfl⟩, .inl ⟨_, rd_p, rfl⟩, .inl ⟨_, rd_p, rfl⟩, .inl ⟨_, rd_p, rfl⟩, trivial⟩).mono ?_
 rintro r s ⟨r0, s0, ⟨rfl, rfl⟩, rfl, rfl⟩
 constructor
 ·simp only [renA, renL]; rfl
 ·simp only [List.map_cons, List.map_nil, Option.map_none, Option.map_some, renOb, ren_muR]
end Go.Proofs.Ytcnkmandddfdmaa
namespace Go.Proofs.Ytcnkmandddfdmaa
open Go.RowKit
def tLx := aa wX <| aa T3 <| aa T5 <| aa T9 T139
theorem ba_get (s : ByteArray) (k : Nat) (h : k < s.size) : ∃ b, s[k]? = some b := ⟨s[k], by simp [h]⟩
def classL (n : Int) : Int := if (n ≥ 97 ∧ n ≤ 122) ∨ (n ≥ 65 ∧ n ≤ 90) ∨ n = 95 then 1 else if n ≥ 48 ∧ n ≤ 57 then 2 else if n = 32 ∨ n = 9 ∨ n = 10 ∨ n = 13 then 3 else 0
theorem aclass (c : UInt8) (σ : St) : ACalls Try.prog 43 [intV .u8 (c.toNat : Int)] σ fun r σ' => σ' = σ ∧ r = intV .i64 (classL (c.toNat : Int)) := by
 refine ACalls.pure ?_ rfl σ
 refine acalls_of cx_ok dr_ok Try.func43 (by kernel_rfl) rfl (nt := 43) (rs := [.tmp 2]) rfl rfl ?_
 simp only [↓wBA, tLx, convA, seval]
 generalize (c.toNat : Int) = n
 repeat' (first
  | refine ret_pure rfl rfl ?_
  | refine want_split ?_ ?_
  | refine cond_split ?_ ?_
  | (intro hb
     try simp only [hb]
     simp only [↓wBA, tLx, convA, seval, hb]
     ))
 all_goals
  simp only [decide_eq_true_eq, decide_eq_false_iff_not, beq_iff_eq, beq_eq_false_iff_ne, ne_eq, Bool.not_true, Bool.not_false] at *
  refine congrArg (intV .i64) (Eq.symm ?_)
  unfold classL
  repeat' split
  all_goals omega
def byteP (b : UInt8) : PV := .v (.int .u8 b.toNat)
def encB (r : List UInt8) : List (List PV) := r.map fun b => [byteP b]
theorem byteOf_byteP (b : UInt8) : byteOfV (.int .u8 b.toNat) = some b := by
 have h : (b.toNat : Int) < 256 := by have := b.toNat_lt; omega
 simp [byteOfV, h]
theorem bytesOf_enc : ∀ r : List UInt8, bytesOfR (encB r) = some r
 | [] => rfl
 | b :: r => by
   have := bytesOf_enc r
   simp only [encB, byteP] at this
   simp only [encB, List.map_cons, bytesOfR, byteP, byteOf_byteP, this]
theorem wrap_u8 (n : Int) : ∃ c : UInt8, IntKind.u8.wrap n = (c.toNat : Int) := by
 refine ⟨UInt8.ofNat (n % 256).toNat, ?_⟩
 rw [UInt8.toNat_ofNat']
 simp [IntKind.wrap, IntKind.signed, IntKind.bits]
 omega
theorem aupper (s : ByteArray) (x y : UInt8) (by_ : Int) (hs : s.size ≤ 140737488351232) (σ : St) : ACalls Try.prog 67 [.p (.v (.string s)), intV .u8 (x.toNat : Int), intV .u8 (y.toNat : Int), intV .i64 by_] σ fun r σ' => σ' = σ ∧ ∃ s' : ByteArray, s'.size = s.size ∧ r = .p (.v (.string s')) := by
 refine ACalls.pure ?_ rfl σ
 refine acalls_of cx_ok dr_ok Try.func67 (by kernel_rfl) rfl (nt := 36) (rs := [.tmp 8]) rfl rfl ?_
 simp only [↓wBA, tLx, convA, seval]
 refine awp_loop' (X := { bs : List UInt8 // bs.length ≤ s.size }) (fun bs => ([.p (.v (.string s)), intV .u8 (x.toNat : Int), intV .u8 (y.toNat : Int), intV .i64 by_, .any, .any, .any, .any, .any, .nown 0 1 (encB bs.1), intV .i64 (bs.1.length : Nat), .any, .any, .any, .any, .any, .any, .any, .any, .any, .any, .any, .any, .any, .any, .any, .any, .any, .any, .any, .any, .any, .any, .any, .any, .any, .any, .any, .any, .any], [some (.nright 5 (bs.1.length * 1))])) (fun bs => s.size - bs.1.length) ⟨[], by simp⟩ (fun _ => by simp) ?_ ?_
 ·simp [WeakE, Weak, leL, leT, leM, leG, leA, leC, leS, leO, tokLt, tokLtL, intV, nilA, encB]
 ·rintro ⟨bs, hbs⟩
  have hen : (encB bs).length = bs.length := by simp [encB]
  by_cases hlt : bs.length < s.size
  ·have hdec := dT (i := bs.length) (n := s.size) (by omega)
   obtain ⟨b, hb⟩ : ∃ b, s[bs.length]? = some b := ⟨s[bs.length], by simp [hlt]⟩
   simp only [↓wBA, tLx, convA, seval, hdec, hb]
   have hlim1 := tL (n := (bs.length + 1) * 1) (by omega)
   have hlim2 := lM (n := bs.length + 1) (by omega)
   refine want_split (fun h1 => ?_) (fun h1 => ?_)
   ·skip
    simp only [↓wBA, tLx, convA, seval, h1, hb]
    refine cond_split (fun h2 => ?_) (fun h2 => ?_)
    ·obtain ⟨c, hc⟩ := wrap_u8 (IntKind.i64.wrap (IntKind.i64.wrap (b.toNat : Int) + by_))
     simp only [↓wBA, tLx, convA, seval, h2, hc, appendA, srcA, hen, hlim1, hlim2, toPss, toPs, toP, fillS, Nat.reducePow]
     rw [wrap_i64 (n := (bs.length : Int) + 1) (by omega) (by omega)]
     refine ⟨⟨bs ++ [c], by simp; omega⟩, by simp; omega, ?_⟩
     simp [WeakE, Weak, leL, leT, leM, leG, leA, leC, leS, leO, tokLt, tokLtL, intV, encB, byteP]
    ·skip
     simp only [↓wBA, tLx, convA, seval, h2, appendA, srcA, hen, hlim1, hlim2, toPss, toPs, toP, fillS, Nat.reducePow]
     rw [wrap_i64 (n := (bs.length : Int) + 1) (by omega) (by omega)]
     refine ⟨⟨bs ++ [b], by simp; omega⟩, by simp; omega, ?_⟩
     simp [WeakE, Weak, leL, leT, leM, leG, leA, leC, leS, leO, tokLt, tokLtL, intV, encB, byteP]
   ·simp only [Bool.not_true] at h1
    simp only [↓wBA, tLx, convA, seval, h1, appendA, srcA, hen, hlim1, hlim2, toPss, toPs, toP, fillS, Nat.reducePow]
    rw [wrap_i64 (n := (bs.length : Int) + 1) (by omega) (by omega)]
    refine ⟨⟨bs ++ [b], by simp; omega⟩, by simp; omega, ?_⟩
    simp [WeakE, Weak, leL, leT, leM, leG, leA, leC, leS, leO, tokLt, tokLtL, intV, encB, byteP]
  ·have hdec := dF (i := bs.length) (n := s.size) (by omega)
   have hbo := bytesOf_enc bs
   simp only [↓wBA, tLx, convA, seval, hdec, convB, hbo]
   exact ret_pure rfl rfl ⟨⟨bs.toArray⟩, by show bs.toArray.size = s.size; rw [List.size_toArray]; omega, rfl⟩
end Go.Proofs.Ytcnkmandddfdmaa
namespace Go.Proofs.Ytcnkmandddfdmaa
open Go.RowKit
def tLy := aa wX <| aa T2 <| aa T3 <| aa T5 <| aa T9 T144
theorem anumL (s : ByteArray) (hs : s.size ≤ 140737488351232) (σ : St) : ACalls Try.prog 45 [.p (.v (.string s))] σ fun r σ' => σ' = σ ∧ ∃ (n : Int) (b : Bool), r = .tup [intV .i64 (IntKind.i64.wrap n), boolV b] := by
 refine ACalls.pure ?_ rfl σ
 refine acalls_of cx_ok dr_ok Try.func45 (by kernel_rfl) rfl (nt := 33) (rs := [.tmp 2, .tmp 3]) rfl rfl ?_
 simp only [↓wBA, tLy, convA, seval]
 refine awp_loop' (X := { q : Nat × Int // q.1 ≤ s.size }) (fun q => ([.p (.v (.string s)), .any, .any, .any, intV .u64 q.1.2, intV .i64 (q.1.1 : Nat), .any, .any, .any, .any, .any, .any, .any, .any, .any, .any, .any, .any, .any, .any, .any, .any, .any, .any, .any, .any, .any, .any, .any, .any, .any, .any, .any, .any], [])) (fun q => s.size - q.1.1) ⟨(0, 0), by simp⟩ (fun _ => by simp) ?_ ?_
 ·simp [WeakE, Weak, leL, leT, leM, leG, leA, leC, leS, leO, tokLt, tokLtL, intV]
 ·rintro ⟨⟨k, u⟩, hk⟩
  simp only at hk
  by_cases hlt : k < s.size
  ·have hdec := dT (i := k) (n := s.size) (by omega)
   obtain ⟨b, hb⟩ : ∃ b, s[k]? = some b := ⟨s[k], by simp [hlt]⟩
   have hw : IntKind.i64.wrap ((k : Int) + 1) = (k : Int) + 1 := wrap_i64 (by omega) (by omega)
   simp only [↓wBA, tLy, convA, seval, hdec, hb]
   repeat' (first
    | exact ret_pure rfl rfl ⟨_, _, rfl⟩
    | exact ret_pure rfl rfl ⟨0, _, rfl⟩
    | refine want_split ?_ ?_
    | refine cond_split ?_ ?_
    | (refine ⟨⟨(k + 1, IntKind.u64.wrap (IntKind.u64.wrap (10 * u) + IntKind.u64.wrap (IntKind.u8.wrap ((b.toNat : Int) - 48)))), by show k + 1 ≤ s.size; omega⟩, by show s.size - (k + 1) < s.size - k; omega, ?_⟩
       simp [WeakE, Weak, leL, leT, leM, leG, leA, leC, leS, leO, tokLt, tokLtL, intV, hw]
       done)
    | (intro h1
       try simp only [h1]
       simp only [↓wBA, tLy, convA, seval, h1, hdec, hb]
       ))
  ·have hdec := dF (i := k) (n := s.size) (by omega)
   simp only [↓wBA, tLy, convA, seval, hdec]
   exact ret_pure rfl rfl ⟨_, _, rfl⟩
end Go.Proofs.Ytcnkmandddfdmaa
namespace Go.Proofs.Ytcnkmandddfdmaa
open Go.RowKit
open Nat renaming reduceBEq → ZA, reducePow → ZB, reduceAdd → ZC, reduceSub → ZD, reduceMul → ZE, reduceEqDiff → ZF, reduceLeDiff → ZG, reduceLT → ZH
open Int renaming reduceLT → ZI, reduceLE → ZJ, reduceToNat → ZK
def tLz := aa wX <| aa T3 <| aa T5 <| aa T9 T139
def oneS : ByteArray := ⟨#[40, 41, 44, 59, 42, 43, 45, 47, 37, 61, 60, 62, 46]⟩
theorem asign (s : ByteArray) (h0 : 0 < s.size) (σ : St) : ACalls Try.prog 47 [.p (.v (.string s))] σ fun r σ' => σ' = σ ∧ ∃ n : Nat, n ≤ 2 ∧ n ≤ s.size ∧ r = intV .i64 (n : Nat) := by
 refine ACalls.pure ?_ rfl σ
 obtain ⟨b0, hb0⟩ : ∃ b, s[0]? = some b := ⟨s[0], by simp [h0]⟩
 obtain ⟨d, hd, hd2⟩ : ∃ d, decide ((s.size : Int) ≥ 2) = d ∧ (d = true → ((2 : Int) ≤ (s.size : Int)) = True) := ⟨_, rfl, fun h => eq_true (of_decide_eq_true h)⟩
 have h22 : (d = true → 2 ≤ s.size) := fun h => by have := of_eq_true (hd2 h); omega
 refine acalls_of cx_ok dr_ok Try.func47 (by kernel_rfl) rfl (nt := 34) (rs := [.tmp 2]) rfl rfl ?_
 simp only [↓wBA, tLz, convA, ZA, reduceIte, reduceCtorEq, ZB, ZC, ZD, ZE, ZF, ZG, ZH, ZI, ZJ, ZK, hd]
 cases d
 case' false =>
  simp only [↓wBA, tLz, convA, ZA, reduceIte, reduceCtorEq, ZB, ZC, ZD, ZE, ZF, ZG, ZH, ZI, ZJ, ZK]
 case' true =>
  have hd3 := hd2 rfl
  have h23 := h22 rfl
  simp only [↓wBA, tLz, convA, ZA, reduceIte, reduceCtorEq, ZB, ZC, ZD, ZE, ZF, ZG, ZH, ZI, ZJ, ZK, hd3, sliceA, boundA, intA, binStr, Option.map_none, Int.le_refl, Int.reduceLE, Int.toNat_zero]
  repeat' (first
   | exact ret_pure rfl rfl ⟨2, by omega, h23, rfl⟩
   | refine want_split ?_ ?_
   | refine cond_split ?_ ?_
   | (intro h1
      try simp only [h1]
      simp only [↓wBA, tLz, convA, ZA, reduceIte, reduceCtorEq, ZB, ZC, ZD, ZE, ZF, ZG, ZH, ZI, ZJ, ZK, h1, hd3, sliceA, boundA, intA, binStr, Option.map_none, Int.le_refl, Int.reduceLE, Int.toNat_zero]
      ))
 all_goals
  refine awp_loop' (X := { k : Nat // k ≤ 13 }) (fun k => ([.p (.v (.string s)), .any, .any, .p (.v (.string oneS)), intV .i64 (k.1 : Nat), .any, .any, .any, .any, .any, .any, .any, .any, .any, .any, .any, .any, .any, .any, .any, .any, .any, .any, .any, .any, .any, .any, .any, .any, .any, .any, .any, .any, .any, .any], [])) (fun k => 13 - k.1) ⟨0, by omega⟩ (fun _ => by simp) ?_ ?_
  ·simp [WeakE, Weak, leL, leT, leM, leG, leA, leC, leS, leO, tokLt, tokLtL, intV, oneS]
  ·rintro ⟨k, hk⟩
   try simp only at hk
   have hsz : oneS.size = 13 := rfl
   have hi0 : (Int.toNat 0) = 0 := rfl
   by_cases hlt : k < 13
   ·have hdec : decide ((k : Int) < ((13 : Nat) : Int)) = true := by simp; omega
    obtain ⟨c, hc⟩ : ∃ b, oneS[k]? = some b := ba_get oneS k (by omega)
    have hw1 := wI k (by omega)
    simp only [↓wBA, tLz, convA, ZA, reduceIte, reduceCtorEq, ZB, ZC, ZD, ZE, ZF, ZG, ZH, ZI, ZJ, ZK, hsz, hdec]
    refine ⟨(.det 0 (.det 1 (.det 2 (.det 3 (.det 4 (.det 5 .done)))))), by decide, by kernel_rfl, by kernel_rfl, ?_⟩
    simp only [↓wBA, tLz, convA, ZA, reduceIte, reduceCtorEq, ZB, ZC, ZD, ZE, ZF, ZG, ZH, ZI, ZJ, ZK, Int.le_refl, Int.reduceLE, hi0, hb0, hc]
    refine cond_split (fun h1 => ?_) (fun h1 => ?_)
    ·skip
     simp only [↓wBA, tLz, convA, ZA, reduceIte, reduceCtorEq, ZB, ZC, ZD, ZE, ZF, ZG, ZH, ZI, ZJ, ZK]
     exact ret_pure rfl rfl ⟨1, by omega, by omega, rfl⟩
    ·skip
     simp only [↓wBA, tLz, convA, ZA, reduceIte, reduceCtorEq, ZB, ZC, ZD, ZE, ZF, ZG, ZH, ZI, ZJ, ZK, hw1]
     refine ⟨⟨k + 1, by omega⟩, by show 13 - (k + 1) < 13 - k; omega, ?_⟩
     simp [WeakE, Weak, leL, leT, leM, leG, leA, leC, leS, leO, tokLt, tokLtL, intV]
   ·have hdec : decide ((k : Int) < ((13 : Nat) : Int)) = false := by simp; omega
    simp only [↓wBA, tLz, convA, ZA, reduceIte, reduceCtorEq, ZB, ZC, ZD, ZE, ZF, ZG, ZH, ZI, ZJ, ZK, hsz, hdec]
    exact ret_pure rfl rfl ⟨0, by omega, by omega, rfl⟩
theorem aquoted (s : ByteArray) (at_ : Nat) (hs : s.size ≤ 140737488351232) (h0 : at_ < s.size) (σ : St) : ACalls Try.prog 46 [.p (.v (.string s)), intV .i64 (at_ : Nat)] σ fun r σ' => σ' = σ ∧ ∃ (s' : ByteArray) (k : Int), (k = -1 ∨ ∃ j : Nat, k = (j : Nat) ∧ at_ < j ∧ j ≤ s.size) ∧ r = .tup [.p (.v (.string s')), intV .i64 k] := by
 refine ACalls.pure ?_ rfl σ
 have hw0 := wI at_ (by omega)
 refine acalls_of cx_ok dr_ok Try.func46 (by kernel_rfl) rfl (nt := 45) (rs := [.tmp 4, .tmp 5]) rfl rfl ?_
 simp only [↓wBA, tLz, convA, ZA, reduceIte, reduceCtorEq, ZB, ZC, ZD, ZE, ZF, ZG, ZH, ZI, ZJ, ZK, hw0]
 refine awp_loop' (X := { q : List UInt8 × Nat // q.1.length ≤ q.2 ∧ at_ < q.2 ∧ q.2 ≤ s.size + 1 }) (fun q => ([.p (.v (.string s)), .any, .any, .any, .any, .any, .nown 0 1 (encB q.1.1), intV .i64 (q.1.2 : Nat), .any, .any, .any, .any, .any, .any, .any, .any, .any, .any, .any, .any, .any, .any, .any, .any, .any, .any, .any, .any, .any, .any, .any, .any, .any, .any, .any, .any, .any, .any, .any, .any, .any, .any, .any, .any, .any, .any, .any], [some (.nright 5 (q.1.1.length * 1))])) (fun q => s.size + 1 - q.1.2) ⟨([], at_ + 1), by simp; omega⟩ (fun _ => by simp) ?_ ?_
 ·simp [WeakE, Weak, leL, leT, leM, leG, leA, leC, leS, leO, tokLt, tokLtL, intV, nilA, encB]
 ·rintro ⟨⟨bs, k⟩, hbs, hk, hk2⟩
  simp only at hbs hk hk2
  have hen : (encB bs).length = bs.length := by simp [encB]
  by_cases hlt : k < s.size
  ·have hdec := dT (i := k) (n := s.size) (by omega)
   obtain ⟨b, hb⟩ : ∃ b, s[k]? = some b := ⟨s[k], by simp [hlt]⟩
   have hw1 := wI k (by omega)
   have hw2 : IntKind.i64.wrap (((k + 1 : Nat) : Int) + 1) = ((k + 1 + 1 : Nat) : Int) := by rw [wrap_i64 (by omega) (by omega)]; simp
   have hlim1 := tL (n := (bs.length + 1) * 1) (by omega)
   have hlim2 := lM (n := bs.length + 1) (by omega)
   have hbo := bytesOf_enc bs
   simp only [↓wBA, tLz, convA, ZA, reduceIte, reduceCtorEq, ZB, ZC, ZD, ZE, ZF, ZG, ZH, ZI, ZJ, ZK, hdec, hb]
   refine cond_split (fun h1 => ?_) (fun h1 => ?_)
   ·skip
    simp only [↓wBA, tLz, convA, ZA, reduceIte, reduceCtorEq, ZB, ZC, ZD, ZE, ZF, ZG, ZH, ZI, ZJ, ZK, hb, appendA, srcA, hen, hlim1, hlim2, toPss, toPs, toP, fillS, Nat.reducePow, hw1]
    refine ⟨⟨(bs ++ [b], k + 1), by simp; omega⟩, by show s.size + 1 - (k + 1) < s.size + 1 - k; omega, ?_⟩
    simp [WeakE, Weak, leL, leT, leM, leG, leA, leC, leS, leO, tokLt, tokLtL, intV, encB, byteP]
   ·by_cases hlt2 : k + 1 < s.size
    ·have hdec2 : decide (((k + 1 : Nat) : Int) < (s.size : Int)) = true := by simp; omega
     obtain ⟨b2, hb2⟩ : ∃ b, s[k + 1]? = some b := ⟨s[k + 1], by simp [hlt2]⟩
     simp only [↓wBA, tLz, convA, ZA, reduceIte, reduceCtorEq, ZB, ZC, ZD, ZE, ZF, ZG, ZH, ZI, ZJ, ZK, hb, hw1, hdec2, hb2]
     refine cond_split (fun h2 => ?_) (fun h2 => ?_)
     ·skip
      simp only [↓wBA, tLz, convA, ZA, reduceIte, reduceCtorEq, ZB, ZC, ZD, ZE, ZF, ZG, ZH, ZI, ZJ, ZK, hb, appendA, srcA, hen, hlim1, hlim2, toPss, toPs, toP, fillS, Nat.reducePow, hw1, hw2]
      refine ⟨⟨(bs ++ [39], k + 1 + 1), by simp; omega⟩, by show s.size + 1 - (k + 1 + 1) < s.size + 1 - k; omega, ?_⟩
      simp [WeakE, Weak, leL, leT, leM, leG, leA, leC, leS, leO, tokLt, tokLtL, intV, encB, byteP]
     ·skip
      simp only [↓wBA, tLz, convA, ZA, reduceIte, reduceCtorEq, ZB, ZC, ZD, ZE, ZF, ZG, ZH, ZI, ZJ, ZK, hw1, convB, hbo]
      exact ret_pure rfl rfl ⟨_, _, .inr ⟨k + 1, rfl, by omega, by omega⟩, rfl⟩
    ·have hdec2 : decide (((k + 1 : Nat) : Int) < (s.size : Int)) = false := by simp; omega
     simp only [↓wBA, tLz, convA, ZA, reduceIte, reduceCtorEq, ZB, ZC, ZD, ZE, ZF, ZG, ZH, ZI, ZJ, ZK, hb, hw1, hdec2, convB, hbo]
     exact ret_pure rfl rfl ⟨_, _, .inr ⟨k + 1, rfl, by omega, by omega⟩, rfl⟩
  ·have hdec := dF (i := k) (n := s.size) (by omega)
   simp only [↓wBA, tLz, convA, ZA, reduceIte, reduceCtorEq, ZB, ZC, ZD, ZE, ZF, ZG, ZH, ZI, ZJ, ZK, hdec]
   exact ret_pure rfl rfl ⟨_, _, .inl rfl, rfl⟩
end Go.Proofs.Ytcnkmandddfdmaa
namespace Go.Proofs.Ytcnkmandddfdmaa
open Go.RowKit
open Nat renaming reduceBEq → ZA, reducePow → ZB, reduceAdd → ZC, reduceSub → ZD, reduceMul → ZE, reduceEqDiff → ZF, reduceLeDiff → ZG, reduceLT → ZH
open Int renaming reduceLT → ZI, reduceLE → ZJ, reduceToNat → ZK
def tLw := aa wX <| aa T3 <| aa T5 <| aa T9 <| aa T29 T102
def encS (l : List ByteArray) : List (List PV) := l.map fun w => [.v (.string w)]
def tokC (k : Int) (s : ByteArray) (n : Int) : List PV := [.v (.int .i64 k), .v (.string s), .v (.int .i64 n)]
def tokA (k : Int) (s : ByteArray) (n : Int) : AV := .agg [intV .i64 k, .p (.v (.string s)), intV .i64 n]
def WordsR (r : AV) : Prop := ∃ ws : List ByteArray, ws.length = 44 ∧ r = .p (.sl 1 (encS ws))
theorem awords (σ : St) : ACalls Try.prog 68 [] σ fun r σ' => σ' = σ ∧ WordsR r := by
 refine ACalls.pureF ?_ rfl σ
 refine acalls_of cx_ok dr_ok Try.func68 (by kernel_rfl) rfl (nt := 2) (rs := [.tmp 0]) rfl rfl ?_
 simp only [↓wBA, tLw, convA, ZA, reduceIte, reduceCtorEq, ZB, ZC, ZD, ZE, ZF, ZG, ZH, ZI, ZJ, ZK, toPss, toPs, toP, fillS, Nat.reducePow]
 refine ret_own (R := WordsR) rfl rfl rfl ⟨[_, _, _, _, _, _, _, _, _, _, _, _, _, _, _, _, _, _, _, _, _, _, _, _, _, _, _, _, _, _, _, _, _, _, _, _, _, _, _, _, _, _, _, _], rfl, rfl⟩
theorem aword (s : ByteArray) (hs : s.size ≤ 140737488351232) (σ : St) : ACalls Try.prog 44 [.p (.v (.string s))] σ fun r σ' => σ' = σ ∧ ∃ (k : Int) (t : ByteArray) (e : Int), r = .tup [tokA k t 0, intV .i64 e] := by
 refine ACalls.pure ?_ rfl σ
 refine acalls_of cx_ok dr_ok Try.func44 (by kernel_rfl) rfl (nt := 30) (rs := [.cell 2 102, .tmp 3]) rfl rfl ?_
 simp only [↓wBA, tLw, convA, ZA, reduceIte, reduceCtorEq, ZB, ZC, ZD, ZE, ZF, ZG, ZH, ZI, ZJ, ZK]
 refine (aupper s 97 122 (-32) hs _).mono ?_
 rintro _ _ ⟨rfl, up, hup, rfl⟩
 simp only [↓wBA, tLw, convA, ZA, reduceIte, reduceCtorEq, ZB, ZC, ZD, ZE, ZF, ZG, ZH, ZI, ZJ, ZK]
 refine (awords _).mono ?_
 rintro _ _ ⟨rfl, ws, hws, rfl⟩
 simp only [↓wBA, tLw, convA, ZA, reduceIte, reduceCtorEq, ZB, ZC, ZD, ZE, ZF, ZG, ZH, ZI, ZJ, ZK]
 have hen : (encS ws).length = 44 := by simp [encS, hws]
 refine awp_loop' (X := { k : Nat // k ≤ 44 }) (fun k => ([.p (.v (.string s)), .any, .mp 0 3 0 0, .any, .p (.v (.string up)), .p (.sl 1 (encS ws)), intV .i64 (k.1 : Nat), .any, .any, .any, .any, .any, .any, .any, .any, .any, .any, .any, .any, .any, .any, .any, .any, .any, .any, .any, .any, .any, .any, .any, .any], [some (.row 3 [[intV .i64 0, .p (.v (.string ⟨#[]⟩)), intV .i64 0]])])) (fun k => 44 - k.1) ⟨0, by omega⟩ (fun _ => by simp) ?_ ?_
 ·simp [WeakE, Weak, leL, leT, leM, leG, leA, leC, leS, leO, tokLt, tokLtL, intV]
 ·rintro ⟨k, hk⟩
  try simp only at hk
  by_cases hlt : k < 44
  ·have hdec : decide ((k : Int) < ((44 : Nat) : Int)) = true := by simp; omega
   obtain ⟨w, hw⟩ : ∃ w, (encS ws)[k]? = some [.v (.string w)] := ⟨ws[k], by simp [encS, hws, hlt]⟩
   have hw1 := wI k (by omega)
   simp only [↓wBA, tLw, convA, ZA, reduceIte, reduceCtorEq, ZB, ZC, ZD, ZE, ZF, ZG, ZH, ZI, ZJ, ZK, hen, hdec, hw, binStr]
   refine cond_split (fun h1 => ?_) (fun h1 => ?_)
   ·skip
    simp only [↓wBA, tLw, convA, ZA, reduceIte, reduceCtorEq, ZB, ZC, ZD, ZE, ZF, ZG, ZH, ZI, ZJ, ZK]
    exact ret_pure rfl rfl ⟨_, _, _, rfl⟩
   ·skip
    simp only [↓wBA, tLw, convA, ZA, reduceIte, reduceCtorEq, ZB, ZC, ZD, ZE, ZF, ZG, ZH, ZI, ZJ, ZK, hw1]
    refine ⟨⟨k + 1, by omega⟩, by show 44 - (k + 1) < 44 - k; omega, ?_⟩
    simp [WeakE, Weak, leL, leT, leM, leG, leA, leC, leS, leO, tokLt, tokLtL, intV]
  ·have hdec : decide ((k : Int) < ((44 : Nat) : Int)) = false := by simp; omega
   simp only [↓wBA, tLw, convA, ZA, reduceIte, reduceCtorEq, ZB, ZC, ZD, ZE, ZF, ZG, ZH, ZI, ZJ, ZK, hen, hdec]
   refine cond_split (fun h1 => ?_) (fun h1 => ?_)
   ·skip
    simp only [↓wBA, tLw, convA, ZA, reduceIte, reduceCtorEq, ZB, ZC, ZD, ZE, ZF, ZG, ZH, ZI, ZJ, ZK]
    exact ret_pure rfl rfl ⟨_, _, _, rfl⟩
   ·skip
    simp only [↓wBA, tLw, convA, ZA, reduceIte, reduceCtorEq, ZB, ZC, ZD, ZE, ZF, ZG, ZH, ZI, ZJ, ZK]
    refine (aupper s 65 90 32 hs _).mono ?_
    rintro _ _ ⟨rfl, lo, hlo, rfl⟩
    simp only [↓wBA, tLw, convA, ZA, reduceIte, reduceCtorEq, ZB, ZC, ZD, ZE, ZF, ZG, ZH, ZI, ZJ, ZK]
    exact ret_pure rfl rfl ⟨_, _, _, rfl⟩
end Go.Proofs.Ytcnkmandddfdmaa
