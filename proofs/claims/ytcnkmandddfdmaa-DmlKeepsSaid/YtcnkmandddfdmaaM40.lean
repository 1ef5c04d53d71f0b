/- dml: the rows of which a statement's condition holds. dml.Delete. A number's bytes, the lowest first. Values written. Do values fit into a record? -/
import Derived.Test.YtcnkmandddfdmaaM36
import Derived.Test.YtcnkmandddfdmaaM39
import Derived.Test.YtcnkmandddfdmaaM22
set_option linter.unusedSimpArgs false
set_option linter.unusedVariables false
set_option linter.defProp false
set_option maxRecDepth 100000
set_option maxHeartbeats 32000000
namespace Go.Proofs.Ytcnkmandddfdmaa
open Go.RowKit
def tDi := aa wX <| aa wbu <| aa T3 <| aa T24 <| aa T25 <| aa T33 <| aa T36 <| aa T40 <| aa T50 T86
theorem ACalls.aggW2 {P : Program} {f : FuncId} {a : AV} {l m rest : List AV} {σ : St} {R : AV → St → Prop} (h : nleC l m) (hc : ACalls P f (a :: .agg m :: rest) σ R) : ACalls P f (a :: .agg l :: rest) σ R :=
 ⟨hc.1, fun M vs hM hv => hc.2 M vs hM (by
  simp only [ARepL, ARep] at hv ⊢
  obtain ⟨u0, us0, rfl, h0, u, us', rfl, ⟨_, us, rfl, h2⟩, h3⟩ := hv
  obtain ⟨g1, g2⟩ := h.rep h2
  exact ⟨u0, _, rfl, h0, _, us', rfl, ⟨g2, us, rfl, g1⟩, h3⟩)⟩
def trueE : Ex := .mk 1 2 1 emp emp emp 0 []
def hitS (s : Sm) (nm : ByteArray) (cols : List Tc) (rows : List (List Va)) : List (List Va) × Int := if (whereS s nm cols).2 ≠ 0 then ([], (whereS s nm cols).2) else filS rows ((whereS s nm cols).1.headD trueE)
theorem ahit (s : Sm) (hwl : s.wh.length ≤ 1000000000000) (nm : ByteArray) (cols : List Tc) (hcl : cols.length ≤ 4398046511104) (rows : List (List Va)) (hr : OkRows rows) (σ : St) : ACalls Try.prog 19 [.agg ((smC s).map .p), tbA nm cols, .p (.sl 1 (enVV rows))] σ fun r st => st = σ ∧ r = .tup [.p (.sl 1 (enVV (hitS s nm cols rows).1)), intV .i64 (hitS s nm cols rows).2] := by
 refine ACalls.pureF (R := fun r => r = .tup [.p (.sl 1 (enVV (hitS s nm cols rows).1)), intV .i64 (hitS s nm cols rows).2]) ?_ (by cases s; rfl) σ
 have hW := adwhere s hwl nm cols hcl
 unfold hitS
 generalize hws : whereS s nm cols = ws at *
 obtain ⟨w, e⟩ := ws
 obtain ⟨kind, tb, sn, scols, names, srows, items, src, wh, group, order, limit, sets, hash⟩ := s
 simp only [tbA, smC, List.map_cons, List.map_nil] at hW
 clear hws hwl
 refine acalls_of cx_ok dr_ok Try.func19 (by kernel_rfl) rfl (nt := 29) (rs := [.tmp 6, .tmp 7]) rfl rfl ?_
 simp only [tbA, smC, List.map_cons, List.map_nil]
 by_cases he : e = 0
 ·subst he
  simp only [ne_eq, not_true_eq_false, if_false]
  cases w with
  | nil =>
    have hF := afilter rows trueE hr
    simp only [exA, exC, exL, trueE, List.map_cons, List.map_nil] at hF
    simp only [List.headD_nil]
    repeat' first | ((with_reducible first | refine cs ?_ ?_ | refine ws ?_ ?_) <;> intro h <;> try simp only [h]) | simp only [↓wBA, tDi, convA, seval, exL, List.length_nil, nc0, nc1, bne_self_eq_false, beq_self_eq_true] | ((with_reducible show ACalls _ _ _ _ _); first | refine (hW _).eq ?_ | (refine ACalls.aggW2 (m := [.p (.v (.int .i64 1)), .p (.v (.int .i64 2)), .p (.v (.int .i64 1)), .p (.v (.string emp)), .p (.v (.string emp)), .p (.v (.string emp)), .p (.v (.int .i64 0)), .p (.sl 8 [])]) (by simp [nleC, emp, leaf, nilA]) ((hF _).mono ?_); rintro _ _ ⟨rfl, rfl⟩))
    all_goals refine ret_is (a := _) ?_ rfl rfl
    all_goals simp only [↓wBA, tDi, convA, seval]
    all_goals simp_all [wS, trueE]
  | cons x w =>
    have hF := afilter rows x hr
    have hx8 : ((exC x).map AV.p).length = 8 := by rw [List.length_map, exC_len]
    simp only [exA] at hF
    simp only [List.headD_cons]
    have hne : (((w.length + 1 : Nat) : Int) == 0) = false := by simp; omega
    repeat' first | ((with_reducible first | refine cs ?_ ?_ | refine ws ?_ ?_) <;> intro h <;> try simp only [h]) | simp only [↓wBA, tDi, convA, seval, exL, exL_len, hne, exC_len, List.length_map] | ((with_reducible show ACalls _ _ _ _ _); first | refine (hW _).eq ?_ | refine (hF _).eq ?_)
    all_goals refine ret_is (a := _) ?_ rfl rfl
    all_goals simp only [↓wBA, tDi, convA, seval]
    all_goals simp_all [wS]
 ·have he' : (e != 0) = true := by simpa using he
  simp only [ne_eq, he, not_false_eq_true, if_true]
  repeat' first | ((with_reducible first | refine cs ?_ ?_ | refine ws ?_ ?_) <;> intro h <;> try simp only [h]) | simp only [↓wBA, tDi, convA, seval, he'] | ((with_reducible show ACalls _ _ _ _ _); refine (hW _).eq ?_)
  all_goals refine ret_is (a := _) ?_ rfl rfl
  all_goals simp only [↓wBA, tDi, convA, seval]
  all_goals simp_all [wS, enVV]
end Go.Proofs.Ytcnkmandddfdmaa
namespace Go.Proofs.Ytcnkmandddfdmaa
open Go.RowKit
def tDd := aa wX <| aa wbu <| aa T3 <| aa T9 <| aa T24 <| aa T25 <| aa T36 <| aa T39 <| aa T40 <| aa T46 T48
theorem filGo_sub (x : Ex) : ∀ (rows : List (List Va)) (s : List (List Va) × Int), (rows.foldl (filStep x) s).1.length ≤ s.1.length + rows.length ∧ ∀ r ∈ (rows.foldl (filStep x) s).1, r ∈ s.1 ∨ r ∈ rows
 | [], s => ⟨by simp, fun r h => .inl h⟩
 | q :: rows, s => by
   obtain ⟨h1, h2⟩ := filGo_sub x rows (filStep x s q)
   simp only [List.foldl_cons, List.length_cons]
   refine ⟨?_, fun r hr => ?_⟩
   ·have : (filStep x s q).1.length ≤ s.1.length + 1 := by simp only [filStep]; split <;> simp
    omega
   ·rcases h2 r hr with h | h
    ·simp only [filStep] at h
     split at h
     ·rcases List.mem_append.1 h with h | h
      ·exact .inl h
      ·simp at h; subst h; exact .inr (by simp)
     ·exact .inl h
    ·exact .inr (by simp [h])
theorem filS_sub (rows : List (List Va)) (x : Ex) : (filS rows x).1.length ≤ rows.length ∧ ∀ r ∈ (filS rows x).1, r ∈ rows := by
 obtain ⟨h1, h2⟩ := filGo_sub x rows ([], 0)
 unfold filS ansS
 split
 ·simp
 ·split
  ·simp
  ·exact ⟨by simpa using h1, fun r hr => by simpa using h2 r hr⟩
theorem hitS_sub (s : Sm) (nm : ByteArray) (cols : List Tc) (rows : List (List Va)) : (hitS s nm cols rows).1.length ≤ rows.length ∧ ∀ r ∈ (hitS s nm cols rows).1, r ∈ rows := by
 unfold hitS
 split
 ·simp
 ·exact filS_sub _ _
abbrev Wr := List Va × Option (List Va)
def wrC (nm : ByteArray) (w : Wr) : List PV := [.v (.string nm), .sl 3 (enV w.1), match w.2 with | none => .v (.slice none 0 0) | some r => .sl 3 (enV r)]
def enW (nm : ByteArray) (l : List Wr) : List (List PV) := l.map (wrC nm)
theorem enW_len (nm : ByteArray) (l : List Wr) : (enW nm l).length = l.length := by simp [enW]
theorem enW_get (nm : ByteArray) (l : List Wr) (i : Nat) (h : i < l.length) : (enW nm l)[i]? = some (wrC nm l[i]) := by simp [enW, h]
def delS (s : Sm) (nm : ByteArray) (cols : List Tc) (rows : List (List Va)) : List Wr × Int :=
 if s.kind ≠ 6 then ([], 1) else if (hitS s nm cols rows).2 ≠ 0 then ([], (hitS s nm cols rows).2) else ((hitS s nm cols rows).1.map fun r => (r, none), 0)
theorem del_succ (nm : ByteArray) (l : List (List Va)) (i : Nat) (h : i < l.length) : enW nm ((l.take (i + 1)).map fun r => (r, none)) = enW nm ((l.take i).map fun r => (r, none)) ++ [[.v (.string nm), .sl 3 (enV l[i]), .v (.slice none 0 0)]] := by
 rw [List.take_succ_eq_append_getElem h, enW, List.map_append, List.map_append]; rfl
theorem adelete (s : Sm) (hwl : s.wh.length ≤ 1000000000000) (nm : ByteArray) (cols : List Tc) (hcl : cols.length ≤ 4398046511104) (rows : List (List Va)) (hr : OkRows rows) (hrl : rows.length ≤ 1000000000000) (σ : St) : ACalls Try.prog 10 [.agg ((smC s).map .p), tbA nm cols, .p (.sl 1 (enVV rows))] σ fun r st => st = σ ∧ r = .tup [.p (.sl 3 (enW nm (delS s nm cols rows).1)), intV .i64 (delS s nm cols rows).2] := by
 refine ACalls.pureF (R := fun r => r = .tup [.p (.sl 3 (enW nm (delS s nm cols rows).1)), intV .i64 (delS s nm cols rows).2]) ?_ (by cases s; rfl) σ
 have hH := ahit s hwl nm cols hcl rows hr
 have hsub := (hitS_sub s nm cols rows).1
 unfold delS
 generalize hws : hitS s nm cols rows = ws at *
 obtain ⟨old, e⟩ := ws
 obtain ⟨kind, tb, sn, scols, names, srows, items, src, wh, group, order, limit, sets, hash⟩ := s
 simp only [tbA, smC, List.map_cons, List.map_nil] at hH
 simp only at hsub
 clear hws hwl
 refine acalls_of cx_ok dr_ok Try.func10 (by kernel_rfl) rfl (nt := 38) (rs := [.tmp 6, .tmp 7]) rfl rfl ?_
 simp only [tbA, smC, List.map_cons, List.map_nil]
 by_cases hk : kind = 6
 ·subst hk
  simp only [ne_eq, not_true_eq_false, if_false]
  by_cases he : e = 0
  ·subst he
   simp only [not_true_eq_false, if_false]
   repeat' first | ((with_reducible first | refine cs ?_ ?_ | refine ws ?_ ?_) <;> intro h <;> try simp only [h]) | simp only [↓wBA, tDd, convA, seval, enVV_len, bne_self_eq_false] | ((with_reducible show ACalls _ _ _ _ _); refine (hH _).eq ?_)
   refine awp_loopN (old.length) (fun i => [(10, .nown 2 3 (enW nm ((old.take i).map fun r => (r, none)))), (28, intV .i64 (i : Nat)), (12, .any), (29, .any), (30, .any), (31, .any), (32, .any), (33, .any), (34, .any), (35, .any), (36, .any), (37, .any), (38, .any), (39, .any)]) (fun i => [(2, .nright 48 (i * 3))]) (fun i => True) ?_ ?_ ?_
   ·trivial
   ·skip
    simp only [wR, Nat.reduceAdd, Nat.reduceLT, reduceIte]
    simp [wW, enW]
   ·intro i hi _
    simp only [wR, Nat.reduceAdd, Nat.reduceLT, reduceIte]
    by_cases hlt : i < old.length
    ·have hdec := dT (i := i) (n := old.length) (by omega)
     have hi0 := nnI i
     have hw := wI i (by omega)
     have hg := enVV_get old i hlt
     have hst := del_succ nm old i hlt
     have htl : (enW nm ((old.take i).map fun r => (r, none))).length = i := by rw [enW_len]; simp; omega
     have hlim1 := tL (n := (i + 1) * 64) (by omega)
     have hlim2 := lM (n := i + 1) (by omega)
     repeat' first | ((with_reducible first | refine cs ?_ ?_ | refine ws ?_ ?_) <;> intro h <;> try simp only [h]) | simp only [↓wBA, tDd, convA, seval, enVV_len, hdec, hi0, hg, hw, htl, hlim1, hlim2, appendA, srcA, List.length_append]
     refine ⟨⟨i + 1, by omega, ?_⟩, by show old.length - (i + 1) < old.length - i; omega, ?_⟩
     ·trivial
     ·simp only [hst]
      simp [wW]
    ·have hdec := dF (i := i) (n := old.length) (by omega)
     have ht : old.take i = old := List.take_of_length_le (by omega)
     simp only [ht]
     repeat' first | ((with_reducible first | refine cs ?_ ?_ | refine ws ?_ ?_) <;> intro h <;> try simp only [h]) | simp only [↓wBA, tDd, convA, seval, enVV_len, hdec]
     all_goals refine ret_is (a := _) ?_ rfl rfl
     all_goals simp only [↓wBA, tDd, convA, seval]
     all_goals simp_all [wS]
  ·have he' : (e != 0) = true := by simpa using he
   simp only [he, not_false_eq_true, if_true]
   repeat' first | ((with_reducible first | refine cs ?_ ?_ | refine ws ?_ ?_) <;> intro h <;> try simp only [h]) | simp only [↓wBA, tDd, convA, seval, bne_self_eq_false, he'] | ((with_reducible show ACalls _ _ _ _ _); refine (hH _).eq ?_)
   all_goals refine ret_is (a := _) ?_ rfl rfl
   all_goals simp only [↓wBA, tDd, convA, seval]
   all_goals simp_all [wS, enW]
 ·have k6 : (kind != 6) = true := by simpa using hk
  simp only [ne_eq, hk, not_false_eq_true, if_true]
  repeat' first | ((with_reducible first | refine cs ?_ ?_ | refine ws ?_ ?_) <;> intro h <;> try simp only [h]) | simp only [↓wBA, tDd, convA, seval, k6]
  all_goals refine ret_is (a := _) ?_ rfl rfl
  all_goals simp only [↓wBA, tDd, convA, seval]
  all_goals simp_all [wS, enW]
end Go.Proofs.Ytcnkmandddfdmaa
namespace Go.Proofs.Ytcnkmandddfdmaa
open Go.RowKit
def tEi := aa wX <| aa wbu <| aa T3 <| aa T5 <| aa T139 T144
def eiB (u : Int) (i : Nat) : List PV := [.v (.int .u8 (IntKind.u8.wrap (u.fdiv (2 ^ (8 * i)))))]
def eightP (u : Int) (n : Nat) : List (List PV) := (List.range n).map (eiB u)
theorem eightP_len (u : Int) (n : Nat) : (eightP u n).length = n := by simp [eightP]
theorem eightP_succ (u : Int) (n : Nat) : eightP u (n + 1) = eightP u n ++ [eiB u n] := by simp [eightP, List.range_succ]
theorem aeight (u : Int) (σ : St) : ACalls Try.prog 80 [.p (.v (.int .u64 u)), boolV false] σ fun r s => s = σ ∧ r = .p (.sl 1 (eightP u 8)) := by
 obtain ⟨l8, hl8⟩ : ∃ l8, l8 = eightP u 8 := ⟨_, rfl⟩
 rw [← hl8]
 refine ACalls.pureF (R := fun r => r = .p (.sl 1 l8)) ?_ rfl σ
 refine acalls_of cx_ok dr_ok Try.func80 (by kernel_rfl) rfl (nt := 21) (rs := [.tmp 4]) rfl rfl ?_
 repeat' first | ((with_reducible first | refine cs ?_ ?_ | refine ws ?_ ?_) <;> intro h <;> try simp only [h]) | simp only [↓wBA, tEi, convA, seval]
 refine awp_loopN (8) (fun i => [(5, .nown 0 1 (eightP u i)), (7, intV .i64 (i : Nat)), (6, .any), (8, .any), (9, .any), (10, .any), (11, .any), (12, .any), (13, .any), (14, .any), (15, .any), (16, .any), (17, .any), (18, .any), (19, .any), (20, .any), (21, .any)]) (fun i => [(0, .nright 5 (i * 1))]) (fun i => True) ?_ ?_ ?_
 ·trivial
 ·skip
  simp only [wR, Nat.reduceAdd, Nat.reduceLT, reduceIte]
  simp [wW, eightP]
 ·intro i hi _
  simp only [wR, Nat.reduceAdd, Nat.reduceLT, reduceIte]
  by_cases hlt : i < 8
  ·have hdec : decide ((i : Int) < 8) = true := by simp; omega
   have hw := wI i (by omega)
   have hm : IntKind.i64.wrap (8 * (i : Int)) = ((8 * i : Nat) : Int) := by rw [wrap_i64 (by omega) (by omega)]; simp
   have hs0 : (((8 * i : Nat) : Int) < 0) = False := eq_false (by omega)
   have hmin : min (8 * i) 64 = 8 * i := by omega
   have hst := eightP_succ u i
   have htl := eightP_len u i
   have hlim1 := tL (n := (i + 1) * 1) (by omega)
   have hlim2 := lM (n := i + 1) (by omega)
   simp only [eiB] at hst
   repeat' first | ((with_reducible first | refine cs ?_ ?_ | refine ws ?_ ?_) <;> intro h <;> try simp only [h]) | simp only [↓wBA, tEi, convA, seval, hdec, hw, hm, hs0, htl, hlim1, hlim2, appendA, srcA, List.length_append, Int.toNat_natCast, IntKind.bits, hmin]
   refine ⟨⟨i + 1, by omega, ?_⟩, by show 8 - (i + 1) < 8 - i; omega, ?_⟩
   ·trivial
   ·simp only [hst]
    simp [wW]
  ·have hi8 : i = 8 := by omega
   subst hi8
   simp only [← hl8]
   have hdec : decide (((8 : Nat) : Int) < 8) = false := by decide
   repeat' first | ((with_reducible first | refine cs ?_ ?_ | refine ws ?_ ?_) <;> intro h <;> try simp only [h]) | simp only [↓wBA, tEi, convA, seval, hdec]
   all_goals refine ret_is (a := _) ?_ rfl rfl
   all_goals simp only [↓wBA, tEi, convA, seval]
   all_goals simp_all [wS]
end Go.Proofs.Ytcnkmandddfdmaa
namespace Go.Proofs.Ytcnkmandddfdmaa
open Go.RowKit
def pl66_16Pv : Plan := (.det 0 (.det 1 (.det 2 (.det 3 (.det 4 (.det 7 (.det 8 (.act 5 (.act 6 (.fin 9 (.det 10 .done)))))))))))
def tPv := aa wX <| aa wbu <| aa T2 <| aa T3 <| aa T4 <| aa T5 <| aa T9 <| aa T46 <| aa T50 <| aa T139 T144
def byP (n : Int) : List PV := [.v (.int .u8 (IntKind.u8.wrap n))]
def putV (v : Va) : List (List PV) := byP v.1 :: (if v.1 = 1 then eightP (IntKind.u64.wrap v.2.1) 8 else if v.1 = 2 then [byP v.2.1] else if v.1 = 3 then byP (v.2.2.size : Nat) :: bytesP v.2.2 else [])
def putL (n : Nat) (l : List Va) : List (List PV) := byP (n : Nat) :: (l.map putV).flatten
def putR (l : List Va) : List (List PV) × Int := if l.length > 255 then ([], 3) else if l.all okV = true then (putL l.length l, 0) else ([], 1)
theorem bytesP_len (s : ByteArray) : (bytesP s).length = s.size := by unfold bytesP; rw [List.length_map, Array.length_toList]; rfl
theorem putV_len (v : Va) (h : okV v = true) : (putV v).length ≤ 66 := by
 obtain ⟨k, n, t⟩ := v
 simp only [putV, okV] at *
 split
 ·simp [eightP_len]
 ·split
  ·simp
  ·split
   ·rename_i h1 h2 h3
    subst h3
    simp at h
    simp [bytesP_len]
    omega
   ·simp
theorem putL_len (n : Nat) : ∀ l : List Va, (∀ v ∈ l, okV v = true) → (putL n l).length ≤ 1 + l.length * 66
 | [], _ => by simp [putL]
 | v :: l, h => by
   have := putL_len n l fun x hx => h x (by simp [hx])
   have h1 := putV_len v (h v (by simp))
   simp only [putL, List.map_cons, List.flatten_cons, List.length_cons, List.length_append] at *
   omega
theorem putL_succ (n : Nat) (l : List Va) (i : Nat) (h : i < l.length) : putL n (l.take (i + 1)) = putL n (l.take i) ++ putV l[i] := by
 rw [List.take_succ_eq_append_getElem h]
 simp only [putL, List.map_append, List.flatten_append, List.map_cons, List.map_nil, List.flatten_cons, List.flatten_nil, List.append_nil, List.cons_append]
theorem aput (l : List Va) (σ : St) : ACalls Try.prog 66 [.p (.sl 3 (enV l))] σ fun r s => s = σ ∧ r = .tup [.p (.sl 1 (putR l).1), intV .i64 (putR l).2] := by
 refine ACalls.pureF (R := fun r => r = .tup [.p (.sl 1 (putR l).1), intV .i64 (putR l).2]) ?_ rfl σ
 refine acalls_of cx_ok dr_ok Try.func66 (by kernel_rfl) rfl (nt := 60) (rs := [.tmp 2, .tmp 3]) rfl rfl ?_
 unfold putR
 by_cases h255 : l.length > 255
 ·have hd : decide ((l.length : Int) > 255) = true := by simp; omega
  rw [if_pos h255]
  repeat' first | ((with_reducible first | refine cs ?_ ?_ | refine ws ?_ ?_ | refine wd ?_ ?_ | refine wu ?_ ?_) <;> intro h <;> try simp only [h]) | simp only [↓wBA, tPv, convA, seval, pl66_16Pv, enV_len, hd] | (with_reducible refine dP pl66_16Pv 11 (some 49) (by decide) (by kernel_rfl) ?_)
  all_goals refine ret_is (a := _) ?_ rfl rfl
  all_goals simp only [↓wBA, tPv, convA, seval]
  all_goals simp_all [wS]
 ·have hd : decide ((l.length : Int) > 255) = false := by simp; omega
  rw [if_neg h255]
  repeat' first | ((with_reducible first | refine cs ?_ ?_ | refine ws ?_ ?_ | refine wd ?_ ?_ | refine wu ?_ ?_) <;> intro h <;> try simp only [h]) | simp only [↓wBA, tPv, convA, seval, pl66_16Pv, enV_len, hd] | (with_reducible refine dP pl66_16Pv 11 (some 49) (by decide) (by kernel_rfl) ?_)
  refine awp_loopN (l.length) (fun i => [(4, .own 0 1 (putL l.length (l.take i))), (16, intV .i64 (i : Nat)), (2, .any), (3, .any), (6, .any), (17, .any), (18, .any), (19, .any), (20, .any), (21, .any), (22, .any), (23, .any), (24, .any), (25, .any), (26, .any), (27, .any), (28, .any), (29, .any), (30, .any), (31, .any), (32, .any), (33, .any), (34, .any), (35, .any), (36, .any), (37, .any), (38, .any), (39, .any), (40, .any), (41, .any), (42, .any), (43, .any), (44, .any), (45, .any), (46, .any), (47, .any), (48, .any), (49, .any), (50, .any), (51, .any), (52, .any), (53, .any), (54, .any), (55, .any), (56, .any), (57, .any), (58, .any), (59, .any)]) (fun i => [(0, .right 5 ((putL l.length (l.take i)).length * 1))]) (fun i => ∀ v ∈ l.take i, okV v = true) ?_ ?_ ?_
  ·simp
  ·skip
   simp only [wR, Nat.reduceAdd, Nat.reduceLT, reduceIte]
   simp [wW, putL, byP]
  ·intro i hi hI
   simp only [wR, Nat.reduceAdd, Nat.reduceLT, reduceIte]
   by_cases hlt : i < l.length
   ·have hdec := dT (i := i) (n := l.length) (by omega)
    have hi0 := nnI i
    have hw := wI i (by omega)
    have hg := enV_get l i hlt
    have hst := putL_succ l.length l i hlt
    have hpl := putL_len l.length (l.take i) hI
    have htl : (l.take i).length = i := by simp; omega
    rw [htl] at hpl
    have hnext : okV l[i] = true → ∀ v ∈ l.take (i + 1), okV v = true := fun h v hv => by
     rw [List.take_succ_eq_append_getElem hlt] at hv
     rcases List.mem_append.1 hv with h1 | h1
     ·exact hI v h1
     ·simp at h1; subst h1; exact h
    have hbad : okV l[i] = false → l.all okV = false := fun h => by
     rw [List.all_eq_false]; exact ⟨_, List.getElem_mem hlt, by simp [h]⟩
    have hvl := putV_len l[i]
    have hok := aokV l[i]
    generalize hcur : putL l.length (l.take i) = cur at *
    generalize hvi : l[i] = v at *
    obtain ⟨k, n, t⟩ := v
    simp only [vaA, vaC, List.map_cons, List.map_nil] at hok hg
    cases hb : okV (k, n, t) with
    | false =>
      rw [hb] at hok
      have hf := hbad hb
      simp only [hf, Bool.false_eq_true, if_false]
      repeat' first | ((with_reducible first | refine cs ?_ ?_ | refine ws ?_ ?_ | refine wd ?_ ?_ | refine wu ?_ ?_) <;> intro h <;> try simp only [h]) | simp only [↓wBA, tPv, convA, seval, pl66_16Pv, enV_len, hdec, hi0, hg] | ((with_reducible show ACalls _ _ _ _ _); refine (hok _).eq ?_) | (with_reducible refine dP pl66_16Pv 11 (some 49) (by decide) (by kernel_rfl) ?_)
      all_goals refine ret_is (a := _) ?_ rfl rfl
      all_goals simp only [↓wBA, tPv, convA, seval]
      all_goals simp_all [wS]
    | true =>
      rw [hb] at hok
      have hv66 := hvl hb
      have hA1 := tL (n := (cur.length + 1) * 1) (by omega)
      have hB1 := lM (n := cur.length + 1) (by omega)
      have hA2 := tL (n := (cur.length + 2) * 1) (by omega)
      have hB2 := lM (n := cur.length + 2) (by omega)
      have hA9 := tL (n := (cur.length + 9) * 1) (by omega)
      have hB9 := lM (n := cur.length + 9) (by omega)
      by_cases h1 : k = 1
      ·subst h1
       simp only [putV, Int.reduceEq, if_true, if_false] at hst
       repeat' first | ((with_reducible first | refine cs ?_ ?_ | refine ws ?_ ?_ | refine wd ?_ ?_ | refine wu ?_ ?_) <;> intro h <;> try simp only [h]) | simp only [↓wBA, tPv, convA, seval, pl66_16Pv, enV_len, hdec, hi0, hg, hw, hA1, hB1, hA2, hB2, hA9, hB9, eightP_len, appendA, srcA, List.length_append, List.length_cons, List.length_nil, Nat.add_assoc, Int.reduceBEq] | ((with_reducible show ACalls _ _ _ _ _); first | refine (hok _).eq ?_ | refine (aeight _ _).eq ?_) | (with_reducible refine dP pl66_16Pv 11 (some 49) (by decide) (by kernel_rfl) ?_)
       refine ⟨⟨i + 1, by omega, ?_⟩, by show l.length - (i + 1) < l.length - i; omega, ?_⟩
       ·exact hnext hb
       ·simp only [hst]
        simp [wW, byP, List.append_assoc, eightP_len, bytesP_len, Nat.add_assoc]
      by_cases h2 : k = 2
      ·subst h2
       simp only [putV, Int.reduceEq, if_true, if_false] at hst
       repeat' first | ((with_reducible first | refine cs ?_ ?_ | refine ws ?_ ?_ | refine wd ?_ ?_ | refine wu ?_ ?_) <;> intro h <;> try simp only [h]) | simp only [↓wBA, tPv, convA, seval, pl66_16Pv, enV_len, hdec, hi0, hg, hw, hA1, hB1, hA2, hB2, hA9, hB9, eightP_len, appendA, srcA, List.length_append, List.length_cons, List.length_nil, Nat.add_assoc, Int.reduceBEq] | ((with_reducible show ACalls _ _ _ _ _); first | refine (hok _).eq ?_ | refine (aeight _ _).eq ?_) | (with_reducible refine dP pl66_16Pv 11 (some 49) (by decide) (by kernel_rfl) ?_)
       refine ⟨⟨i + 1, by omega, ?_⟩, by show l.length - (i + 1) < l.length - i; omega, ?_⟩
       ·exact hnext hb
       ·simp only [hst]
        simp [wW, byP, List.append_assoc, eightP_len, bytesP_len, Nat.add_assoc]
      by_cases h3 : k = 3
      ·subst h3
       simp only [putV, Int.reduceEq, if_true, if_false] at hst
       have ht64 : t.size ≤ 64 := by simp [okV] at hb; omega
       have hA3 := tL (n := (cur.length + (2 + t.size)) * 1) (by omega)
       have hB3 := lM (n := cur.length + (2 + t.size)) (by omega)
       repeat' first | ((with_reducible first | refine cs ?_ ?_ | refine ws ?_ ?_ | refine wd ?_ ?_ | refine wu ?_ ?_) <;> intro h <;> try simp only [h]) | simp only [↓wBA, tPv, convA, seval, pl66_16Pv, enV_len, hdec, hi0, hg, hw, hA1, hB1, hA2, hB2, hA9, hB9, eightP_len, appendA, srcA, List.length_append, List.length_cons, List.length_nil, Nat.add_assoc, Int.reduceBEq, hA3, hB3, bytesP_len, bm_appendS, app_str, ne_eq, not_false_eq_true] | ((with_reducible show ACalls _ _ _ _ _); first | refine (hok _).eq ?_ | refine (aeight _ _).eq ?_) | (with_reducible refine dP pl66_16Pv 11 (some 49) (by decide) (by kernel_rfl) ?_)
       refine ⟨⟨i + 1, by omega, ?_⟩, by show l.length - (i + 1) < l.length - i; omega, ?_⟩
       ·exact hnext hb
       ·simp only [hst]
        simp [wW, byP, List.append_assoc, eightP_len, bytesP_len, Nat.add_assoc]
        omega
      simp only [putV, h1, h2, h3, if_false] at hst
      have e1 : (k == 1) = false := by simpa using h1
      have e2 : (k == 2) = false := by simpa using h2
      have e3 : (k == 3) = false := by simpa using h3
      repeat' first | ((with_reducible first | refine cs ?_ ?_ | refine ws ?_ ?_ | refine wd ?_ ?_ | refine wu ?_ ?_) <;> intro h <;> try simp only [h]) | simp only [↓wBA, tPv, convA, seval, pl66_16Pv, enV_len, hdec, hi0, hg, hw, hA1, hB1, hA2, hB2, hA9, hB9, eightP_len, appendA, srcA, List.length_append, List.length_cons, List.length_nil, Nat.add_assoc, Int.reduceBEq, e1, e2, e3] | ((with_reducible show ACalls _ _ _ _ _); first | refine (hok _).eq ?_ | refine (aeight _ _).eq ?_) | (with_reducible refine dP pl66_16Pv 11 (some 49) (by decide) (by kernel_rfl) ?_)
      refine ⟨⟨i + 1, by omega, ?_⟩, by show l.length - (i + 1) < l.length - i; omega, ?_⟩
      ·exact hnext hb
      ·simp only [hst]
       simp [wW, byP, Nat.add_assoc]
   ·have hdec := dF (i := i) (n := l.length) (by omega)
    have ht : l.take i = l := List.take_of_length_le (by omega)
    rw [ht] at hI
    have hall : l.all okV = true := List.all_eq_true.2 hI
    simp only [ht, hall, if_true]
    repeat' first | ((with_reducible first | refine cs ?_ ?_ | refine ws ?_ ?_ | refine wd ?_ ?_ | refine wu ?_ ?_) <;> intro h <;> try simp only [h]) | simp only [↓wBA, tPv, convA, seval, pl66_16Pv, enV_len, hdec] | (with_reducible refine dP pl66_16Pv 11 (some 49) (by decide) (by kernel_rfl) ?_)
    all_goals refine ret_is (a := _) ?_ rfl rfl
    all_goals simp only [↓wBA, tPv, convA, seval]
    all_goals simp_all [wS]
end Go.Proofs.Ytcnkmandddfdmaa
namespace Go.Proofs.Ytcnkmandddfdmaa
open Go.RowKit
def tFt := aa wX <| aa wbu <| aa T3 <| aa T40 <| aa T46 T139
def fitsV (l : List Va) : Bool := decide ((putR l).2 = 0) && decide ((putR l).1.length ≤ 392)
theorem afits (l : List Va) (σ : St) : ACalls Try.prog 42 [.p (.sl 3 (enV l))] σ fun r s => s = σ ∧ r = boolV (fitsV l) := by
 refine ACalls.pureF (R := fun r => r = boolV (fitsV l)) ?_ rfl σ
 have hP := aput l
 unfold fitsV
 generalize putR l = q at *
 obtain ⟨b, e⟩ := q
 simp only at hP
 refine acalls_of cx_ok dr_ok Try.func42 (by kernel_rfl) rfl (nt := 16) (rs := [.tmp 2]) rfl rfl ?_
 by_cases he : e = 0
 ·subst he
  repeat' first | ((with_reducible first | refine cs ?_ ?_ | refine ws ?_ ?_) <;> intro h <;> try simp only [h]) | simp only [↓wBA, tFt, convA, seval, beq_self_eq_true] | ((with_reducible show ACalls _ _ _ _ _); refine (hP _).eq ?_)
  all_goals refine ret_is (a := _) ?_ rfl rfl
  all_goals simp only [↓wBA, tFt, convA, seval]
  all_goals simp_all [wS]
  all_goals (try simp)
  all_goals (try omega)
 ·have he' : (e == 0) = false := by simpa using he
  repeat' first | ((with_reducible first | refine cs ?_ ?_ | refine ws ?_ ?_) <;> intro h <;> try simp only [h]) | simp only [↓wBA, tFt, convA, seval, he'] | ((with_reducible show ACalls _ _ _ _ _); refine (hP _).eq ?_)
  all_goals refine ret_is (a := _) ?_ rfl rfl
  all_goals simp only [↓wBA, tFt, convA, seval]
  all_goals simp_all [wS]
  all_goals (try simp [he])
end Go.Proofs.Ytcnkmandddfdmaa
