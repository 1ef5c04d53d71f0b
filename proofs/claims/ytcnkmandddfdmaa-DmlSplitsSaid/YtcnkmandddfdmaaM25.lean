/- dml: the rows of which a statement's condition holds. dml.Delete. dml: what expressions come to over a row, put into its columns. A number's bytes, the lowest first. Values written. -/
import Derived.Test.YtcnkmandddfdmaaM21
import Derived.Test.YtcnkmandddfdmaaM24
import Derived.Test.YtcnkmandddfdmaaM20
import Derived.Test.YtcnkmandddfdmaaM18
import Derived.Test.YtcnkmandddfdmaaM17
set_option linter.unusedSimpArgs false
set_option linter.unusedVariables false
namespace Go.Proofs.Ytcnkmandddfdmaa
open Go.RowKit
open Nat (reducePow reduceAdd reduceSub reduceMul reduceEqDiff reduceLeDiff)
theorem ty19_XDi : (type_of% ck_3) ∧ (type_of% cx_3) ∧ (type_of% ck_24) ∧ (type_of% cx_24) ∧ (type_of% ck_25) ∧ (type_of% cx_25) ∧ (type_of% @ks_25) ∧ (type_of% @ko_25) ∧ (type_of% @kn_25) ∧ (type_of% kz_25) ∧ (type_of% ck_33) ∧ (type_of% cx_33) ∧ (type_of% @ks_33) ∧ (type_of% @ko_33) ∧ (type_of% @kn_33) ∧ (type_of% kz_33) ∧ (type_of% ck_36) ∧ (type_of% cx_36) ∧ (type_of% ck_40) ∧ (type_of% cx_40) ∧ (type_of% ck_50) ∧ (type_of% cx_50) ∧ (type_of% ce_50) ∧ (type_of% ck_86) ∧ (type_of% cx_86) := ⟨ck_3, cx_3, ck_24, cx_24, ck_25, cx_25, @ks_25, @ko_25, @kn_25, kz_25, ck_33, cx_33, @ks_33, @ko_33, @kn_33, kz_33, ck_36, cx_36, ck_40, cx_40, ck_50, cx_50, ce_50, ck_86, cx_86⟩
theorem ACalls.aggW2 {P : Program} {f : FuncId} {a : AV} {l m rest : List AV} {σ : St} {R : AV → St → Prop} (h : nleC l m) (hc : ACalls P f (a :: .agg m :: rest) σ R) : ACalls P f (a :: .agg l :: rest) σ R :=
  ⟨hc.1, fun M vs hM hv => hc.2 M vs hM (by
    simp only [ARepL, ARep] at hv ⊢
    obtain ⟨u0, us0, rfl, h0, u, us', rfl, ⟨_, us, rfl, h2⟩, h3⟩ := hv
    obtain ⟨g1, g2⟩ := h.rep h2
    exact ⟨u0, _, rfl, h0, _, us', rfl, ⟨g2, us, rfl, g1⟩, h3⟩)⟩
def trueE : Ex := .mk 1 2 1 emp emp emp 0 []
def hitS (s : Sm) (nm : ByteArray) (cols : List Tc) (rows : List (List Va)) : List (List Va) × Int := if (whereS s nm cols).2 ≠ 0 then ([], (whereS s nm cols).2) else filS rows ((whereS s nm cols).1.headD trueE)
set_option maxRecDepth 100000 in
set_option maxHeartbeats 16000000 in
theorem ahit (s : Sm) (hwl : s.wh.length ≤ 1000000000000) (nm : ByteArray) (cols : List Tc) (hcl : cols.length ≤ 4398046511104) (rows : List (List Va)) (hr : OkRows rows) (σ : St) : ACalls Try.prog 19 [.agg ((smC s).map .p), tbA nm cols, .p (.sl 1 (enVV rows))] σ fun r st => st = σ ∧ r = .tup [.p (.sl 1 (enVV (hitS s nm cols rows).1)), intV .i64 (hitS s nm cols rows).2] := by
  refine ACalls.pureF (R := fun r => r = .tup [.p (.sl 1 (enVV (hitS s nm cols rows).1)), intV .i64 (hitS s nm cols rows).2]) ?_ (by cases s; rfl) σ
  have hW := adwhere s hwl nm cols hcl
  unfold hitS
  generalize hws : whereS s nm cols = ws at *
  obtain ⟨w, e⟩ := ws
  obtain ⟨kind, tb, sn, scols, names, srows, items, src, wh, group, order, limit, sets, hash⟩ := s
  simp only [tbA, smC, List.map_cons, List.map_nil] at hW
  clear hws hwl
  refine acalls_of cx_ok dr_ok Try.func19 (by kernel_rfl) rfl (nt := 29) (rs := [.tmp 6, .tmp 7]) rfl rfl ?_
  simp only [tbA, smC, List.map_cons, List.map_nil]
  by_cases he : e = 0
  · subst he
    simp only [ne_eq, not_true_eq_false, if_false]
    cases w with
    | nil =>
      have hF := afilter rows trueE hr
      simp only [exA, exC, exL, trueE, List.map_cons, List.map_nil] at hF
      simp only [List.headD_nil]
      repeat' first | ((with_reducible first | refine cond_split (fun h => ?_) (fun h => ?_) | refine want_split (fun h => ?_) (fun h => ?_)) <;> (try simp only [h])) | (simp only [↓wBA, wBB, wBC, cx_muts, cx_arr, wBD, convA, Nat.reduceBEq, reduceIte, reduceCtorEq, reducePow, reduceAdd, reduceSub, reduceMul, reduceEqDiff, reduceLeDiff, Nat.reduceLT, Int.reduceLT, Int.reduceLE, Int.reduceToNat, ty19_XDi, bu_len, bu_max, bu_min, exL, List.length_nil, nc0, nc1, bne_self_eq_false, beq_self_eq_true]) | ((with_reducible show ACalls _ _ _ _ _); refine (hW _).mono ?_; rintro _ _ ⟨rfl, rfl⟩) | ((with_reducible show ACalls _ _ _ _ _); refine ACalls.aggW2 (m := [.p (.v (.int .i64 1)), .p (.v (.int .i64 2)), .p (.v (.int .i64 1)), .p (.v (.string emp)), .p (.v (.string emp)), .p (.v (.string emp)), .p (.v (.int .i64 0)), .p (.sl 8 [])]) (by simp [nleC, emp, leaf, nilA]) ((hF _).mono ?_); rintro _ _ ⟨rfl, rfl⟩)
      all_goals refine ret_is (a := _) ?_ rfl rfl
      all_goals simp only [↓wBA, wBB, wBC, cx_muts, cx_arr, wBD, convA, Nat.reduceBEq, reduceIte, reduceCtorEq, reducePow, reduceAdd, reduceSub, reduceMul, reduceEqDiff, reduceLeDiff, Nat.reduceLT, Int.reduceLT, Int.reduceLE, Int.reduceToNat, ty19_XDi]
      all_goals simp_all [resA, resL, resV, leT, leG, leA, leC, leM, leaf, tokLt, tokLtL, intV, boolV, nilA, nilSl, trueE]
    | cons x w =>
      have hF := afilter rows x hr
      have hx8 : ((exC x).map AV.p).length = 8 := by rw [List.length_map, exC_len]
      simp only [exA] at hF
      simp only [List.headD_cons]
      have hne : (((w.length + 1 : Nat) : Int) == 0) = false := by simp; omega
      repeat' first | ((with_reducible first | refine cond_split (fun h => ?_) (fun h => ?_) | refine want_split (fun h => ?_) (fun h => ?_)) <;> (try simp only [h])) | (simp only [↓wBA, wBB, wBC, cx_muts, cx_arr, wBD, convA, Nat.reduceBEq, reduceIte, reduceCtorEq, reducePow, reduceAdd, reduceSub, reduceMul, reduceEqDiff, reduceLeDiff, Nat.reduceLT, Int.reduceLT, Int.reduceLE, Int.reduceToNat, ty19_XDi, bu_len, bu_max, bu_min, exL, exL_len, hne, exC_len, List.length_map]) | ((with_reducible show ACalls _ _ _ _ _); refine (hW _).mono ?_; rintro _ _ ⟨rfl, rfl⟩) | ((with_reducible show ACalls _ _ _ _ _); refine (hF _).mono ?_; rintro _ _ ⟨rfl, rfl⟩)
      all_goals refine ret_is (a := _) ?_ rfl rfl
      all_goals simp only [↓wBA, wBB, wBC, cx_muts, cx_arr, wBD, convA, Nat.reduceBEq, reduceIte, reduceCtorEq, reducePow, reduceAdd, reduceSub, reduceMul, reduceEqDiff, reduceLeDiff, Nat.reduceLT, Int.reduceLT, Int.reduceLE, Int.reduceToNat, ty19_XDi]
      all_goals simp_all [resA, resL, resV, leT, leG, leA, leC, leM, leaf, tokLt, tokLtL, intV, boolV, nilA, nilSl]
  · have he' : (e != 0) = true := by simpa using he
    simp only [ne_eq, he, not_false_eq_true, if_true]
    repeat' first | ((with_reducible first | refine cond_split (fun h => ?_) (fun h => ?_) | refine want_split (fun h => ?_) (fun h => ?_)) <;> (try simp only [h])) | (simp only [↓wBA, wBB, wBC, cx_muts, cx_arr, wBD, convA, Nat.reduceBEq, reduceIte, reduceCtorEq, reducePow, reduceAdd, reduceSub, reduceMul, reduceEqDiff, reduceLeDiff, Nat.reduceLT, Int.reduceLT, Int.reduceLE, Int.reduceToNat, ty19_XDi, bu_len, bu_max, bu_min, he']) | ((with_reducible show ACalls _ _ _ _ _); refine (hW _).mono ?_; rintro _ _ ⟨rfl, rfl⟩)
    all_goals refine ret_is (a := _) ?_ rfl rfl
    all_goals simp only [↓wBA, wBB, wBC, cx_muts, cx_arr, wBD, convA, Nat.reduceBEq, reduceIte, reduceCtorEq, reducePow, reduceAdd, reduceSub, reduceMul, reduceEqDiff, reduceLeDiff, Nat.reduceLT, Int.reduceLT, Int.reduceLE, Int.reduceToNat, ty19_XDi]
    all_goals simp_all [resA, resL, resV, leT, leG, leA, leC, leM, leaf, tokLt, tokLtL, intV, boolV, nilA, nilSl, enVV]
end Go.Proofs.Ytcnkmandddfdmaa
namespace Go.Proofs.Ytcnkmandddfdmaa
open Go.RowKit
open Nat (reducePow reduceAdd reduceSub reduceMul reduceEqDiff reduceLeDiff)
theorem ty10_XDd : (type_of% ck_3) ∧ (type_of% cx_3) ∧ (type_of% ck_9) ∧ (type_of% cx_9) ∧ (type_of% ck_24) ∧ (type_of% cx_24) ∧ (type_of% ck_25) ∧ (type_of% cx_25) ∧ (type_of% @ks_25) ∧ (type_of% @ko_25) ∧ (type_of% @kn_25) ∧ (type_of% kz_25) ∧ (type_of% ck_36) ∧ (type_of% cx_36) ∧ (type_of% ck_39) ∧ (type_of% cx_39) ∧ (type_of% @ks_39) ∧ (type_of% @ko_39) ∧ (type_of% @kn_39) ∧ (type_of% kz_39) ∧ (type_of% ck_40) ∧ (type_of% cx_40) ∧ (type_of% ck_46) ∧ (type_of% cx_46) ∧ (type_of% @ks_46) ∧ (type_of% @ko_46) ∧ (type_of% @kn_46) ∧ (type_of% kz_46) ∧ (type_of% ck_48) ∧ (type_of% cx_48) := ⟨ck_3, cx_3, ck_9, cx_9, ck_24, cx_24, ck_25, cx_25, @ks_25, @ko_25, @kn_25, kz_25, ck_36, cx_36, ck_39, cx_39, @ks_39, @ko_39, @kn_39, kz_39, ck_40, cx_40, ck_46, cx_46, @ks_46, @ko_46, @kn_46, kz_46, ck_48, cx_48⟩
theorem filGo_sub (x : Ex) : ∀ (rows : List (List Va)) (s : List (List Va) × Int), (rows.foldl (filStep x) s).1.length ≤ s.1.length + rows.length ∧ ∀ r ∈ (rows.foldl (filStep x) s).1, r ∈ s.1 ∨ r ∈ rows
  | [], s => ⟨by simp, fun r h => .inl h⟩
  | q :: rows, s => by
    obtain ⟨h1, h2⟩ := filGo_sub x rows (filStep x s q)
    simp only [List.foldl_cons, List.length_cons]
    refine ⟨?_, fun r hr => ?_⟩
    · have : (filStep x s q).1.length ≤ s.1.length + 1 := by simp only [filStep]; split <;> simp
      omega
    · rcases h2 r hr with h | h
      · simp only [filStep] at h
        split at h
        · rcases List.mem_append.1 h with h | h
          · exact .inl h
          · simp at h; subst h; exact .inr (by simp)
        · exact .inl h
      · exact .inr (by simp [h])
theorem filS_sub (rows : List (List Va)) (x : Ex) : (filS rows x).1.length ≤ rows.length ∧ ∀ r ∈ (filS rows x).1, r ∈ rows := by
  obtain ⟨h1, h2⟩ := filGo_sub x rows ([], 0)
  unfold filS ansS
  split
  · simp
  · split
    · simp
    · exact ⟨by simpa using h1, fun r hr => by simpa using h2 r hr⟩
theorem hitS_sub (s : Sm) (nm : ByteArray) (cols : List Tc) (rows : List (List Va)) : (hitS s nm cols rows).1.length ≤ rows.length ∧ ∀ r ∈ (hitS s nm cols rows).1, r ∈ rows := by
  unfold hitS
  split
  · simp
  · exact filS_sub _ _
/-- A write: what was, what is. -/
abbrev Wr := List Va × Option (List Va)
def wrC (nm : ByteArray) (w : Wr) : List PV := [.v (.string nm), .sl 3 (enV w.1), match w.2 with | none => .v (.slice none 0 0) | some r => .sl 3 (enV r)]
def enW (nm : ByteArray) (l : List Wr) : List (List PV) := l.map (wrC nm)
theorem enW_len (nm : ByteArray) (l : List Wr) : (enW nm l).length = l.length := by simp [enW]
theorem enW_get (nm : ByteArray) (l : List Wr) (i : Nat) (h : i < l.length) : (enW nm l)[i]? = some (wrC nm l[i]) := by simp [enW, h]
def delS (s : Sm) (nm : ByteArray) (cols : List Tc) (rows : List (List Va)) : List Wr × Int :=
  if s.kind ≠ 6 then ([], 1) else if (hitS s nm cols rows).2 ≠ 0 then ([], (hitS s nm cols rows).2) else ((hitS s nm cols rows).1.map fun r => (r, none), 0)
theorem del_succ (nm : ByteArray) (l : List (List Va)) (i : Nat) (h : i < l.length) : enW nm ((l.take (i + 1)).map fun r => (r, none)) = enW nm ((l.take i).map fun r => (r, none)) ++ [[.v (.string nm), .sl 3 (enV l[i]), .v (.slice none 0 0)]] := by
  rw [List.take_succ_eq_append_getElem h, enW, List.map_append, List.map_append]; rfl
set_option maxRecDepth 100000 in
set_option maxHeartbeats 16000000 in
theorem adelete (s : Sm) (hwl : s.wh.length ≤ 1000000000000) (nm : ByteArray) (cols : List Tc) (hcl : cols.length ≤ 4398046511104) (rows : List (List Va)) (hr : OkRows rows) (hrl : rows.length ≤ 1000000000000) (σ : St) : ACalls Try.prog 10 [.agg ((smC s).map .p), tbA nm cols, .p (.sl 1 (enVV rows))] σ fun r st => st = σ ∧ r = .tup [.p (.sl 3 (enW nm (delS s nm cols rows).1)), intV .i64 (delS s nm cols rows).2] := by
  refine ACalls.pureF (R := fun r => r = .tup [.p (.sl 3 (enW nm (delS s nm cols rows).1)), intV .i64 (delS s nm cols rows).2]) ?_ (by cases s; rfl) σ
  have hH := ahit s hwl nm cols hcl rows hr
  have hsub := (hitS_sub s nm cols rows).1
  unfold delS
  generalize hws : hitS s nm cols rows = ws at *
  obtain ⟨old, e⟩ := ws
  obtain ⟨kind, tb, sn, scols, names, srows, items, src, wh, group, order, limit, sets, hash⟩ := s
  simp only [tbA, smC, List.map_cons, List.map_nil] at hH
  simp only at hsub
  clear hws hwl
  refine acalls_of cx_ok dr_ok Try.func10 (by kernel_rfl) rfl (nt := 38) (rs := [.tmp 6, .tmp 7]) rfl rfl ?_
  simp only [tbA, smC, List.map_cons, List.map_nil]
  by_cases hk : kind = 6
  · subst hk
    simp only [ne_eq, not_true_eq_false, if_false]
    by_cases he : e = 0
    · subst he
      simp only [not_true_eq_false, if_false]
      repeat' first | ((with_reducible first | refine cond_split (fun h => ?_) (fun h => ?_) | refine want_split (fun h => ?_) (fun h => ?_)) <;> (try simp only [h])) | (simp only [↓wBA, wBB, wBC, cx_muts, cx_arr, wBD, convA, Nat.reduceBEq, reduceIte, reduceCtorEq, reducePow, reduceAdd, reduceSub, reduceMul, reduceEqDiff, reduceLeDiff, Nat.reduceLT, Int.reduceLT, Int.reduceLE, Int.reduceToNat, ty10_XDd, bu_len, bu_max, bu_min, enVV_len, bne_self_eq_false]) | ((with_reducible show ACalls _ _ _ _ _); refine (hH _).mono ?_; rintro _ _ ⟨rfl, rfl⟩)
      refine awp_loopN (old.length) (fun i => [(10, .nown 2 3 (enW nm ((old.take i).map fun r => (r, none)))), (28, intV .i64 (i : Nat)), (12, .any), (29, .any), (30, .any), (31, .any), (32, .any), (33, .any), (34, .any), (35, .any), (36, .any), (37, .any), (38, .any), (39, .any)]) (fun i => [(2, .nright 48 (i * 3))]) (fun i => True) ?_ ?_ ?_
      · trivial
      · skip
        simp only [setsF_cons, setsF_nil, setsO_cons, setsO_nil, List.set_cons_zero, List.set_cons_succ, List.length_cons, List.length_nil, St.put, Nat.zero_add, Nat.reduceAdd, Nat.reduceLT, Nat.lt_irrefl, reduceIte, List.cons_append, List.nil_append]
        simp [WeakE, Weak, setsF, setsO, St.put, leL, leT, leM, leG, leA, leC, leR, leS, leO, tokLt, tokLtL, intV, boolV, leaf, nilA, nilSl, enW]
      · intro i hi _
        simp only [setsF_cons, setsF_nil, setsO_cons, setsO_nil, List.set_cons_zero, List.set_cons_succ, List.length_cons, List.length_nil, St.put, Nat.zero_add, Nat.reduceAdd, Nat.reduceLT, Nat.lt_irrefl, reduceIte, List.cons_append, List.nil_append]
        by_cases hlt : i < old.length
        · have hdec : decide ((i : Int) < (old.length : Int)) = true := by simp; omega
          have hi0 : ((0 : Int) ≤ (i : Int)) = True := eq_true (by omega)
          have hw : IntKind.i64.wrap ((i : Int) + 1) = ((i + 1 : Nat) : Int) := by rw [wrap_i64 (by omega) (by omega)]; simp
          have hg := enVV_get old i hlt
          have hst := del_succ nm old i hlt
          have htl : (enW nm ((old.take i).map fun r => (r, none))).length = i := by rw [enW_len]; simp; omega
          have hlim1 : ((i + 1) * 64 ≤ 140737488355328) = True := eq_true (by omega)
          have hlim2 : (i + 1 ≤ maxLen) = True := eq_true (by unfold maxLen; omega)
          repeat' first | ((with_reducible first | refine cond_split (fun h => ?_) (fun h => ?_) | refine want_split (fun h => ?_) (fun h => ?_)) <;> (try simp only [h])) | (simp only [↓wBA, wBB, wBC, cx_muts, cx_arr, wBD, convA, Nat.reduceBEq, reduceIte, reduceCtorEq, reducePow, reduceAdd, reduceSub, reduceMul, reduceEqDiff, reduceLeDiff, Nat.reduceLT, Int.reduceLT, Int.reduceLE, Int.reduceToNat, ty10_XDd, bu_len, bu_max, bu_min, enVV_len, hdec, hi0, hg, hw, htl, hlim1, hlim2, appendA, srcA, List.length_append])
          refine ⟨⟨i + 1, by omega, ?_⟩, by show old.length - (i + 1) < old.length - i; omega, ?_⟩
          · trivial
          · simp only [hst]
            simp [WeakE, Weak, setsF, setsO, St.put, leL, leT, leM, leG, leA, leC, leR, leS, leO, tokLt, tokLtL, intV, boolV, leaf, nilA, nilSl]
        · have hdec : decide ((i : Int) < (old.length : Int)) = false := by simp; omega
          have ht : old.take i = old := List.take_of_length_le (by omega)
          simp only [ht]
          repeat' first | ((with_reducible first | refine cond_split (fun h => ?_) (fun h => ?_) | refine want_split (fun h => ?_) (fun h => ?_)) <;> (try simp only [h])) | (simp only [↓wBA, wBB, wBC, cx_muts, cx_arr, wBD, convA, Nat.reduceBEq, reduceIte, reduceCtorEq, reducePow, reduceAdd, reduceSub, reduceMul, reduceEqDiff, reduceLeDiff, Nat.reduceLT, Int.reduceLT, Int.reduceLE, Int.reduceToNat, ty10_XDd, bu_len, bu_max, bu_min, enVV_len, hdec])
          all_goals refine ret_is (a := _) ?_ rfl rfl
          all_goals simp only [↓wBA, wBB, wBC, cx_muts, cx_arr, wBD, convA, Nat.reduceBEq, reduceIte, reduceCtorEq, reducePow, reduceAdd, reduceSub, reduceMul, reduceEqDiff, reduceLeDiff, Nat.reduceLT, Int.reduceLT, Int.reduceLE, Int.reduceToNat, ty10_XDd]
          all_goals simp_all [resA, resL, resV, leT, leG, leA, leC, leM, leaf, tokLt, tokLtL, intV, boolV, nilA, nilSl]
    · have he' : (e != 0) = true := by simpa using he
      simp only [he, not_false_eq_true, if_true]
      repeat' first | ((with_reducible first | refine cond_split (fun h => ?_) (fun h => ?_) | refine want_split (fun h => ?_) (fun h => ?_)) <;> (try simp only [h])) | (simp only [↓wBA, wBB, wBC, cx_muts, cx_arr, wBD, convA, Nat.reduceBEq, reduceIte, reduceCtorEq, reducePow, reduceAdd, reduceSub, reduceMul, reduceEqDiff, reduceLeDiff, Nat.reduceLT, Int.reduceLT, Int.reduceLE, Int.reduceToNat, ty10_XDd, bu_len, bu_max, bu_min, bne_self_eq_false, he']) | ((with_reducible show ACalls _ _ _ _ _); refine (hH _).mono ?_; rintro _ _ ⟨rfl, rfl⟩)
      all_goals refine ret_is (a := _) ?_ rfl rfl
      all_goals simp only [↓wBA, wBB, wBC, cx_muts, cx_arr, wBD, convA, Nat.reduceBEq, reduceIte, reduceCtorEq, reducePow, reduceAdd, reduceSub, reduceMul, reduceEqDiff, reduceLeDiff, Nat.reduceLT, Int.reduceLT, Int.reduceLE, Int.reduceToNat, ty10_XDd]
      all_goals simp_all [resA, resL, resV, leT, leG, leA, leC, leM, leaf, tokLt, tokLtL, intV, boolV, nilA, nilSl, enW]
  · have k6 : (kind != 6) = true := by simpa using hk
    simp only [ne_eq, hk, not_false_eq_true, if_true]
    repeat' first | ((with_reducible first | refine cond_split (fun h => ?_) (fun h => ?_) | refine want_split (fun h => ?_) (fun h => ?_)) <;> (try simp only [h])) | (simp only [↓wBA, wBB, wBC, cx_muts, cx_arr, wBD, convA, Nat.reduceBEq, reduceIte, reduceCtorEq, reducePow, reduceAdd, reduceSub, reduceMul, reduceEqDiff, reduceLeDiff, Nat.reduceLT, Int.reduceLT, Int.reduceLE, Int.reduceToNat, ty10_XDd, bu_len, bu_max, bu_min, k6])
    all_goals refine ret_is (a := _) ?_ rfl rfl
    all_goals simp only [↓wBA, wBB, wBC, cx_muts, cx_arr, wBD, convA, Nat.reduceBEq, reduceIte, reduceCtorEq, reducePow, reduceAdd, reduceSub, reduceMul, reduceEqDiff, reduceLeDiff, Nat.reduceLT, Int.reduceLT, Int.reduceLE, Int.reduceToNat, ty10_XDd]
    all_goals simp_all [resA, resL, resV, leT, leG, leA, leC, leM, leaf, tokLt, tokLtL, intV, boolV, nilA, nilSl, enW]
end Go.Proofs.Ytcnkmandddfdmaa
namespace Go.Proofs.Ytcnkmandddfdmaa
open Go.RowKit
open Nat (reducePow reduceAdd reduceSub reduceMul reduceEqDiff reduceLeDiff)
def pl20_8_XDw : Plan := (.det 0 (.det 1 (.det 2 (.det 3 (.det 4 (.det 5 (.det 6 (.fin 7 .done))))))))
theorem ty20_XDw : (type_of% ck_3) ∧ (type_of% cx_3) ∧ (type_of% ck_33) ∧ (type_of% cx_33) ∧ (type_of% @ks_33) ∧ (type_of% @ko_33) ∧ (type_of% @kn_33) ∧ (type_of% kz_33) ∧ (type_of% ck_40) ∧ (type_of% cx_40) ∧ (type_of% ck_46) ∧ (type_of% cx_46) ∧ (type_of% @ks_46) ∧ (type_of% @ko_46) ∧ (type_of% @kn_46) ∧ (type_of% kz_46) ∧ (type_of% ck_50) ∧ (type_of% cx_50) ∧ (type_of% ce_50) ∧ (type_of% ck_61) ∧ (type_of% cx_61) ∧ (type_of% @ks_61) ∧ (type_of% @ko_61) ∧ (type_of% @kn_61) ∧ (type_of% kz_61) ∧ (type_of% ck_86) ∧ (type_of% cx_86) := ⟨ck_3, cx_3, ck_33, cx_33, @ks_33, @ko_33, @kn_33, kz_33, ck_40, cx_40, ck_46, cx_46, @ks_46, @ko_46, @kn_46, kz_46, ck_50, cx_50, ce_50, ck_61, cx_61, @ks_61, @ko_61, @kn_61, kz_61, ck_86, cx_86⟩
def wStep (row : List Va) (s : List Va × Int) (q : Ex × Int) : List Va × Int := (s.1.set q.2.toNat (evalV row q.1).1, leastI s.2 (evalV row q.1).2)
def wrkS (row : List Va) (xs : List Ex) (cs : List Int) (least : Int) : List Va × Int := (xs.zip cs).foldl (wStep row) (row, least)
theorem wGo_len (row : List Va) : ∀ (l : List (Ex × Int)) (s : List Va × Int), (l.foldl (wStep row) s).1.length = s.1.length
  | [], s => rfl
  | q :: l, s => by rw [List.foldl_cons, wGo_len row l]; simp [wStep]
theorem muR_get (l : List Va) (i : Nat) (h : i < l.length) : (muR l)[i]? = some ((vaC l[i]).map .p) := by simp [muR, h]
theorem muR_set (l : List Va) (i : Nat) (v : Va) : (muR l).set i ((vaC v).map .p) = muR (l.set i v) := by simp [muR, List.map_set]
theorem mu_tok (l : List Va) (n : Nat) : (∀ x, x ∈ muR l → tokLtL n x = true) = True := eq_true fun x hx => by
  obtain ⟨v, _, rfl⟩ := List.mem_map.1 hx
  rfl
theorem toPs_mapP : ∀ l : List PV, toPs (l.map AV.p) = some l
  | [] => rfl
  | x :: l => by simp [toPs, toP, toPs_mapP l]
theorem toPss_mu : ∀ l : List Va, toPss (muR l) = some (enV l)
  | [] => rfl
  | v :: l => by
    have := toPss_mu l
    simp only [muR, enV, List.map_cons, toPss, toPs_mapP] at this ⊢
    rw [this]
theorem le_msR {σ : St} {n t m : Nat} {l : List Va} (h1 : σ[t]? = some (some (.row 3 (muR l)))) (h2 : m = l.length) : leA σ n [] (.ms t 3 0 m) (.p (.sl 3 (enV l))) := by
  subst h2
  refine .inr (.inr (.inr (.inr (.inr (.inr (.inr ⟨t, 3, 0, l.length, enV l, rfl, rfl, ?_⟩))))))
  simp only [frzRow, h1, List.getElem?_nil]
  rw [if_pos ⟨trivial, by rw [muR_len]; omega⟩, List.drop_zero, List.take_of_length_le (by rw [muR_len]; exact Nat.le_refl _)]
  exact toPss_mu l
set_option maxRecDepth 100000 in
set_option maxHeartbeats 16000000 in
theorem aworked (row : List Va) (xs : List Ex) (cs : List Int) (least : Int) (hx : xs.length ≤ cs.length) (hcs : ∀ c ∈ cs, 0 ≤ c ∧ c.toNat < row.length) (hl : row.length ≤ 4398046511104) (hxl : xs.length ≤ 4398046511104) (σ : St) : ACalls Try.prog 20 [.p (.sl 3 (enV row)), .p (.sl 8 (exL xs)), .p (.sl 1 (enI cs)), intV .i64 least] σ fun r s => s = σ ∧ r = .tup [.p (.sl 3 (enV (wrkS row xs cs least).1)), intV .i64 (wrkS row xs cs least).2] := by
  refine ACalls.pureF (R := fun r => r = .tup [.p (.sl 3 (enV (wrkS row xs cs least).1)), intV .i64 (wrkS row xs cs least).2]) ?_ rfl σ
  unfold wrkS
  have hzl : (xs.zip cs).length = xs.length := by simp; omega
  cases hrow : row with
  | nil =>
    subst hrow
    have hc0 : cs = [] := by
      cases cs with
      | nil => rfl
      | cons c cs => have := (hcs c (by simp)).2; simp at this
    have hx0 : xs = [] := by subst hc0; simpa using hx
    subst hc0 hx0
    refine acalls_of cx_ok dr_ok Try.func20 (by kernel_rfl) rfl (nt := 48) (rs := [.tmp 8, .tmp 9]) rfl rfl ?_
    repeat' first | ((with_reducible first | refine cond_split (fun h => ?_) (fun h => ?_) | refine want_split (fun h => ?_) (fun h => ?_)) <;> (try simp only [h])) | (simp only [↓wBA, wBB, wBC, cx_muts, cx_arr, wBD, convA, Nat.reduceBEq, reduceIte, reduceCtorEq, reducePow, reduceAdd, reduceSub, reduceMul, reduceEqDiff, reduceLeDiff, Nat.reduceLT, Int.reduceLT, Int.reduceLE, Int.reduceToNat, ty20_XDw, bu_len, bu_max, bu_min, pl20_8_XDw, exL_len]) | ((with_reducible show ACalls _ _ _ _ _); refine (aclone [] (by simp) _).mono ?_; rintro _ _ ⟨rfl, rfl⟩) | (with_reducible refine draw_plan pl20_8_XDw 8 (some 42) (by decide) (by decide) (by kernel_rfl) (by kernel_rfl) ?_) | ((with_reducible first | refine wantD_split (fun h => ?_) (fun h => ?_) | refine wantU_split (fun h => ?_) (fun h => ?_)) <;> (try simp only [h])) | (with_reducible refine And.intro ?_ ?_)
    refine awp_loopN (0) (fun i => [(3, intV .i64 least), (19, intV .i64 (i : Nat)), (11, .any), (12, .any), (13, .any), (14, .any), (20, .any), (21, .any), (22, .any), (23, .any), (24, .any), (25, .any), (26, .any), (27, .any), (28, .any), (29, .any), (30, .any), (31, .any), (32, .any), (33, .any), (34, .any), (35, .any), (36, .any), (37, .any), (38, .any), (39, .any), (40, .any), (41, .any), (42, .any), (43, .any), (44, .any), (45, .any), (46, .any), (47, .any), (48, .any), (49, .any)]) (fun i => []) (fun i => True) ?_ ?_ ?_
    · trivial
    · skip
      simp only [setsF_cons, setsF_nil, setsO_cons, setsO_nil, List.set_cons_zero, List.set_cons_succ, List.length_cons, List.length_nil, St.put, Nat.zero_add, Nat.reduceAdd, Nat.reduceLT, Nat.lt_irrefl, reduceIte, List.cons_append, List.nil_append]
      simp [WeakE, Weak, setsF, setsO, St.put, leL, leT, leM, leG, leA, leC, leR, leS, leO, tokLt, tokLtL, intV, boolV, leaf, nilA, nilSl]
    · intro i hi _
      have : i = 0 := by omega
      subst this
      simp only [setsF_cons, setsF_nil, setsO_cons, setsO_nil, List.set_cons_zero, List.set_cons_succ, List.length_cons, List.length_nil, St.put, Nat.zero_add, Nat.reduceAdd, Nat.reduceLT, Nat.lt_irrefl, reduceIte, List.cons_append, List.nil_append]
      repeat' first | ((with_reducible first | refine cond_split (fun h => ?_) (fun h => ?_) | refine want_split (fun h => ?_) (fun h => ?_)) <;> (try simp only [h])) | (simp only [↓wBA, wBB, wBC, cx_muts, cx_arr, wBD, convA, Nat.reduceBEq, reduceIte, reduceCtorEq, reducePow, reduceAdd, reduceSub, reduceMul, reduceEqDiff, reduceLeDiff, Nat.reduceLT, Int.reduceLT, Int.reduceLE, Int.reduceToNat, ty20_XDw, bu_len, bu_max, bu_min, pl20_8_XDw, exL, List.length_nil, decide_false, nc0]) | (with_reducible refine draw_plan pl20_8_XDw 8 (some 42) (by decide) (by decide) (by kernel_rfl) (by kernel_rfl) ?_) | ((with_reducible first | refine wantD_split (fun h => ?_) (fun h => ?_) | refine wantU_split (fun h => ?_) (fun h => ?_)) <;> (try simp only [h])) | (with_reducible refine And.intro ?_ ?_)
      all_goals refine ret_is (a := _) ?_ rfl rfl
      all_goals simp only [↓wBA, wBB, wBC, cx_muts, cx_arr, wBD, convA, Nat.reduceBEq, reduceIte, reduceCtorEq, reducePow, reduceAdd, reduceSub, reduceMul, reduceEqDiff, reduceLeDiff, Nat.reduceLT, Int.reduceLT, Int.reduceLE, Int.reduceToNat, ty20_XDw]
      all_goals simp_all [resA, resL, resV, leT, leG, leA, leC, leM, leaf, tokLt, tokLtL, intV, boolV, nilA, nilSl, enV]
  | cons v l =>
    have hrl : row.length = l.length + 1 := by rw [hrow]; rfl
    rw [← hrow]
    have hclone := acloneM v l (by omega)
    rw [← hrow] at hclone
    refine acalls_of cx_ok dr_ok Try.func20 (by kernel_rfl) rfl (nt := 48) (rs := [.tmp 8, .tmp 9]) rfl rfl ?_
    repeat' first | ((with_reducible first | refine cond_split (fun h => ?_) (fun h => ?_) | refine want_split (fun h => ?_) (fun h => ?_)) <;> (try simp only [h])) | (simp only [↓wBA, wBB, wBC, cx_muts, cx_arr, wBD, convA, Nat.reduceBEq, reduceIte, reduceCtorEq, reducePow, reduceAdd, reduceSub, reduceMul, reduceEqDiff, reduceLeDiff, Nat.reduceLT, Int.reduceLT, Int.reduceLE, Int.reduceToNat, ty20_XDw, bu_len, bu_max, bu_min, pl20_8_XDw, exL_len]) | ((with_reducible show ACalls _ _ _ _ _); refine (hclone _).mono ?_; rintro _ _ ⟨rfl, rfl⟩) | (with_reducible refine draw_plan pl20_8_XDw 8 (some 42) (by decide) (by decide) (by kernel_rfl) (by kernel_rfl) ?_) | ((with_reducible first | refine wantD_split (fun h => ?_) (fun h => ?_) | refine wantU_split (fun h => ?_) (fun h => ?_)) <;> (try simp only [h])) | (with_reducible refine And.intro ?_ ?_)
    refine awp_loopN (xs.length) (fun i => [(3, intV .i64 (((xs.zip cs).take i).foldl (wStep row) (row, least)).2), (19, intV .i64 (i : Nat)), (11, .any), (12, .any), (13, .any), (14, .any), (20, .any), (21, .any), (22, .any), (23, .any), (24, .any), (25, .any), (26, .any), (27, .any), (28, .any), (29, .any), (30, .any), (31, .any), (32, .any), (33, .any), (34, .any), (35, .any), (36, .any), (37, .any), (38, .any), (39, .any), (40, .any), (41, .any), (42, .any), (43, .any), (44, .any), (45, .any), (46, .any), (47, .any), (48, .any), (49, .any)]) (fun i => [(1, .row 3 (muR (((xs.zip cs).take i).foldl (wStep row) (row, least)).1))]) (fun i => True) ?_ ?_ ?_
    · trivial
    · skip
      simp only [setsF_cons, setsF_nil, setsO_cons, setsO_nil, List.set_cons_zero, List.set_cons_succ, List.length_cons, List.length_nil, St.put, Nat.zero_add, Nat.reduceAdd, Nat.reduceLT, Nat.lt_irrefl, reduceIte, List.cons_append, List.nil_append]
      simp [WeakE, Weak, setsF, setsO, St.put, leL, leT, leM, leG, leA, leC, leR, leS, leO, tokLt, tokLtL, intV, boolV, leaf, nilA, nilSl, mu_tok]
    · intro i hi _
      simp only [setsF_cons, setsF_nil, setsO_cons, setsO_nil, List.set_cons_zero, List.set_cons_succ, List.length_cons, List.length_nil, St.put, Nat.zero_add, Nat.reduceAdd, Nat.reduceLT, Nat.lt_irrefl, reduceIte, List.cons_append, List.nil_append]
      by_cases hlt : i < xs.length
      · have hdec : decide ((i : Int) < (xs.length : Int)) = true := by simp; omega
        have hi0 : ((0 : Int) ≤ (i : Int)) = True := eq_true (by omega)
        have hw : IntKind.i64.wrap ((i : Int) + 1) = ((i + 1 : Nat) : Int) := by rw [wrap_i64 (by omega) (by omega)]; simp
        have hg := exL_at xs i hlt
        have hci : i < cs.length := by omega
        have hgc := enI_get cs i hci
        obtain ⟨hc0, hcl⟩ := hcs cs[i] (List.getElem_mem hci)
        have hc0' : ((0 : Int) ≤ cs[i]) = True := eq_true hc0
        have hc1' : (cs[i] < ((l.length + 1 : Nat) : Int)) = True := eq_true (by omega)
        have hst := take_step (wStep row) (row, least) (xs.zip cs) i (by omega)
        have hzi : (xs.zip cs)[i]'(by omega) = (xs[i], cs[i]) := by simp
        rw [hzi] at hst
        have hsl := wGo_len row ((xs.zip cs).take i) (row, least)
        have hE := aevalV row xs[i]
        simp only [wStep] at hst
        have hmg : (muR (((xs.zip cs).take i).foldl (wStep row) (row, least)).1)[cs[i].toNat]? = some ((vaC ((((xs.zip cs).take i).foldl (wStep row) (row, least)).1[cs[i].toNat]'(by rw [hsl]; exact hcl))).map .p) := muR_get _ _ _
        rcases hev : evalV row xs[i] with ⟨⟨v1, v2, v3⟩, e⟩
        simp only [hev, exA, vaA, vaC, List.map_cons, List.map_nil] at hE hst
        generalize hcc : ((((xs.zip cs).take i).foldl (wStep row) (row, least)).1[cs[i].toNat]'(by rw [hsl]; exact hcl)) = oldv at *
        have hvl : ((vaC oldv).map AV.p).length = 3 := rfl
        have hset : (muR (((xs.zip cs).take i).foldl (wStep row) (row, least)).1).set cs[i].toNat [.p (.v (.int .i64 v1)), .p (.v (.int .i64 v2)), .p (.v (.string v3))] = muR ((((xs.zip cs).take i).foldl (wStep row) (row, least)).1.set cs[i].toNat (v1, v2, v3)) := muR_set _ _ (v1, v2, v3)
        repeat' first | ((with_reducible first | refine cond_split (fun h => ?_) (fun h => ?_) | refine want_split (fun h => ?_) (fun h => ?_)) <;> (try simp only [h])) | (simp only [↓wBA, wBB, wBC, cx_muts, cx_arr, wBD, convA, Nat.reduceBEq, reduceIte, reduceCtorEq, reducePow, reduceAdd, reduceSub, reduceMul, reduceEqDiff, reduceLeDiff, Nat.reduceLT, Int.reduceLT, Int.reduceLE, Int.reduceToNat, ty20_XDw, bu_len, bu_max, bu_min, pl20_8_XDw, exL_len, enI_len, hdec, hi0, hg, hw, hgc, hc0', hc1', hmg, hvl, hset, exC_len, List.length_map]) | ((with_reducible show ACalls _ _ _ _ _); refine (hE _).mono ?_; rintro _ _ ⟨rfl, rfl⟩) | (with_reducible refine draw_plan pl20_8_XDw 8 (some 42) (by decide) (by decide) (by kernel_rfl) (by kernel_rfl) ?_) | ((with_reducible first | refine wantD_split (fun h => ?_) (fun h => ?_) | refine wantU_split (fun h => ?_) (fun h => ?_)) <;> (try simp only [h])) | (with_reducible refine And.intro ?_ ?_)
        all_goals refine ⟨⟨i + 1, by omega, trivial⟩, by show xs.length - (i + 1) < xs.length - i; omega, ?_⟩
        all_goals simp only [hst]
        all_goals simp [WeakE, Weak, setsF, setsO, St.put, leL, leT, leM, leG, leA, leC, leR, leS, leO, tokLt, tokLtL, intV, boolV, leaf, nilA, nilSl, mu_tok]
        all_goals grind [leastI]
      · have hdec : decide ((i : Int) < (xs.length : Int)) = false := by simp; omega
        have ht : (xs.zip cs).take i = xs.zip cs := List.take_of_length_le (by omega)
        have hsl := wGo_len row (xs.zip cs) (row, least)
        simp only [ht]
        repeat' first | ((with_reducible first | refine cond_split (fun h => ?_) (fun h => ?_) | refine want_split (fun h => ?_) (fun h => ?_)) <;> (try simp only [h])) | (simp only [↓wBA, wBB, wBC, cx_muts, cx_arr, wBD, convA, Nat.reduceBEq, reduceIte, reduceCtorEq, reducePow, reduceAdd, reduceSub, reduceMul, reduceEqDiff, reduceLeDiff, Nat.reduceLT, Int.reduceLT, Int.reduceLE, Int.reduceToNat, ty20_XDw, bu_len, bu_max, bu_min, pl20_8_XDw, exL_len, hdec]) | (with_reducible refine draw_plan pl20_8_XDw 8 (some 42) (by decide) (by decide) (by kernel_rfl) (by kernel_rfl) ?_) | ((with_reducible first | refine wantD_split (fun h => ?_) (fun h => ?_) | refine wantU_split (fun h => ?_) (fun h => ?_)) <;> (try simp only [h])) | (with_reducible refine And.intro ?_ ?_)
        refine ret_is (a := .tup [.p (.sl 3 (enV ((xs.zip cs).foldl (wStep row) (row, least)).1)), intV .i64 ((xs.zip cs).foldl (wStep row) (row, least)).2]) ?_ rfl rfl
        simp only [resA, resL, resV, List.getD_cons_zero, List.getD_cons_succ]
        exact .inr ⟨_, _, rfl, rfl, .inl (le_msR rfl (by rw [hsl]; exact hrl.symm)), .inl (.inr (.inl ⟨rfl, rfl⟩)), trivial⟩
end Go.Proofs.Ytcnkmandddfdmaa
namespace Go.Proofs.Ytcnkmandddfdmaa
open Go.RowKit
open Nat (reducePow reduceAdd reduceSub reduceMul reduceEqDiff reduceLeDiff)
theorem ty80_XEi : (type_of% ck_3) ∧ (type_of% cx_3) ∧ (type_of% ck_5) ∧ (type_of% cx_5) ∧ (type_of% ck_139) ∧ (type_of% cx_139) ∧ (type_of% @ks_139) ∧ (type_of% @ko_139) ∧ (type_of% @kn_139) ∧ (type_of% kz_139) ∧ (type_of% ck_144) ∧ (type_of% cx_144) := ⟨ck_3, cx_3, ck_5, cx_5, ck_139, cx_139, @ks_139, @ko_139, @kn_139, kz_139, ck_144, cx_144⟩
def eiB (u : Int) (i : Nat) : List PV := [.v (.int .u8 (IntKind.u8.wrap (u.fdiv (2 ^ (8 * i)))))]
def eightP (u : Int) (n : Nat) : List (List PV) := (List.range n).map (eiB u)
theorem eightP_len (u : Int) (n : Nat) : (eightP u n).length = n := by simp [eightP]
theorem eightP_succ (u : Int) (n : Nat) : eightP u (n + 1) = eightP u n ++ [eiB u n] := by simp [eightP, List.range_succ]
set_option maxRecDepth 100000 in
set_option maxHeartbeats 8000000 in
theorem aeight (u : Int) (σ : St) : ACalls Try.prog 80 [.p (.v (.int .u64 u)), boolV false] σ fun r s => s = σ ∧ r = .p (.sl 1 (eightP u 8)) := by
  obtain ⟨l8, hl8⟩ : ∃ l8, l8 = eightP u 8 := ⟨_, rfl⟩
  rw [← hl8]
  refine ACalls.pureF (R := fun r => r = .p (.sl 1 l8)) ?_ rfl σ
  refine acalls_of cx_ok dr_ok Try.func80 (by kernel_rfl) rfl (nt := 21) (rs := [.tmp 4]) rfl rfl ?_
  repeat' first | ((with_reducible first | refine cond_split (fun h => ?_) (fun h => ?_) | refine want_split (fun h => ?_) (fun h => ?_)) <;> (try simp only [h])) | (simp only [↓wBA, wBB, wBC, cx_muts, cx_arr, wBD, convA, Nat.reduceBEq, reduceIte, reduceCtorEq, reducePow, reduceAdd, reduceSub, reduceMul, reduceEqDiff, reduceLeDiff, Nat.reduceLT, Int.reduceLT, Int.reduceLE, Int.reduceToNat, ty80_XEi, bu_len, bu_max, bu_min])
  refine awp_loopN (8) (fun i => [(5, .nown 0 1 (eightP u i)), (7, intV .i64 (i : Nat)), (6, .any), (8, .any), (9, .any), (10, .any), (11, .any), (12, .any), (13, .any), (14, .any), (15, .any), (16, .any), (17, .any), (18, .any), (19, .any), (20, .any), (21, .any)]) (fun i => [(0, .nright 5 (i * 1))]) (fun i => True) ?_ ?_ ?_
  · trivial
  · skip
    simp only [setsF_cons, setsF_nil, setsO_cons, setsO_nil, List.set_cons_zero, List.set_cons_succ, List.length_cons, List.length_nil, St.put, Nat.zero_add, Nat.reduceAdd, Nat.reduceLT, Nat.lt_irrefl, reduceIte, List.cons_append, List.nil_append]
    simp [WeakE, Weak, setsF, setsO, St.put, leL, leT, leM, leG, leA, leC, leR, leS, leO, tokLt, tokLtL, intV, boolV, leaf, nilA, nilSl, eightP]
  · intro i hi _
    simp only [setsF_cons, setsF_nil, setsO_cons, setsO_nil, List.set_cons_zero, List.set_cons_succ, List.length_cons, List.length_nil, St.put, Nat.zero_add, Nat.reduceAdd, Nat.reduceLT, Nat.lt_irrefl, reduceIte, List.cons_append, List.nil_append]
    by_cases hlt : i < 8
    · have hdec : decide ((i : Int) < 8) = true := by simp; omega
      have hw : IntKind.i64.wrap ((i : Int) + 1) = ((i + 1 : Nat) : Int) := by rw [wrap_i64 (by omega) (by omega)]; simp
      have hm : IntKind.i64.wrap (8 * (i : Int)) = ((8 * i : Nat) : Int) := by rw [wrap_i64 (by omega) (by omega)]; simp
      have hs0 : (((8 * i : Nat) : Int) < 0) = False := eq_false (by omega)
      have hmin : min (8 * i) 64 = 8 * i := by omega
      have hst := eightP_succ u i
      have htl := eightP_len u i
      have hlim1 : ((i + 1) * 1 ≤ 140737488355328) = True := eq_true (by omega)
      have hlim2 : (i + 1 ≤ maxLen) = True := eq_true (by unfold maxLen; omega)
      simp only [eiB] at hst
      repeat' first | ((with_reducible first | refine cond_split (fun h => ?_) (fun h => ?_) | refine want_split (fun h => ?_) (fun h => ?_)) <;> (try simp only [h])) | (simp only [↓wBA, wBB, wBC, cx_muts, cx_arr, wBD, convA, Nat.reduceBEq, reduceIte, reduceCtorEq, reducePow, reduceAdd, reduceSub, reduceMul, reduceEqDiff, reduceLeDiff, Nat.reduceLT, Int.reduceLT, Int.reduceLE, Int.reduceToNat, ty80_XEi, bu_len, bu_max, bu_min, hdec, hw, hm, hs0, htl, hlim1, hlim2, appendA, srcA, List.length_append, Int.toNat_natCast, IntKind.bits, hmin])
      refine ⟨⟨i + 1, by omega, ?_⟩, by show 8 - (i + 1) < 8 - i; omega, ?_⟩
      · trivial
      · simp only [hst]
        simp [WeakE, Weak, setsF, setsO, St.put, leL, leT, leM, leG, leA, leC, leR, leS, leO, tokLt, tokLtL, intV, boolV, leaf, nilA, nilSl]
    · have hi8 : i = 8 := by omega
      subst hi8
      simp only [← hl8]
      have hdec : decide (((8 : Nat) : Int) < 8) = false := by decide
      repeat' first | ((with_reducible first | refine cond_split (fun h => ?_) (fun h => ?_) | refine want_split (fun h => ?_) (fun h => ?_)) <;> (try simp only [h])) | (simp only [↓wBA, wBB, wBC, cx_muts, cx_arr, wBD, convA, Nat.reduceBEq, reduceIte, reduceCtorEq, reducePow, reduceAdd, reduceSub, reduceMul, reduceEqDiff, reduceLeDiff, Nat.reduceLT, Int.reduceLT, Int.reduceLE, Int.reduceToNat, ty80_XEi, bu_len, bu_max, bu_min, hdec])
      all_goals refine ret_is (a := _) ?_ rfl rfl
      all_goals simp only [↓wBA, wBB, wBC, cx_muts, cx_arr, wBD, convA, Nat.reduceBEq, reduceIte, reduceCtorEq, reducePow, reduceAdd, reduceSub, reduceMul, reduceEqDiff, reduceLeDiff, Nat.reduceLT, Int.reduceLT, Int.reduceLE, Int.reduceToNat, ty80_XEi]
      all_goals simp_all [resA, resL, resV, leT, leG, leA, leC, leM, leaf, tokLt, tokLtL, intV, boolV, nilA, nilSl]
end Go.Proofs.Ytcnkmandddfdmaa
namespace Go.Proofs.Ytcnkmandddfdmaa
open Go.RowKit
open Nat (reducePow reduceAdd reduceSub reduceMul reduceEqDiff reduceLeDiff)
def pl66_16_XPv : Plan := (.det 0 (.det 1 (.det 2 (.det 3 (.det 4 (.det 7 (.det 8 (.act 5 (.act 6 (.fin 9 (.det 10 .done)))))))))))
theorem ty66_XPv : (type_of% ck_2) ∧ (type_of% cx_2) ∧ (type_of% ck_3) ∧ (type_of% cx_3) ∧ (type_of% ck_4) ∧ (type_of% cx_4) ∧ (type_of% ck_5) ∧ (type_of% cx_5) ∧ (type_of% ck_9) ∧ (type_of% cx_9) ∧ (type_of% ck_46) ∧ (type_of% cx_46) ∧ (type_of% @ks_46) ∧ (type_of% @ko_46) ∧ (type_of% @kn_46) ∧ (type_of% kz_46) ∧ (type_of% ck_50) ∧ (type_of% cx_50) ∧ (type_of% ce_50) ∧ (type_of% ck_139) ∧ (type_of% cx_139) ∧ (type_of% @ks_139) ∧ (type_of% @ko_139) ∧ (type_of% @kn_139) ∧ (type_of% kz_139) ∧ (type_of% ck_144) ∧ (type_of% cx_144) := ⟨ck_2, cx_2, ck_3, cx_3, ck_4, cx_4, ck_5, cx_5, ck_9, cx_9, ck_46, cx_46, @ks_46, @ko_46, @kn_46, kz_46, ck_50, cx_50, ce_50, ck_139, cx_139, @ks_139, @ko_139, @kn_139, kz_139, ck_144, cx_144⟩
def byP (n : Int) : List PV := [.v (.int .u8 (IntKind.u8.wrap n))]
/-- A value's bytes. -/
def putV (v : Va) : List (List PV) := byP v.1 :: (if v.1 = 1 then eightP (IntKind.u64.wrap v.2.1) 8 else if v.1 = 2 then [byP v.2.1] else if v.1 = 3 then byP (v.2.2.size : Nat) :: bytesP v.2.2 else [])
def putL (n : Nat) (l : List Va) : List (List PV) := byP (n : Nat) :: (l.map putV).flatten
/-- Values' bytes, or an error. -/
def putR (l : List Va) : List (List PV) × Int := if l.length > 255 then ([], 3) else if l.all okV = true then (putL l.length l, 0) else ([], 1)
theorem bytesP_len (s : ByteArray) : (bytesP s).length = s.size := by unfold bytesP; rw [List.length_map, Array.length_toList]; rfl
theorem putV_len (v : Va) (h : okV v = true) : (putV v).length ≤ 66 := by
  obtain ⟨k, n, t⟩ := v
  simp only [putV, okV] at *
  split
  · simp [eightP_len]
  · split
    · simp
    · split
      · rename_i h1 h2 h3
        subst h3
        simp at h
        simp [bytesP_len]
        omega
      · simp
theorem putL_len (n : Nat) : ∀ l : List Va, (∀ v ∈ l, okV v = true) → (putL n l).length ≤ 1 + l.length * 66
  | [], _ => by simp [putL]
  | v :: l, h => by
    have := putL_len n l fun x hx => h x (by simp [hx])
    have h1 := putV_len v (h v (by simp))
    simp only [putL, List.map_cons, List.flatten_cons, List.length_cons, List.length_append] at *
    omega
theorem putL_succ (n : Nat) (l : List Va) (i : Nat) (h : i < l.length) : putL n (l.take (i + 1)) = putL n (l.take i) ++ putV l[i] := by
  rw [List.take_succ_eq_append_getElem h]
  simp only [putL, List.map_append, List.flatten_append, List.map_cons, List.map_nil, List.flatten_cons, List.flatten_nil, List.append_nil, List.cons_append]
set_option maxRecDepth 100000 in
set_option maxHeartbeats 16000000 in
theorem aput (l : List Va) (σ : St) : ACalls Try.prog 66 [.p (.sl 3 (enV l))] σ fun r s => s = σ ∧ r = .tup [.p (.sl 1 (putR l).1), intV .i64 (putR l).2] := by
  refine ACalls.pureF (R := fun r => r = .tup [.p (.sl 1 (putR l).1), intV .i64 (putR l).2]) ?_ rfl σ
  refine acalls_of cx_ok dr_ok Try.func66 (by kernel_rfl) rfl (nt := 60) (rs := [.tmp 2, .tmp 3]) rfl rfl ?_
  unfold putR
  by_cases h255 : l.length > 255
  · have hd : decide ((l.length : Int) > 255) = true := by simp; omega
    rw [if_pos h255]
    repeat' first | ((with_reducible first | refine cond_split (fun h => ?_) (fun h => ?_) | refine want_split (fun h => ?_) (fun h => ?_)) <;> (try simp only [h])) | (simp only [↓wBA, wBB, wBC, cx_muts, cx_arr, wBD, convA, Nat.reduceBEq, reduceIte, reduceCtorEq, reducePow, reduceAdd, reduceSub, reduceMul, reduceEqDiff, reduceLeDiff, Nat.reduceLT, Int.reduceLT, Int.reduceLE, Int.reduceToNat, ty66_XPv, bu_len, bu_max, bu_min, pl66_16_XPv, enV_len, hd]) | (with_reducible refine draw_plan pl66_16_XPv 11 (some 49) (by decide) (by decide) (by kernel_rfl) (by kernel_rfl) ?_) | ((with_reducible first | refine wantD_split (fun h => ?_) (fun h => ?_) | refine wantU_split (fun h => ?_) (fun h => ?_)) <;> (try simp only [h])) | (with_reducible refine And.intro ?_ ?_)
    all_goals refine ret_is (a := _) ?_ rfl rfl
    all_goals simp only [↓wBA, wBB, wBC, cx_muts, cx_arr, wBD, convA, Nat.reduceBEq, reduceIte, reduceCtorEq, reducePow, reduceAdd, reduceSub, reduceMul, reduceEqDiff, reduceLeDiff, Nat.reduceLT, Int.reduceLT, Int.reduceLE, Int.reduceToNat, ty66_XPv]
    all_goals simp_all [resA, resL, resV, leT, leG, leA, leC, leM, leaf, tokLt, tokLtL, intV, boolV, nilA, nilSl]
  · have hd : decide ((l.length : Int) > 255) = false := by simp; omega
    rw [if_neg h255]
    repeat' first | ((with_reducible first | refine cond_split (fun h => ?_) (fun h => ?_) | refine want_split (fun h => ?_) (fun h => ?_)) <;> (try simp only [h])) | (simp only [↓wBA, wBB, wBC, cx_muts, cx_arr, wBD, convA, Nat.reduceBEq, reduceIte, reduceCtorEq, reducePow, reduceAdd, reduceSub, reduceMul, reduceEqDiff, reduceLeDiff, Nat.reduceLT, Int.reduceLT, Int.reduceLE, Int.reduceToNat, ty66_XPv, bu_len, bu_max, bu_min, pl66_16_XPv, enV_len, hd]) | (with_reducible refine draw_plan pl66_16_XPv 11 (some 49) (by decide) (by decide) (by kernel_rfl) (by kernel_rfl) ?_) | ((with_reducible first | refine wantD_split (fun h => ?_) (fun h => ?_) | refine wantU_split (fun h => ?_) (fun h => ?_)) <;> (try simp only [h])) | (with_reducible refine And.intro ?_ ?_)
    refine awp_loopN (l.length) (fun i => [(4, .own 0 1 (putL l.length (l.take i))), (16, intV .i64 (i : Nat)), (2, .any), (3, .any), (6, .any), (17, .any), (18, .any), (19, .any), (20, .any), (21, .any), (22, .any), (23, .any), (24, .any), (25, .any), (26, .any), (27, .any), (28, .any), (29, .any), (30, .any), (31, .any), (32, .any), (33, .any), (34, .any), (35, .any), (36, .any), (37, .any), (38, .any), (39, .any), (40, .any), (41, .any), (42, .any), (43, .any), (44, .any), (45, .any), (46, .any), (47, .any), (48, .any), (49, .any), (50, .any), (51, .any), (52, .any), (53, .any), (54, .any), (55, .any), (56, .any), (57, .any), (58, .any), (59, .any)]) (fun i => [(0, .right 5 ((putL l.length (l.take i)).length * 1))]) (fun i => ∀ v ∈ l.take i, okV v = true) ?_ ?_ ?_
    · simp
    · skip
      simp only [setsF_cons, setsF_nil, setsO_cons, setsO_nil, List.set_cons_zero, List.set_cons_succ, List.length_cons, List.length_nil, St.put, Nat.zero_add, Nat.reduceAdd, Nat.reduceLT, Nat.lt_irrefl, reduceIte, List.cons_append, List.nil_append]
      simp [WeakE, Weak, setsF, setsO, St.put, leL, leT, leM, leG, leA, leC, leR, leS, leO, tokLt, tokLtL, intV, boolV, leaf, nilA, nilSl, putL, byP]
    · intro i hi hI
      simp only [setsF_cons, setsF_nil, setsO_cons, setsO_nil, List.set_cons_zero, List.set_cons_succ, List.length_cons, List.length_nil, St.put, Nat.zero_add, Nat.reduceAdd, Nat.reduceLT, Nat.lt_irrefl, reduceIte, List.cons_append, List.nil_append]
      by_cases hlt : i < l.length
      · have hdec : decide ((i : Int) < (l.length : Int)) = true := by simp; omega
        have hi0 : ((0 : Int) ≤ (i : Int)) = True := eq_true (by omega)
        have hw : IntKind.i64.wrap ((i : Int) + 1) = ((i + 1 : Nat) : Int) := by rw [wrap_i64 (by omega) (by omega)]; simp
        have hg := enV_get l i hlt
        have hst := putL_succ l.length l i hlt
        have hpl := putL_len l.length (l.take i) hI
        have htl : (l.take i).length = i := by simp; omega
        rw [htl] at hpl
        have hnext : okV l[i] = true → ∀ v ∈ l.take (i + 1), okV v = true := fun h v hv => by
          rw [List.take_succ_eq_append_getElem hlt] at hv
          rcases List.mem_append.1 hv with h1 | h1
          · exact hI v h1
          · simp at h1; subst h1; exact h
        have hbad : okV l[i] = false → l.all okV = false := fun h => by
          rw [List.all_eq_false]; exact ⟨_, List.getElem_mem hlt, by simp [h]⟩
        have hvl := putV_len l[i]
        have hok := aokV l[i]
        generalize hcur : putL l.length (l.take i) = cur at *
        generalize hvi : l[i] = v at *
        obtain ⟨k, n, t⟩ := v
        simp only [vaA, vaC, List.map_cons, List.map_nil] at hok hg
        cases hb : okV (k, n, t) with
        | false =>
          rw [hb] at hok
          have hf := hbad hb
          simp only [hf, Bool.false_eq_true, if_false]
          repeat' first | ((with_reducible first | refine cond_split (fun h => ?_) (fun h => ?_) | refine want_split (fun h => ?_) (fun h => ?_)) <;> (try simp only [h])) | (simp only [↓wBA, wBB, wBC, cx_muts, cx_arr, wBD, convA, Nat.reduceBEq, reduceIte, reduceCtorEq, reducePow, reduceAdd, reduceSub, reduceMul, reduceEqDiff, reduceLeDiff, Nat.reduceLT, Int.reduceLT, Int.reduceLE, Int.reduceToNat, ty66_XPv, bu_len, bu_max, bu_min, pl66_16_XPv, enV_len, hdec, hi0, hg]) | ((with_reducible show ACalls _ _ _ _ _); refine (hok _).mono ?_; rintro _ _ ⟨rfl, rfl⟩) | (with_reducible refine draw_plan pl66_16_XPv 11 (some 49) (by decide) (by decide) (by kernel_rfl) (by kernel_rfl) ?_) | ((with_reducible first | refine wantD_split (fun h => ?_) (fun h => ?_) | refine wantU_split (fun h => ?_) (fun h => ?_)) <;> (try simp only [h])) | (with_reducible refine And.intro ?_ ?_)
          all_goals refine ret_is (a := _) ?_ rfl rfl
          all_goals simp only [↓wBA, wBB, wBC, cx_muts, cx_arr, wBD, convA, Nat.reduceBEq, reduceIte, reduceCtorEq, reducePow, reduceAdd, reduceSub, reduceMul, reduceEqDiff, reduceLeDiff, Nat.reduceLT, Int.reduceLT, Int.reduceLE, Int.reduceToNat, ty66_XPv]
          all_goals simp_all [resA, resL, resV, leT, leG, leA, leC, leM, leaf, tokLt, tokLtL, intV, boolV, nilA, nilSl]
        | true =>
          rw [hb] at hok
          have hv66 := hvl hb
          have hA1 : ((cur.length + 1) * 1 ≤ 140737488355328) = True := eq_true (by omega)
          have hB1 : (cur.length + 1 ≤ maxLen) = True := eq_true (by unfold maxLen; omega)
          have hA2 : ((cur.length + 2) * 1 ≤ 140737488355328) = True := eq_true (by omega)
          have hB2 : (cur.length + 2 ≤ maxLen) = True := eq_true (by unfold maxLen; omega)
          have hA9 : ((cur.length + 9) * 1 ≤ 140737488355328) = True := eq_true (by omega)
          have hB9 : (cur.length + 9 ≤ maxLen) = True := eq_true (by unfold maxLen; omega)
          by_cases h1 : k = 1
          · subst h1
            simp only [putV, Int.reduceEq, if_true, if_false] at hst
            repeat' first | ((with_reducible first | refine cond_split (fun h => ?_) (fun h => ?_) | refine want_split (fun h => ?_) (fun h => ?_)) <;> (try simp only [h])) | (simp only [↓wBA, wBB, wBC, cx_muts, cx_arr, wBD, convA, Nat.reduceBEq, reduceIte, reduceCtorEq, reducePow, reduceAdd, reduceSub, reduceMul, reduceEqDiff, reduceLeDiff, Nat.reduceLT, Int.reduceLT, Int.reduceLE, Int.reduceToNat, ty66_XPv, bu_len, bu_max, bu_min, pl66_16_XPv, enV_len, hdec, hi0, hg, hw, hA1, hB1, hA2, hB2, hA9, hB9, eightP_len, appendA, srcA, List.length_append, List.length_cons, List.length_nil, Nat.add_assoc, Int.reduceBEq]) | ((with_reducible show ACalls _ _ _ _ _); refine (hok _).mono ?_; rintro _ _ ⟨rfl, rfl⟩) | ((with_reducible show ACalls _ _ _ _ _); refine (aeight _ _).mono ?_; rintro _ _ ⟨rfl, rfl⟩) | (with_reducible refine draw_plan pl66_16_XPv 11 (some 49) (by decide) (by decide) (by kernel_rfl) (by kernel_rfl) ?_) | ((with_reducible first | refine wantD_split (fun h => ?_) (fun h => ?_) | refine wantU_split (fun h => ?_) (fun h => ?_)) <;> (try simp only [h])) | (with_reducible refine And.intro ?_ ?_)
            refine ⟨⟨i + 1, by omega, ?_⟩, by show l.length - (i + 1) < l.length - i; omega, ?_⟩
            · exact hnext hb
            · simp only [hst]
              simp [WeakE, Weak, setsF, setsO, St.put, leL, leT, leM, leG, leA, leC, leR, leS, leO, tokLt, tokLtL, intV, boolV, leaf, nilA, nilSl, byP, List.append_assoc, eightP_len, bytesP_len, Nat.add_assoc]
          by_cases h2 : k = 2
          · subst h2
            simp only [putV, Int.reduceEq, if_true, if_false] at hst
            repeat' first | ((with_reducible first | refine cond_split (fun h => ?_) (fun h => ?_) | refine want_split (fun h => ?_) (fun h => ?_)) <;> (try simp only [h])) | (simp only [↓wBA, wBB, wBC, cx_muts, cx_arr, wBD, convA, Nat.reduceBEq, reduceIte, reduceCtorEq, reducePow, reduceAdd, reduceSub, reduceMul, reduceEqDiff, reduceLeDiff, Nat.reduceLT, Int.reduceLT, Int.reduceLE, Int.reduceToNat, ty66_XPv, bu_len, bu_max, bu_min, pl66_16_XPv, enV_len, hdec, hi0, hg, hw, hA1, hB1, hA2, hB2, hA9, hB9, eightP_len, appendA, srcA, List.length_append, List.length_cons, List.length_nil, Nat.add_assoc, Int.reduceBEq]) | ((with_reducible show ACalls _ _ _ _ _); refine (hok _).mono ?_; rintro _ _ ⟨rfl, rfl⟩) | ((with_reducible show ACalls _ _ _ _ _); refine (aeight _ _).mono ?_; rintro _ _ ⟨rfl, rfl⟩) | (with_reducible refine draw_plan pl66_16_XPv 11 (some 49) (by decide) (by decide) (by kernel_rfl) (by kernel_rfl) ?_) | ((with_reducible first | refine wantD_split (fun h => ?_) (fun h => ?_) | refine wantU_split (fun h => ?_) (fun h => ?_)) <;> (try simp only [h])) | (with_reducible refine And.intro ?_ ?_)
            refine ⟨⟨i + 1, by omega, ?_⟩, by show l.length - (i + 1) < l.length - i; omega, ?_⟩
            · exact hnext hb
            · simp only [hst]
              simp [WeakE, Weak, setsF, setsO, St.put, leL, leT, leM, leG, leA, leC, leR, leS, leO, tokLt, tokLtL, intV, boolV, leaf, nilA, nilSl, byP, List.append_assoc, eightP_len, bytesP_len, Nat.add_assoc]
          by_cases h3 : k = 3
          · subst h3
            simp only [putV, Int.reduceEq, if_true, if_false] at hst
            have ht64 : t.size ≤ 64 := by simp [okV] at hb; omega
            have hA3 : ((cur.length + (2 + t.size)) * 1 ≤ 140737488355328) = True := eq_true (by omega)
            have hB3 : (cur.length + (2 + t.size) ≤ maxLen) = True := eq_true (by unfold maxLen; omega)
            repeat' first | ((with_reducible first | refine cond_split (fun h => ?_) (fun h => ?_) | refine want_split (fun h => ?_) (fun h => ?_)) <;> (try simp only [h])) | (simp only [↓wBA, wBB, wBC, cx_muts, cx_arr, wBD, convA, Nat.reduceBEq, reduceIte, reduceCtorEq, reducePow, reduceAdd, reduceSub, reduceMul, reduceEqDiff, reduceLeDiff, Nat.reduceLT, Int.reduceLT, Int.reduceLE, Int.reduceToNat, ty66_XPv, bu_len, bu_max, bu_min, pl66_16_XPv, enV_len, hdec, hi0, hg, hw, hA1, hB1, hA2, hB2, hA9, hB9, eightP_len, appendA, srcA, List.length_append, List.length_cons, List.length_nil, Nat.add_assoc, Int.reduceBEq, hA3, hB3, bytesP_len, bm_appendS, app_str, ne_eq, not_false_eq_true]) | ((with_reducible show ACalls _ _ _ _ _); refine (hok _).mono ?_; rintro _ _ ⟨rfl, rfl⟩) | ((with_reducible show ACalls _ _ _ _ _); refine (aeight _ _).mono ?_; rintro _ _ ⟨rfl, rfl⟩) | (with_reducible refine draw_plan pl66_16_XPv 11 (some 49) (by decide) (by decide) (by kernel_rfl) (by kernel_rfl) ?_) | ((with_reducible first | refine wantD_split (fun h => ?_) (fun h => ?_) | refine wantU_split (fun h => ?_) (fun h => ?_)) <;> (try simp only [h])) | (with_reducible refine And.intro ?_ ?_)
            refine ⟨⟨i + 1, by omega, ?_⟩, by show l.length - (i + 1) < l.length - i; omega, ?_⟩
            · exact hnext hb
            · simp only [hst]
              simp [WeakE, Weak, setsF, setsO, St.put, leL, leT, leM, leG, leA, leC, leR, leS, leO, tokLt, tokLtL, intV, boolV, leaf, nilA, nilSl, byP, List.append_assoc, eightP_len, bytesP_len, Nat.add_assoc]
              omega
          simp only [putV, h1, h2, h3, if_false] at hst
          have e1 : (k == 1) = false := by simpa using h1
          have e2 : (k == 2) = false := by simpa using h2
          have e3 : (k == 3) = false := by simpa using h3
          repeat' first | ((with_reducible first | refine cond_split (fun h => ?_) (fun h => ?_) | refine want_split (fun h => ?_) (fun h => ?_)) <;> (try simp only [h])) | (simp only [↓wBA, wBB, wBC, cx_muts, cx_arr, wBD, convA, Nat.reduceBEq, reduceIte, reduceCtorEq, reducePow, reduceAdd, reduceSub, reduceMul, reduceEqDiff, reduceLeDiff, Nat.reduceLT, Int.reduceLT, Int.reduceLE, Int.reduceToNat, ty66_XPv, bu_len, bu_max, bu_min, pl66_16_XPv, enV_len, hdec, hi0, hg, hw, hA1, hB1, hA2, hB2, hA9, hB9, eightP_len, appendA, srcA, List.length_append, List.length_cons, List.length_nil, Nat.add_assoc, Int.reduceBEq, e1, e2, e3]) | ((with_reducible show ACalls _ _ _ _ _); refine (hok _).mono ?_; rintro _ _ ⟨rfl, rfl⟩) | ((with_reducible show ACalls _ _ _ _ _); refine (aeight _ _).mono ?_; rintro _ _ ⟨rfl, rfl⟩) | (with_reducible refine draw_plan pl66_16_XPv 11 (some 49) (by decide) (by decide) (by kernel_rfl) (by kernel_rfl) ?_) | ((with_reducible first | refine wantD_split (fun h => ?_) (fun h => ?_) | refine wantU_split (fun h => ?_) (fun h => ?_)) <;> (try simp only [h])) | (with_reducible refine And.intro ?_ ?_)
          refine ⟨⟨i + 1, by omega, ?_⟩, by show l.length - (i + 1) < l.length - i; omega, ?_⟩
          · exact hnext hb
          · simp only [hst]
            simp [WeakE, Weak, setsF, setsO, St.put, leL, leT, leM, leG, leA, leC, leR, leS, leO, tokLt, tokLtL, intV, boolV, leaf, nilA, nilSl, byP, Nat.add_assoc]
      · have hdec : decide ((i : Int) < (l.length : Int)) = false := by simp; omega
        have ht : l.take i = l := List.take_of_length_le (by omega)
        rw [ht] at hI
        have hall : l.all okV = true := List.all_eq_true.2 hI
        simp only [ht, hall, if_true]
        repeat' first | ((with_reducible first | refine cond_split (fun h => ?_) (fun h => ?_) | refine want_split (fun h => ?_) (fun h => ?_)) <;> (try simp only [h])) | (simp only [↓wBA, wBB, wBC, cx_muts, cx_arr, wBD, convA, Nat.reduceBEq, reduceIte, reduceCtorEq, reducePow, reduceAdd, reduceSub, reduceMul, reduceEqDiff, reduceLeDiff, Nat.reduceLT, Int.reduceLT, Int.reduceLE, Int.reduceToNat, ty66_XPv, bu_len, bu_max, bu_min, pl66_16_XPv, enV_len, hdec]) | (with_reducible refine draw_plan pl66_16_XPv 11 (some 49) (by decide) (by decide) (by kernel_rfl) (by kernel_rfl) ?_) | ((with_reducible first | refine wantD_split (fun h => ?_) (fun h => ?_) | refine wantU_split (fun h => ?_) (fun h => ?_)) <;> (try simp only [h])) | (with_reducible refine And.intro ?_ ?_)
        all_goals refine ret_is (a := _) ?_ rfl rfl
        all_goals simp only [↓wBA, wBB, wBC, cx_muts, cx_arr, wBD, convA, Nat.reduceBEq, reduceIte, reduceCtorEq, reducePow, reduceAdd, reduceSub, reduceMul, reduceEqDiff, reduceLeDiff, Nat.reduceLT, Int.reduceLT, Int.reduceLE, Int.reduceToNat, ty66_XPv]
        all_goals simp_all [resA, resL, resV, leT, leG, leA, leC, leM, leaf, tokLt, tokLtL, intV, boolV, nilA, nilSl]
end Go.Proofs.Ytcnkmandddfdmaa
