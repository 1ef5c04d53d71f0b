/- dml.Update. -/
import Derived.Test.YtcnkmandddfdmaaGreatDoorM36
import Derived.Test.YtcnkmandddfdmaaGreatDoorM35
import Derived.Test.YtcnkmandddfdmaaGreatDoorM37
set_option linter.unusedSimpArgs false
set_option linter.unusedVariables false
set_option linter.defProp false
set_option maxRecDepth 100000
set_option maxHeartbeats 32000000
namespace Go.Proofs.YtcnkmandddfdmaaGreatDoor
open Go.RowKit
def pl10_6Up : Plan := (.det 0 (.det 1 (.det 2 (.det 3 (.det 4 (.act 5 (.fin 6 (.det 7 (.det 8 (.det 9 (.det 10 (.det 11 .done))))))))))))
def tUp := aa wX <| aa wbu <| aa T3 <| aa T9 <| aa T24 <| aa T25 <| aa T29 <| aa T33 <| aa T36 <| aa T39 <| aa T45 <| aa T52 <| aa T58 <| aa T79 T87
theorem ACalls.nilW {P : Program} {f : FuncId} {e : Nat} {rest : List AV} {σ : St} {R : AV → St → Prop} (hc : ACalls P f (.p (.sl e []) :: rest) σ R) : ACalls P f (nilA :: rest) σ R :=
 ⟨hc.1, fun M vs hM hv => hc.2 M vs hM (by
  simp only [ARepL] at hv ⊢
  obtain ⟨u, us', rfl, h1, h2⟩ := hv
  have := (rep_v h1).2; subst this
  refine ⟨_, us', rfl, ?_, h2⟩
  simp only [ARep, PRep]
  exact .inl ⟨trivial, none, 0, rfl, fun _ => rfl⟩)⟩
theorem asoundN (rows : List (List Va)) (nm : ByteArray) (cols : List Tc) (hrl : rows.length ≤ 4398046511104) (hcl : cols.length ≤ 4398046511104) (hr : ∀ r ∈ rows, r.length = cols.length) (σ : St) : ACalls Tryz.prog 34 [.p (nilSl 1 (enVV rows)), tbA nm cols] σ fun r s => s = σ ∧ r = intV .i64 (soundS cols rows) := by
 cases rows with
 | nil => exact ACalls.nilW (e := 1) (asound [] nm cols hrl hcl hr σ)
 | cons r rows => exact asound (r :: rows) nm cols hrl hcl hr σ
theorem atargetsN (names : List ByteArray) (nm : ByteArray) (cols : List Tc) (hn : names.length ≤ 4398046511104) (hl : cols.length ≤ 4398046511104) (σ : St) : ACalls Tryz.prog 31 [.p (nilSl 1 (enN names)), tbA nm cols] σ fun r s => s = σ ∧ r = .tup [.p (.sl 1 (enI (tgtS names cols).1)), intV .i64 (tgtS names cols).2] := by
 cases names with
 | nil => exact ACalls.nilW (e := 1) (atargets [] nm cols hn hl σ)
 | cons n l => exact atargets (n :: l) nm cols hn hl σ
theorem enS_enN (l : List ByteArray) : enS l = enN l := rfl
def newR (w : Wr) : List Va := w.2.getD []
def uStep (xs : List Ex) (cs : List Int) (s : List Wr × Int) (r : List Va) : List Wr × Int := (s.1 ++ [(r, some (wrkS r xs cs s.2).1)], (wrkS r xs cs s.2).2)
theorem uGo_len (xs : List Ex) (cs : List Int) : ∀ (l : List (List Va)) (s : List Wr × Int), (l.foldl (uStep xs cs) s).1.length = s.1.length + l.length
 | [], s => by simp
 | r :: l, s => by rw [List.foldl_cons, uGo_len xs cs l]; simp [uStep]; omega
theorem wrkS_len (row : List Va) (xs : List Ex) (cs : List Int) (e : Int) : (wrkS row xs cs e).1.length = row.length := wGo_len row _ _
theorem uGo_rows (xs : List Ex) (cs : List Int) (n : Nat) : ∀ (l : List (List Va)) (s : List Wr × Int), (∀ r ∈ l, r.length = n) → (∀ r ∈ s.1.map newR, r.length = n) → ∀ r ∈ (l.foldl (uStep xs cs) s).1.map newR, r.length = n
 | [], s, _, h => h
 | q :: l, s, hl, h => by
   rw [List.foldl_cons]
   refine uGo_rows xs cs n l _ (fun r hr => hl r (by simp [hr])) fun r hr => ?_
   simp only [uStep, List.map_append, List.map_cons, List.map_nil, List.mem_append, List.mem_singleton] at hr
   rcases hr with hr | rfl
   ·exact h r hr
   ·show (wrkS q xs cs s.2).1.length = n
    rw [wrkS_len]; exact hl q (by simp)
def finU (cols : List Tc) (u : List Wr × Int) : List Wr × Int := if u.2 ≠ 0 then ([], u.2) else if soundS cols (u.1.map newR) ≠ 0 then ([], soundS cols (u.1.map newR)) else (u.1, 0)
def updS (s : Sm) (nm : ByteArray) (cols : List Tc) (rows : List (List Va)) : List Wr × Int :=
 if s.kind ≠ 5 then ([], 1)
 else if (tgtS s.names cols).2 ≠ 0 then ([], (tgtS s.names cols).2)
 else if (asgS (scopeS nm cols) cols s.sets (tgtS s.names cols).1).2 ≠ 0 then ([], (asgS (scopeS nm cols) cols s.sets (tgtS s.names cols).1).2)
 else if (hitS s nm cols rows).2 ≠ 0 then ([], (hitS s nm cols rows).2)
 else finU cols ((hitS s nm cols rows).1.foldl (uStep (asgS (scopeS nm cols) cols s.sets (tgtS s.names cols).1).1 (tgtS s.names cols).1) ([], 0))
theorem idxP_lt {α : Type} (p : α → Bool) (l : List α) (h : 0 ≤ idxP p l) : (idxP p l).toNat < l.length := by
 unfold idxP at h ⊢
 split
 ·rename_i i hi
  have := (List.findIdx?_eq_some_iff_getElem.1 hi).1
  simpa using this
 ·rename_i hi
  rw [hi] at h; simp at h
theorem tGo_ok (cols : List Tc) : ∀ (l : List ByteArray) (s : List Int × Bool), (l.foldl (tStep cols) s).2 = false → (∀ c ∈ s.1, 0 ≤ c ∧ c.toNat < cols.length) → ∀ c ∈ (l.foldl (tStep cols) s).1, 0 ≤ c ∧ c.toNat < cols.length
 | [], s, _, h => h
 | n :: l, s, hf, h => by
   rw [List.foldl_cons] at hf ⊢
   refine tGo_ok cols l _ hf fun c hc => ?_
   have h2 : (tStep cols s n).2 = false := by
    cases hb : (tStep cols s n).2 with
    | false => rfl
    | true => rw [tGo_bad cols l _ hb] at hf; simp at hf
   simp only [tStep, List.mem_append, List.mem_singleton] at hc h2
   rcases hc with hc | rfl
   ·exact h c hc
   ·simp only [Bool.or_eq_false_iff, decide_eq_false_iff_not] at h2
    have h0 : 0 ≤ idxP (isN n) cols := by omega
    exact ⟨h0, idxP_lt (isN n) cols h0⟩
theorem tgtS_ok (names : List ByteArray) (cols : List Tc) (h : (tgtS names cols).2 = 0) : (tgtS names cols).1.length = names.length ∧ ∀ c ∈ (tgtS names cols).1, 0 ≤ c ∧ c.toNat < cols.length := by
 unfold tgtS at h ⊢
 split at h
 ·simp at h
 ·rename_i hb
  rw [if_neg hb]
  refine ⟨by simpa [tGo] using tGo_len cols names ([], false), ?_⟩
  exact tGo_ok cols names ([], false) (by simpa [tGo] using hb) (by simp)
theorem asgS_len (scope : List Bc) (tcols : List Tc) : ∀ (xs : List Ex) (cs : List Int), (asgS scope tcols xs cs).1.length ≤ xs.length
 | [], cs => by simp [asgS]
 | x :: xs, [] => by simp [asgS]
 | x :: xs, c :: cs => by
   have := asgS_len scope tcols xs cs
   simp only [asgS]
   split
   ·simp
   ·split
    ·simp
    ·simp; exact this
theorem aupd (s : Sm) (hk5 : s.kind = 5 → s.names.length = s.sets.length) (hnl : s.names.length ≤ 1000000000000) (hwl : s.wh.length ≤ 1000000000000) (nm : ByteArray) (cols : List Tc) (hcl : cols.length ≤ 4398046511104) (rows : List (List Va)) (hr : OkRows rows) (hrl : rows.length ≤ 1000000000000) (hrc : ∀ r ∈ rows, r.length = cols.length) (σ : St) : ACalls Tryz.prog 10 [.agg ((smC s).map .p), tbA nm cols, .p (.sl 1 (enVV rows))] σ fun r st => st = σ ∧ r = .tup [.p (.sl 3 (enW nm (updS s nm cols rows).1)), intV .i64 (updS s nm cols rows).2] := by
 refine ACalls.pureF (R := fun r => r = .tup [.p (.sl 3 (enW nm (updS s nm cols rows).1)), intV .i64 (updS s nm cols rows).2]) ?_ (by cases s; rfl) σ
 have hH := ahit s hwl nm cols hcl rows hr
 have hT := atargetsN s.names nm cols (by omega) (by omega)
 have hTok := tgtS_ok s.names cols
 have hsub := hitS_sub s nm cols rows
 have hA := fun (cs : List Int) (h1 : s.sets.length ≤ cs.length) (h2 : ∀ c ∈ cs, 0 ≤ c ∧ c.toNat < cols.length) (h3 : s.sets.length ≤ 1000000000000) => aassigned s.sets cs nm cols (scopeS nm cols) h3 h1 h2 (by simp [scopeS]; omega)
 have hAl := fun cs => asgS_len (scopeS nm cols) cols s.sets cs
 have hSc := ascope nm cols hcl
 have hSd := fun rows h1 h2 => asoundN rows nm cols h1 (by omega) h2
 unfold updS
 generalize hitS s nm cols rows = hs at *
 generalize hsp : uStep = stp at *
 generalize tgtS s.names cols = tg at *
 generalize asgS (scopeS nm cols) cols s.sets = asg at *
 generalize scopeS nm cols = sc at *
 obtain ⟨old, eh⟩ := hs
 obtain ⟨cs, et⟩ := tg
 obtain ⟨kind, tb, sn, scols, names, srows, items, src, wh, group, order, limit, sets, hash⟩ := s
 simp only [tbA, smC, List.map_cons, List.map_nil, ← enS_enN] at hH hT hA hSc hSd
 simp only at hk5 hnl hTok hsub hAl
 refine acalls_of cx_ok dr_ok Tryz.func10 (by kernel_rfl) rfl (nt := 87) (rs := [.tmp 6, .tmp 7]) rfl rfl ?_
 simp only [tbA, smC, List.map_cons, List.map_nil]
 by_cases hk : kind = 5
 ·subst hk
  have hk5' := hk5 rfl
  simp only [ne_eq, not_true_eq_false, if_false]
  by_cases het : et = 0
  ·subst het
   obtain ⟨hcs1, hcs2⟩ := hTok rfl
   have hA' := hA cs (by omega) hcs2 (by omega)
   have hAl' := hAl cs
   generalize asg cs = az at *
   obtain ⟨xs, ea⟩ := az
   simp only at hA' hAl'
   simp only [not_true_eq_false, if_false]
   by_cases hea : ea = 0
   ·subst hea
    simp only [not_true_eq_false, if_false]
    by_cases he : eh = 0
    ·subst he
     simp only [not_true_eq_false, if_false]
     have hol : old.length ≤ 1000000000000 := by have := hsub.1; omega
     have horow : ∀ r ∈ old, r.length = cols.length := fun r h => hrc r (hsub.2 r h)
     repeat' first | ((with_reducible first | refine cond_split ?_ ?_ | refine ws ?_ ?_ | refine wd ?_ ?_ | refine wu ?_ ?_) <;> intro h <;> try simp only [h]) | simp only [↓wBA, tUp, convA, seval, pl10_6Up, bne_self_eq_false, enVV_len] | ((with_reducible show ACalls _ _ _ _ _); first | refine (hT _).eq ?_ | refine (hSc _).eq ?_ | refine (hA' _).eq ?_ | refine (hH _).eq ?_) | (with_reducible refine dP pl10_6Up 12 (some 32) (by decide) (by kernel_rfl) ?_)
     refine awp_loopN (old.length) (fun i => [(12, .nown 2 3 (enW nm ((old.take i).foldl (stp xs cs) ([], 0)).1)), (13, .nown 3 1 (enVV (((old.take i).foldl (stp xs cs) ([], 0)).1.map newR))), (14, intV .i64 ((old.take i).foldl (stp xs cs) ([], 0)).2), (56, intV .i64 (i : Nat)), (16, .any), (17, .any), (57, .any), (58, .any), (59, .any), (60, .any), (61, .any), (62, .any), (63, .any), (64, .any), (65, .any), (66, .any), (67, .any), (68, .any), (69, .any), (70, .any), (71, .any), (72, .any), (73, .any), (74, .any), (75, .any), (76, .any), (77, .any), (78, .any), (79, .any), (80, .any)]) (fun i => [(2, .nright 58 (i * 3)), (3, .nright 39 (i * 1))]) (fun i => True) ?_ ?_ ?_
     ·trivial
     ·skip
      simp only [wR, Nat.reduceAdd, Nat.reduceLT, reduceIte]
      simp [wW, enW, enVV]
     ·intro i hi _
      simp only [wR, Nat.reduceAdd, Nat.reduceLT, reduceIte]
      by_cases hlt : i < old.length
      ·have hdec := dT (i := i) (n := old.length) (by omega)
       have hi0 := nnI i
       have hw := wI i (by omega)
       have hg := enVV_get old i hlt
       have hst := take_step (stp xs cs) ([], 0) old i hlt
       have hlen := uGo_len xs cs (old.take i) ([], 0)
       have hrl' := horow old[i] (List.getElem_mem hlt)
       have hWk := fun l => aworked old[i] xs cs l (by omega) (fun c hc => by rw [hrl']; exact hcs2 c hc) (by omega) (by omega)
       simp only [hsp] at hlen
       rw [← hsp] at hst
       simp only [uStep] at hst
       rw [hsp] at hst
       generalize hs : (old.take i).foldl (stp xs cs) ([], 0) = st at *
       obtain ⟨out, l⟩ := st
       have hol' : out.length = i := by simp at hlen; omega
       have hWk' := hWk l
       clear hWk
       generalize hrow : old[i] = row at *
       generalize hwr : wrkS row xs cs l = wr at *
       obtain ⟨nrow, le⟩ := wr
       simp only at hst hWk'
       have hA : enW nm (out ++ [(row, some nrow)]) = enW nm out ++ [[.v (.string nm), .sl 3 (enV row), .sl 3 (enV nrow)]] := by simp [enW, wrC]
       have hB : enVV ((out ++ [(row, some nrow)]).map newR) = enVV (out.map newR) ++ [[.sl 3 (enV nrow)]] := by simp [enVV, newR]
       have htl : (enW nm out).length = i := by rw [enW_len, hol']
       have htl2 : (enVV (out.map newR)).length = i := by rw [enVV_len, List.length_map, hol']
       have hlim1 := tL (n := (i + 1) * 64) (by omega)
       have hlim2 := lM (n := i + 1) (by omega)
       have hlim3 := tL (n := (i + 1) * 24) (by omega)
       repeat' first | ((with_reducible first | refine cond_split ?_ ?_ | refine ws ?_ ?_ | refine wd ?_ ?_ | refine wu ?_ ?_) <;> intro h <;> try simp only [h]) | simp only [↓wBA, tUp, convA, seval, pl10_6Up, enVV_len, hdec, hi0, hg, hw, htl, htl2, hlim1, hlim2, hlim3, appendA, srcA, List.length_append] | ((with_reducible show ACalls _ _ _ _ _); refine (hWk' _).eq ?_) | (with_reducible refine dP pl10_6Up 12 (some 32) (by decide) (by kernel_rfl) ?_)
       refine ⟨⟨i + 1, by omega, ?_⟩, by show old.length - (i + 1) < old.length - i; omega, ?_⟩
       ·trivial
       ·simp only [hst, hA, hB]
        simp [wW]
      ·have hdec := dF (i := i) (n := old.length) (by omega)
       have ht : old.take i = old := List.take_of_length_le (by omega)
       have hur := uGo_rows xs cs cols.length old ([], 0) horow (by simp)
       have hul := uGo_len xs cs old ([], 0)
       simp only [hsp] at hur hul
       simp only [ht]
       generalize old.foldl (stp xs cs) ([], 0) = u at *
       obtain ⟨out, l⟩ := u
       simp only at hur
       have hol' : out.length = old.length := by simpa using hul
       have hSd' := hSd (out.map newR) (by rw [List.length_map]; omega) hur
       unfold finU
       simp only
       by_cases hl : l = 0
       ·subst hl
        generalize soundS cols (out.map newR) = sv at *
        simp only [ne_eq, not_true_eq_false, if_false]
        by_cases hsv : sv = 0
        ·subst hsv
         simp only [not_true_eq_false, if_false]
         repeat' first | ((with_reducible first | refine cond_split ?_ ?_ | refine ws ?_ ?_ | refine wd ?_ ?_ | refine wu ?_ ?_) <;> intro h <;> try simp only [h]) | simp only [↓wBA, tUp, convA, seval, pl10_6Up, enVV_len, hdec, beq_self_eq_true, bne_self_eq_false] | ((with_reducible show ACalls _ _ _ _ _); refine ACalls.frzArgs ?_; simp only [frzL, frzA]; refine (hSd' _).eq ?_) | (with_reducible refine dP pl10_6Up 12 (some 32) (by decide) (by kernel_rfl) ?_)
         all_goals refine ret_is (a := _) ?_ rfl rfl
         all_goals simp only [↓wBA, tUp, convA, seval]
         all_goals simp_all [wS]
        ·have hsv' : (sv != 0) = true := by simpa using hsv
         simp only [hsv, not_false_eq_true, if_true]
         repeat' first | ((with_reducible first | refine cond_split ?_ ?_ | refine ws ?_ ?_ | refine wd ?_ ?_ | refine wu ?_ ?_) <;> intro h <;> try simp only [h]) | simp only [↓wBA, tUp, convA, seval, pl10_6Up, enVV_len, hdec, beq_self_eq_true, hsv'] | ((with_reducible show ACalls _ _ _ _ _); refine ACalls.frzArgs ?_; simp only [frzL, frzA]; refine (hSd' _).eq ?_) | (with_reducible refine dP pl10_6Up 12 (some 32) (by decide) (by kernel_rfl) ?_)
         all_goals refine ret_is (a := _) ?_ rfl rfl
         all_goals simp only [↓wBA, tUp, convA, seval]
         all_goals simp_all [wS, enW]
       ·have hl' : (l != 0) = true := by simpa using hl
        have hl2 : (l == 0) = false := by simpa using hl
        simp only [ne_eq, hl, not_false_eq_true, if_true]
        repeat' first | ((with_reducible first | refine cond_split ?_ ?_ | refine ws ?_ ?_ | refine wd ?_ ?_ | refine wu ?_ ?_) <;> intro h <;> try simp only [h]) | simp only [↓wBA, tUp, convA, seval, pl10_6Up, enVV_len, hdec, hl', hl2] | (with_reducible refine dP pl10_6Up 12 (some 32) (by decide) (by kernel_rfl) ?_)
        all_goals refine ret_is (a := _) ?_ rfl rfl
        all_goals simp only [↓wBA, tUp, convA, seval]
        all_goals simp_all [wS, enW]
    ·have he' : (eh != 0) = true := by simpa using he
     simp only [he, not_false_eq_true, if_true]
     repeat' first | ((with_reducible first | refine cond_split ?_ ?_ | refine ws ?_ ?_ | refine wd ?_ ?_ | refine wu ?_ ?_) <;> intro h <;> try simp only [h]) | simp only [↓wBA, tUp, convA, seval, pl10_6Up, bne_self_eq_false, he'] | ((with_reducible show ACalls _ _ _ _ _); first | refine (hT _).eq ?_ | refine (hSc _).eq ?_ | refine (hA' _).eq ?_ | refine (hH _).eq ?_) | (with_reducible refine dP pl10_6Up 12 (some 32) (by decide) (by kernel_rfl) ?_)
     all_goals refine ret_is (a := _) ?_ rfl rfl
     all_goals simp only [↓wBA, tUp, convA, seval]
     all_goals simp_all [wS, enW]
   ·have he' : (ea != 0) = true := by simpa using hea
    simp only [hea, not_false_eq_true, if_true]
    repeat' first | ((with_reducible first | refine cond_split ?_ ?_ | refine ws ?_ ?_ | refine wd ?_ ?_ | refine wu ?_ ?_) <;> intro h <;> try simp only [h]) | simp only [↓wBA, tUp, convA, seval, pl10_6Up, bne_self_eq_false, he'] | ((with_reducible show ACalls _ _ _ _ _); first | refine (hT _).eq ?_ | refine (hSc _).eq ?_ | refine (hA' _).eq ?_) | (with_reducible refine dP pl10_6Up 12 (some 32) (by decide) (by kernel_rfl) ?_)
    all_goals refine ret_is (a := _) ?_ rfl rfl
    all_goals simp only [↓wBA, tUp, convA, seval]
    all_goals simp_all [wS, enW]
  ·have he' : (et != 0) = true := by simpa using het
   simp only [het, not_false_eq_true, if_true]
   repeat' first | ((with_reducible first | refine cond_split ?_ ?_ | refine ws ?_ ?_ | refine wd ?_ ?_ | refine wu ?_ ?_) <;> intro h <;> try simp only [h]) | simp only [↓wBA, tUp, convA, seval, pl10_6Up, bne_self_eq_false, he'] | ((with_reducible show ACalls _ _ _ _ _); refine (hT _).eq ?_) | (with_reducible refine dP pl10_6Up 12 (some 32) (by decide) (by kernel_rfl) ?_)
   all_goals refine ret_is (a := _) ?_ rfl rfl
   all_goals simp only [↓wBA, tUp, convA, seval]
   all_goals simp_all [wS, enW]
 ·have k5 : (kind != 5) = true := by simpa using hk
  simp only [ne_eq, hk, not_false_eq_true, if_true]
  repeat' first | ((with_reducible first | refine cond_split ?_ ?_ | refine ws ?_ ?_ | refine wd ?_ ?_ | refine wu ?_ ?_) <;> intro h <;> try simp only [h]) | simp only [↓wBA, tUp, convA, seval, pl10_6Up, k5] | (with_reducible refine dP pl10_6Up 12 (some 32) (by decide) (by kernel_rfl) ?_)
  all_goals refine ret_is (a := _) ?_ rfl rfl
  all_goals simp only [↓wBA, tUp, convA, seval]
  all_goals simp_all [wS, enW]
end Go.Proofs.YtcnkmandddfdmaaGreatDoor
