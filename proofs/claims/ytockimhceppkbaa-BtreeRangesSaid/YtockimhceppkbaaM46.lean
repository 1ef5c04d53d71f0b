/- BtreeRanges. The law of ranges. -/
import Derived.Test.YtockimhceppkbaaM45
import Derived.Shelf.Vars
set_option linter.unusedSimpArgs false
set_option linter.unusedVariables false
set_option linter.defProp false
set_option maxRecDepth 100000
set_option maxHeartbeats 32000000
namespace Go.Proofs.Ytockimhceppkbaa
open Go.RowKit
def pl3_18Yv : Plan := (.det 0 (.det 1 (.det 2 (.det 3 (.det 4 (.det 6 (.two 5 (.act 7 (.det 8 (.det 9 (.det 10 (.det 11 (.det 12 (.det 13 (.det 14 (.det 16 (.two 15 (.act 17 (.det 18 (.det 19 .done))) 17 (.fin 15 (.det 18 (.det 19 .done))))))))))))) 7 (.fin 5 (.det 8 (.det 9 (.det 10 (.det 11 (.det 12 (.det 13 (.det 14 (.det 16 (.two 15 (.act 17 (.det 18 (.det 19 .done))) 17 (.fin 15 (.det 18 (.det 19 .done))))))))))))))))))))
def pl3_19Yv : Plan := (.det 0 (.det 1 (.det 2 (.det 3 (.det 4 (.det 5 (.det 6 (.det 7 (.det 8 (.det 9 (.det 11 (.det 12 (.det 13 (.det 14 (.det 15 (.two 10 (.act 16 (.det 17 (.det 18 (.det 19 (.det 20 (.det 21 (.det 22 (.det 23 (.det 24 (.det 25 (.det 26 (.det 27 (.det 28 (.det 29 (.det 30 (.det 31 .done)))))))))))))))) 16 (.act 10 (.det 17 (.det 18 (.det 19 (.det 20 (.det 21 (.det 22 (.det 23 (.det 24 (.det 25 (.det 26 (.det 27 (.det 28 (.det 29 (.det 30 (.det 31 .done))))))))))))))))))))))))))))))))
def tYv := aa wX <| aa wbu <| aa T3 <| aa T4 <| aa T9 <| aa T22 <| aa T23 <| aa T25 <| aa T27 <| aa T30 <| aa T31 <| aa T36 T38
theorem EntP.leaf {av : AV} {l : List Ent} (h : EntP av l) : leaf av = true := by rcases h with ⟨_, rfl⟩ | ⟨_, rfl⟩ <;> rfl
theorem EntP.cells {av : AV} {l : List Ent} (h : EntP av l) : cellsA av = some [av] := by rcases h with ⟨_, rfl⟩ | ⟨_, rfl⟩ <;> rfl
theorem EntP.len {av : AV} {l : List Ent} (h : EntP av l) : lenA cx 30 av = some l.length := by
 rcases h with ⟨rfl, rfl⟩ | ⟨_, rfl⟩
 ·rfl
 ·unfold lenA
  rw [ck_30]
  simp [elemsA]
theorem filter_at {α : Type} (p : α → Bool) : ∀ (l : List α) (i : Nat) (x : α), l[i]? = some x → p x = true → (l.filter p)[((l.take i).filter p).length]? = some x
 | [], i, x, h, _ => by simp at h
 | y :: l, 0, x, h, hp => by
   simp only [List.getElem?_cons_zero, Option.some.injEq] at h
   subst h
   simp [hp]
 | y :: l, i + 1, x, h, hp => by
   simp only [List.getElem?_cons_succ] at h
   have ih := filter_at p l i x h hp
   simp only [List.take_succ_cons, List.filter_cons]
   split
   ·simpa using ih
   ·exact ih
theorem aranges (x : PV) (ys : List PV) (hx : RecsY x ys) (lo mid hi : List UInt8) (σ : St) : ACalls Try.prog 3 [.agg [.p x, .p (.sl 1 (encB lo)), .p (.sl 1 (encB mid)), .p (.sl 1 (encB hi))]] σ fun r σ' => r = boolV true := by
 refine acalls_of cx_ok dr_ok Try.func3 (by kernel_rfl) rfl (nt := 178) (rs := [.tmp 2]) rfl rfl ?_
 repeat' first | ((with_reducible first | refine cs ?_ ?_ | refine ws ?_ ?_ | refine wd ?_ ?_ | refine wu ?_ ?_) <;> intro h <;> try simp only [h]) | simp only [↓wBA, tYv, convA, seval, pl3_18Yv, pl3_19Yv, wH] | ((with_reducible show ACalls _ _ _ _ _); refine (aawake7 _).mono ?_; rintro _ s0 ⟨a0, rfl⟩) | (with_reducible refine dP pl3_18Yv 20 (some 80) (by decide) (by kernel_rfl) ?_) | (with_reducible refine dP pl3_19Yv 32 (some 100) (by decide) (by kernel_rfl) ?_) | with_reducible refine And.intro ?_ ?_
 have b0 : s0[σ.length]? = some (some (Ob.row 4 [[.p x, .p (.sl 1 (encB lo)), .p (.sl 1 (encB mid)), .p (.sl 1 (encB hi))]])) := a0.get (by simp)
 have y0 := at_lt b0
 have q0 := a0.len
 simp only [List.length_append, List.length_cons, List.length_nil] at q0
 repeat' first | ((with_reducible first | refine cs ?_ ?_ | refine ws ?_ ?_ | refine wd ?_ ?_ | refine wu ?_ ?_) <;> intro h <;> try simp only [h]) | simp only [↓wBA, tYv, convA, seval, pl3_18Yv, pl3_19Yv, wH, b0, y0] | (with_reducible refine dP pl3_18Yv 20 (some 80) (by decide) (by kernel_rfl) ?_) | (with_reducible refine dP pl3_19Yv 32 (some 100) (by decide) (by kernel_rfl) ?_) | with_reducible refine And.intro ?_ ?_
 refine (atTree hx _).mono ?_
 rintro _ s1 ⟨b, root, p, dd, l, kh, U1, P1, v, T, h, t, rfl, a1, hB1, hUs, hpg, hb, hR⟩
 have q1 := a1.len
 have k1 : Kp P1 P1 0 := Kp.refl P1 0
 repeat' first | ((with_reducible first | refine cs ?_ ?_ | refine ws ?_ ?_ | refine wd ?_ ?_ | refine wu ?_ ?_) <;> intro h <;> try simp only [h]) | simp only [↓wBA, tYv, convA, seval, pl3_18Yv, pl3_19Yv, wH] | (with_reducible refine dP pl3_18Yv 20 (some 80) (by decide) (by kernel_rfl) ?_) | (with_reducible refine dP pl3_19Yv 32 (some 100) (by decide) (by kernel_rfl) ?_) | with_reducible refine And.intro ?_ ?_
 refine (atAll hB1 (hb.kp k1 (by omega)) (by rw [hpg]; exact hR)).mono ?_
 rintro _ s2 ⟨U2, P2, ea, rfl, f2, hB2, kk2, hEa⟩
 have q2 := f2.len
 have k2 := k1.trans kk2
 rw [all_eq hR.ok] at hEa
 have lfa := hEa.leaf
 have cla := hEa.cells
 have lna := hEa.len
 repeat' first | ((with_reducible first | refine cs ?_ ?_ | refine ws ?_ ?_ | refine wd ?_ ?_ | refine wu ?_ ?_) <;> intro h <;> try simp only [h]) | simp only [↓wBA, tYv, convA, seval, pl3_18Yv, pl3_19Yv, wH, lfa, cla] | (with_reducible refine dP pl3_18Yv 20 (some 80) (by decide) (by kernel_rfl) ?_) | (with_reducible refine dP pl3_19Yv 32 (some 100) (by decide) (by kernel_rfl) ?_) | with_reducible refine And.intro ?_ ?_
 refine (atRange (lo := lo) (hi := hi) hB2 (hb.kp k2 (by omega)) (by rw [k2.pages, hpg]; exact hR) (.inl rfl) (.inl rfl)).mono ?_
 rintro _ s3 ⟨U3, P3, er, rfl, f3, hB3, kk3, hEr⟩
 have q3 := f3.len
 have k3 := k2.trans kk3
 rw [range_eq _ _ hR.ok] at hEr
 have lfr := hEr.leaf
 have clr := hEr.cells
 have lnr := hEr.len
 repeat' first | ((with_reducible first | refine cs ?_ ?_ | refine ws ?_ ?_ | refine wd ?_ ?_ | refine wu ?_ ?_) <;> intro h <;> try simp only [h]) | simp only [↓wBA, tYv, convA, seval, pl3_18Yv, pl3_19Yv, wH, lfr, clr] | (with_reducible refine dP pl3_18Yv 20 (some 80) (by decide) (by kernel_rfl) ?_) | (with_reducible refine dP pl3_19Yv 32 (some 100) (by decide) (by kernel_rfl) ?_) | with_reducible refine And.intro ?_ ?_
 refine (atRange (lo := lo) (hi := mid) hB3 (hb.kp k3 (by omega)) (by rw [k3.pages, hpg]; exact hR) (.inl rfl) (.inl rfl)).mono ?_
 rintro _ s4 ⟨U4, P4, ex, rfl, f4, hB4, kk4, hEx⟩
 have q4 := f4.len
 have k4 := k3.trans kk4
 rw [range_eq _ _ hR.ok] at hEx
 have lfx := hEx.leaf
 have clx := hEx.cells
 have lnx := hEx.len
 repeat' first | ((with_reducible first | refine cs ?_ ?_ | refine ws ?_ ?_ | refine wd ?_ ?_ | refine wu ?_ ?_) <;> intro h <;> try simp only [h]) | simp only [↓wBA, tYv, convA, seval, pl3_18Yv, pl3_19Yv, wH, lfx, clx] | (with_reducible refine dP pl3_18Yv 20 (some 80) (by decide) (by kernel_rfl) ?_) | (with_reducible refine dP pl3_19Yv 32 (some 100) (by decide) (by kernel_rfl) ?_) | with_reducible refine And.intro ?_ ?_
 refine (atRange (lo := mid) (hi := hi) hB4 (hb.kp k4 (by omega)) (by rw [k4.pages, hpg]; exact hR) (.inl rfl) (.inl rfl)).mono ?_
 rintro _ s5 ⟨U5, P5, ey, rfl, f5, hB5, kk5, hEy⟩
 have q5 := f5.len
 have k5 := k4.trans kk5
 rw [range_eq _ _ hR.ok] at hEy
 have lfy := hEy.leaf
 have cly := hEy.cells
 have lny := hEy.len
 repeat' first | ((with_reducible first | refine cs ?_ ?_ | refine ws ?_ ?_ | refine wd ?_ ?_ | refine wu ?_ ?_) <;> intro h <;> try simp only [h]) | simp only [↓wBA, tYv, convA, seval, pl3_18Yv, pl3_19Yv, wH, lfy, cly] | (with_reducible refine dP pl3_18Yv 20 (some 80) (by decide) (by kernel_rfl) ?_) | (with_reducible refine dP pl3_19Yv 32 (some 100) (by decide) (by kernel_rfl) ?_) | with_reducible refine And.intro ?_ ?_
 refine (atRange (lo := mid) (hi := mid) hB5 (hb.kp k5 (by omega)) (by rw [k5.pages, hpg]; exact hR) (.inl rfl) (.inl rfl)).mono ?_
 rintro _ s6 ⟨U6, P6, em, rfl, f6, hB6, kk6, hEm⟩
 have q6 := f6.len
 have k6 := k5.trans kk6
 rw [range_eq _ _ hR.ok] at hEm
 have lfm := hEm.leaf
 have clm := hEm.cells
 have lnm := hEm.len
 repeat' first | ((with_reducible first | refine cs ?_ ?_ | refine ws ?_ ?_ | refine wd ?_ ?_ | refine wu ?_ ?_) <;> intro h <;> try simp only [h]) | simp only [↓wBA, tYv, convA, seval, pl3_18Yv, pl3_19Yv, wH, lfm, clm] | (with_reducible refine dP pl3_18Yv 20 (some 80) (by decide) (by kernel_rfl) ?_) | (with_reducible refine dP pl3_19Yv 32 (some 100) (by decide) (by kernel_rfl) ?_) | with_reducible refine And.intro ?_ ?_
 obtain ⟨E, hE⟩ : ∃ E, E = entsT h t := ⟨_, rfl⟩
 rw [← hE] at hEa lna hEr lnr hEx lnx hEy lny hEm lnm
 have hEl : E.length ≤ 49 * 3840 := by
  have h1 := ents_le hR.tr
  have h2 := len_le_of_lt 800 _ hR.nd fun q hq => (hR.tk q hq).2.1
  rw [← hE] at h1; omega
 refine awp_loopS (X := { q : Nat × Nat // q.1 ≤ E.length ∧ q.2 = ((E.take q.1).filter (inR lo hi)).length }) (fun q => E.length - q.1.1) (fun q => [(18, intV .i64 (q.1.2 : Nat)), (19, intV .i64 (q.1.1 : Nat))]) [2, 74, 75, 76, 77, 78, 79, 80, 81, 82, 83, 84, 85, 86, 87, 88, 89, 90, 91, 92, 93, 94, 95, 96, 97, 98, 99, 100, 101, 102, 103, 104, 105, 106, 107, 108, 109, 110, 111, 112, 113, 114, 115, 116, 117, 118, 119, 120, 121, 122, 123, 124, 125, 126, 127, 128, 129, 130, 131, 132, 133] (fun q s => Ap s6 s) (⟨(0, 0), by omega, by simp⟩) ?_ ?_ ?_ ?_
 ·simp only [wHl, wHf]
 ·exact Ap.refl _
 ·rintro _ _ h; exact h.len
 ·intro y J s hI
  simp only [wHl]
  obtain ⟨⟨i, k⟩, hi', hk⟩ := y
  dsimp only at *
  change i ≤ E.length at hi'
  change k = ((E.take i).filter (inR lo hi)).length at hk
  have hi0 := nnI i
  have q9 := hI.len
  have hcv := fun r => convB_bx (r := r) (.inl rfl)
  by_cases hlt : i < E.length
  ·have hdec := dT (i := i) (n := E.length) hlt
   have hw := wI i (by omega)
   obtain ⟨e, he⟩ : ∃ e, E[i]? = some e := ⟨E[i], by simp⟩
   rcases hEa with ⟨h0, _⟩ | ⟨_, rfl⟩
   ·rw [h0] at he; simp at he
   have hge : (E.map entP)[i]? = some (entP e) := by simp [he]
   have hif : ((i : Int) < ((E.map entP).length : Int)) = True := eq_true (by simp; omega)
   have hnx : ((E.take (i + 1)).filter (inR lo hi)).length = k + (if inR lo hi e then 1 else 0) := by
    rw [hk, List.take_add_one, he]
    simp only [Option.toList, List.filter_append, List.filter_cons, List.filter_nil, List.length_append]
    split <;> rfl
   cases c1 : decide (0 ≤ Lib.compareBytes e.k lo) with
   | false =>
     have hin : inR lo hi e = false := by unfold inR; rw [c1]; rfl
     rw [hin] at hnx
     repeat' first | ((with_reducible first | refine cs ?_ ?_ | refine ws ?_ ?_ | refine wd ?_ ?_ | refine wu ?_ ?_) <;> intro h <;> try simp only [h]) | simp only [↓wBA, tYv, convA, seval, pl3_18Yv, pl3_19Yv, wH, wHl, hdec, hi0, hif, hw, lna, hge, entP, hcv, str_geq, str_leq, c1] | (with_reducible refine dP pl3_18Yv 20 (some 80) (by decide) (by kernel_rfl) ?_) | (with_reducible refine dP pl3_19Yv 32 (some 100) (by decide) (by kernel_rfl) ?_) | with_reducible refine And.intro ?_ ?_
     exact ⟨⟨(i + 1, k), by omega, by show k = _; rw [hnx]; rfl⟩, by show E.length - (i + 1) < E.length - i; omega, hI, by simp only [wHl, wHf]⟩
   | true =>
     cases c2 : decide (Lib.compareBytes e.k hi ≤ 0) with
     | false =>
       have hin : inR lo hi e = false := by unfold inR; rw [c1, c2]; rfl
       rw [hin] at hnx
       repeat' first | ((with_reducible first | refine cs ?_ ?_ | refine ws ?_ ?_ | refine wd ?_ ?_ | refine wu ?_ ?_) <;> intro h <;> try simp only [h]) | simp only [↓wBA, tYv, convA, seval, pl3_18Yv, pl3_19Yv, wH, wHl, hdec, hi0, hif, hw, lna, hge, entP, hcv, str_geq, str_leq, c1, c2] | (with_reducible refine dP pl3_18Yv 20 (some 80) (by decide) (by kernel_rfl) ?_) | (with_reducible refine dP pl3_19Yv 32 (some 100) (by decide) (by kernel_rfl) ?_) | with_reducible refine And.intro ?_ ?_
       exact ⟨⟨(i + 1, k), by omega, by show k = _; rw [hnx]; rfl⟩, by show E.length - (i + 1) < E.length - i; omega, hI, by simp only [wHl, wHf]⟩
     | true =>
       have hin : inR lo hi e = true := by unfold inR; rw [c1, c2]; rfl
       rw [hin] at hnx
       have hfa := filter_at (inR lo hi) E i e he hin
       rcases hEr with ⟨h0, _⟩ | ⟨_, rfl⟩
       ·rw [h0] at hfa; simp at hfa
       obtain ⟨Z, hZ⟩ : ∃ Z, Z = E.filter (inR lo hi) := ⟨_, rfl⟩
       rw [← hZ] at hfa lnr
       rw [← hk] at hfa
       rw [← hZ]
       have hkl := (List.getElem?_eq_some_iff.1 hfa).1
       have hZl : Z.length ≤ E.length := by rw [hZ]; exact List.length_filter_le _ _
       have hd1 : decide ((k : Int) ≥ (Z.length : Int)) = false := by simp; omega
       have hd1' : decide ((Z.length : Int) ≤ (k : Int)) = false := by simp; omega
       have hgf : (Z.map entP)[k]? = some (entP e) := by simp [hfa]
       have hif2 : ((k : Int) < ((Z.map entP).length : Int)) = True := eq_true (by simp; omega)
       have hk0 := nnI k
       have hwk := wI k (by omega)
       repeat' first | ((with_reducible first | refine cs ?_ ?_ | refine ws ?_ ?_ | refine wd ?_ ?_ | refine wu ?_ ?_) <;> intro h <;> try simp only [h]) | simp only [↓wBA, tYv, convA, seval, pl3_18Yv, pl3_19Yv, wH, wHl, hdec, hi0, hif, hw, lna, lnr, hge, entP, hcv, str_geq, str_leq, c1, c2, hd1, hd1', hgf, hif2, hk0, hwk, str_neq, bne_self_eq_false, beq_self_eq_true, Bool.and_self, Bool.not_true] | (with_reducible refine dP pl3_18Yv 20 (some 80) (by decide) (by kernel_rfl) ?_) | (with_reducible refine dP pl3_19Yv 32 (some 100) (by decide) (by kernel_rfl) ?_) | with_reducible refine And.intro ?_ ?_
       exact ⟨⟨(i + 1, k + 1), by omega, by show k + 1 = _; rw [hnx]; rfl⟩, by show E.length - (i + 1) < E.length - i; omega, hI, by simp only [wHl, wHf]⟩
  ·obtain rfl : i = E.length := by omega
   have hdec := dF (i := E.length) (n := E.length) hlt
   rw [List.take_length] at hk
   rw [← hk] at lnr
   have hl1 := List.length_filter_le (inR lo hi) E
   have hl2 := List.length_filter_le (inR lo mid) E
   have hl3 := List.length_filter_le (inR mid hi) E
   have hl4 := List.length_filter_le (inR mid mid) E
   have hmt := fun h1 h2 => meet_len lo mid hi h1 h2 E
   obtain ⟨zx, hzx⟩ : ∃ z, z = (E.filter (inR lo mid)).length := ⟨_, rfl⟩
   obtain ⟨zy, hzy⟩ : ∃ z, z = (E.filter (inR mid hi)).length := ⟨_, rfl⟩
   obtain ⟨zm, hzm⟩ : ∃ z, z = (E.filter (inR mid mid)).length := ⟨_, rfl⟩
   rw [← hzx] at lnx hmt hl2
   rw [← hzy] at lny hmt hl3
   rw [← hzm] at lnm hmt hl4
   rw [← hk] at hmt hl1
   have w1 := wrap_i64 (n := (zx : Int) + (zy : Int)) (by omega) (by omega)
   have w2 := wrap_i64 (n := (k : Int) + (zm : Int)) (by omega) (by omega)
   have hzz : ((k : Int) != (k : Int)) = false := by simp
   cases g1 : decide (Lib.compareBytes lo mid ≤ 0) with
   | false =>
     repeat' first | ((with_reducible first | refine cs ?_ ?_ | refine ws ?_ ?_ | refine wd ?_ ?_ | refine wu ?_ ?_) <;> intro h <;> try simp only [h]) | simp only [↓wBA, tYv, convA, seval, pl3_18Yv, pl3_19Yv, wH, wHl, hdec, lna, lnr, lnx, lny, lnm, hzz, hcv, str_gtr, g1, w1, w2, bne_self_eq_false, Bool.not_false, Bool.not_true] | (with_reducible refine dP pl3_18Yv 20 (some 80) (by decide) (by kernel_rfl) ?_) | (with_reducible refine dP pl3_19Yv 32 (some 100) (by decide) (by kernel_rfl) ?_) | with_reducible refine And.intro ?_ ?_
     all_goals refine ret_st ?_ (by first | exact Nat.le_refl _ | (simp only [List.length_set, List.length_append]; omega) | omega)
     all_goals simp only [resA.eq_1, resL.eq_1, resL.eq_2, resV.eq_1, resV.eq_2, ↓wBA, tYv, convA, seval, wH]
   | true =>
     cases g2 : decide (Lib.compareBytes mid hi ≤ 0) with
     | false =>
       repeat' first | ((with_reducible first | refine cs ?_ ?_ | refine ws ?_ ?_ | refine wd ?_ ?_ | refine wu ?_ ?_) <;> intro h <;> try simp only [h]) | simp only [↓wBA, tYv, convA, seval, pl3_18Yv, pl3_19Yv, wH, wHl, hdec, lna, lnr, lnx, lny, lnm, hzz, hcv, str_gtr, g1, g2, w1, w2, bne_self_eq_false, Bool.not_false, Bool.not_true] | (with_reducible refine dP pl3_18Yv 20 (some 80) (by decide) (by kernel_rfl) ?_) | (with_reducible refine dP pl3_19Yv 32 (some 100) (by decide) (by kernel_rfl) ?_) | with_reducible refine And.intro ?_ ?_
       all_goals refine ret_st ?_ (by first | exact Nat.le_refl _ | (simp only [List.length_set, List.length_append]; omega) | omega)
       all_goals simp only [resA.eq_1, resL.eq_1, resL.eq_2, resV.eq_1, resV.eq_2, ↓wBA, tYv, convA, seval, wH]
     | true =>
       have hq : ((zx : Int) + (zy : Int) == (k : Int) + (zm : Int)) = true := by
        have := hmt (by simpa using g1) (by simpa using g2)
        simp; omega
       repeat' first | ((with_reducible first | refine cs ?_ ?_ | refine ws ?_ ?_ | refine wd ?_ ?_ | refine wu ?_ ?_) <;> intro h <;> try simp only [h]) | simp only [↓wBA, tYv, convA, seval, pl3_18Yv, pl3_19Yv, wH, wHl, hdec, lna, lnr, lnx, lny, lnm, hzz, hcv, str_gtr, g1, g2, w1, w2, hq, bne_self_eq_false, Bool.not_false, Bool.not_true] | (with_reducible refine dP pl3_18Yv 20 (some 80) (by decide) (by kernel_rfl) ?_) | (with_reducible refine dP pl3_19Yv 32 (some 100) (by decide) (by kernel_rfl) ?_) | with_reducible refine And.intro ?_ ?_
       all_goals refine ret_st ?_ (by first | exact Nat.le_refl _ | (simp only [List.length_set, List.length_append]; omega) | omega)
       all_goals simp only [resA.eq_1, resL.eq_1, resL.eq_2, resV.eq_1, resV.eq_2, ↓wBA, tYv, convA, seval, wH]
end Go.Proofs.Ytockimhceppkbaa
namespace Go.Proofs.Ytockimhceppkbaa
open Go.RowKit
theorem globW_open {W : World} (hsh : W.ShapedOpen Try.prog) : GlobW W := by
 intro x hx
 rcases List.mem_append.1 hx with hx | hx
 ·cases hx
 ·simp only [List.mem_singleton] at hx
  subst hx
  obtain ⟨zero, t, h0, hz, hb, hc, hu⟩ : ∃ zero t, ((begin Try.prog (fun _ _ => 0) default).world.heap[0]?).bind Obj.row? = some (zero, t) ∧ zero.size = 1 ∧ Try.prog.buildable t = true ∧ Try.prog.cellTypes Try.prog.depth t = some [t] ∧ Try.prog.underlying t = some (.int .i64) := ⟨#[.int .i64 0], 3, by kernel_rfl, rfl, by kernel_rfl, by kernel_rfl, by kernel_rfl⟩
  obtain ⟨cs, hh, hs, _⟩ := hsh.1 _ zero t (of_decide_eq_true (by kernel_rfl)) h0
  obtain ⟨m, hm⟩ := cell_of_shapedOpen_int hsh (of_decide_eq_true (by kernel_rfl)) h0 hz hb hc hu
  refine ⟨cs, t, hh, m, ?_⟩
  rw [cell_of_row _ _ _ _ _ _ hh] at hm
  apply Array.ext_getElem?
  intro i
  rcases i with _ | i
  ·rw [hm]; rfl
  ·rw [Array.getElem?_eq_none (by omega)]; rfl
def cutSh : List Sh := [.sl 24 [.sl 1 [.int .u8]], .sl 1 [.int .u8], .sl 1 [.int .u8], .sl 1 [.int .u8]]
theorem ranges_law (ps : List PV) (us : Array Value) (W : World) (hx : HasShL cutSh ps) (hr : RepL W ps us.toList) (hG : GlobW W) :
 Calls Try.prog 3 #[.agg us] W fun e W' => e = .returned (.bool true) ∧ Below W.heap.size W W' := by
 simp only [cutSh, HasShL] at hx
 obtain ⟨x1, c1, rfl, h1, x2, c2, rfl, h2, x3, c3, rfl, h3, x4, c4, rfl, h4, rfl⟩ := hx
 obtain ⟨ys, hy⟩ := recs_shY h1
 obtain ⟨lo, rfl, _⟩ := bytes_sh2 h2
 obtain ⟨mid, rfl, _⟩ := bytes_sh2 h3
 obtain ⟨hi, rfl, _⟩ := bytes_sh2 h4
 exact law_calls2 (W := W) (vs := [.agg us]) (aranges x1 ys hy lo mid hi []) (by
  simp only [ARepL]
  exact ⟨_, _, rfl, hr.agg, rfl⟩) hG
end Go.Proofs.Ytockimhceppkbaa
