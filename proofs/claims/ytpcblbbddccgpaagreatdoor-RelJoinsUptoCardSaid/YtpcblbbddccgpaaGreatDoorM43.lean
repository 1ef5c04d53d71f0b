/- RelJoins. What a bound on the bulk gives for an argument of rows. -/
import Derived.Test.YtpcblbbddccgpaaGreatDoorM40
import Derived.Test.YtpcblbbddccgpaaGreatDoorM42
import Derived.Test.YtpcblbbddccgpaaGreatDoorM41
import Derived.Test.YtpcblbbddccgpaaGreatDoorRows
set_option linter.unusedSimpArgs false
set_option linter.unusedVariables false
set_option linter.defProp false
set_option maxRecDepth 100000
set_option maxHeartbeats 32000000
namespace Go.Proofs.YtpcblbbddccgpaaGreatDoor
open Go.RowKit
def pl3_6Tj : Plan := (.det 0 (.det 1 (.det 3 (.act 2 (.fin 4 (.det 5 (.det 6 (.det 7 (.det 8 (.det 9 .done))))))))))
def tTj := aa wX <| aa wbu <| aa T3 <| aa T4 <| aa T22 <| aa T27 T30
mutual
theorem okX_rgJ : ∀ x : Ex, okX x → rgE x
 | .mk _ _ _ _ _ _ _ kids, h => by
   simp only [okX] at h
   simp only [rgE]
   exact ⟨h.1.2.2.1, okXL_rgJ kids h.2⟩
theorem okXL_rgJ : ∀ l : List Ex, okXL l → rgL l
 | [], _ => trivial
 | x :: l, h => ⟨okX_rgJ x h.1, okXL_rgJ l h.2⟩
end
mutual
theorem nleP_same : ∀ x : PV, nleP x x
 | .v a => by simp [nleP]
 | .sl e ls => by simp only [nleP]; exact ⟨trivial, nleR_same ls⟩
theorem nleR_same : ∀ l : List (List PV), nleR l l
 | [] => by simp [nleR]
 | c :: l => by simp only [nleR]; exact ⟨nleQ_same c, nleR_same l⟩
theorem nleQ_same : ∀ l : List PV, nleQ l l
 | [] => by simp [nleQ]
 | c :: l => by simp only [nleQ]; exact ⟨nleP_same c, nleQ_same l⟩
end
theorem nle_nilSl {e : Nat} {ls ms : List (List PV)} (h : nleR ls ms) : nleP (nilSl e ls) (.sl e ms) := by
 cases ls with
 | nil =>
   cases ms with
   | nil => simp [nilSl, nleP]
   | cons c m => simp [nleR] at h
 | cons c l => simp only [nilSl, List.isEmpty_cons, Bool.false_eq_true, if_false, nleP]; exact ⟨trivial, h⟩
theorem nle_pairs : ∀ l : List (List Va), nleR (enVN l) (enVV l)
 | [] => by simp [enVN, enVV, nleR]
 | r :: l => by
   have := nle_pairs l
   simp only [enVN, enVV, List.map_cons, nleR, nleQ, and_true] at this ⊢
   exact ⟨nle_nilSl (nleR_same _), this⟩
theorem afew (a b : List (List Va)) (σ : St) : ACalls Tryz.prog 6 [.p (.sl 1 (enVV a)), .p (.sl 1 (enVV b))] σ fun r s => s = σ ∧ r = boolV (decide (a.length ≤ 200) && decide (b.length ≤ 200)) := by
 refine ACalls.pureF (R := fun r => r = boolV (decide (a.length ≤ 200) && decide (b.length ≤ 200))) ?_ rfl σ
 have h1 : decide ((a.length : Int) ≤ 200) = decide (a.length ≤ 200) := by congr 1; simp; omega
 have h2 : decide ((b.length : Int) ≤ 200) = decide (b.length ≤ 200) := by congr 1; simp; omega
 generalize decide (a.length ≤ 200) = p at *
 generalize decide (b.length ≤ 200) = q at *
 cases p <;> cases q
 all_goals
  refine acalls_of cx_ok dr_ok Tryz.func6 (by kernel_rfl) rfl (nt := 11) (rs := [.tmp 4]) rfl rfl ?_
  repeat' first | ((with_reducible first | refine cs ?_ ?_ | refine ws ?_ ?_) <;> intro h <;> try simp only [h]) | simp only [↓wBA, tTj, convA, seval, enVV_len, h1, h2]
  all_goals refine ret_is (a := _) ?_ rfl rfl
  all_goals simp only [↓wBA, tTj, convA, seval]
  all_goals simp_all [wS]
theorem pairs_mem {a b : List (List Va)} {r : List Va} (h : r ∈ pairsS a b) : ∃ x ∈ a, ∃ y ∈ b, r = x ++ y := by
 unfold pairsS at h
 obtain ⟨x, hx, hr⟩ := List.mem_flatMap.1 h
 obtain ⟨y, hy, rfl⟩ := List.mem_map.1 hr
 exact ⟨x, hx, y, hy, rfl⟩
theorem ajoins (a b : List (List Va)) (on : Ex) (ha : a.length ≤ 4398046511104) (hb : b.length ≤ 4398046511104) (hab : ∀ x ∈ a, ∀ y ∈ b, x.length + y.length ≤ 4398046511104) (har : ∀ r ∈ a, ∀ v ∈ r, i64R v.2.1) (hbr : ∀ r ∈ b, ∀ v ∈ r, i64R v.2.1) (hon : okX on) (σ : St) :
 ACalls Tryz.prog 3 [.p (.sl 1 (enVV a)), .p (.sl 1 (enVV b)), exA on] σ fun r s => s = σ ∧ r = boolV true := by
 refine ACalls.pureF (R := fun r => r = boolV true) ?_ (by cases on; rfl) σ
 have hA := aawake
 have hf := afew a b
 by_cases hw : a.length ≤ 200 ∧ b.length ≤ 200
 ·rw [decide_eq_true hw.1, decide_eq_true hw.2] at hf
  have hP := apairs a b hw.1 hw.2 hab
  have hpl : (pairsS a b).length ≤ 40000 := by rw [pairs_len]; exact Nat.le_trans (Nat.mul_le_mul hw.1 hw.2) (by decide : 200 * 200 ≤ 40000)
  have hF := afilterRL (pairsS a b) on (okX_rgJ on hon) (by omega) (fun r hr v hv => by
   obtain ⟨x, hx, y, hy, rfl⟩ := pairs_mem hr
   rcases List.mem_append.1 hv with hv | hv
   ·exact har x hx v hv
   ·exact hbr y hy v hv)
  obtain ⟨o1, l1⟩ := filS_len17 (pairsS a b) on ⟨by omega, fun r hr => by
   obtain ⟨x, hx, y, hy, rfl⟩ := pairs_mem hr
   rw [List.length_append]; exact hab x hx y hy⟩
  have hS := asameVV (filS (pairsS a b) on).1 (filS (pairsS a b) on).1 o1.1 o1.1 o1.2 o1.2
  have hs : sameVV (filS (pairsS a b) on).1 (filS (pairsS a b) on).1 = true := decide_eq_true rfl
  rw [hs] at hS
  have hN := nle_nilSl (e := 1) (nle_pairs (pairsS a b))
  obtain ⟨k, vk, vn, vs, tb, nm, sl, kids⟩ := on
  have hkk : okXL kids := by simp only [okX] at hon; exact hon.2
  have hJ := ajoin a b k vk vn vs tb nm sl kids ha hb hab har hbr (fun y hy => by
   have := okXL_iff.1 hkk y hy
   cases y; simp only [okX] at this; exact this.1.2.2.2.1)
  rw [join_eq a b (.mk k vk vn vs tb nm sl kids) (fun y hy => by
   have := okXL_iff.1 hkk y hy
   cases y; simp only [okX] at this; exact this.1.2.2.2.2)] at hJ
  clear hs o1 l1 hpl hon hkk hab har hbr hw ha hb
  generalize filS (pairsS a b) (.mk k vk vn vs tb nm sl kids) = f at *
  generalize enVN (pairsS a b) = P at *
  generalize nilSl 1 P = pn at *
  obtain ⟨f1, f2⟩ := f
  simp only [exA, exC, List.map_cons, List.map_nil] at hJ hF hS
  refine acalls_of cx_ok dr_ok Tryz.func3 (by kernel_rfl) rfl (nt := 37) (rs := [.tmp 6]) rfl rfl ?_
  simp only [exA, exC, List.map_cons, List.map_nil]
  repeat' first | ((with_reducible first | refine cs ?_ ?_ | refine ws ?_ ?_ | refine wd ?_ ?_ | refine wu ?_ ?_) <;> intro h <;> try simp only [h]) | simp only [↓wBA, tTj, convA, seval, pl3_6Tj, beq_self_eq_true, Bool.and_self] | ((with_reducible show ACalls _ _ _ _ _); first | refine (hA _).eq ?_ | refine (hf _).eq ?_ | refine (hJ _).eq ?_ | refine (hP _).eq ?_ | (refine ACalls.arg1 hN ((hF _).mono ?_); rintro _ _ ⟨rfl,rfl⟩) | refine (hS _).eq ?_) | (with_reducible refine dP pl3_6Tj 10 (some 25) (by decide) (by kernel_rfl) ?_)
  all_goals refine ret_is (a := _) ?_ rfl rfl
  all_goals simp only [↓wBA, tTj, convA, seval]
  all_goals simp_all [wS]
 ·have hz : (decide (a.length ≤ 200) && decide (b.length ≤ 200)) = false := by
   rw [Bool.and_eq_false_iff, decide_eq_false_iff_not, decide_eq_false_iff_not]; omega
  rw [hz] at hf
  obtain ⟨k, vk, vn, vs, tb, nm, sl, kids⟩ := on
  refine acalls_of cx_ok dr_ok Tryz.func3 (by kernel_rfl) rfl (nt := 37) (rs := [.tmp 6]) rfl rfl ?_
  simp only [exA, exC, List.map_cons, List.map_nil]
  repeat' first | ((with_reducible first | refine cs ?_ ?_ | refine ws ?_ ?_ | refine wd ?_ ?_ | refine wu ?_ ?_) <;> intro h <;> try simp only [h]) | simp only [↓wBA, tTj, convA, seval, pl3_6Tj] | ((with_reducible show ACalls _ _ _ _ _); first | refine (hA _).eq ?_ | refine (hf _).eq ?_) | (with_reducible refine dP pl3_6Tj 10 (some 25) (by decide) (by kernel_rfl) ?_)
  all_goals refine ret_is (a := _) ?_ rfl rfl
  all_goals simp only [↓wBA, tTj, convA, seval]
  all_goals simp_all [wS]
end Go.Proofs.YtpcblbbddccgpaaGreatDoor
namespace Go.Proofs.YtpcblbbddccgpaaGreatDoor
open Go.RowKit Go.Deep
theorem bk_one {H : Type} (d : DataW H) : 1 ≤ Rows.uptoBulk d := by
 cases d with
 | lit l => cases l <;> simp [Rows.uptoBulk]
 | _ => simp [Rows.uptoBulk]
theorem bk_part {H : Type} {d : DataW H} : ∀ {l : List (DataW H)}, d ∈ l → Rows.uptoBulk d ≤ Rows.uptoBulkAll l
 | x :: r, h => by
   simp only [Rows.uptoBulkAll]
   rcases List.mem_cons.1 h with e | e
   ·subst e; omega
   ·have := bk_part e; omega
theorem bk_len {H : Type} : ∀ (l : List (DataW H)), l.length ≤ Rows.uptoBulkAll l
 | [] => by simp
 | x :: r => by have := bk_one x; have := bk_len r; simp only [Rows.uptoBulkAll, List.length_cons]; omega
section
variable {H : Type} {enc : TypeId × Value → H} {w : World} {held : Bool} {I : Nat → Nat → Prop}
theorem bk_row {fuel : Nat} {u : Value} {d : DataW H} {p : List MemPlace} {r : List Va} (h : DataW.trod enc Tryz.prog w 0 (fun _ => true) held fuel 39 [u] = some (d, p)) (hu : PRep w I (.sl 3 (enV r)) u) : r.length ≤ Rows.uptoBulk d := by
 simp only [PRep] at hu
 rcases open_slice Tryz.underlying39 h with ⟨h1, h2⟩ | ⟨a, len, cap, m, n, D, Pl, h1, _, _, _, _, h2, _⟩
 ·simp only [List.cons.injEq, and_true] at h1
  subst h1
  rcases hu with ⟨h0, _⟩ | ⟨_, _, _, h0, _⟩
  ·have := enV_len r; rw [h0] at this; simp at this; omega
  ·cases h0
 ·simp only [List.cons.injEq, and_true] at h1
  subst h1
  simp only [Prod.mk.injEq] at h2
  obtain ⟨rfl, _⟩ := h2
  have hb := bk_len ((List.range len).map D)
  simp only [List.length_map, List.length_range] at hb
  simp only [Rows.uptoBulk]
  rcases hu with ⟨h0, _⟩ | ⟨_, _, _, h0, _⟩
  ·have := enV_len r; rw [h0] at this; simp at this; omega
  ·simp only [Value.slice.injEq] at h0
   have := enV_len r; omega
theorem bk_rows {fuel : Nat} {v : Value} {d : DataW H} {p : List MemPlace} {rows : List (List Va)} (h : DataW.trod enc Tryz.prog w 0 (fun _ => true) held fuel 22 [v] = some (d, p)) (hv : PRep w I (.sl 1 (enVV rows)) v) : rows.length ≤ Rows.uptoBulk d ∧ ∀ r ∈ rows, r.length ≤ Rows.uptoBulk d := by
 simp only [PRep] at hv
 have hl0 : enVV rows = [] → rows = [] := fun h0 => by have := enVV_len rows; rw [h0] at this; simp at this; exact List.length_eq_zero_iff.1 this.symm
 rcases hv with ⟨h0, _⟩ | ⟨b, off, cap0, h0, hc, hR⟩
 ·rw [hl0 h0]; simp
 rcases open_slice1 Tryz.underlying22 (by kernel_rfl) h with ⟨h1, h2⟩ | ⟨a, len, cap, m, n, V, D, Pl, h1, _, _, _, hm, h2, hg⟩
 ·rw [h0] at h1; simp at h1
 ·rw [h0] at h1
  simp only [List.cons.injEq, and_true, Value.slice.injEq, Option.some.injEq, enVV_len] at h1
  obtain ⟨rfl, rfl, rfl⟩ := h1
  simp only [Prod.mk.injEq] at h2
  obtain ⟨rfl, _⟩ := h2
  have hb := bk_len ((List.range rows.length).map D)
  simp only [List.length_map, List.length_range] at hb
  simp only [Rows.uptoBulk]
  refine ⟨by omega, fun r hr => ?_⟩
  obtain ⟨i, hi, rfl⟩ := List.mem_iff_getElem.1 hr
  rw [enVV_len] at hc
  have him : i < m := by rw [hm]; simp only [if_true]; omega
  obtain ⟨g1, g2⟩ := hg i him
  obtain ⟨_, e2⟩ := hR.get (enVV_get rows i hi)
  obtain ⟨u, e3, _, e4⟩ := e2.get (j := 0) rfl
  have e5 : w.cell? ⟨b, off + i * 1 + 0, none⟩ = some (V i) := by rw [Addr.add_lit] at g1; simpa using g1
  rw [e5] at e3
  simp only [Option.some.injEq] at e3
  subst e3
  have e6 := bk_row g2 e4
  have e7 := bk_part (d := D i) (l := (List.range rows.length).map D) (List.mem_map.2 ⟨i, List.mem_range.2 hi, rfl⟩)
  omega
end
end Go.Proofs.YtpcblbbddccgpaaGreatDoor
