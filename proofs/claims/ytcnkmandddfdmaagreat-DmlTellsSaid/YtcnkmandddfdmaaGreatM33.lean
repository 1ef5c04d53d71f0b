/- Expressions compared with themselves; expressions bound are in range. -/
import Derived.Test.YtcnkmandddfdmaaGreatM24
import Derived.Test.YtcnkmandddfdmaaGreatM19
set_option linter.unusedSimpArgs false
set_option linter.unusedVariables false
set_option linter.defProp false
set_option maxRecDepth 100000
set_option maxHeartbeats 32000000
namespace Go.Proofs.YtcnkmandddfdmaaGreat
open Go.RowKit
def pl11_6Zg : Plan := (.det 0 (.det 1 (.det 2 (.det 3 (.det 4 (.det 5 (.det 6 (.det 7 (.fin 8 (.det 9 .done))))))))))
def tZg := aa wX <| aa wbu <| aa T3 <| aa T4 <| aa T9 <| aa T33 <| aa T56 T70
mutual
theorem okE_rg : ∀ x : Ex, okE x → rgE x
 | .mk _ _ _ _ _ _ _ kids, h => by
   simp only [okE] at h
   simp only [rgE]
   exact ⟨h.1.2, okEL_rg kids h.2⟩
theorem okEL_rg : ∀ l : List Ex, okEL l → rgL l
 | [], _ => trivial
 | x :: l, h => by
   simp only [okEL] at h
   simp only [rgL]
   exact ⟨okE_rg x h.1, okEL_rg l h.2⟩
end
mutual
theorem bndS_okE (cols : List Bc) : ∀ x : Ex, okE x → okE (bndS cols x).1
 | .mk k vk vn vs tb nm s kids, h => by
   simp only [okE] at h
   have hL := bndL_okE cols kids h.2
   simp only [bndS]
   repeat' split
   all_goals first
    | exact okE_ex0
    | exact okE_mk0 h.1.2
    | exact okE_mk0
    | (simp only [okE]; exact ⟨⟨by omega, by decide⟩, hL.2⟩)
theorem bndL_okE (cols : List Bc) : ∀ l : List Ex, okEL l → (bndL cols l).1.length ≤ l.length ∧ okEL (bndL cols l).1
 | [], _ => ⟨by simp [bndL], trivial⟩
 | x :: l, h => by
   simp only [okEL] at h
   have h1 := bndS_okE cols x h.1
   have h2 := bndL_okE cols l h.2
   simp only [bndL]
   split
   ·exact ⟨by simp, trivial⟩
   ·exact ⟨by simp; exact h2.1, h1, h2.2⟩
end
def SxOK (x : Ex) : Prop := ∀ σ, ACalls Tryz.prog 33 [exA x, exA x] σ fun r s => s = σ ∧ r = boolV true
theorem asameXL (l : List Ex) (hl : l.length ≤ 140737488351232) (ih : ∀ y ∈ l, SxOK y) (σ : St) : ACalls Tryz.prog 11 [.p (.sl 8 (exL l)), .p (.sl 8 (exL l))] σ fun r s => s = σ ∧ r = boolV true := by
 refine ACalls.pureF (R := fun r => r = boolV true) ?_ rfl σ
 refine acalls_of cx_ok dr_ok Tryz.func11 (by kernel_rfl) rfl (nt := 25) (rs := [.tmp 4]) rfl rfl ?_
 repeat' first | ((with_reducible first | refine cs ?_ ?_ | refine ws ?_ ?_ | refine wd ?_ ?_ | refine wu ?_ ?_) <;> intro h <;> try simp only [h]) | simp only [↓wBA, tZg, convA, seval, pl11_6Zg, exL_len, bne_self_eq_false] | (with_reducible refine dP pl11_6Zg 10 (some 17) (by decide) (by kernel_rfl) ?_)
 refine awp_loopN (l.length) (fun i => [(5, intV .i64 (i : Nat)), (4, .any), (11, .any), (12, .any), (13, .any), (14, .any), (15, .any), (16, .any), (17, .any), (18, .any), (19, .any), (20, .any), (21, .any), (22, .any), (23, .any), (24, .any), (25, .any), (26, .any)]) (fun i => []) (fun i => True) ?_ ?_ ?_
 ·trivial
 ·skip
  simp only [wR, Nat.reduceAdd, Nat.reduceLT, reduceIte]
  simp [wW]
 ·intro i hi _
  simp only [wR, Nat.reduceAdd, Nat.reduceLT, reduceIte]
  by_cases hlt : i < l.length
  ·have hdec := dT (i := i) (n := l.length) (by omega)
   have hi0 := nnI i
   have hw := wI i (by omega)
   have hg := exL_at l i hlt
   have ihi := ih l[i] (List.getElem_mem hlt)
   unfold SxOK at ihi
   generalize l[i] = x at *
   obtain ⟨x1, x2, x3, x4, x5, x6, x7, x8⟩ := x
   simp only [exA, exC, List.map_cons, List.map_nil] at ihi hg
   repeat' first | ((with_reducible first | refine cs ?_ ?_ | refine ws ?_ ?_ | refine wd ?_ ?_ | refine wu ?_ ?_) <;> intro h <;> try simp only [h]) | simp only [↓wBA, tZg, convA, seval, pl11_6Zg, exL_len, hdec, hi0, hw, hg] | ((with_reducible show ACalls _ _ _ _ _); refine (ihi _).eq ?_) | (with_reducible refine dP pl11_6Zg 10 (some 17) (by decide) (by kernel_rfl) ?_)
   all_goals refine ⟨⟨i + 1, by omega, trivial⟩, by show l.length - (i + 1) < l.length - i; omega, ?_⟩
   all_goals simp [wW]
  ·have hdec := dF (i := i) (n := l.length) (by omega)
   repeat' first | ((with_reducible first | refine cs ?_ ?_ | refine ws ?_ ?_ | refine wd ?_ ?_ | refine wu ?_ ?_) <;> intro h <;> try simp only [h]) | simp only [↓wBA, tZg, convA, seval, pl11_6Zg, exL_len, hdec] | (with_reducible refine dP pl11_6Zg 10 (some 17) (by decide) (by kernel_rfl) ?_)
   all_goals refine ret_is (a := _) ?_ rfl rfl
   all_goals simp only [↓wBA, tZg, convA, seval]
   all_goals simp_all [wS]
theorem sameX_of (k vk vn : Int) (vs tb nm : ByteArray) (s : Int) (kids : List Ex) (h : ∀ σ, ACalls Tryz.prog 11 [.p (.sl 8 (exL kids)), .p (.sl 8 (exL kids))] σ fun r s => s = σ ∧ r = boolV true) : SxOK (.mk k vk vn vs tb nm s kids) := fun σ => by
 refine ACalls.pureF (R := fun r => r = boolV true) ?_ rfl σ
 have b1 : (!(vs.toList == vs.toList)) = false := by simp
 have b2 : (!(tb.toList == tb.toList)) = false := by simp
 have b3 : (!(nm.toList == nm.toList)) = false := by simp
 refine acalls_of cx_ok dr_ok Tryz.func33 (by kernel_rfl) rfl (nt := 41) (rs := [.tmp 4]) rfl rfl ?_
 simp only [exA, exC, List.map_cons, List.map_nil]
 repeat' first | ((with_reducible first | refine cs ?_ ?_ | refine ws ?_ ?_) <;> intro h <;> try simp only [h]) | simp only [↓wBA, tZg, convA, seval, bne_self_eq_false, beq_self_eq_true, binStr, b1, b2, b3, Bool.and_self, Bool.not_true] | ((with_reducible show ACalls _ _ _ _ _); refine (h _).eq ?_)
 all_goals refine ret_is (a := _) ?_ rfl rfl
 all_goals simp only [↓wBA, tZg, convA, seval]
 all_goals simp_all [wS]
mutual
theorem asameX : ∀ x : Ex, okE x → SxOK x
 | .mk k vk vn vs tb nm s kids, h => by
   simp only [okE] at h
   exact sameX_of k vk vn vs tb nm s kids fun σ => asameXL kids h.1.1 (asameXM kids h.2) σ
theorem asameXM : ∀ l : List Ex, okEL l → ∀ y ∈ l, SxOK y
 | [], h, y, hy => by simp at hy
 | x :: l, h, y, hy => by
   simp only [okEL] at h
   by_cases e : y = x
   ·rw [e]; exact asameX x h.1
   ·exact asameXM l h.2 y ((List.mem_cons.1 hy).resolve_left e)
end
end Go.Proofs.YtcnkmandddfdmaaGreat
