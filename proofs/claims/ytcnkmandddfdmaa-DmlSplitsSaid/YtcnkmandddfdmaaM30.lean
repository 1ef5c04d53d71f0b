/- Fixed calls, reckoned out by the kernel. cadastrelaw23.awake. DmlSplits. Arguments opened as data of the abstract machine, by their types. A law's walk, as the call that its row asks for. -/
import Derived.Test.YtcnkmandddfdmaaM08
import Derived.Test.YtcnkmandddfdmaaM12
import Derived.Test.YtcnkmandddfdmaaM29
import Derived.Test.YtcnkmandddfdmaaM27
import Derived.Test.YtcnkmandddfdmaaM28
import Derived.Test.YtcnkmandddfdmaaM01
import Derived.ProofKit
import Derived.SizedLaws
import Derived.Deep.Slices
import Derived.Deep.MidRow
import Derived.Test.YtcnkmandddfdmaaM06
set_option linter.unusedSimpArgs false
set_option linter.unusedVariables false
set_option linter.unusedVariables false
namespace Go.Proofs.Ytcnkmandddfdmaa
open Go.RowKit
set_option maxRecDepth 1000000
def ka0 : List AV := [.p (.v (.string ⟨#[105, 110, 115, 101, 114, 116]⟩))]
def kr0 : AV := .tup [.agg [.p (.v (.int .i64 1)), .p (.v (.string ⟨#[73, 78, 83, 69, 82, 84]⟩)), .p (.v (.int .i64 0))], .p (.v (.int .i64 0))]
def kn0 : Known := (44, ka0, kr0) :: []
theorem kn0_ok : KnownOk Try.prog kn0 := known_cons (m := 100000) (n := 100) cx_ok (by kernel_rfl) known_nil (by kernel_rfl) (by kernel_rfl) (by kernel_rfl)
def ka1 : List AV := [.p (.v (.string ⟨#[105, 110, 116, 111]⟩))]
def kr1 : AV := .tup [.agg [.p (.v (.int .i64 1)), .p (.v (.string ⟨#[73, 78, 84, 79]⟩)), .p (.v (.int .i64 0))], .p (.v (.int .i64 0))]
def kn1 : Known := (44, ka1, kr1) :: kn0
theorem kn1_ok : KnownOk Try.prog kn1 := known_cons (m := 100000) (n := 100) cx_ok (by kernel_rfl) kn0_ok (by kernel_rfl) (by kernel_rfl) (by kernel_rfl)
def ka2 : List AV := [.p (.v (.string ⟨#[116]⟩))]
def kr2 : AV := .tup [.agg [.p (.v (.int .i64 2)), .p (.v (.string ⟨#[116]⟩)), .p (.v (.int .i64 0))], .p (.v (.int .i64 0))]
def kn2 : Known := (44, ka2, kr2) :: kn1
theorem kn2_ok : KnownOk Try.prog kn2 := known_cons (m := 100000) (n := 100) cx_ok (by kernel_rfl) kn1_ok (by kernel_rfl) (by kernel_rfl) (by kernel_rfl)
def ka3 : List AV := [.p (.v (.string ⟨#[118, 97, 108, 117, 101, 115]⟩))]
def kr3 : AV := .tup [.agg [.p (.v (.int .i64 1)), .p (.v (.string ⟨#[86, 65, 76, 85, 69, 83]⟩)), .p (.v (.int .i64 0))], .p (.v (.int .i64 0))]
def kn3 : Known := (44, ka3, kr3) :: kn2
theorem kn3_ok : KnownOk Try.prog kn3 := known_cons (m := 100000) (n := 100) cx_ok (by kernel_rfl) kn2_ok (by kernel_rfl) (by kernel_rfl) (by kernel_rfl)
def ka4 : List AV := [.p (.v (.string ⟨#[110, 117, 108, 108]⟩))]
def kr4 : AV := .tup [.agg [.p (.v (.int .i64 1)), .p (.v (.string ⟨#[78, 85, 76, 76]⟩)), .p (.v (.int .i64 0))], .p (.v (.int .i64 0))]
def kn4 : Known := (44, ka4, kr4) :: kn3
theorem kn4_ok : KnownOk Try.prog kn4 := known_cons (m := 100000) (n := 100) cx_ok (by kernel_rfl) kn3_ok (by kernel_rfl) (by kernel_rfl) (by kernel_rfl)
def ka5 : List AV := [.p (.v (.string ⟨#[117, 112, 100, 97, 116, 101]⟩))]
def kr5 : AV := .tup [.agg [.p (.v (.int .i64 1)), .p (.v (.string ⟨#[85, 80, 68, 65, 84, 69]⟩)), .p (.v (.int .i64 0))], .p (.v (.int .i64 0))]
def kn5 : Known := (44, ka5, kr5) :: kn4
theorem kn5_ok : KnownOk Try.prog kn5 := known_cons (m := 100000) (n := 100) cx_ok (by kernel_rfl) kn4_ok (by kernel_rfl) (by kernel_rfl) (by kernel_rfl)
def ka6 : List AV := [.p (.v (.string ⟨#[115, 101, 116]⟩))]
def kr6 : AV := .tup [.agg [.p (.v (.int .i64 1)), .p (.v (.string ⟨#[83, 69, 84]⟩)), .p (.v (.int .i64 0))], .p (.v (.int .i64 0))]
def kn6 : Known := (44, ka6, kr6) :: kn5
theorem kn6_ok : KnownOk Try.prog kn6 := known_cons (m := 100000) (n := 100) cx_ok (by kernel_rfl) kn5_ok (by kernel_rfl) (by kernel_rfl) (by kernel_rfl)
def ka7 : List AV := [.p (.v (.string ⟨#[97]⟩))]
def kr7 : AV := .tup [.agg [.p (.v (.int .i64 2)), .p (.v (.string ⟨#[97]⟩)), .p (.v (.int .i64 0))], .p (.v (.int .i64 0))]
def kn7 : Known := (44, ka7, kr7) :: kn6
theorem kn7_ok : KnownOk Try.prog kn7 := known_cons (m := 100000) (n := 100) cx_ok (by kernel_rfl) kn6_ok (by kernel_rfl) (by kernel_rfl) (by kernel_rfl)
def ka8 : List AV := [.p (.v (.string ⟨#[119, 104, 101, 114, 101]⟩))]
def kr8 : AV := .tup [.agg [.p (.v (.int .i64 1)), .p (.v (.string ⟨#[87, 72, 69, 82, 69]⟩)), .p (.v (.int .i64 0))], .p (.v (.int .i64 0))]
def kn8 : Known := (44, ka8, kr8) :: kn7
theorem kn8_ok : KnownOk Try.prog kn8 := known_cons (m := 100000) (n := 100) cx_ok (by kernel_rfl) kn7_ok (by kernel_rfl) (by kernel_rfl) (by kernel_rfl)
def ka9 : List AV := [.p (.v (.string ⟨#[105, 110, 115, 101, 114, 116, 32, 105, 110, 116, 111, 32, 116, 32, 118, 97, 108, 117, 101, 115, 32, 40, 49, 32, 43, 32, 49, 44, 32, 110, 117, 108, 108, 41]⟩))]
def kr9 : AV := .tup [.p (.sl 3 [[.v (.int .i64 1), .v (.string ⟨#[73, 78, 83, 69, 82, 84]⟩), .v (.int .i64 0)], [.v (.int .i64 1), .v (.string ⟨#[73, 78, 84, 79]⟩), .v (.int .i64 0)], [.v (.int .i64 2), .v (.string ⟨#[116]⟩), .v (.int .i64 0)], [.v (.int .i64 1), .v (.string ⟨#[86, 65, 76, 85, 69, 83]⟩), .v (.int .i64 0)], [.v (.int .i64 5), .v (.string ⟨#[40]⟩), .v (.int .i64 0)], [.v (.int .i64 3), .v (.string ⟨#[]⟩), .v (.int .i64 1)], [.v (.int .i64 5), .v (.string ⟨#[43]⟩), .v (.int .i64 0)], [.v (.int .i64 3), .v (.string ⟨#[]⟩), .v (.int .i64 1)], [.v (.int .i64 5), .v (.string ⟨#[44]⟩), .v (.int .i64 0)], [.v (.int .i64 1), .v (.string ⟨#[78, 85, 76, 76]⟩), .v (.int .i64 0)], [.v (.int .i64 5), .v (.string ⟨#[41]⟩), .v (.int .i64 0)]]), .p (.v (.int .i64 0))]
def kn9 : Known := (22, ka9, kr9) :: kn8
theorem kn9_ok : KnownOk Try.prog kn9 := known_cons (m := 100000) (n := 100) cx_ok (by kernel_rfl) kn8_ok (by kernel_rfl) (by kernel_rfl) (by kernel_rfl)
def ka10 : List AV := [.p (.v (.string ⟨#[117, 112, 100, 97, 116, 101, 32, 116, 32, 115, 101, 116, 32, 97, 32, 61, 32, 97, 32, 43, 32, 49, 32, 119, 104, 101, 114, 101, 32, 97, 32, 61, 32, 50]⟩))]
def kr10 : AV := .tup [.p (.sl 3 [[.v (.int .i64 1), .v (.string ⟨#[85, 80, 68, 65, 84, 69]⟩), .v (.int .i64 0)], [.v (.int .i64 2), .v (.string ⟨#[116]⟩), .v (.int .i64 0)], [.v (.int .i64 1), .v (.string ⟨#[83, 69, 84]⟩), .v (.int .i64 0)], [.v (.int .i64 2), .v (.string ⟨#[97]⟩), .v (.int .i64 0)], [.v (.int .i64 5), .v (.string ⟨#[61]⟩), .v (.int .i64 0)], [.v (.int .i64 2), .v (.string ⟨#[97]⟩), .v (.int .i64 0)], [.v (.int .i64 5), .v (.string ⟨#[43]⟩), .v (.int .i64 0)], [.v (.int .i64 3), .v (.string ⟨#[]⟩), .v (.int .i64 1)], [.v (.int .i64 1), .v (.string ⟨#[87, 72, 69, 82, 69]⟩), .v (.int .i64 0)], [.v (.int .i64 2), .v (.string ⟨#[97]⟩), .v (.int .i64 0)], [.v (.int .i64 5), .v (.string ⟨#[61]⟩), .v (.int .i64 0)], [.v (.int .i64 3), .v (.string ⟨#[]⟩), .v (.int .i64 2)]]), .p (.v (.int .i64 0))]
def kn10 : Known := (22, ka10, kr10) :: kn9
theorem kn10_ok : KnownOk Try.prog kn10 := known_cons (m := 100000) (n := 100) cx_ok (by kernel_rfl) kn9_ok (by kernel_rfl) (by kernel_rfl) (by kernel_rfl)
def ka11 : List AV := [.p (.v (.string ⟨#[105, 110, 115, 101, 114, 116, 32, 105, 110, 116, 111, 32, 116, 32, 118, 97, 108, 117, 101, 115, 32, 40, 49, 32, 43, 32, 49, 44, 32, 110, 117, 108, 108, 41]⟩))]
def kr11 : AV := .tup [.agg [.p (.v (.int .i64 3)), .p (.v (.string ⟨#[116]⟩)), .p (.v (.string ⟨#[]⟩)), .p (.v (.slice none 0 0)), .p (.v (.slice none 0 0)), .p (.sl 1 [[.sl 8 [[.v (.int .i64 5), .v (.int .i64 0), .v (.int .i64 0), .v (.string ⟨#[]⟩), .v (.string ⟨#[]⟩), .v (.string ⟨#[]⟩), .v (.int .i64 0), .sl 8 [[.v (.int .i64 1), .v (.int .i64 1), .v (.int .i64 1), .v (.string ⟨#[]⟩), .v (.string ⟨#[]⟩), .v (.string ⟨#[]⟩), .v (.int .i64 0), .v (.slice none 0 0)], [.v (.int .i64 1), .v (.int .i64 1), .v (.int .i64 1), .v (.string ⟨#[]⟩), .v (.string ⟨#[]⟩), .v (.string ⟨#[]⟩), .v (.int .i64 0), .v (.slice none 0 0)]]], [.v (.int .i64 1), .v (.int .i64 0), .v (.int .i64 0), .v (.string ⟨#[]⟩), .v (.string ⟨#[]⟩), .v (.string ⟨#[]⟩), .v (.int .i64 0), .v (.slice none 0 0)]]]]), .p (.v (.slice none 0 0)), .p (.v (.slice none 0 0)), .p (.v (.slice none 0 0)), .p (.v (.slice none 0 0)), .p (.v (.slice none 0 0)), .p (.v (.int .i64 (-1))), .p (.v (.slice none 0 0)), .p (.v (.bool false))], .p (.v (.int .i64 0))]
def kn11 : Known := (12, ka11, kr11) :: kn10
theorem kn11_ok : KnownOk Try.prog kn11 := known_cons (m := 100000) (n := 100) cx_ok (by kernel_rfl) kn10_ok (by kernel_rfl) (by kernel_rfl) (by kernel_rfl)
def ka12 : List AV := [.p (.v (.string ⟨#[117, 112, 100, 97, 116, 101, 32, 116, 32, 115, 101, 116, 32, 97, 32, 61, 32, 97, 32, 43, 32, 49, 32, 119, 104, 101, 114, 101, 32, 97, 32, 61, 32, 50]⟩))]
def kr12 : AV := .tup [.agg [.p (.v (.int .i64 5)), .p (.v (.string ⟨#[116]⟩)), .p (.v (.string ⟨#[]⟩)), .p (.v (.slice none 0 0)), .p (.sl 1 [[.v (.string ⟨#[97]⟩)]]), .p (.v (.slice none 0 0)), .p (.v (.slice none 0 0)), .p (.v (.slice none 0 0)), .p (.sl 8 [[.v (.int .i64 10), .v (.int .i64 0), .v (.int .i64 0), .v (.string ⟨#[]⟩), .v (.string ⟨#[]⟩), .v (.string ⟨#[]⟩), .v (.int .i64 0), .sl 8 [[.v (.int .i64 2), .v (.int .i64 0), .v (.int .i64 0), .v (.string ⟨#[]⟩), .v (.string ⟨#[]⟩), .v (.string ⟨#[97]⟩), .v (.int .i64 0), .v (.slice none 0 0)], [.v (.int .i64 1), .v (.int .i64 1), .v (.int .i64 2), .v (.string ⟨#[]⟩), .v (.string ⟨#[]⟩), .v (.string ⟨#[]⟩), .v (.int .i64 0), .v (.slice none 0 0)]]]]), .p (.v (.slice none 0 0)), .p (.v (.slice none 0 0)), .p (.v (.int .i64 (-1))), .p (.sl 8 [[.v (.int .i64 5), .v (.int .i64 0), .v (.int .i64 0), .v (.string ⟨#[]⟩), .v (.string ⟨#[]⟩), .v (.string ⟨#[]⟩), .v (.int .i64 0), .sl 8 [[.v (.int .i64 2), .v (.int .i64 0), .v (.int .i64 0), .v (.string ⟨#[]⟩), .v (.string ⟨#[]⟩), .v (.string ⟨#[97]⟩), .v (.int .i64 0), .v (.slice none 0 0)], [.v (.int .i64 1), .v (.int .i64 1), .v (.int .i64 1), .v (.string ⟨#[]⟩), .v (.string ⟨#[]⟩), .v (.string ⟨#[]⟩), .v (.int .i64 0), .v (.slice none 0 0)]]]]), .p (.v (.bool false))], .p (.v (.int .i64 0))]
def kn12 : Known := (12, ka12, kr12) :: kn11
theorem kn12_ok : KnownOk Try.prog kn12 := known_cons (m := 100000) (n := 100) cx_ok (by kernel_rfl) kn11_ok (by kernel_rfl) (by kernel_rfl) (by kernel_rfl)
end Go.Proofs.Ytcnkmandddfdmaa
namespace Go.Proofs.Ytcnkmandddfdmaa
open Go.RowKit
open Nat (reducePow reduceAdd reduceSub reduceMul reduceEqDiff reduceLeDiff)
def pl5_6_XAk : Plan := (.det 0 (.det 1 (.det 2 (.det 3 (.det 4 (.det 5 (.det 6 (.det 7 (.det 9 (.fin 8 (.fin 10 (.fin 11 (.fin 12 (.det 13 (.det 14 (.det 15 (.det 16 (.det 17 (.det 18 (.det 19 (.det 20 (.det 21 (.det 22 (.det 23 (.det 24 (.det 25 (.det 26 (.det 27 (.det 28 (.det 29 (.det 30 (.det 31 (.det 32 (.det 33 (.act 34 (.det 35 (.det 36 (.det 37 .done))))))))))))))))))))))))))))))))))))))
theorem ty11_XAk : (type_of% ck_50) ∧ (type_of% cx_50) ∧ (type_of% ce_50) := ⟨ck_50, cx_50, ce_50⟩
theorem ty5_XAk : (type_of% ck_2) ∧ (type_of% cx_2) ∧ (type_of% ck_3) ∧ (type_of% cx_3) ∧ (type_of% ck_9) ∧ (type_of% cx_9) ∧ (type_of% ck_22) ∧ (type_of% cx_22) ∧ (type_of% @ks_22) ∧ (type_of% @ko_22) ∧ (type_of% @kn_22) ∧ (type_of% kz_22) ∧ (type_of% ck_24) ∧ (type_of% cx_24) ∧ (type_of% ck_25) ∧ (type_of% cx_25) ∧ (type_of% @ks_25) ∧ (type_of% @ko_25) ∧ (type_of% @kn_25) ∧ (type_of% kz_25) ∧ (type_of% ck_36) ∧ (type_of% cx_36) ∧ (type_of% ck_39) ∧ (type_of% cx_39) ∧ (type_of% @ks_39) ∧ (type_of% @ko_39) ∧ (type_of% @kn_39) ∧ (type_of% kz_39) ∧ (type_of% ck_40) ∧ (type_of% cx_40) ∧ (type_of% ck_46) ∧ (type_of% cx_46) ∧ (type_of% @ks_46) ∧ (type_of% @ko_46) ∧ (type_of% @kn_46) ∧ (type_of% kz_46) ∧ (type_of% ck_48) ∧ (type_of% cx_48) ∧ (type_of% ck_50) ∧ (type_of% cx_50) ∧ (type_of% ce_50) ∧ (type_of% ck_54) ∧ (type_of% cx_54) ∧ (type_of% ce_54) := ⟨ck_2, cx_2, ck_3, cx_3, ck_9, cx_9, ck_22, cx_22, @ks_22, @ko_22, @kn_22, kz_22, ck_24, cx_24, ck_25, cx_25, @ks_25, @ko_25, @kn_25, kz_25, ck_36, cx_36, ck_39, cx_39, @ks_39, @ko_39, @kn_39, kz_39, ck_40, cx_40, ck_46, cx_46, @ks_46, @ko_46, @kn_46, kz_46, ck_48, cx_48, ck_50, cx_50, ce_50, ck_54, cx_54, ce_54⟩
mutual
/-- The same data, but nil for slices of no elements. -/
def nleP : PV → PV → Prop
  | .v a, .v b => a = b
  | .v a, .sl _ ls => a = .slice none 0 0 ∧ ls = []
  | .sl e ls, .sl e' ls' => e = e' ∧ nleR ls ls'
  | .sl _ _, .v _ => False
def nleR : List (List PV) → List (List PV) → Prop
  | [], [] => True
  | c :: ls, c' :: ls' => nleQ c c' ∧ nleR ls ls'
  | _, _ => False
def nleQ : List PV → List PV → Prop
  | [], [] => True
  | x :: c, y :: c' => nleP x y ∧ nleQ c c'
  | _, _ => False
end
theorem nleR_len : ∀ {l m : List (List PV)}, nleR l m → l.length = m.length
  | [], [], _ => rfl
  | _ :: l, _ :: m, h => by simp only [nleR] at h; simp [nleR_len h.2]
  | [], _ :: _, h => by simp [nleR] at h
  | _ :: _, [], h => by simp [nleR] at h
theorem nleQ_len : ∀ {l m : List PV}, nleQ l m → l.length = m.length
  | [], [], _ => rfl
  | _ :: l, _ :: m, h => by simp only [nleQ] at h; simp [nleQ_len h.2]
  | [], _ :: _, h => by simp [nleQ] at h
  | _ :: _, [], h => by simp [nleQ] at h
mutual
theorem nleP.rep {w : World} {I : Nat → Nat → Prop} : ∀ {x y : PV} {u : Value}, nleP x y → PRep w I x u → PRep w I y u
  | .v a, .v b, u, h, hx => by simp only [nleP] at h; subst h; exact hx
  | .v a, .sl e ls, u, h, hx => by
    simp only [nleP] at h
    obtain ⟨rfl, rfl⟩ := h
    simp only [PRep] at hx ⊢
    exact .inl ⟨trivial, none, 0, hx.2, fun _ => rfl⟩
  | .sl e ls, .sl e' ls', u, h, hx => by
    simp only [nleP] at h
    obtain ⟨rfl, h⟩ := h
    have hl := nleR_len h
    simp only [PRep] at hx ⊢
    rcases hx with ⟨h0, h1⟩ | ⟨b, off, cap, h1, h2, h3⟩
    · subst h0
      refine .inl ⟨?_, h1⟩
      cases ls' with
      | nil => rfl
      | cons c l => simp at hl
    · exact .inr ⟨b, off, cap, by rw [← hl]; exact h1, by omega, nleR.rep h h3⟩
  | .sl _ _, .v _, u, h, hx => by simp [nleP] at h
theorem nleR.rep {w : World} {I : Nat → Nat → Prop} {b : Nat} : ∀ {l m : List (List PV)} {off e : Nat}, nleR l m → PRepR w I b off e l → PRepR w I b off e m
  | [], [], off, e, _, hx => hx
  | c :: l, c' :: m, off, e, h, hx => by
    simp only [nleR] at h
    simp only [PRepR] at hx ⊢
    exact ⟨by rw [← nleQ_len h.1]; exact hx.1, nleQ.rep h.1 hx.2.1, nleR.rep h.2 hx.2.2⟩
  | [], _ :: _, _, _, h, _ => by simp [nleR] at h
  | _ :: _, [], _, _, h, _ => by simp [nleR] at h
theorem nleQ.rep {w : World} {I : Nat → Nat → Prop} {b : Nat} : ∀ {l m : List PV} {off : Nat}, nleQ l m → PRepC w I b off l → PRepC w I b off m
  | [], [], off, _, hx => hx
  | x :: l, y :: m, off, h, hx => by
    simp only [nleQ] at h
    simp only [PRepC] at hx ⊢
    obtain ⟨⟨u, h1, h2, h3⟩, h4⟩ := hx
    exact ⟨⟨u, h1, h2, nleP.rep h.1 h3⟩, nleQ.rep h.2 h4⟩
  | [], _ :: _, _, h, _ => by simp [nleQ] at h
  | _ :: _, [], _, h, _ => by simp [nleQ] at h
end
theorem nleQ.args {M : View} : ∀ {l m : List PV} {us : List Value}, nleQ l m → ARepL M (l.map .p) us → ARepL M (m.map .p) us
  | [], [], us, _, hx => hx
  | x :: l, y :: m, us, h, hx => by
    simp only [nleQ] at h
    simp only [List.map_cons, ARepL] at hx ⊢
    obtain ⟨u, us', rfl, h1, h2⟩ := hx
    refine ⟨u, us', rfl, ?_, nleQ.args h.2 h2⟩
    simp only [ARep] at h1 ⊢
    exact nleP.rep h.1 h1
  | [], _ :: _, _, h, _ => by simp [nleQ] at h
  | _ :: _, [], _, h, _ => by simp [nleQ] at h
theorem all_leafP : ∀ m : List PV, (m.map AV.p).all leaf = true
  | [] => rfl
  | x :: m => by simp [leaf]
theorem ACalls.aggP {P : Program} {f : FuncId} {l m : List PV} {rest : List AV} {σ : St} {R : AV → St → Prop} (h : nleQ l m) (hc : ACalls P f (.agg (m.map .p) :: rest) σ R) : ACalls P f (.agg (l.map .p) :: rest) σ R :=
  ⟨hc.1, fun M vs hM hv => hc.2 M vs hM (by
    simp only [ARepL, ARep] at hv ⊢
    obtain ⟨u, us', rfl, ⟨_, us, rfl, h2⟩, h3⟩ := hv
    exact ⟨_, us', rfl, ⟨all_leafP m, us, rfl, nleQ.args h h2⟩, h3⟩)⟩
def one1 : Ex := .mk 1 1 1 emp emp emp 0 []
def colE (b : ByteArray) : Ex := .mk 2 0 0 emp emp b 0 []
def stI : Sm := { kind := 3, tb := ⟨#[116]⟩, nm := emp, cols := [], names := [], rows := [[.mk 5 0 0 emp emp emp 0 [one1, one1], .mk 1 0 0 emp emp emp 0 []]], items := [], src := [], wh := [], group := [], order := [], limit := -1, sets := [], hash := false }
def stU : Sm := { kind := 5, tb := ⟨#[116]⟩, nm := emp, cols := [], names := [⟨#[97]⟩], rows := [], items := [], src := [], wh := [.mk 10 0 0 emp emp emp 0 [colE ⟨#[97]⟩, .mk 1 1 2 emp emp emp 0 []]], group := [], order := [], limit := -1, sets := [.mk 5 0 0 emp emp emp 0 [colE ⟨#[97]⟩, one1]], hash := false }
def coI : List Tc := [(⟨#[97]⟩, 1, true, false), (⟨#[98]⟩, 3, false, false)]
theorem insI : insS stI coI = ([[(1, 2, emp), (0, 0, emp)]], 0) := by kernel_rfl
theorem updU : updS stU ⟨#[116]⟩ coI [[(1, 2, emp), (0, 0, emp)]] = ([([(1, 2, emp), (0, 0, emp)], some [(1, 3, emp), (0, 0, emp)])], 0) := by kernel_rfl
theorem frzL_mapP : ∀ l : List PV, frzL (l.map AV.p) = l.map AV.p
  | [] => rfl
  | x :: l => by simp only [List.map_cons, frzL, frzA, frzL_mapP l]
def kl11 : List PV := [.v (.int .i64 3), .v (.string ⟨#[116]⟩), .v (.string ⟨#[]⟩), .v (.slice none 0 0), .v (.slice none 0 0), .sl 1 [[.sl 8 [[.v (.int .i64 5), .v (.int .i64 0), .v (.int .i64 0), .v (.string ⟨#[]⟩), .v (.string ⟨#[]⟩), .v (.string ⟨#[]⟩), .v (.int .i64 0), .sl 8 [[.v (.int .i64 1), .v (.int .i64 1), .v (.int .i64 1), .v (.string ⟨#[]⟩), .v (.string ⟨#[]⟩), .v (.string ⟨#[]⟩), .v (.int .i64 0), .v (.slice none 0 0)], [.v (.int .i64 1), .v (.int .i64 1), .v (.int .i64 1), .v (.string ⟨#[]⟩), .v (.string ⟨#[]⟩), .v (.string ⟨#[]⟩), .v (.int .i64 0), .v (.slice none 0 0)]]], [.v (.int .i64 1), .v (.int .i64 0), .v (.int .i64 0), .v (.string ⟨#[]⟩), .v (.string ⟨#[]⟩), .v (.string ⟨#[]⟩), .v (.int .i64 0), .v (.slice none 0 0)]]]], .v (.slice none 0 0), .v (.slice none 0 0), .v (.slice none 0 0), .v (.slice none 0 0), .v (.slice none 0 0), .v (.int .i64 (-1)), .v (.slice none 0 0), .v (.bool false)]
def kl12 : List PV := [.v (.int .i64 5), .v (.string ⟨#[116]⟩), .v (.string ⟨#[]⟩), .v (.slice none 0 0), .sl 1 [[.v (.string ⟨#[97]⟩)]], .v (.slice none 0 0), .v (.slice none 0 0), .v (.slice none 0 0), .sl 8 [[.v (.int .i64 10), .v (.int .i64 0), .v (.int .i64 0), .v (.string ⟨#[]⟩), .v (.string ⟨#[]⟩), .v (.string ⟨#[]⟩), .v (.int .i64 0), .sl 8 [[.v (.int .i64 2), .v (.int .i64 0), .v (.int .i64 0), .v (.string ⟨#[]⟩), .v (.string ⟨#[]⟩), .v (.string ⟨#[97]⟩), .v (.int .i64 0), .v (.slice none 0 0)], [.v (.int .i64 1), .v (.int .i64 1), .v (.int .i64 2), .v (.string ⟨#[]⟩), .v (.string ⟨#[]⟩), .v (.string ⟨#[]⟩), .v (.int .i64 0), .v (.slice none 0 0)]]]], .v (.slice none 0 0), .v (.slice none 0 0), .v (.int .i64 (-1)), .sl 8 [[.v (.int .i64 5), .v (.int .i64 0), .v (.int .i64 0), .v (.string ⟨#[]⟩), .v (.string ⟨#[]⟩), .v (.string ⟨#[]⟩), .v (.int .i64 0), .sl 8 [[.v (.int .i64 2), .v (.int .i64 0), .v (.int .i64 0), .v (.string ⟨#[]⟩), .v (.string ⟨#[]⟩), .v (.string ⟨#[97]⟩), .v (.int .i64 0), .v (.slice none 0 0)], [.v (.int .i64 1), .v (.int .i64 1), .v (.int .i64 1), .v (.string ⟨#[]⟩), .v (.string ⟨#[]⟩), .v (.string ⟨#[]⟩), .v (.int .i64 0), .v (.slice none 0 0)]]]], .v (.bool false)]
theorem kl11_len : kl11.length = 14 := rfl
theorem kl12_len : kl12.length = 14 := rfl
theorem kn11_in : (12, ka11, kr11) ∈ kn12 := List.Mem.tail _ (List.Mem.head _)
theorem kn12_in : (12, ka12, kr12) ∈ kn12 := List.Mem.head _
theorem parse11 (σ : St) : ACalls Try.prog 12 [.p (.v (.string ⟨#[105, 110, 115, 101, 114, 116, 32, 105, 110, 116, 111, 32, 116, 32, 118, 97, 108, 117, 101, 115, 32, 40, 49, 32, 43, 32, 49, 44, 32, 110, 117, 108, 108, 41]⟩))] σ fun r s => s = σ ∧ r = .tup [.agg (kl11.map .p), intV .i64 0] :=
  (kn12_ok _ kn11_in σ).mono fun r s h => ⟨h.2, h.1.trans rfl⟩
theorem parse12 (σ : St) : ACalls Try.prog 12 [.p (.v (.string ⟨#[117, 112, 100, 97, 116, 101, 32, 116, 32, 115, 101, 116, 32, 97, 32, 61, 32, 97, 32, 43, 32, 49, 32, 119, 104, 101, 114, 101, 32, 97, 32, 61, 32, 50]⟩))] σ fun r s => s = σ ∧ r = .tup [.agg (kl12.map .p), intV .i64 0] :=
  (kn12_ok _ kn12_in σ).mono fun r s h => ⟨h.2, h.1.trans rfl⟩
theorem kl11_le : nleQ kl11 (smN stI) := by simp [nleQ, nleP, nleR, kl11, smN, stI, exC, exL, enS, enR, nilSl, emp, one1]
theorem kl12_le : nleQ kl12 (smC stU) := by simp [nleQ, nleP, nleR, kl12, smC, stU, exC, exL, enS, enR, emp, one1, colE]
theorem ins11 (σ : St) : ACalls Try.prog 13 [.agg (kl11.map .p), tbA ⟨#[116]⟩ coI] σ fun r s => s = σ ∧ r = .tup [.p (.sl 1 (enVV [[(1, 2, emp), (0, 0, emp)]])), intV .i64 0] := by
  have h := ains stI (by decide) (by decide) (by simp [stI]) ⟨#[116]⟩ coI (by decide) σ
  rw [insI] at h
  exact ACalls.aggP kl11_le h
theorem upd12 (σ : St) : ACalls Try.prog 7 [.agg (kl12.map .p), tbA ⟨#[116]⟩ coI, .p (.sl 1 (enVV [[(1, 2, emp), (0, 0, emp)]]))] σ fun r s => s = σ ∧ r = .tup [.p (.sl 3 [[.v (.string ⟨#[116]⟩), .sl 3 (enV [(1, 2, emp), (0, 0, emp)]), .sl 3 [[.v (.int .i64 1), .v (.int .i64 3), .v (.string emp)], [.v (.int .i64 0), .v (.int .i64 0), .v (.string emp)]]]]), intV .i64 0] := by
  have h := aupd stU (fun _ => rfl) (by decide) (by decide) ⟨#[116]⟩ coI (by decide) [[(1, 2, emp), (0, 0, emp)]] ⟨by decide, by simp⟩ (by decide) (by simp [coI]) σ
  rw [updU] at h
  exact (ACalls.aggP kl12_le h).mono fun r s h => ⟨h.1, h.2.trans rfl⟩
set_option maxRecDepth 100000 in
theorem anum (n : Int) (σ : St) : ACalls Try.prog 11 [.p (.v (.int .i64 n))] σ fun r s => s = σ ∧ r = vaA (1, n, emp) := by
  refine ACalls.pureF (R := fun r => r = vaA (1, n, emp)) ?_ rfl σ
  refine acalls_of cx_ok dr_ok Try.func11 (by kernel_rfl) rfl (nt := 4) (rs := [.cell 2 50]) rfl rfl ?_
  simp only [vaA, vaC, emp, List.map_cons, List.map_nil]
  repeat' first | ((with_reducible first | refine cond_split (fun h => ?_) (fun h => ?_) | refine want_split (fun h => ?_) (fun h => ?_)) <;> (try simp only [h])) | (simp only [↓wBA, wBB, wBC, cx_muts, cx_arr, wBD, convA, Nat.reduceBEq, reduceIte, reduceCtorEq, reducePow, reduceAdd, reduceSub, reduceMul, reduceEqDiff, reduceLeDiff, Nat.reduceLT, Int.reduceLT, Int.reduceLE, Int.reduceToNat, ty11_XAk, bu_len, bu_max, bu_min])
  all_goals refine ret_is (a := _) ?_ rfl rfl
  all_goals simp only [↓wBA, wBB, wBC, cx_muts, cx_arr, wBD, convA, Nat.reduceBEq, reduceIte, reduceCtorEq, reducePow, reduceAdd, reduceSub, reduceMul, reduceEqDiff, reduceLeDiff, Nat.reduceLT, Int.reduceLT, Int.reduceLE, Int.reduceToNat, ty11_XAk]
  all_goals simp_all [resA, resL, resV, leT, leG, leA, leC, leM, leaf, tokLt, tokLtL, intV, boolV, nilA, nilSl]
set_option maxRecDepth 100000 in
set_option maxHeartbeats 16000000 in
theorem aawake (σ : St) : ACalls Try.prog 5 [] σ fun r s => s = σ ∧ r = boolV true := by
  refine ACalls.pureF (R := fun r => r = boolV true) ?_ rfl σ
  have hS := asameVV [[(1, 2, emp), (0, 0, emp)]] [[(1, 2, emp), (0, 0, emp)]] (by decide) (by decide) (by simp) (by simp)
  have hsv : sameVV [[(1, 2, emp), (0, 0, emp)]] [[(1, 2, emp), (0, 0, emp)]] = true := by kernel_rfl
  rw [hsv] at hS
  have hn2 := anum 2
  have hn3 := anum 3
  simp only [vaA, vaC, List.map_cons, List.map_nil] at hn2 hn3
  have h11 : (((0 + 1 : Nat) : Int) == 1) = true := rfl
  refine acalls_of cx_ok dr_ok Try.func5 (by kernel_rfl) rfl (nt := 72) (rs := [.tmp 0]) rfl rfl ?_
  repeat' first | ((with_reducible first | refine cond_split (fun h => ?_) (fun h => ?_) | refine want_split (fun h => ?_) (fun h => ?_)) <;> (try simp only [h])) | (simp only [↓wBA, wBB, wBC, cx_muts, cx_arr, wBD, convA, Nat.reduceBEq, reduceIte, reduceCtorEq, reducePow, reduceAdd, reduceSub, reduceMul, reduceEqDiff, reduceLeDiff, Nat.reduceLT, Int.reduceLT, Int.reduceLE, Int.reduceToNat, ty5_XAk, bu_len, bu_max, bu_min, pl5_6_XAk, List.length_map, kl11_len, kl12_len, enVV_len, List.length_cons, List.length_nil, beq_self_eq_true, h11]) | ((with_reducible show ACalls _ _ _ _ _); refine (parse11 _).mono ?_; rintro _ _ ⟨rfl, rfl⟩) | ((with_reducible show ACalls _ _ _ _ _); refine (parse12 _).mono ?_; rintro _ _ ⟨rfl, rfl⟩) | ((with_reducible show ACalls _ _ _ _ _); refine ACalls.frzArgs ?_; simp only [frzL, frzA, frzL_mapP]; refine (ins11 _).mono ?_; rintro _ _ ⟨rfl, rfl⟩) | ((with_reducible show ACalls _ _ _ _ _); refine ACalls.frzArgs ?_; simp only [frzL, frzA, frzL_mapP]; refine (upd12 _).mono ?_; rintro _ _ ⟨rfl, rfl⟩) | ((with_reducible show ACalls _ _ _ _ _); refine (hn2 _).mono ?_; rintro _ _ ⟨rfl, rfl⟩) | ((with_reducible show ACalls _ _ _ _ _); refine (hn3 _).mono ?_; rintro _ _ ⟨rfl, rfl⟩) | ((with_reducible show ACalls _ _ _ _ _); refine ACalls.frzArgs ?_; simp only [frzL, frzA]; refine (hS _).mono ?_; rintro _ _ ⟨rfl, rfl⟩) | (with_reducible refine draw_plan pl5_6_XAk 38 (some 35) (by decide) (by decide) (by kernel_rfl) (by kernel_rfl) ?_) | ((with_reducible first | refine wantD_split (fun h => ?_) (fun h => ?_) | refine wantU_split (fun h => ?_) (fun h => ?_)) <;> (try simp only [h])) | (with_reducible refine And.intro ?_ ?_)
  all_goals refine ret_is (a := _) ?_ rfl rfl
  all_goals simp only [↓wBA, wBB, wBC, cx_muts, cx_arr, wBD, convA, Nat.reduceBEq, reduceIte, reduceCtorEq, reducePow, reduceAdd, reduceSub, reduceMul, reduceEqDiff, reduceLeDiff, Nat.reduceLT, Int.reduceLT, Int.reduceLE, Int.reduceToNat, ty5_XAk]
  all_goals simp_all [resA, resL, resV, leT, leG, leA, leC, leM, leaf, tokLt, tokLtL, intV, boolV, nilA, nilSl]
end Go.Proofs.Ytcnkmandddfdmaa
namespace Go.Proofs.Ytcnkmandddfdmaa
open Go.RowKit
open Nat (reducePow reduceAdd reduceSub reduceMul reduceEqDiff reduceLeDiff)
def pl3_8_XSp : Plan := (.det 0 (.det 1 (.det 2 (.det 3 (.det 4 (.det 5 (.det 6 (.fin 7 (.det 8 (.det 9 (.det 10 (.det 11 (.det 12 .done)))))))))))))
def pl3_9_XSp : Plan := (.det 0 (.det 1 (.det 2 (.det 3 (.det 4 (.det 5 (.det 6 (.fin 7 (.det 8 (.det 9 (.det 10 (.det 11 (.det 12 .done)))))))))))))
theorem ty3_XSp : (type_of% ck_3) ∧ (type_of% cx_3) ∧ (type_of% ck_4) ∧ (type_of% cx_4) ∧ (type_of% ck_5) ∧ (type_of% cx_5) ∧ (type_of% ck_24) ∧ (type_of% cx_24) ∧ (type_of% ck_25) ∧ (type_of% cx_25) ∧ (type_of% @ks_25) ∧ (type_of% @ko_25) ∧ (type_of% @kn_25) ∧ (type_of% kz_25) ∧ (type_of% ck_27) ∧ (type_of% cx_27) ∧ (type_of% ck_36) ∧ (type_of% cx_36) ∧ (type_of% ck_39) ∧ (type_of% cx_39) ∧ (type_of% @ks_39) ∧ (type_of% @ko_39) ∧ (type_of% @kn_39) ∧ (type_of% kz_39) ∧ (type_of% ck_40) ∧ (type_of% cx_40) := ⟨ck_3, cx_3, ck_4, cx_4, ck_5, cx_5, ck_24, cx_24, ck_25, cx_25, @ks_25, @ko_25, @kn_25, kz_25, ck_27, cx_27, ck_36, cx_36, ck_39, cx_39, @ks_39, @ko_39, @kn_39, kz_39, ck_40, cx_40⟩
theorem enVV_take (l : List (List Va)) (k : Nat) : (enVV l).take k = enVV (l.take k) := by simp [enVV]
theorem enVV_drop (l : List (List Va)) (k : Nat) : (enVV l).drop k = enVV (l.drop k) := by simp [enVV]
theorem enW_app (nm : ByteArray) (l m : List Wr) : enW nm (l ++ m) = enW nm l ++ enW nm m := by simp [enW]
/-- An update's call, its rows short and right. -/
def updOk (s : Sm) (nm : ByteArray) (cols : List Tc) (rows : List (List Va)) : Prop := ∀ σ, ACalls Try.prog 7 [.agg ((smC s).map .p), tbA nm cols, .p (.sl 1 (enVV rows))] σ fun r st => st = σ ∧ r = .tup [.p (.sl 3 (enW nm (updS s nm cols rows).1)), intV .i64 (updS s nm cols rows).2]
theorem upd_ok (s : Sm) (hs1 : s.kind = 5 → s.names.length = s.sets.length ∧ s.names ≠ []) (hs2 : Bd s) (nm : ByteArray) (cols : List Tc) (hcl : cols.length ≤ 4398046511104) (rows : List (List Va)) (h500 : rows.length ≤ 500) (hrc : ∀ r ∈ rows, r.length = cols.length) : updOk s nm cols rows := fun σ => by
  have h1 := hs2.names
  have h2 := hs2.wh.1
  exact aupd s (fun h => (hs1 h).1) (by omega) (by omega) nm cols hcl rows ⟨by omega, fun r hr => by rw [hrc r hr]; exact hcl⟩ (by omega) hrc σ
set_option maxRecDepth 100000 in
set_option maxHeartbeats 16000000 in
theorem asplits (txt nm : ByteArray) (cols : List Tc) (rows : List (List Va)) (c : Nat) (hc : c ≤ 255) (hcl : cols.length ≤ 4398046511104) (hrl : rows.length ≤ 140737488351232) (σ : St) : ACalls Try.prog 3 [.agg [.p (.v (.string txt)), .p (.v (.string nm)), .p (.sl 4 (enTc cols)), .p (.sl 1 (enVV rows))], .p (.v (.int .u8 (c : Nat)))] σ fun r s => s = σ ∧ r = boolV true := by
  refine ACalls.pureF (R := fun r => r = boolV true) ?_ rfl σ
  refine acalls_of cx_ok dr_ok Try.func3 (by kernel_rfl) rfl (nt := 106) (rs := [.tmp 4]) rfl rfl ?_
  simp only [↓wBA, wBB, wBC, cx_muts, cx_arr, wBD, convA, Nat.reduceBEq, reduceIte, reduceCtorEq, reducePow, reduceAdd, reduceSub, reduceMul, reduceEqDiff, reduceLeDiff, Nat.reduceLT, Int.reduceLT, Int.reduceLE, Int.reduceToNat, ty3_XSp]
  refine (aawake _).mono ?_
  rintro _ _ ⟨rfl, rfl⟩
  simp only [↓wBA, wBB, wBC, cx_muts, cx_arr, wBD, convA, Nat.reduceBEq, reduceIte, reduceCtorEq, reducePow, reduceAdd, reduceSub, reduceMul, reduceEqDiff, reduceLeDiff, Nat.reduceLT, Int.reduceLT, Int.reduceLE, Int.reduceToNat, ty3_XSp]
  refine (aright txt nm cols rows hcl hrl _).mono ?_
  rintro _ _ ⟨rfl, s, b, rfl, hs1, hs2, hb⟩
  cases b
  · skip
    repeat' first | ((with_reducible first | refine cond_split (fun h => ?_) (fun h => ?_) | refine want_split (fun h => ?_) (fun h => ?_)) <;> (try simp only [h])) | (simp only [↓wBA, wBB, wBC, cx_muts, cx_arr, wBD, convA, Nat.reduceBEq, reduceIte, reduceCtorEq, reducePow, reduceAdd, reduceSub, reduceMul, reduceEqDiff, reduceLeDiff, Nat.reduceLT, Int.reduceLT, Int.reduceLE, Int.reduceToNat, ty3_XSp, bu_len, bu_max, bu_min, pl3_8_XSp, pl3_9_XSp, smC_len, List.length_map]) | (with_reducible refine draw_plan pl3_8_XSp 13 (some 47) (by decide) (by decide) (by kernel_rfl) (by kernel_rfl) ?_) | (with_reducible refine draw_plan pl3_9_XSp 13 (some 58) (by decide) (by decide) (by kernel_rfl) (by kernel_rfl) ?_) | ((with_reducible first | refine wantD_split (fun h => ?_) (fun h => ?_) | refine wantU_split (fun h => ?_) (fun h => ?_)) <;> (try simp only [h])) | (with_reducible refine And.intro ?_ ?_)
    all_goals refine ret_is (a := _) ?_ rfl rfl
    all_goals simp only [↓wBA, wBB, wBC, cx_muts, cx_arr, wBD, convA, Nat.reduceBEq, reduceIte, reduceCtorEq, reducePow, reduceAdd, reduceSub, reduceMul, reduceEqDiff, reduceLeDiff, Nat.reduceLT, Int.reduceLT, Int.reduceLE, Int.reduceToNat, ty3_XSp]
    all_goals simp_all [resA, resL, resV, leT, leG, leA, leC, leM, leaf, tokLt, tokLtL, intV, boolV, nilA, nilSl]
  · obtain ⟨h500, _, hrows⟩ := hb rfl
    by_cases hk : s.kind = 5
    · have hk' : (s.kind != 5) = false := by simpa using hk
      have hg0 : ((smC s).map AV.p)[0]? = some (.p (.v (.int .i64 s.kind))) := rfl
      have hrc : ∀ r ∈ rows, r.length = cols.length := fun r h => (hrows r h).1
      have hne : s.kind = 5 → s.names ≠ [] := fun h => (hs1 h).2
      have hwc : IntKind.i64.wrap ((c : Nat) : Int) = ((c : Nat) : Int) := wrap_i64 (by omega) (by omega)
      have hwl : IntKind.i64.wrap ((rows.length : Int) + 1) = ((rows.length + 1 : Nat) : Int) := by rw [wrap_i64 (by omega) (by omega)]; simp
      have hb0 : (((rows.length + 1 : Nat) : Int) = 0) = False := eq_false (by omega)
      have hmod : ((c : Nat) : Int).tmod ((rows.length + 1 : Nat) : Int) = ((c % (rows.length + 1) : Nat) : Int) := rfl
      have hkle : c % (rows.length + 1) ≤ rows.length := by have := Nat.mod_lt c (show 0 < rows.length + 1 by omega); omega
      generalize c % (rows.length + 1) = k at *
      have h0k : ((0 : Int) ≤ (k : Int)) = True := eq_true (by omega)
      have hkl : ((k : Int) ≤ (rows.length : Int)) = True := eq_true (by omega)
      have hll : ((rows.length : Int) ≤ (rows.length : Int)) = True := eq_true (by omega)
      have hkl0 : (k ≤ rows.length) = True := eq_true hkle
      have hkl1 : (rows.length ≤ rows.length) = True := eq_true (by omega)
      have htl : (enVV rows).take rows.length = enVV rows := List.take_of_length_le (by rw [enVV_len]; omega)
      have hz0 : (((0 : Nat) : Int) != 0) = false := rfl
      have hU := upd_ok s hs1 hs2 nm cols hcl rows h500 hrc
      have hU1 := upd_ok s hs1 hs2 nm cols hcl (rows.take k) (by rw [List.length_take]; omega) (fun r h => hrc r (List.mem_of_mem_take h))
      have hU2 := upd_ok s hs1 hs2 nm cols hcl (rows.drop k) (by rw [List.length_drop]; omega) (fun r h => hrc r (List.mem_of_mem_drop h))
      have hU3 := upd_ok s hs1 hs2 nm cols hcl [] (by simp) (by simp)
      obtain ⟨q1, q2, q3⟩ := updS_split s nm cols rows k (by omega)
      have n0 := updS_nn s nm cols hcl rows (by omega) hrc hne
      have l0 := updS_len s nm cols rows (by omega)
      have l1 := updS_len s nm cols (rows.take k) (by rw [List.length_take]; omega)
      have l2 := updS_len s nm cols (rows.drop k) (by rw [List.length_drop]; omega)
      rw [List.length_take] at l1
      rw [List.length_drop] at l2
      unfold updOk at hU hU1 hU2 hU3
      generalize updS s nm cols rows = u0 at *
      generalize updS s nm cols (rows.take k) = u1 at *
      generalize updS s nm cols (rows.drop k) = u2 at *
      generalize updS s nm cols [] = u3 at *
      obtain ⟨l, e⟩ := u0
      obtain ⟨x, f⟩ := u1
      obtain ⟨y, g⟩ := u2
      obtain ⟨n, h⟩ := u3
      simp only [tbA] at hU hU1 hU2 hU3
      simp only at q1 q2 q3 n0 l0 l1 l2
      subst q2
      by_cases he : e = 0
      · subst he
        obtain ⟨rfl, rfl⟩ := q1.1 rfl
        obtain ⟨rfl, rfl⟩ := q3 rfl
        have hS := asameW nm (x ++ y) (x ++ y) (by omega) (by omega) n0 n0
        rw [decide_eq_true rfl, enW_app] at hS
        rw [enW_app] at hU
        have hA1 : (x.length * 64 ≤ 140737488355328) = True := eq_true (by omega)
        have hA2 : (x.length ≤ maxLen) = True := eq_true (by unfold maxLen; omega)
        have hA3 : ((x.length + y.length) * 64 ≤ 140737488355328) = True := eq_true (by omega)
        have hA4 : (x.length + y.length ≤ maxLen) = True := eq_true (by unfold maxLen; omega)
        repeat' first | ((with_reducible first | refine cond_split (fun h => ?_) (fun h => ?_) | refine want_split (fun h => ?_) (fun h => ?_)) <;> (try simp only [h])) | (simp only [↓wBA, wBB, wBC, cx_muts, cx_arr, wBD, convA, Nat.reduceBEq, reduceIte, reduceCtorEq, reducePow, reduceAdd, reduceSub, reduceMul, reduceEqDiff, reduceLeDiff, Nat.reduceLT, Int.reduceLT, Int.reduceLE, Int.reduceToNat, ty3_XSp, bu_len, bu_max, bu_min, pl3_8_XSp, pl3_9_XSp, smC_len, List.length_map, hk', hg0, enVV_len, enW_len, hwc, hwl, hb0, hmod, sliceA, boundA, h0k, hkl, hll, hkl0, hkl1, List.drop_zero, enVV_take, enVV_drop, Int.toNat_natCast, htl, List.length_nil, hz0, Bool.not_true, Bool.not_false, beq_self_eq_true, bne_self_eq_false, hA1, hA2, hA3, hA4, appendA, srcA, List.length_append, Nat.zero_add]) | ((with_reducible show ACalls _ _ _ _ _); refine (hU _).mono ?_; rintro _ _ ⟨rfl, rfl⟩) | ((with_reducible show ACalls _ _ _ _ _); refine (hU1 _).mono ?_; rintro _ _ ⟨rfl, rfl⟩) | ((with_reducible show ACalls _ _ _ _ _); refine (hU2 _).mono ?_; rintro _ _ ⟨rfl, rfl⟩) | ((with_reducible show ACalls _ _ _ _ _); refine ACalls.nilW3 (e := 1) ((hU3 _).mono ?_); rintro _ _ ⟨rfl, rfl⟩) | ((with_reducible show ACalls _ _ _ _ _); refine ACalls.frzArgs ?_; simp only [frzL, frzA, List.nil_append]; refine (hS _).mono ?_; rintro _ _ ⟨rfl, rfl⟩) | (with_reducible refine draw_plan pl3_8_XSp 13 (some 47) (by decide) (by decide) (by kernel_rfl) (by kernel_rfl) ?_) | (with_reducible refine draw_plan pl3_9_XSp 13 (some 58) (by decide) (by decide) (by kernel_rfl) (by kernel_rfl) ?_) | ((with_reducible first | refine wantD_split (fun h => ?_) (fun h => ?_) | refine wantU_split (fun h => ?_) (fun h => ?_)) <;> (try simp only [h])) | (with_reducible refine And.intro ?_ ?_)
        all_goals refine ret_is (a := _) ?_ rfl rfl
        all_goals simp only [↓wBA, wBB, wBC, cx_muts, cx_arr, wBD, convA, Nat.reduceBEq, reduceIte, reduceCtorEq, reducePow, reduceAdd, reduceSub, reduceMul, reduceEqDiff, reduceLeDiff, Nat.reduceLT, Int.reduceLT, Int.reduceLE, Int.reduceToNat, ty3_XSp]
        all_goals simp_all [resA, resL, resV, leT, leG, leA, leC, leM, leaf, tokLt, tokLtL, intV, boolV, nilA, nilSl]
      · have e0 : (e == 0) = false := by simpa using he
        have e1 : (e != 0) = true := by simpa using he
        by_cases hf : f = 0
        · subst hf
          have hg : g ≠ 0 := fun hg => he (q1.2 ⟨rfl, hg⟩)
          have g0 : (g == 0) = false := by simpa using hg
          repeat' first | ((with_reducible first | refine cond_split (fun h => ?_) (fun h => ?_) | refine want_split (fun h => ?_) (fun h => ?_)) <;> (try simp only [h])) | (simp only [↓wBA, wBB, wBC, cx_muts, cx_arr, wBD, convA, Nat.reduceBEq, reduceIte, reduceCtorEq, reducePow, reduceAdd, reduceSub, reduceMul, reduceEqDiff, reduceLeDiff, Nat.reduceLT, Int.reduceLT, Int.reduceLE, Int.reduceToNat, ty3_XSp, bu_len, bu_max, bu_min, pl3_8_XSp, pl3_9_XSp, smC_len, List.length_map, hk', hg0, enVV_len, enW_len, hwc, hwl, hb0, hmod, sliceA, boundA, h0k, hkl, hll, hkl0, hkl1, List.drop_zero, enVV_take, enVV_drop, Int.toNat_natCast, htl, List.length_nil, hz0, Bool.not_true, Bool.not_false, beq_self_eq_true, bne_self_eq_false, e0, e1, g0]) | ((with_reducible show ACalls _ _ _ _ _); refine (hU _).mono ?_; rintro _ _ ⟨rfl, rfl⟩) | ((with_reducible show ACalls _ _ _ _ _); refine (hU1 _).mono ?_; rintro _ _ ⟨rfl, rfl⟩) | ((with_reducible show ACalls _ _ _ _ _); refine (hU2 _).mono ?_; rintro _ _ ⟨rfl, rfl⟩) | ((with_reducible show ACalls _ _ _ _ _); refine ACalls.nilW3 (e := 1) ((hU3 _).mono ?_); rintro _ _ ⟨rfl, rfl⟩) | (with_reducible refine draw_plan pl3_8_XSp 13 (some 47) (by decide) (by decide) (by kernel_rfl) (by kernel_rfl) ?_) | (with_reducible refine draw_plan pl3_9_XSp 13 (some 58) (by decide) (by decide) (by kernel_rfl) (by kernel_rfl) ?_) | ((with_reducible first | refine wantD_split (fun h => ?_) (fun h => ?_) | refine wantU_split (fun h => ?_) (fun h => ?_)) <;> (try simp only [h])) | (with_reducible refine And.intro ?_ ?_)
          all_goals refine ret_is (a := _) ?_ rfl rfl
          all_goals simp only [↓wBA, wBB, wBC, cx_muts, cx_arr, wBD, convA, Nat.reduceBEq, reduceIte, reduceCtorEq, reducePow, reduceAdd, reduceSub, reduceMul, reduceEqDiff, reduceLeDiff, Nat.reduceLT, Int.reduceLT, Int.reduceLE, Int.reduceToNat, ty3_XSp]
          all_goals simp_all [resA, resL, resV, leT, leG, leA, leC, leM, leaf, tokLt, tokLtL, intV, boolV, nilA, nilSl]
        · have f0 : (f == 0) = false := by simpa using hf
          repeat' first | ((with_reducible first | refine cond_split (fun h => ?_) (fun h => ?_) | refine want_split (fun h => ?_) (fun h => ?_)) <;> (try simp only [h])) | (simp only [↓wBA, wBB, wBC, cx_muts, cx_arr, wBD, convA, Nat.reduceBEq, reduceIte, reduceCtorEq, reducePow, reduceAdd, reduceSub, reduceMul, reduceEqDiff, reduceLeDiff, Nat.reduceLT, Int.reduceLT, Int.reduceLE, Int.reduceToNat, ty3_XSp, bu_len, bu_max, bu_min, pl3_8_XSp, pl3_9_XSp, smC_len, List.length_map, hk', hg0, enVV_len, enW_len, hwc, hwl, hb0, hmod, sliceA, boundA, h0k, hkl, hll, hkl0, hkl1, List.drop_zero, enVV_take, enVV_drop, Int.toNat_natCast, htl, List.length_nil, hz0, Bool.not_true, Bool.not_false, beq_self_eq_true, bne_self_eq_false, e0, e1, f0]) | ((with_reducible show ACalls _ _ _ _ _); refine (hU _).mono ?_; rintro _ _ ⟨rfl, rfl⟩) | ((with_reducible show ACalls _ _ _ _ _); refine (hU1 _).mono ?_; rintro _ _ ⟨rfl, rfl⟩) | ((with_reducible show ACalls _ _ _ _ _); refine (hU2 _).mono ?_; rintro _ _ ⟨rfl, rfl⟩) | ((with_reducible show ACalls _ _ _ _ _); refine ACalls.nilW3 (e := 1) ((hU3 _).mono ?_); rintro _ _ ⟨rfl, rfl⟩) | (with_reducible refine draw_plan pl3_8_XSp 13 (some 47) (by decide) (by decide) (by kernel_rfl) (by kernel_rfl) ?_) | (with_reducible refine draw_plan pl3_9_XSp 13 (some 58) (by decide) (by decide) (by kernel_rfl) (by kernel_rfl) ?_) | ((with_reducible first | refine wantD_split (fun h => ?_) (fun h => ?_) | refine wantU_split (fun h => ?_) (fun h => ?_)) <;> (try simp only [h])) | (with_reducible refine And.intro ?_ ?_)
          all_goals refine ret_is (a := _) ?_ rfl rfl
          all_goals simp only [↓wBA, wBB, wBC, cx_muts, cx_arr, wBD, convA, Nat.reduceBEq, reduceIte, reduceCtorEq, reducePow, reduceAdd, reduceSub, reduceMul, reduceEqDiff, reduceLeDiff, Nat.reduceLT, Int.reduceLT, Int.reduceLE, Int.reduceToNat, ty3_XSp]
          all_goals simp_all [resA, resL, resV, leT, leG, leA, leC, leM, leaf, tokLt, tokLtL, intV, boolV, nilA, nilSl]
    · have hk' : (s.kind != 5) = true := by simpa using hk
      have hg0 : ((smC s).map AV.p)[0]? = some (.p (.v (.int .i64 s.kind))) := rfl
      repeat' first | ((with_reducible first | refine cond_split (fun h => ?_) (fun h => ?_) | refine want_split (fun h => ?_) (fun h => ?_)) <;> (try simp only [h])) | (simp only [↓wBA, wBB, wBC, cx_muts, cx_arr, wBD, convA, Nat.reduceBEq, reduceIte, reduceCtorEq, reducePow, reduceAdd, reduceSub, reduceMul, reduceEqDiff, reduceLeDiff, Nat.reduceLT, Int.reduceLT, Int.reduceLE, Int.reduceToNat, ty3_XSp, bu_len, bu_max, bu_min, pl3_8_XSp, pl3_9_XSp, smC_len, List.length_map, hk', hg0]) | (with_reducible refine draw_plan pl3_8_XSp 13 (some 47) (by decide) (by decide) (by kernel_rfl) (by kernel_rfl) ?_) | (with_reducible refine draw_plan pl3_9_XSp 13 (some 58) (by decide) (by decide) (by kernel_rfl) (by kernel_rfl) ?_) | ((with_reducible first | refine wantD_split (fun h => ?_) (fun h => ?_) | refine wantU_split (fun h => ?_) (fun h => ?_)) <;> (try simp only [h])) | (with_reducible refine And.intro ?_ ?_)
      all_goals refine ret_is (a := _) ?_ rfl rfl
      all_goals simp only [↓wBA, wBB, wBC, cx_muts, cx_arr, wBD, convA, Nat.reduceBEq, reduceIte, reduceCtorEq, reducePow, reduceAdd, reduceSub, reduceMul, reduceEqDiff, reduceLeDiff, Nat.reduceLT, Int.reduceLT, Int.reduceLE, Int.reduceToNat, ty3_XSp]
      all_goals simp_all [resA, resL, resV, leT, leG, leA, leC, leM, leaf, tokLt, tokLtL, intV, boolV, nilA, nilSl]
end Go.Proofs.Ytcnkmandddfdmaa
namespace Go.Proofs.Ytcnkmandddfdmaa
open Go.RowKit Go.Deep Go.ChangeShapes Go.WideShapes

/-- What a cell holds. -/
inductive Sh where
  | int (k : IntKind)
  | bool
  | str
  | sl (eb : Nat) (l : List Sh)

mutual
def HasSh : Sh → PV → Prop
  | .int k, x => ∃ n, x = .v (.int k n) ∧ (Lit.int k n).wf = true
  | .bool, x => ∃ b, x = .v (.bool b)
  | .str, x => ∃ s, x = .v (.string s) ∧ s.size ≤ 140737488351232
  | .sl eb l, x => ∃ ls, x = .sl l.length ls ∧ ls.length * eb ≤ 140737488351232 ∧ ∀ c ∈ ls, HasShL l c
def HasShL : List Sh → List PV → Prop
  | [], c => c = []
  | s :: l, c => ∃ x c', c = x :: c' ∧ HasSh s x ∧ HasShL l c'
end
theorem HasShL.len : ∀ {l : List Sh} {c : List PV}, HasShL l c → c.length = l.length
  | [], c, h => by simp only [HasShL] at h; rw [h]; rfl
  | s :: l, c, h => by
    simp only [HasShL] at h
    obtain ⟨x, c', rfl, _, h⟩ := h
    simp [h.len]
theorem HasShL.app : ∀ {l l' : List Sh} {c c' : List PV}, HasShL l c → HasShL l' c' → HasShL (l ++ l') (c ++ c')
  | [], l', c, c', h, h' => by simp only [HasShL] at h; subst h; exact h'
  | s :: l, l', c, c', h, h' => by
    simp only [HasShL] at h
    obtain ⟨x, c1, rfl, h1, h⟩ := h
    simp only [List.cons_append, HasShL]
    exact ⟨x, _, rfl, h1, h.app h'⟩
def shFs (P : Program) (sh : TypeId → Option (List Sh)) : Nat → List Field → Option (List Sh)
  | _, [] => some []
  | off, f :: fs => match sh f.type, shFs P sh (off + P.cellsOf f.type) fs with
    | some l, some l' => if f.offset = off ∧ l.length = P.cellsOf f.type then some (l ++ l') else none
    | _, _ => none
/-- The cells of a type. -/
def shOf (P : Program) : Nat → TypeId → Option (List Sh)
  | 0, _ => none
  | n + 1, t => match P.underlying t with
    | some .bool => some [.bool]
    | some (.int k) => some [.int k]
    | some .string => some [.str]
    | some (.slice e) => match shOf P n e with
      | some l => if l.length = P.cellsOf e ∧ 0 < P.bytesOf e ∧ 0 < P.cellsOf e then some [.sl (P.bytesOf e) l] else none
      | none => none
    | some (.struct fs) => match shFs P (fun t => shOf P n t) 0 fs.toList with
      | some l => if l.length = P.cellsOf t then some l else none
      | none => none
    | _ => none

def FitsP {H : Type} (P : Program) (t : TypeId) (d : DataW H) : Prop := ∀ n ∈ d.weights P t, n ≤ 140737488351232
theorem fitsP_of {H : Type} {P : Program} {ts : List TypeId} {ds : List (DataW H)} (h : (DataW.weightsEach P ts ds).all (· ≤ reachBytes) = true) {j : Nat} {t : TypeId} {d : DataW H} (ht : ts[j]? = some t) (hd : ds[j]? = some d) : FitsP P t d := fun n hn => by
  have := List.all_eq_true.1 h n (DataW.weights_mem_each ht hd n hn)
  have h2 : n ≤ reachBytes := by simpa using this
  exact h2
theorem FitsP.elem {H : Type} {P : Program} {t e : TypeId} {elems spare : List (DataW H)} (h : FitsP P t (.slice elems spare)) (hu : P.underlying t = some (.slice e)) {d : DataW H} (hd : d ∈ elems) : FitsP P e d := fun n hn => by
  refine h n ?_
  rw [DataW.weights]
  simp only [hu]
  refine List.mem_cons_of_mem _ (List.mem_append_left _ ?_)
  clear h hu
  induction elems with
  | nil => cases hd
  | cons x r ih =>
    rw [DataW.weightsAll]
    rcases List.mem_cons.1 hd with rfl | hd
    · exact List.mem_append_left _ hn
    · exact List.mem_append_right _ (ih hd)
theorem FitsP.len {H : Type} {P : Program} {t e : TypeId} {elems spare : List (DataW H)} (h : FitsP P t (.slice elems spare)) (hu : P.underlying t = some (.slice e)) : (elems.length + spare.length) * P.bytesOf e ≤ 140737488351232 := by
  refine h _ ?_
  rw [DataW.weights]
  simp [hu]
theorem FitsP.field {H : Type} {P : Program} {t : TypeId} {fs : Array Field} {parts : List (DataW H)} (h : FitsP P t (.agg parts)) (hu : P.underlying t = some (.struct fs)) {i : Nat} {f : Field} {d : DataW H} (hf : fs[i]? = some f) (hd : parts[i]? = some d) : FitsP P f.type d := fun n hn => by
  refine h n ?_
  rw [DataW.weights]
  simp only [hu]
  exact DataW.weights_mem_each (j := i) (by simp [hf]) hd n hn
theorem FitsP.str {H : Type} {P : Program} {t : TypeId} {bs : List UInt8} (h : FitsP P t (.lit (.string bs) : DataW H)) : bs.length ≤ 140737488351232 := h _ (by simp [DataW.weights])

/-- All that is there. -/
def inH (w : World) (b o : Nat) : Prop := b < w.heap.size
def RepL (w : World) (ps : List PV) (cs : List Value) : Prop := ps.length = cs.length ∧ ∀ (i : Nat) (x : PV) (u : Value), ps[i]? = some x → cs[i]? = some u → PRep w (inH w) x u
theorem RepL.one {w : World} {x : PV} {u : Value} (h : PRep w (inH w) x u) : RepL w [x] [u] := ⟨rfl, fun i x' u' hx hu => by
  cases i with
  | zero => simp at hx hu; subst hx hu; exact h
  | succ i => simp at hx⟩
theorem RepL.app {w : World} {ps ps' : List PV} {cs cs' : List Value} (h : RepL w ps cs) (h' : RepL w ps' cs') : RepL w (ps ++ ps') (cs ++ cs') := by
  refine ⟨by simp [h.1, h'.1], fun i x u hx hu => ?_⟩
  rw [List.getElem?_append] at hx hu
  by_cases hi : i < ps.length
  · rw [if_pos hi] at hx; rw [if_pos (by rw [← h.1]; exact hi)] at hu
    exact h.2 i x u hx hu
  · rw [if_neg hi] at hx; rw [if_neg (by rw [← h.1]; exact hi)] at hu
    rw [h.1] at hx
    exact h'.2 _ x u hx hu
theorem spotNone {w : World} {a : Addr} {v : Value} (h : w.cell? a = some v) : a = ⟨a.block, a.off, none⟩ := by
  obtain ⟨b, o, s⟩ := a
  cases s with
  | none => rfl
  | some q => simp [World.cell?] at h; split at h <;> simp at h

section
variable {H : Type} {enc : TypeId × Value → H} {P : Program} {w : World} {held : Bool}
theorem shFs_open {sh : TypeId → Option (List Sh)} {cs : List Value} : ∀ (fl : List Field) (off : Nat) (shs : List Sh), shFs P sh off fl = some shs →
    (∀ f ∈ fl, ∀ l, sh f.type = some l → ∃ ps, HasShL l ps ∧ RepL w ps ((cs.drop f.offset).take (P.cellsOf f.type))) → ∃ ps, HasShL shs ps ∧ RepL w ps ((cs.drop off).take shs.length)
  | [], off, shs, h, _ => by
    simp only [shFs, Option.some.injEq] at h; subst h
    exact ⟨[], by simp [HasShL], by simp [RepL]⟩
  | f :: fl, off, shs, h, hf => by
    simp only [shFs] at h
    split at h
    · rename_i l l' h1 h2
      split at h
      · rename_i hc
        simp only [Option.some.injEq] at h; subst h
        obtain ⟨ps1, g1, g2⟩ := hf f (by simp) l h1
        obtain ⟨ps2, g3, g4⟩ := shFs_open fl _ l' h2 fun f' hf' => hf f' (by simp [hf'])
        refine ⟨ps1 ++ ps2, g1.app g3, ?_⟩
        rw [hc.1, ← hc.2] at g2
        rw [← hc.2] at g4
        rw [List.length_append, List.take_add, List.drop_drop]
        exact g2.app g4
      · simp at h
    · simp at h

theorem open_sh : ∀ (n : Nat) {fuel : Nat} {t : TypeId} {cs : List Value} {d : DataW H} {p : List MemPlace} {shs : List Sh}, shOf P n t = some shs → DataW.trod enc P w 0 (fun _ => true) held fuel t cs = some (d, p) → FitsP P t d →
    ∃ ps, HasShL shs ps ∧ RepL w ps cs
  | 0, fuel, t, cs, d, p, shs, hs, _, _ => by simp [shOf] at hs
  | n + 1, fuel, t, cs, d, p, shs, hs, h, hf => by
    simp only [shOf] at hs
    split at hs
    · rename_i hu
      simp only [Option.some.injEq] at hs; subst hs
      obtain ⟨b, rfl, _⟩ := DataW.trod_bool hu h
      exact ⟨[.v (.bool b)], by simp only [HasShL, HasSh]; exact ⟨_, _, rfl, ⟨b, rfl⟩, rfl⟩, RepL.one (by simp only [PRep]; exact ⟨rfl, trivial⟩)⟩
    · rename_i k hu
      simp only [Option.some.injEq] at hs; subst hs
      obtain ⟨m, rfl, _, hw⟩ := DataW.trod_int hu h
      exact ⟨[.v (.int k m)], by simp only [HasShL, HasSh]; exact ⟨_, _, rfl, ⟨m, rfl, hw⟩, rfl⟩, RepL.one (by simp only [PRep]; exact ⟨rfl, trivial⟩)⟩
    · rename_i hu
      simp only [Option.some.injEq] at hs; subst hs
      obtain ⟨s, rfl, hx, _⟩ := DataW.trod_string hu h
      simp only [Prod.mk.injEq] at hx
      obtain ⟨rfl, rfl⟩ := hx
      have hl := hf.str
      rw [Array.length_toList] at hl
      exact ⟨[.v (.string s)], by simp only [HasShL, HasSh]; exact ⟨_, _, rfl, ⟨s, rfl, hl⟩, rfl⟩, RepL.one (by simp only [PRep]; exact ⟨rfl, trivial⟩)⟩
    · rename_i e hu
      split at hs
      case h_2 => simp at hs
      rename_i l hl
      split at hs
      case isFalse => simp at hs
      rename_i hc
      simp only [Option.some.injEq] at hs; subst hs
      rcases open_slice hu h with ⟨rfl, _⟩ | ⟨a, len, cap, m, q, D, Pl, rfl, _, hlc, hcm, hm, hx, hel⟩
      · exact ⟨[.sl l.length []], by simp only [HasShL, HasSh]; exact ⟨_, _, rfl, ⟨[], rfl, by simp, by simp⟩, rfl⟩, RepL.one (by simp only [PRep]; exact .inl ⟨trivial, none, 0, rfl, fun _ => rfl⟩)⟩
      · simp only [if_true] at hm
        subst hm
        simp only [Prod.mk.injEq] at hx
        obtain ⟨rfl, rfl⟩ := hx
        have hle := hf.len hu
        simp only [List.length_map, List.length_range] at hle
        have hlen : len * P.bytesOf e ≤ 140737488351232 := Nat.le_trans (Nat.mul_le_mul_right _ (Nat.le_add_right _ _)) hle
        have each : ∀ i, ∃ ps : List PV, i < len → HasShL l ps ∧ ∀ (j : Nat) (x : PV), ps[j]? = some x → ∃ u, w.cell? (a.add (i * P.cellsOf e + j)) = some u ∧ PRep w (inH w) x u := fun i => by
          by_cases hi : i < len
          · obtain ⟨cs', h1, h2⟩ := hel i (by omega)
            obtain ⟨ps, h3, h4⟩ := open_sh n hl h2 (hf.elem hu (List.mem_map.2 ⟨i, List.mem_range.2 hi, rfl⟩))
            obtain ⟨_, h5, h6⟩ := World.cells?_some h1
            refine ⟨ps, fun _ => ⟨h3, fun j x hx => ?_⟩⟩
            have hj : j < ps.length := (List.getElem?_eq_some_iff.1 hx).1
            have hj' : j < cs'.length := by rw [← h4.1]; exact hj
            refine ⟨cs'[j], ?_, h4.2 j x _ hx (List.getElem?_eq_getElem hj')⟩
            have := h6 j (by omega)
            rw [add_add] at this
            rw [this]; exact List.getElem?_eq_getElem hj'
          · exact ⟨[], fun h => absurd h hi⟩
        obtain ⟨R, hR⟩ := Classical.axiomOfChoice each
        refine ⟨[.sl l.length ((List.range len).map R)], ?_, RepL.one ?_⟩
        · simp only [HasShL, HasSh]
          refine ⟨_, _, rfl, ⟨_, rfl, by simpa using hlen, fun c hc' => ?_⟩, rfl⟩
          obtain ⟨i, hi, rfl⟩ := List.mem_map.1 hc'
          exact (hR i (List.mem_range.1 hi)).1
        · simp only [PRep, List.length_map, List.length_range]
          by_cases h0 : len = 0
          · subst h0; exact .inl ⟨rfl, some a, m, rfl, by simp⟩
          · right
            have hl0 := (hR 0 (by omega)).1.len
            have hR0 : (R 0)[0]? = some ((R 0)[0]'(by rw [hl0]; omega)) := List.getElem?_eq_getElem _
            obtain ⟨u0, hu0, _⟩ := (hR 0 (by omega)).2 0 _ hR0
            rw [show a.add (0 * P.cellsOf e + 0) = a by simp [Addr.add]] at hu0
            have ha := spotNone hu0
            refine ⟨a.block, a.off, m, by rw [← ha], hlc, PRepR.of_get fun i c hc' => ?_⟩
            have hi : i < len := by have := (List.getElem?_eq_some_iff.1 hc').1; simpa using this
            have hcR : c = R i := by simpa [hi] using hc'.symm
            subst hcR
            refine ⟨(hR i hi).1.len, PRepC.of_get fun j x hx => ?_⟩
            obtain ⟨u, g1, g2⟩ := (hR i hi).2 j x hx
            rw [ha, Addr.add_mid, ← hc.1, ← Nat.add_assoc] at g1
            have hb : a.block < w.heap.size := World.block_lt_of_cell? w ⟨a.block, _, none⟩ g1
            exact ⟨u, g1, hb, g2⟩
    · rename_i fs hu
      split at hs
      case h_2 => simp at hs
      rename_i l hl
      split at hs
      case isFalse => simp at hs
      rename_i hc
      simp only [Option.some.injEq] at hs; subst hs
      obtain ⟨xs, q, rfl, hx, hcl, hxl, hg⟩ := DataW.trod_struct hu h
      simp only [Prod.mk.injEq] at hx
      obtain ⟨rfl, rfl⟩ := hx
      obtain ⟨ps, h1, h2⟩ := shFs_open (w := w) (cs := cs) _ _ _ hl fun f hfm l' hl' => by
        obtain ⟨i, hi⟩ := List.mem_iff_getElem?.1 hfm
        have hi' : fs[i]? = some f := by simpa using hi
        have hil : i < xs.length := by rw [hxl]; exact (Array.getElem?_eq_some_iff.1 hi').1
        have hgi := hg i f hi'
        rw [List.getElem?_eq_getElem hil] at hgi
        exact open_sh n hl' hgi (hf.field hu hi' (by simp [hil]))
      refine ⟨ps, h1, ?_⟩
      rw [List.drop_zero, hc, ← hcl, List.take_length] at h2
      exact h2
    · simp at hs
/-- A value of one cell. -/
theorem open_one {n fuel : Nat} {t : TypeId} {v : Value} {d : DataW H} {p : List MemPlace} {s : Sh} (hs : shOf P n t = some [s]) (h : DataW.trod enc P w 0 (fun _ => true) held fuel t [v] = some (d, p)) (hf : FitsP P t d) : ∃ x, HasSh s x ∧ PRep w (inH w) x v := by
  obtain ⟨ps, h1, h2⟩ := open_sh n hs h hf
  simp only [HasShL] at h1
  obtain ⟨x, _, rfl, h3, rfl⟩ := h1
  exact ⟨x, h3, h2.2 0 x v rfl rfl⟩
end
end Go.Proofs.Ytcnkmandddfdmaa
namespace Go.Proofs.Ytcnkmandddfdmaa
open Go.RowKit

/-- What a law is seen as before it begins. -/
def startV (w : World) : View := ⟨w, inH w, fun _ => none, fun _ => none, fun _ => 0⟩
theorem startV_match (w : World) : Match (startV w) [] :=
  ⟨fun t ob h => by simp [St.at] at h, fun t t' ob ob' b h => by simp [St.at] at h, fun t _ => ⟨rfl, rfl⟩, fun t b h => by simp [startV] at h, fun b o h => h⟩
/-- A law that answers true. -/
theorem law_calls {P : Program} {f : FuncId} {args : List AV} (h : ∀ σ, ACalls P f args σ fun u σ' => σ' = σ ∧ u = boolV true) {W : World} {vs : List Value} (hv : ARepL (startV W) args vs) :
    Calls P f vs.toArray W fun e W' => e = .returned (.bool true) ∧ Below W.heap.size W W' :=
  ((h []).2 (startV W) vs (startV_match W) hv).mono fun e w' ⟨v, r, σ', M', h1, h2, h3, h4, h5, _, h6, h7⟩ => by
    subst h1 h2 h7
    rw [(rep_v h5).2]
    exact ⟨rfl, h3.below fun t ob h => by simp [St.at] at h⟩
/-- A struct's cells. -/
theorem RepL.args {w : World} : ∀ {ps : List PV} {us : List Value}, RepL w ps us → ARepL (startV w) (ps.map .p) us
  | [], [], _ => by simp [ARepL]
  | x :: ps, u :: us, h => by
    simp only [List.map_cons, ARepL]
    exact ⟨u, us, rfl, by simp only [ARep]; exact h.2 0 x u rfl rfl, RepL.args ⟨by simpa using h.1, fun i y v hy hv => h.2 (i + 1) y v (by simpa using hy) (by simpa using hv)⟩⟩
  | [], _ :: _, h => by have := h.1; simp at this
  | _ :: _, [], h => by have := h.1; simp at this
theorem all_leafL : ∀ m : List PV, (m.map AV.p).all leaf = true
  | [] => rfl
  | x :: m => by simp [leaf]
/-- A struct that is an argument. -/
theorem RepL.agg {w : World} {ps : List PV} {us : Array Value} (h : RepL w ps us.toList) : ARep (startV w) (.agg (ps.map .p)) (.agg us) := by
  simp only [ARep]
  exact ⟨all_leafL ps, us.toList, rfl, h.args⟩
end Go.Proofs.Ytcnkmandddfdmaa
