/- Fixed calls, reckoned out by the kernel. Data with nil for slices of no elements. cadastrelaw23.awake. -/
import Derived.Test.YtcnkmandddfdmaaGreatDoorM18
import Derived.Test.YtcnkmandddfdmaaGreatDoorM16
import Derived.Test.YtcnkmandddfdmaaGreatDoorM12
import Derived.Test.YtcnkmandddfdmaaGreatDoorM39
import Derived.Test.YtcnkmandddfdmaaGreatDoorM38
import Derived.Test.YtcnkmandddfdmaaGreatDoorM40
set_option linter.unusedSimpArgs false
set_option linter.unusedVariables false
set_option linter.defProp false
set_option maxRecDepth 100000
set_option maxHeartbeats 32000000
namespace Go.Proofs.YtcnkmandddfdmaaGreatDoor
open Go.RowKit
set_option maxRecDepth 1000000
def ka0 : List AV := [.p (.v (.string ⟨#[105, 110, 115, 101, 114, 116]⟩))]
def kr0 : AV := .tup [.agg [.p (.v (.int .i64 1)), .p (.v (.string ⟨#[73, 78, 83, 69, 82, 84]⟩)), .p (.v (.int .i64 0))], .p (.v (.int .i64 0))]
def kn0 : Known := (47, ka0, kr0) :: []
theorem kn0_ok : KnownOk Tryz.prog kn0 := known_cons (m := 100000) (n := 100) cx_ok (by kernel_rfl) known_nil (by kernel_rfl) (by kernel_rfl) (by kernel_rfl)
def ka1 : List AV := [.p (.v (.string ⟨#[105, 110, 116, 111]⟩))]
def kr1 : AV := .tup [.agg [.p (.v (.int .i64 1)), .p (.v (.string ⟨#[73, 78, 84, 79]⟩)), .p (.v (.int .i64 0))], .p (.v (.int .i64 0))]
def kn1 : Known := (47, ka1, kr1) :: kn0
theorem kn1_ok : KnownOk Tryz.prog kn1 := known_cons (m := 100000) (n := 100) cx_ok (by kernel_rfl) kn0_ok (by kernel_rfl) (by kernel_rfl) (by kernel_rfl)
def ka2 : List AV := [.p (.v (.string ⟨#[116]⟩))]
def kr2 : AV := .tup [.agg [.p (.v (.int .i64 2)), .p (.v (.string ⟨#[116]⟩)), .p (.v (.int .i64 0))], .p (.v (.int .i64 0))]
def kn2 : Known := (47, ka2, kr2) :: kn1
theorem kn2_ok : KnownOk Tryz.prog kn2 := known_cons (m := 100000) (n := 100) cx_ok (by kernel_rfl) kn1_ok (by kernel_rfl) (by kernel_rfl) (by kernel_rfl)
def ka3 : List AV := [.p (.v (.string ⟨#[118, 97, 108, 117, 101, 115]⟩))]
def kr3 : AV := .tup [.agg [.p (.v (.int .i64 1)), .p (.v (.string ⟨#[86, 65, 76, 85, 69, 83]⟩)), .p (.v (.int .i64 0))], .p (.v (.int .i64 0))]
def kn3 : Known := (47, ka3, kr3) :: kn2
theorem kn3_ok : KnownOk Tryz.prog kn3 := known_cons (m := 100000) (n := 100) cx_ok (by kernel_rfl) kn2_ok (by kernel_rfl) (by kernel_rfl) (by kernel_rfl)
def ka4 : List AV := [.p (.v (.string ⟨#[110, 117, 108, 108]⟩))]
def kr4 : AV := .tup [.agg [.p (.v (.int .i64 1)), .p (.v (.string ⟨#[78, 85, 76, 76]⟩)), .p (.v (.int .i64 0))], .p (.v (.int .i64 0))]
def kn4 : Known := (47, ka4, kr4) :: kn3
theorem kn4_ok : KnownOk Tryz.prog kn4 := known_cons (m := 100000) (n := 100) cx_ok (by kernel_rfl) kn3_ok (by kernel_rfl) (by kernel_rfl) (by kernel_rfl)
def ka5 : List AV := [.p (.v (.string ⟨#[117, 112, 100, 97, 116, 101]⟩))]
def kr5 : AV := .tup [.agg [.p (.v (.int .i64 1)), .p (.v (.string ⟨#[85, 80, 68, 65, 84, 69]⟩)), .p (.v (.int .i64 0))], .p (.v (.int .i64 0))]
def kn5 : Known := (47, ka5, kr5) :: kn4
theorem kn5_ok : KnownOk Tryz.prog kn5 := known_cons (m := 100000) (n := 100) cx_ok (by kernel_rfl) kn4_ok (by kernel_rfl) (by kernel_rfl) (by kernel_rfl)
def ka6 : List AV := [.p (.v (.string ⟨#[115, 101, 116]⟩))]
def kr6 : AV := .tup [.agg [.p (.v (.int .i64 1)), .p (.v (.string ⟨#[83, 69, 84]⟩)), .p (.v (.int .i64 0))], .p (.v (.int .i64 0))]
def kn6 : Known := (47, ka6, kr6) :: kn5
theorem kn6_ok : KnownOk Tryz.prog kn6 := known_cons (m := 100000) (n := 100) cx_ok (by kernel_rfl) kn5_ok (by kernel_rfl) (by kernel_rfl) (by kernel_rfl)
def ka7 : List AV := [.p (.v (.string ⟨#[97]⟩))]
def kr7 : AV := .tup [.agg [.p (.v (.int .i64 2)), .p (.v (.string ⟨#[97]⟩)), .p (.v (.int .i64 0))], .p (.v (.int .i64 0))]
def kn7 : Known := (47, ka7, kr7) :: kn6
theorem kn7_ok : KnownOk Tryz.prog kn7 := known_cons (m := 100000) (n := 100) cx_ok (by kernel_rfl) kn6_ok (by kernel_rfl) (by kernel_rfl) (by kernel_rfl)
def ka8 : List AV := [.p (.v (.string ⟨#[119, 104, 101, 114, 101]⟩))]
def kr8 : AV := .tup [.agg [.p (.v (.int .i64 1)), .p (.v (.string ⟨#[87, 72, 69, 82, 69]⟩)), .p (.v (.int .i64 0))], .p (.v (.int .i64 0))]
def kn8 : Known := (47, ka8, kr8) :: kn7
theorem kn8_ok : KnownOk Tryz.prog kn8 := known_cons (m := 100000) (n := 100) cx_ok (by kernel_rfl) kn7_ok (by kernel_rfl) (by kernel_rfl) (by kernel_rfl)
def ka9 : List AV := [.p (.v (.string ⟨#[105, 110, 115, 101, 114, 116, 32, 105, 110, 116, 111, 32, 116, 32, 118, 97, 108, 117, 101, 115, 32, 40, 49, 32, 43, 32, 49, 44, 32, 110, 117, 108, 108, 41]⟩))]
def kr9 : AV := .tup [.p (.sl 3 [[.v (.int .i64 1), .v (.string ⟨#[73, 78, 83, 69, 82, 84]⟩), .v (.int .i64 0)], [.v (.int .i64 1), .v (.string ⟨#[73, 78, 84, 79]⟩), .v (.int .i64 0)], [.v (.int .i64 2), .v (.string ⟨#[116]⟩), .v (.int .i64 0)], [.v (.int .i64 1), .v (.string ⟨#[86, 65, 76, 85, 69, 83]⟩), .v (.int .i64 0)], [.v (.int .i64 5), .v (.string ⟨#[40]⟩), .v (.int .i64 0)], [.v (.int .i64 3), .v (.string ⟨#[]⟩), .v (.int .i64 1)], [.v (.int .i64 5), .v (.string ⟨#[43]⟩), .v (.int .i64 0)], [.v (.int .i64 3), .v (.string ⟨#[]⟩), .v (.int .i64 1)], [.v (.int .i64 5), .v (.string ⟨#[44]⟩), .v (.int .i64 0)], [.v (.int .i64 1), .v (.string ⟨#[78, 85, 76, 76]⟩), .v (.int .i64 0)], [.v (.int .i64 5), .v (.string ⟨#[41]⟩), .v (.int .i64 0)]]), .p (.v (.int .i64 0))]
def kn9 : Known := (19, ka9, kr9) :: kn8
theorem kn9_ok : KnownOk Tryz.prog kn9 := known_cons (m := 100000) (n := 100) cx_ok (by kernel_rfl) kn8_ok (by kernel_rfl) (by kernel_rfl) (by kernel_rfl)
def ka10 : List AV := [.p (.v (.string ⟨#[117, 112, 100, 97, 116, 101, 32, 116, 32, 115, 101, 116, 32, 97, 32, 61, 32, 97, 32, 43, 32, 49, 32, 119, 104, 101, 114, 101, 32, 97, 32, 61, 32, 50]⟩))]
def kr10 : AV := .tup [.p (.sl 3 [[.v (.int .i64 1), .v (.string ⟨#[85, 80, 68, 65, 84, 69]⟩), .v (.int .i64 0)], [.v (.int .i64 2), .v (.string ⟨#[116]⟩), .v (.int .i64 0)], [.v (.int .i64 1), .v (.string ⟨#[83, 69, 84]⟩), .v (.int .i64 0)], [.v (.int .i64 2), .v (.string ⟨#[97]⟩), .v (.int .i64 0)], [.v (.int .i64 5), .v (.string ⟨#[61]⟩), .v (.int .i64 0)], [.v (.int .i64 2), .v (.string ⟨#[97]⟩), .v (.int .i64 0)], [.v (.int .i64 5), .v (.string ⟨#[43]⟩), .v (.int .i64 0)], [.v (.int .i64 3), .v (.string ⟨#[]⟩), .v (.int .i64 1)], [.v (.int .i64 1), .v (.string ⟨#[87, 72, 69, 82, 69]⟩), .v (.int .i64 0)], [.v (.int .i64 2), .v (.string ⟨#[97]⟩), .v (.int .i64 0)], [.v (.int .i64 5), .v (.string ⟨#[61]⟩), .v (.int .i64 0)], [.v (.int .i64 3), .v (.string ⟨#[]⟩), .v (.int .i64 2)]]), .p (.v (.int .i64 0))]
def kn10 : Known := (19, ka10, kr10) :: kn9
theorem kn10_ok : KnownOk Tryz.prog kn10 := known_cons (m := 100000) (n := 100) cx_ok (by kernel_rfl) kn9_ok (by kernel_rfl) (by kernel_rfl) (by kernel_rfl)
def ka11 : List AV := [.p (.v (.string ⟨#[105, 110, 115, 101, 114, 116, 32, 105, 110, 116, 111, 32, 116, 32, 118, 97, 108, 117, 101, 115, 32, 40, 49, 32, 43, 32, 49, 44, 32, 110, 117, 108, 108, 41]⟩))]
def kr11 : AV := .tup [.agg [.p (.v (.int .i64 3)), .p (.v (.string ⟨#[116]⟩)), .p (.v (.string ⟨#[]⟩)), .p (.v (.slice none 0 0)), .p (.v (.slice none 0 0)), .p (.sl 1 [[.sl 8 [[.v (.int .i64 5), .v (.int .i64 0), .v (.int .i64 0), .v (.string ⟨#[]⟩), .v (.string ⟨#[]⟩), .v (.string ⟨#[]⟩), .v (.int .i64 0), .sl 8 [[.v (.int .i64 1), .v (.int .i64 1), .v (.int .i64 1), .v (.string ⟨#[]⟩), .v (.string ⟨#[]⟩), .v (.string ⟨#[]⟩), .v (.int .i64 0), .v (.slice none 0 0)], [.v (.int .i64 1), .v (.int .i64 1), .v (.int .i64 1), .v (.string ⟨#[]⟩), .v (.string ⟨#[]⟩), .v (.string ⟨#[]⟩), .v (.int .i64 0), .v (.slice none 0 0)]]], [.v (.int .i64 1), .v (.int .i64 0), .v (.int .i64 0), .v (.string ⟨#[]⟩), .v (.string ⟨#[]⟩), .v (.string ⟨#[]⟩), .v (.int .i64 0), .v (.slice none 0 0)]]]]), .p (.v (.slice none 0 0)), .p (.v (.slice none 0 0)), .p (.v (.slice none 0 0)), .p (.v (.slice none 0 0)), .p (.v (.slice none 0 0)), .p (.v (.int .i64 (-1))), .p (.v (.slice none 0 0)), .p (.v (.bool false))], .p (.v (.int .i64 0))]
def kn11 : Known := (7, ka11, kr11) :: kn10
theorem kn11_ok : KnownOk Tryz.prog kn11 := known_cons (m := 100000) (n := 100) cx_ok (by kernel_rfl) kn10_ok (by kernel_rfl) (by kernel_rfl) (by kernel_rfl)
def ka12 : List AV := [.p (.v (.string ⟨#[117, 112, 100, 97, 116, 101, 32, 116, 32, 115, 101, 116, 32, 97, 32, 61, 32, 97, 32, 43, 32, 49, 32, 119, 104, 101, 114, 101, 32, 97, 32, 61, 32, 50]⟩))]
def kr12 : AV := .tup [.agg [.p (.v (.int .i64 5)), .p (.v (.string ⟨#[116]⟩)), .p (.v (.string ⟨#[]⟩)), .p (.v (.slice none 0 0)), .p (.sl 1 [[.v (.string ⟨#[97]⟩)]]), .p (.v (.slice none 0 0)), .p (.v (.slice none 0 0)), .p (.v (.slice none 0 0)), .p (.sl 8 [[.v (.int .i64 10), .v (.int .i64 0), .v (.int .i64 0), .v (.string ⟨#[]⟩), .v (.string ⟨#[]⟩), .v (.string ⟨#[]⟩), .v (.int .i64 0), .sl 8 [[.v (.int .i64 2), .v (.int .i64 0), .v (.int .i64 0), .v (.string ⟨#[]⟩), .v (.string ⟨#[]⟩), .v (.string ⟨#[97]⟩), .v (.int .i64 0), .v (.slice none 0 0)], [.v (.int .i64 1), .v (.int .i64 1), .v (.int .i64 2), .v (.string ⟨#[]⟩), .v (.string ⟨#[]⟩), .v (.string ⟨#[]⟩), .v (.int .i64 0), .v (.slice none 0 0)]]]]), .p (.v (.slice none 0 0)), .p (.v (.slice none 0 0)), .p (.v (.int .i64 (-1))), .p (.sl 8 [[.v (.int .i64 5), .v (.int .i64 0), .v (.int .i64 0), .v (.string ⟨#[]⟩), .v (.string ⟨#[]⟩), .v (.string ⟨#[]⟩), .v (.int .i64 0), .sl 8 [[.v (.int .i64 2), .v (.int .i64 0), .v (.int .i64 0), .v (.string ⟨#[]⟩), .v (.string ⟨#[]⟩), .v (.string ⟨#[97]⟩), .v (.int .i64 0), .v (.slice none 0 0)], [.v (.int .i64 1), .v (.int .i64 1), .v (.int .i64 1), .v (.string ⟨#[]⟩), .v (.string ⟨#[]⟩), .v (.string ⟨#[]⟩), .v (.int .i64 0), .v (.slice none 0 0)]]]]), .p (.v (.bool false))], .p (.v (.int .i64 0))]
def kn12 : Known := (7, ka12, kr12) :: kn11
theorem kn12_ok : KnownOk Tryz.prog kn12 := known_cons (m := 100000) (n := 100) cx_ok (by kernel_rfl) kn11_ok (by kernel_rfl) (by kernel_rfl) (by kernel_rfl)
end Go.Proofs.YtcnkmandddfdmaaGreatDoor
namespace Go.Proofs.YtcnkmandddfdmaaGreatDoor
open Go.RowKit
mutual
def nleP : PV → PV → Prop
 | .v a, .v b => a = b
 | .v a, .sl _ ls => a = .slice none 0 0 ∧ ls = []
 | .sl e ls, .sl e' ls' => e = e' ∧ nleR ls ls'
 | .sl _ _, .v _ => False
def nleR : List (List PV) → List (List PV) → Prop
 | [], [] => True
 | c :: ls, c' :: ls' => nleQ c c' ∧ nleR ls ls'
 | _, _ => False
def nleQ : List PV → List PV → Prop
 | [], [] => True
 | x :: c, y :: c' => nleP x y ∧ nleQ c c'
 | _, _ => False
end
theorem nleR_len : ∀ {l m : List (List PV)}, nleR l m → l.length = m.length
 | [], [], _ => rfl
 | _ :: l, _ :: m, h => by simp only [nleR] at h; simp [nleR_len h.2]
 | [], _ :: _, h => by simp [nleR] at h
 | _ :: _, [], h => by simp [nleR] at h
theorem nleQ_len : ∀ {l m : List PV}, nleQ l m → l.length = m.length
 | [], [], _ => rfl
 | _ :: l, _ :: m, h => by simp only [nleQ] at h; simp [nleQ_len h.2]
 | [], _ :: _, h => by simp [nleQ] at h
 | _ :: _, [], h => by simp [nleQ] at h
mutual
theorem nleP.rep {w : World} {I : Nat → Nat → Prop} : ∀ {x y : PV} {u : Value}, nleP x y → PRep w I x u → PRep w I y u
 | .v a, .v b, u, h, hx => by simp only [nleP] at h; subst h; exact hx
 | .v a, .sl e ls, u, h, hx => by
   simp only [nleP] at h
   obtain ⟨rfl, rfl⟩ := h
   simp only [PRep] at hx ⊢
   exact .inl ⟨trivial, none, 0, hx.2, fun _ => rfl⟩
 | .sl e ls, .sl e' ls', u, h, hx => by
   simp only [nleP] at h
   obtain ⟨rfl, h⟩ := h
   have hl := nleR_len h
   simp only [PRep] at hx ⊢
   rcases hx with ⟨h0, h1⟩ | ⟨b, off, cap, h1, h2, h3⟩
   ·subst h0
    refine .inl ⟨?_, h1⟩
    cases ls' with
    | nil => rfl
    | cons c l => simp at hl
   ·exact .inr ⟨b, off, cap, by rw [← hl]; exact h1, by omega, nleR.rep h h3⟩
 | .sl _ _, .v _, u, h, hx => by simp [nleP] at h
theorem nleR.rep {w : World} {I : Nat → Nat → Prop} {b : Nat} : ∀ {l m : List (List PV)} {off e : Nat}, nleR l m → PRepR w I b off e l → PRepR w I b off e m
 | [], [], off, e, _, hx => hx
 | c :: l, c' :: m, off, e, h, hx => by
   simp only [nleR] at h
   simp only [PRepR] at hx ⊢
   exact ⟨by rw [← nleQ_len h.1]; exact hx.1, nleQ.rep h.1 hx.2.1, nleR.rep h.2 hx.2.2⟩
 | [], _ :: _, _, _, h, _ => by simp [nleR] at h
 | _ :: _, [], _, _, h, _ => by simp [nleR] at h
theorem nleQ.rep {w : World} {I : Nat → Nat → Prop} {b : Nat} : ∀ {l m : List PV} {off : Nat}, nleQ l m → PRepC w I b off l → PRepC w I b off m
 | [], [], off, _, hx => hx
 | x :: l, y :: m, off, h, hx => by
   simp only [nleQ] at h
   simp only [PRepC] at hx ⊢
   obtain ⟨⟨u, h1, h2, h3⟩, h4⟩ := hx
   exact ⟨⟨u, h1, h2, nleP.rep h.1 h3⟩, nleQ.rep h.2 h4⟩
 | [], _ :: _, _, h, _ => by simp [nleQ] at h
 | _ :: _, [], _, h, _ => by simp [nleQ] at h
end
theorem nleQ.args {M : View} : ∀ {l m : List PV} {us : List Value}, nleQ l m → ARepL M (l.map .p) us → ARepL M (m.map .p) us
 | [], [], us, _, hx => hx
 | x :: l, y :: m, us, h, hx => by
   simp only [nleQ] at h
   simp only [List.map_cons, ARepL] at hx ⊢
   obtain ⟨u, us', rfl, h1, h2⟩ := hx
   refine ⟨u, us', rfl, ?_, nleQ.args h.2 h2⟩
   simp only [ARep] at h1 ⊢
   exact nleP.rep h.1 h1
 | [], _ :: _, _, h, _ => by simp [nleQ] at h
 | _ :: _, [], _, h, _ => by simp [nleQ] at h
theorem all_leafP : ∀ m : List PV, (m.map AV.p).all leaf = true
 | [] => rfl
 | x :: m => by simp [leaf]
theorem ACalls.aggP {P : Program} {f : FuncId} {l m : List PV} {rest : List AV} {σ : St} {R : AV → St → Prop} (h : nleQ l m) (hc : ACalls P f (.agg (m.map .p) :: rest) σ R) : ACalls P f (.agg (l.map .p) :: rest) σ R :=
 ⟨hc.1, fun M vs hM hv => hc.2 M vs hM (by
  simp only [ARepL, ARep] at hv ⊢
  obtain ⟨u, us', rfl, ⟨_, us, rfl, h2⟩, h3⟩ := hv
  exact ⟨_, us', rfl, ⟨all_leafP m, us, rfl, nleQ.args h h2⟩, h3⟩)⟩
end Go.Proofs.YtcnkmandddfdmaaGreatDoor
namespace Go.Proofs.YtcnkmandddfdmaaGreatDoor
open Go.RowKit
def pl4_6Ak : Plan := (.det 0 (.det 1 (.det 2 (.det 3 (.det 4 (.det 5 (.det 6 (.det 7 (.det 9 (.fin 8 (.fin 10 (.fin 11 (.fin 12 (.det 13 (.det 14 (.det 15 (.det 16 (.det 17 (.det 18 (.det 19 (.det 20 (.det 21 (.det 22 (.det 23 (.det 24 (.det 25 (.det 26 (.det 27 (.det 28 (.det 29 (.det 30 (.det 31 (.det 32 (.det 33 (.act 34 (.det 35 (.det 36 (.det 37 .done))))))))))))))))))))))))))))))))))))))
def tAk := aa wX <| aa wbu <| aa T2 <| aa T3 <| aa T9 <| aa T22 <| aa T24 <| aa T25 <| aa T36 <| aa T39 <| aa T41 <| aa T44 <| aa T45 <| aa T52 T58
def one1 : Ex := .mk 1 1 1 emp emp emp 0 []
def colE (b : ByteArray) : Ex := .mk 2 0 0 emp emp b 0 []
def stI : Sm := { kind := 3, tb := ⟨#[116]⟩, nm := emp, cols := [], names := [], rows := [[.mk 5 0 0 emp emp emp 0 [one1, one1], .mk 1 0 0 emp emp emp 0 []]], items := [], src := [], wh := [], group := [], order := [], limit := -1, sets := [], hash := false }
def stU : Sm := { kind := 5, tb := ⟨#[116]⟩, nm := emp, cols := [], names := [⟨#[97]⟩], rows := [], items := [], src := [], wh := [.mk 10 0 0 emp emp emp 0 [colE ⟨#[97]⟩, .mk 1 1 2 emp emp emp 0 []]], group := [], order := [], limit := -1, sets := [.mk 5 0 0 emp emp emp 0 [colE ⟨#[97]⟩, one1]], hash := false }
def coI : List Tc := [(⟨#[97]⟩, 1, true, false), (⟨#[98]⟩, 3, false, false)]
theorem insI : insS stI coI = ([[(1, 2, emp), (0, 0, emp)]], 0) := by kernel_rfl
theorem updU : updS stU ⟨#[116]⟩ coI [[(1, 2, emp), (0, 0, emp)]] = ([([(1, 2, emp), (0, 0, emp)], some [(1, 3, emp), (0, 0, emp)])], 0) := by kernel_rfl
theorem frzL_mapP : ∀ l : List PV, frzL (l.map AV.p) = l.map AV.p
 | [] => rfl
 | x :: l => by simp only [List.map_cons, frzL, frzA, frzL_mapP l]
def kl11 : List PV := [.v (.int .i64 3), .v (.string ⟨#[116]⟩), .v (.string ⟨#[]⟩), .v (.slice none 0 0), .v (.slice none 0 0), .sl 1 [[.sl 8 [[.v (.int .i64 5), .v (.int .i64 0), .v (.int .i64 0), .v (.string ⟨#[]⟩), .v (.string ⟨#[]⟩), .v (.string ⟨#[]⟩), .v (.int .i64 0), .sl 8 [[.v (.int .i64 1), .v (.int .i64 1), .v (.int .i64 1), .v (.string ⟨#[]⟩), .v (.string ⟨#[]⟩), .v (.string ⟨#[]⟩), .v (.int .i64 0), .v (.slice none 0 0)], [.v (.int .i64 1), .v (.int .i64 1), .v (.int .i64 1), .v (.string ⟨#[]⟩), .v (.string ⟨#[]⟩), .v (.string ⟨#[]⟩), .v (.int .i64 0), .v (.slice none 0 0)]]], [.v (.int .i64 1), .v (.int .i64 0), .v (.int .i64 0), .v (.string ⟨#[]⟩), .v (.string ⟨#[]⟩), .v (.string ⟨#[]⟩), .v (.int .i64 0), .v (.slice none 0 0)]]]], .v (.slice none 0 0), .v (.slice none 0 0), .v (.slice none 0 0), .v (.slice none 0 0), .v (.slice none 0 0), .v (.int .i64 (-1)), .v (.slice none 0 0), .v (.bool false)]
def kl12 : List PV := [.v (.int .i64 5), .v (.string ⟨#[116]⟩), .v (.string ⟨#[]⟩), .v (.slice none 0 0), .sl 1 [[.v (.string ⟨#[97]⟩)]], .v (.slice none 0 0), .v (.slice none 0 0), .v (.slice none 0 0), .sl 8 [[.v (.int .i64 10), .v (.int .i64 0), .v (.int .i64 0), .v (.string ⟨#[]⟩), .v (.string ⟨#[]⟩), .v (.string ⟨#[]⟩), .v (.int .i64 0), .sl 8 [[.v (.int .i64 2), .v (.int .i64 0), .v (.int .i64 0), .v (.string ⟨#[]⟩), .v (.string ⟨#[]⟩), .v (.string ⟨#[97]⟩), .v (.int .i64 0), .v (.slice none 0 0)], [.v (.int .i64 1), .v (.int .i64 1), .v (.int .i64 2), .v (.string ⟨#[]⟩), .v (.string ⟨#[]⟩), .v (.string ⟨#[]⟩), .v (.int .i64 0), .v (.slice none 0 0)]]]], .v (.slice none 0 0), .v (.slice none 0 0), .v (.int .i64 (-1)), .sl 8 [[.v (.int .i64 5), .v (.int .i64 0), .v (.int .i64 0), .v (.string ⟨#[]⟩), .v (.string ⟨#[]⟩), .v (.string ⟨#[]⟩), .v (.int .i64 0), .sl 8 [[.v (.int .i64 2), .v (.int .i64 0), .v (.int .i64 0), .v (.string ⟨#[]⟩), .v (.string ⟨#[]⟩), .v (.string ⟨#[97]⟩), .v (.int .i64 0), .v (.slice none 0 0)], [.v (.int .i64 1), .v (.int .i64 1), .v (.int .i64 1), .v (.string ⟨#[]⟩), .v (.string ⟨#[]⟩), .v (.string ⟨#[]⟩), .v (.int .i64 0), .v (.slice none 0 0)]]]], .v (.bool false)]
theorem kl11_len : kl11.length = 14 := rfl
theorem kl12_len : kl12.length = 14 := rfl
theorem kn11_in : (7, ka11, kr11) ∈ kn12 := List.Mem.tail _ (List.Mem.head _)
theorem kn12_in : (7, ka12, kr12) ∈ kn12 := List.Mem.head _
theorem parse11 (σ : St) : ACalls Tryz.prog 7 [.p (.v (.string ⟨#[105, 110, 115, 101, 114, 116, 32, 105, 110, 116, 111, 32, 116, 32, 118, 97, 108, 117, 101, 115, 32, 40, 49, 32, 43, 32, 49, 44, 32, 110, 117, 108, 108, 41]⟩))] σ fun r s => s = σ ∧ r = .tup [.agg (kl11.map .p), intV .i64 0] :=
 (kn12_ok _ kn11_in σ).mono fun r s h => ⟨h.2, h.1.trans rfl⟩
theorem parse12 (σ : St) : ACalls Tryz.prog 7 [.p (.v (.string ⟨#[117, 112, 100, 97, 116, 101, 32, 116, 32, 115, 101, 116, 32, 97, 32, 61, 32, 97, 32, 43, 32, 49, 32, 119, 104, 101, 114, 101, 32, 97, 32, 61, 32, 50]⟩))] σ fun r s => s = σ ∧ r = .tup [.agg (kl12.map .p), intV .i64 0] :=
 (kn12_ok _ kn12_in σ).mono fun r s h => ⟨h.2, h.1.trans rfl⟩
theorem kl11_le : nleQ kl11 (smC stI) := by simp [nleQ, nleP, nleR, kl11, smC, stI, exC, exL, enS, enR, nilSl, emp, one1]
theorem kl12_le : nleQ kl12 (smC stU) := by simp [nleQ, nleP, nleR, kl12, smC, stU, exC, exL, enS, enR, nilSl, emp, one1, colE]
theorem ins11 (σ : St) : ACalls Tryz.prog 8 [.agg (kl11.map .p), tbA ⟨#[116]⟩ coI] σ fun r s => s = σ ∧ r = .tup [.p (.sl 1 (enVV [[(1, 2, emp), (0, 0, emp)]])), intV .i64 0] := by
 have h := ains stI (by decide) (by decide) (by simp [stI]) ⟨#[116]⟩ coI (by decide) σ
 rw [insI] at h
 exact ACalls.aggP kl11_le h
theorem upd12 (σ : St) : ACalls Tryz.prog 10 [.agg (kl12.map .p), tbA ⟨#[116]⟩ coI, .p (.sl 1 (enVV [[(1, 2, emp), (0, 0, emp)]]))] σ fun r s => s = σ ∧ r = .tup [.p (.sl 3 [[.v (.string ⟨#[116]⟩), .sl 3 (enV [(1, 2, emp), (0, 0, emp)]), .sl 3 [[.v (.int .i64 1), .v (.int .i64 3), .v (.string emp)], [.v (.int .i64 0), .v (.int .i64 0), .v (.string emp)]]]]), intV .i64 0] := by
 have h := aupd stU (fun _ => rfl) (by decide) (by decide) ⟨#[116]⟩ coI (by decide) [[(1, 2, emp), (0, 0, emp)]] ⟨by decide, by simp⟩ (by decide) (by simp [coI]) σ
 rw [updU] at h
 exact (ACalls.aggP kl12_le h).mono fun r s h => ⟨h.1, h.2.trans rfl⟩
theorem anum (n : Int) (σ : St) : ACalls Tryz.prog 12 [.p (.v (.int .i64 n))] σ fun r s => s = σ ∧ r = vaA (1, n, emp) := by
 refine ACalls.pureF (R := fun r => r = vaA (1, n, emp)) ?_ rfl σ
 refine acalls_of cx_ok dr_ok Tryz.func12 (by kernel_rfl) rfl (nt := 4) (rs := [.cell 2 41]) rfl rfl ?_
 simp only [vaA, vaC, emp, List.map_cons, List.map_nil]
 repeat' first | ((with_reducible first | refine cs ?_ ?_ | refine ws ?_ ?_) <;> intro h <;> try simp only [h]) | simp only [↓wBA, tAk, convA, seval]
 all_goals refine ret_is (a := _) ?_ rfl rfl
 all_goals simp only [↓wBA, tAk, convA, seval]
 all_goals simp_all [wS]
theorem aawake (σ : St) : ACalls Tryz.prog 4 [] σ fun r s => s = σ ∧ r = boolV true := by
 refine ACalls.pureF (R := fun r => r = boolV true) ?_ rfl σ
 have hS := asameVV [[(1, 2, emp), (0, 0, emp)]] [[(1, 2, emp), (0, 0, emp)]] (by decide) (by decide) (by simp) (by simp)
 have hsv : sameVV [[(1, 2, emp), (0, 0, emp)]] [[(1, 2, emp), (0, 0, emp)]] = true := by kernel_rfl
 rw [hsv] at hS
 have hn2 := anum 2
 have hn3 := anum 3
 simp only [vaA, vaC, List.map_cons, List.map_nil] at hn2 hn3
 have h11 : (((0 + 1 : Nat) : Int) == 1) = true := rfl
 refine acalls_of cx_ok dr_ok Tryz.func4 (by kernel_rfl) rfl (nt := 72) (rs := [.tmp 0]) rfl rfl ?_
 repeat' first | ((with_reducible first | refine cs ?_ ?_ | refine ws ?_ ?_ | refine wd ?_ ?_ | refine wu ?_ ?_) <;> intro h <;> try simp only [h]) | simp only [↓wBA, tAk, convA, seval, pl4_6Ak, List.length_map, kl11_len, kl12_len, enVV_len, List.length_cons, List.length_nil, beq_self_eq_true, h11] | ((with_reducible show ACalls _ _ _ _ _); first | refine (parse11 _).eq ?_ | refine (parse12 _).eq ?_ | (refine ACalls.frzArgs ?_; simp only [frzL, frzA, frzL_mapP]; refine (ins11 _).eq ?_) | (refine ACalls.frzArgs ?_; simp only [frzL, frzA, frzL_mapP]; refine (upd12 _).eq ?_) | refine (hn2 _).eq ?_ | refine (hn3 _).eq ?_ | (refine ACalls.frzArgs ?_; simp only [frzL, frzA]; refine (hS _).eq ?_)) | (with_reducible refine dP pl4_6Ak 38 (some 35) (by decide) (by kernel_rfl) ?_)
 all_goals refine ret_is (a := _) ?_ rfl rfl
 all_goals simp only [↓wBA, tAk, convA, seval]
 all_goals simp_all [wS]
end Go.Proofs.YtcnkmandddfdmaaGreatDoor
