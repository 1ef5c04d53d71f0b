/- Heaps: at, Get, Set, Drop. Heaps: Scan. -/
import Derived.Test.YtlddiphjpmlhbaaM40
set_option linter.unusedSimpArgs false
set_option linter.unusedVariables false
set_option linter.defProp false
set_option maxRecDepth 100000
set_option maxHeartbeats 32000000
namespace Go.Proofs.Ytlddiphjpmlhbaa
open Go.RowKit
def tHj := aa wX <| aa wbu <| aa T3 <| aa T4 <| aa T23 <| aa T26 <| aa T31 <| aa T37 T86
section
variable {σ : St} {b p dd l kh n k nx : Nat} {U : Nat → Prop} {P : PoolV} {v : Nat → List UInt8} {ss : List (Option (List UInt8))} {r : List UInt8}
theorem ahat (h : Bt σ b p dd l kh U P v) (hn : n < P.pages) (hp : HPg (v n) nx ss) (hb : Bud P 1) (hg : getL (v n) (k : Nat) = some r) (hk1 : 1 ≤ k) :
 ACalls Try.prog 34 [.mp b 2 0 0, .agg [intV .i64 (n : Nat), intV .i64 (k : Nat)]] σ fun q σ' => q = .tup [pageA (v n), .p (recP (some r)), intV .i64 0] ∧ ∃ U' P', Fr σ σ' U U' ∧ Bt σ' b p dd l kh U' P' v ∧ Kp P P' 0 := by
 have hl := hp.len.1
 have hpc := pageC_512 hl
 have z5 := pageC_512 len_zero512
 have hlt := h.lt
 have hnz : ((k : Int) == 0) = false := by simp; omega
 refine acalls_of cx_ok dr_ok Try.func34 (by kernel_rfl) rfl (nt := 42) (rs := [.cell 4 86, .tmp 5, .tmp 6]) rfl rfl ?_
 repeat' first | ((with_reducible first | refine cs ?_ ?_ | refine ws ?_ ?_) <;> intro h <;> try simp only [h]) | simp only [↓wBA, tHj, convA, seval, wH, zl512, zB_512, len_zero512, z5]
 obtain ⟨S0, hS0⟩ : ∃ S0, S0 = σ ++ [some (Ob.row 2 [[AV.p (.v (.int .i64 (n : Nat))), AV.p (.v (.int .i64 (k : Nat)))]])] ++ [some (Ob.row 512 [pageC zero512])] := ⟨_, rfl⟩
 have aS : Ap σ S0 := by rw [hS0]; exact (Ap.app _ _).more _
 have hb0 : S0[σ.length]? = some (some (Ob.row 2 [[AV.p (.v (.int .i64 (n : Nat))), AV.p (.v (.int .i64 (k : Nat)))]])) := by rw [hS0]; simp
 have hb1 : S0[σ.length + 1]? = some (some (Ob.row 512 [pageC zero512])) := by rw [hS0]; simp
 have hl0 : S0.length = σ.length + 2 := by rw [hS0]; simp
 rw [← hS0]
 refine (ahread (h.ap aS) hn hp hb).mono ?_
 rintro _ s2 ⟨rfl, U2, P2, f2, h2, k2⟩
 have x2 := f2.get hb0 (fun e => Nat.lt_irrefl _ (hlt _ e))
 have x3 := f2.get hb1 (fun e => by have := hlt _ e; omega)
 have y2 := at_lt x2
 have y3 := at_lt x3
 have hU2 : ∀ t, t < S0.length → σ.length ≤ t → ¬ U2 t := fun t h1 h3 e => (f2.own t e).elim (fun e => by have := hlt t e; omega) fun e => by omega
 repeat' first | ((with_reducible first | refine cs ?_ ?_ | refine ws ?_ ?_) <;> intro h <;> try simp only [h]) | simp only [↓wBA, tHj, convA, seval, wH, pageA, hpc, hl, zl512, zB_512, len_zero512, z5, x2, y2, x3, y3, hg, hnz, Option.isSome_some] | ((with_reducible show ACalls _ _ _ _ _); refine (aget (v n) (k : Nat) hl _).eq ?_)
 all_goals refine ret_st ?_ (by first | exact Nat.le_refl _ | (simp only [List.length_set, List.length_append]; omega) | omega)
 all_goals simp only [resA.eq_1, resL.eq_1, resL.eq_2, resV.eq_1, resV.eq_2, ↓wBA, tHj, convA, seval, wH, pageA, hpc, x2, y2, x3, y3]
 refine ⟨U2, P2, (((Ap.fr aS).trans f2).setN (by omega) _).app _, (h2.set (hU2 _ (by omega) (by omega)) _).ap (Ap.app _ _), k2⟩
theorem ahatX (h : Bt σ b p dd l kh U P v) (hn : n < P.pages) (hp : HPg (v n) nx ss) (hb : Bud P 1) (hg : getL (v n) (k : Nat) = none) :
 ACalls Try.prog 34 [.mp b 2 0 0, .agg [intV .i64 (n : Nat), intV .i64 (k : Nat)]] σ fun q σ' => q = .tup [pageA (v n), .p (.v (.slice none 0 0)), intV .i64 1] ∧ ∃ U' P', Fr σ σ' U U' ∧ Bt σ' b p dd l kh U' P' v ∧ Kp P P' 0 := by
 have hl := hp.len.1
 have hpc := pageC_512 hl
 have z5 := pageC_512 len_zero512
 have hlt := h.lt
 refine acalls_of cx_ok dr_ok Try.func34 (by kernel_rfl) rfl (nt := 42) (rs := [.cell 4 86, .tmp 5, .tmp 6]) rfl rfl ?_
 repeat' first | ((with_reducible first | refine cs ?_ ?_ | refine ws ?_ ?_) <;> intro h <;> try simp only [h]) | simp only [↓wBA, tHj, convA, seval, wH, zl512, zB_512, len_zero512, z5]
 obtain ⟨S0, hS0⟩ : ∃ S0, S0 = σ ++ [some (Ob.row 2 [[AV.p (.v (.int .i64 (n : Nat))), AV.p (.v (.int .i64 (k : Nat)))]])] ++ [some (Ob.row 512 [pageC zero512])] := ⟨_, rfl⟩
 have aS : Ap σ S0 := by rw [hS0]; exact (Ap.app _ _).more _
 have hb0 : S0[σ.length]? = some (some (Ob.row 2 [[AV.p (.v (.int .i64 (n : Nat))), AV.p (.v (.int .i64 (k : Nat)))]])) := by rw [hS0]; simp
 have hb1 : S0[σ.length + 1]? = some (some (Ob.row 512 [pageC zero512])) := by rw [hS0]; simp
 have hl0 : S0.length = σ.length + 2 := by rw [hS0]; simp
 rw [← hS0]
 refine (ahread (h.ap aS) hn hp hb).mono ?_
 rintro _ s2 ⟨rfl, U2, P2, f2, h2, k2⟩
 have x2 := f2.get hb0 (fun e => Nat.lt_irrefl _ (hlt _ e))
 have x3 := f2.get hb1 (fun e => by have := hlt _ e; omega)
 have y2 := at_lt x2
 have y3 := at_lt x3
 have hU2 : ∀ t, t < S0.length → σ.length ≤ t → ¬ U2 t := fun t h1 h3 e => (f2.own t e).elim (fun e => by have := hlt t e; omega) fun e => by omega
 repeat' first | ((with_reducible first | refine cs ?_ ?_ | refine ws ?_ ?_) <;> intro h <;> try simp only [h]) | simp only [↓wBA, tHj, convA, seval, wH, pageA, hpc, hl, zl512, zB_512, len_zero512, z5, x2, y2, x3, y3, hg, Option.isSome_none] | ((with_reducible show ACalls _ _ _ _ _); refine (aget (v n) (k : Nat) hl _).eq ?_)
 all_goals refine ret_st ?_ (by first | exact Nat.le_refl _ | (simp only [List.length_set, List.length_append]; omega) | omega)
 all_goals simp only [resA.eq_1, resL.eq_1, resL.eq_2, resV.eq_1, resV.eq_2, ↓wBA, tHj, convA, seval, wH, pageA, hpc, x2, y2, x3, y3]
 refine ⟨U2, P2, (((Ap.fr aS).trans f2).setN (by omega) _).app _, (h2.set (hU2 _ (by omega) (by omega)) _).ap (Ap.app _ _), k2⟩
theorem ahget (h : Bt σ b p dd l kh U P v) (hn : n < P.pages) (hp : HPg (v n) nx ss) (hb : Bud P 1) (hg : getL (v n) (k : Nat) = some r) (hk1 : 1 ≤ k) :
 ACalls Try.prog 13 [.mp b 2 0 0, .agg [intV .i64 (n : Nat), intV .i64 (k : Nat)]] σ fun q σ' => q = .tup [.p (recP (some r)), intV .i64 0] ∧ ∃ U' P', Fr σ σ' U U' ∧ Bt σ' b p dd l kh U' P' v ∧ Kp P P' 0 := by
 have hl := hp.len.1
 have hpc := pageC_512 hl
 have z5 := pageC_512 len_zero512
 refine acalls_of cx_ok dr_ok Try.func13 (by kernel_rfl) rfl (nt := 16) (rs := [.tmp 4, .tmp 5]) rfl rfl ?_
 repeat' first | ((with_reducible first | refine cs ?_ ?_ | refine ws ?_ ?_) <;> intro h <;> try simp only [h]) | simp only [↓wBA, tHj, convA, seval, wH]
 have aS := Ap.app σ [some (Ob.row 2 [[AV.p (.v (.int .i64 (n : Nat))), AV.p (.v (.int .i64 (k : Nat)))]])]
 refine (ahat (h.ap aS) hn hp hb hg hk1).mono ?_
 rintro _ s2 ⟨rfl, U2, P2, f2, h2, k2⟩
 have l2 := f2.len
 simp only [List.length_append, List.length_cons, List.length_nil] at l2
 repeat' first | ((with_reducible first | refine cs ?_ ?_ | refine ws ?_ ?_) <;> intro h <;> try simp only [h]) | simp only [↓wBA, tHj, convA, seval, wH, pageA, hpc, hl, zl512, zB_512, len_zero512, z5]
 all_goals refine ret_st ?_ (by first | exact Nat.le_refl _ | (simp only [List.length_set, List.length_append]; omega) | omega)
 all_goals simp only [resA.eq_1, resL.eq_1, resL.eq_2, resV.eq_1, resV.eq_2, ↓wBA, tHj, convA, seval, wH]
 exact ⟨U2, P2, ((Ap.fr aS).trans f2).app _, h2.ap (Ap.app _ _), k2⟩
theorem ahgetX (h : Bt σ b p dd l kh U P v) (hn : n < P.pages) (hp : HPg (v n) nx ss) (hb : Bud P 1) (hg : getL (v n) (k : Nat) = none) :
 ACalls Try.prog 13 [.mp b 2 0 0, .agg [intV .i64 (n : Nat), intV .i64 (k : Nat)]] σ fun q σ' => q = .tup [.p (.v (.slice none 0 0)), intV .i64 1] ∧ ∃ U' P', Fr σ σ' U U' ∧ Bt σ' b p dd l kh U' P' v ∧ Kp P P' 0 := by
 have hl := hp.len.1
 have hpc := pageC_512 hl
 have z5 := pageC_512 len_zero512
 refine acalls_of cx_ok dr_ok Try.func13 (by kernel_rfl) rfl (nt := 16) (rs := [.tmp 4, .tmp 5]) rfl rfl ?_
 repeat' first | ((with_reducible first | refine cs ?_ ?_ | refine ws ?_ ?_) <;> intro h <;> try simp only [h]) | simp only [↓wBA, tHj, convA, seval, wH]
 have aS := Ap.app σ [some (Ob.row 2 [[AV.p (.v (.int .i64 (n : Nat))), AV.p (.v (.int .i64 (k : Nat)))]])]
 refine (ahatX (h.ap aS) hn hp hb hg).mono ?_
 rintro _ s2 ⟨rfl, U2, P2, f2, h2, k2⟩
 have l2 := f2.len
 simp only [List.length_append, List.length_cons, List.length_nil] at l2
 repeat' first | ((with_reducible first | refine cs ?_ ?_ | refine ws ?_ ?_) <;> intro h <;> try simp only [h]) | simp only [↓wBA, tHj, convA, seval, wH, pageA, hpc, hl, zl512, zB_512, len_zero512, z5]
 all_goals refine ret_st ?_ (by first | exact Nat.le_refl _ | (simp only [List.length_set, List.length_append]; omega) | omega)
 all_goals simp only [resA.eq_1, resL.eq_1, resL.eq_2, resV.eq_1, resV.eq_2, ↓wBA, tHj, convA, seval, wH]
 exact ⟨U2, P2, ((Ap.fr aS).trans f2).app _, h2.ap (Ap.app _ _), k2⟩
theorem ahset (h : Bt σ b p dd l kh U P v) (hn0 : 1 ≤ n) (hn : n < P.pages) (hp : HPg (v n) nx ss) (hb : Bud P 1) (hg : getL (v n) (k : Nat) = some r) (hk1 : 1 ≤ k) {x : PV} {r' : List UInt8} (hx : BX x r') (hrl : r'.length ≤ r.length) :
 ACalls Try.prog 12 [.mp b 2 0 0, .agg [intV .i64 (n : Nat), intV .i64 (k : Nat)], .p x] σ fun q σ' => q = intV .i64 0 ∧ ∃ U' P', Fr σ σ' U U' ∧ Bt σ' b p dd l kh U' P' (upV v n (setL (v n) (k : Nat) r').1) ∧ Kp P P' 0 := by
 have hl := hp.len.1
 have hpc := pageC_512 hl
 have z5 := pageC_512 len_zero512
 have hlt := h.lt
 obtain ⟨j, rfl⟩ : ∃ j, k = j + 1 := ⟨k - 1, by omega⟩
 have hgs : ss.getD j none = some r := by rw [← hp.at]; exact hg
 have hp' := (hp.set hgs r' hrl).2
 have hr4 := hp.le r (mem_of_getD hgs)
 have hSl := hp'.len.1
 have hSp := pageC_512 hSl
 have hla : lenA cx 23 (.p x) = some r'.length := RecA.len (σ := σ) (.inl ⟨x, rfl, hx⟩)
 have hlb : lenA cx 23 (.p (.sl 1 (encB r))) = some r.length := RecA.len (σ := σ) (.inl ⟨_, rfl, .inl rfl⟩)
 have e1 : decide ((r'.length : Int) > (r.length : Int)) = false := by simp; omega
 refine acalls_of cx_ok dr_ok Try.func12 (by kernel_rfl) rfl (nt := 35) (rs := [.tmp 6]) rfl rfl ?_
 repeat' first | ((with_reducible first | refine cs ?_ ?_ | refine ws ?_ ?_) <;> intro h <;> try simp only [h]) | simp only [↓wBA, tHj, convA, seval, wH]
 have aS := Ap.app σ [some (Ob.row 2 [[AV.p (.v (.int .i64 (n : Nat))), AV.p (.v (.int .i64 (j + 1 : Nat)))]])]
 refine (ahat (h.ap aS) hn hp hb hg hk1).mono ?_
 rintro _ s2 ⟨rfl, U2, P2, f2, h2, k2⟩
 have l2 := f2.len
 simp only [List.length_append, List.length_cons, List.length_nil] at l2
 have x2 := f2.get (t := σ.length) (x := some (.row 2 [[AV.p (.v (.int .i64 (n : Nat))), AV.p (.v (.int .i64 (j + 1 : Nat)))]])) (by simp) (fun e => Nat.lt_irrefl _ (hlt _ e))
 have y2 := at_lt x2
 repeat' first | ((with_reducible first | refine cs ?_ ?_ | refine ws ?_ ?_) <;> intro h <;> try simp only [h]) | simp only [↓wBA, tHj, convA, seval, wH, pageA, hpc, hl, zl512, zB_512, len_zero512, z5, x2, y2, recP, hla, hlb, e1, hSl, hSp] | ((with_reducible show ACalls _ _ _ _ _); refine (asetP (v n) r' (j + 1 : Nat) x hl hx (by omega) _).eq ?_)
 have a3 := Ap.app s2 [some (Ob.row 512 [pageC (setL (v n) ((j + 1 : Nat) : Int) r').1])]
 refine (abWrt (h2.ap a3) hn0 (by rw [k2.pages]; exact hn) _ hSl hp'.len.2).mono ?_
 rintro _ s5 ⟨rfl, U5, f5, h5⟩
 have l5 := f5.len
 simp only [List.length_append, List.length_cons, List.length_nil] at l5
 repeat' first | ((with_reducible first | refine cs ?_ ?_ | refine ws ?_ ?_) <;> intro h <;> try simp only [h]) | simp only [↓wBA, tHj, convA, seval, wH]
 all_goals refine ret_st ?_ (by first | exact Nat.le_refl _ | (simp only [List.length_set, List.length_append]; omega) | omega)
 all_goals simp only [resA.eq_1, resL.eq_1, resL.eq_2, resV.eq_1, resV.eq_2, ↓wBA, tHj, convA, seval, wH]
 exact ⟨U5, P2, (((Ap.fr aS).trans f2).trans (Ap.fr a3)).trans f5, h5, k2⟩
theorem ahsetL (h : Bt σ b p dd l kh U P v) (hn0 : 1 ≤ n) (hn : n < P.pages) (hp : HPg (v n) nx ss) (hb : Bud P 1) (hg : getL (v n) (k : Nat) = some r) (hk1 : 1 ≤ k) {x : PV} {r' : List UInt8} (hx : BX x r') (hrl : r.length < r'.length) :
 ACalls Try.prog 12 [.mp b 2 0 0, .agg [intV .i64 (n : Nat), intV .i64 (k : Nat)], .p x] σ fun q σ' => q = intV .i64 4 ∧ ∃ U' P', Fr σ σ' U U' ∧ Bt σ' b p dd l kh U' P' v ∧ Kp P P' 0 := by
 have hl := hp.len.1
 have hpc := pageC_512 hl
 have z5 := pageC_512 len_zero512
 have hlt := h.lt
 have hla : lenA cx 23 (.p x) = some r'.length := RecA.len (σ := σ) (.inl ⟨x, rfl, hx⟩)
 have hlb : lenA cx 23 (.p (.sl 1 (encB r))) = some r.length := RecA.len (σ := σ) (.inl ⟨_, rfl, .inl rfl⟩)
 have e1 : decide ((r'.length : Int) > (r.length : Int)) = true := by simp; omega
 refine acalls_of cx_ok dr_ok Try.func12 (by kernel_rfl) rfl (nt := 35) (rs := [.tmp 6]) rfl rfl ?_
 repeat' first | ((with_reducible first | refine cs ?_ ?_ | refine ws ?_ ?_) <;> intro h <;> try simp only [h]) | simp only [↓wBA, tHj, convA, seval, wH]
 have aS := Ap.app σ [some (Ob.row 2 [[AV.p (.v (.int .i64 (n : Nat))), AV.p (.v (.int .i64 (k : Nat)))]])]
 refine (ahat (h.ap aS) hn hp hb hg hk1).mono ?_
 rintro _ s2 ⟨rfl, U2, P2, f2, h2, k2⟩
 have l2 := f2.len
 simp only [List.length_append, List.length_cons, List.length_nil] at l2
 repeat' first | ((with_reducible first | refine cs ?_ ?_ | refine ws ?_ ?_) <;> intro h <;> try simp only [h]) | simp only [↓wBA, tHj, convA, seval, wH, pageA, hpc, hl, zl512, zB_512, len_zero512, z5, recP, hla, hlb, e1]
 all_goals refine ret_st ?_ (by first | exact Nat.le_refl _ | (simp only [List.length_set, List.length_append]; omega) | omega)
 all_goals simp only [resA.eq_1, resL.eq_1, resL.eq_2, resV.eq_1, resV.eq_2, ↓wBA, tHj, convA, seval, wH]
 exact ⟨U2, P2, ((Ap.fr aS).trans f2).app _, h2.ap (Ap.app _ _), k2⟩
theorem ahsetX (h : Bt σ b p dd l kh U P v) (hn0 : 1 ≤ n) (hn : n < P.pages) (hp : HPg (v n) nx ss) (hb : Bud P 1) (hg : getL (v n) (k : Nat) = none) {x : PV} :
 ACalls Try.prog 12 [.mp b 2 0 0, .agg [intV .i64 (n : Nat), intV .i64 (k : Nat)], .p x] σ fun q σ' => q = intV .i64 1 ∧ ∃ U' P', Fr σ σ' U U' ∧ Bt σ' b p dd l kh U' P' v ∧ Kp P P' 0 := by
 have hl := hp.len.1
 have hpc := pageC_512 hl
 have z5 := pageC_512 len_zero512
 have hlt := h.lt
 refine acalls_of cx_ok dr_ok Try.func12 (by kernel_rfl) rfl (nt := 35) (rs := [.tmp 6]) rfl rfl ?_
 repeat' first | ((with_reducible first | refine cs ?_ ?_ | refine ws ?_ ?_) <;> intro h <;> try simp only [h]) | simp only [↓wBA, tHj, convA, seval, wH]
 have aS := Ap.app σ [some (Ob.row 2 [[AV.p (.v (.int .i64 (n : Nat))), AV.p (.v (.int .i64 (k : Nat)))]])]
 refine (ahatX (h.ap aS) hn hp hb hg).mono ?_
 rintro _ s2 ⟨rfl, U2, P2, f2, h2, k2⟩
 have l2 := f2.len
 simp only [List.length_append, List.length_cons, List.length_nil] at l2
 repeat' first | ((with_reducible first | refine cs ?_ ?_ | refine ws ?_ ?_) <;> intro h <;> try simp only [h]) | simp only [↓wBA, tHj, convA, seval, wH, pageA, hpc, hl, zl512, zB_512, len_zero512, z5]
 all_goals refine ret_st ?_ (by first | exact Nat.le_refl _ | (simp only [List.length_set, List.length_append]; omega) | omega)
 all_goals simp only [resA.eq_1, resL.eq_1, resL.eq_2, resV.eq_1, resV.eq_2, ↓wBA, tHj, convA, seval, wH]
 exact ⟨U2, P2, ((Ap.fr aS).trans f2).app _, h2.ap (Ap.app _ _), k2⟩
theorem ahdrop (h : Bt σ b p dd l kh U P v) (hn0 : 1 ≤ n) (hn : n < P.pages) (hp : HPg (v n) nx ss) (hb : Bud P 1) (hg : getL (v n) (k : Nat) = some r) (hk1 : 1 ≤ k) :
 ACalls Try.prog 14 [.mp b 2 0 0, .agg [intV .i64 (n : Nat), intV .i64 (k : Nat)]] σ fun q σ' => q = intV .i64 0 ∧ ∃ U' P', Fr σ σ' U U' ∧ Bt σ' b p dd l kh U' P' (upV v n (dropL (v n) (k : Nat)).1) ∧ Kp P P' 0 := by
 have hl := hp.len.1
 have hpc := pageC_512 hl
 have z5 := pageC_512 len_zero512
 have hlt := h.lt
 obtain ⟨j, rfl⟩ : ∃ j, k = j + 1 := ⟨k - 1, by omega⟩
 have hgs : ss.getD j none = some r := by rw [← hp.at]; exact hg
 have hp' := (hp.drop hgs).2
 have hSl := hp'.len.1
 have hSp := pageC_512 hSl
 refine acalls_of cx_ok dr_ok Try.func14 (by kernel_rfl) rfl (nt := 28) (rs := [.tmp 4]) rfl rfl ?_
 repeat' first | ((with_reducible first | refine cs ?_ ?_ | refine ws ?_ ?_) <;> intro h <;> try simp only [h]) | simp only [↓wBA, tHj, convA, seval, wH]
 have aS := Ap.app σ [some (Ob.row 2 [[AV.p (.v (.int .i64 (n : Nat))), AV.p (.v (.int .i64 (j + 1 : Nat)))]])]
 refine (ahat (h.ap aS) hn hp hb hg hk1).mono ?_
 rintro _ s2 ⟨rfl, U2, P2, f2, h2, k2⟩
 have l2 := f2.len
 simp only [List.length_append, List.length_cons, List.length_nil] at l2
 have x2 := f2.get (t := σ.length) (x := some (.row 2 [[AV.p (.v (.int .i64 (n : Nat))), AV.p (.v (.int .i64 (j + 1 : Nat)))]])) (by simp) (fun e => Nat.lt_irrefl _ (hlt _ e))
 have y2 := at_lt x2
 repeat' first | ((with_reducible first | refine cs ?_ ?_ | refine ws ?_ ?_) <;> intro h <;> try simp only [h]) | simp only [↓wBA, tHj, convA, seval, wH, pageA, hpc, hl, zl512, zB_512, len_zero512, z5, x2, y2, recP, hSl, hSp] | ((with_reducible show ACalls _ _ _ _ _); refine (adropP (v n) (j + 1 : Nat) hl _).eq ?_)
 have a3 := Ap.app s2 [some (Ob.row 512 [pageC (dropL (v n) ((j + 1 : Nat) : Int)).1])]
 refine (abWrt (h2.ap a3) hn0 (by rw [k2.pages]; exact hn) _ hSl hp'.len.2).mono ?_
 rintro _ s5 ⟨rfl, U5, f5, h5⟩
 have l5 := f5.len
 simp only [List.length_append, List.length_cons, List.length_nil] at l5
 repeat' first | ((with_reducible first | refine cs ?_ ?_ | refine ws ?_ ?_) <;> intro h <;> try simp only [h]) | simp only [↓wBA, tHj, convA, seval, wH]
 all_goals refine ret_st ?_ (by first | exact Nat.le_refl _ | (simp only [List.length_set, List.length_append]; omega) | omega)
 all_goals simp only [resA.eq_1, resL.eq_1, resL.eq_2, resV.eq_1, resV.eq_2, ↓wBA, tHj, convA, seval, wH]
 exact ⟨U5, P2, (((Ap.fr aS).trans f2).trans (Ap.fr a3)).trans f5, h5, k2⟩
theorem ahdropX (h : Bt σ b p dd l kh U P v) (hn0 : 1 ≤ n) (hn : n < P.pages) (hp : HPg (v n) nx ss) (hb : Bud P 1) (hg : getL (v n) (k : Nat) = none) :
 ACalls Try.prog 14 [.mp b 2 0 0, .agg [intV .i64 (n : Nat), intV .i64 (k : Nat)]] σ fun q σ' => q = intV .i64 1 ∧ ∃ U' P', Fr σ σ' U U' ∧ Bt σ' b p dd l kh U' P' v ∧ Kp P P' 0 := by
 have hl := hp.len.1
 have hpc := pageC_512 hl
 have z5 := pageC_512 len_zero512
 have hlt := h.lt
 refine acalls_of cx_ok dr_ok Try.func14 (by kernel_rfl) rfl (nt := 28) (rs := [.tmp 4]) rfl rfl ?_
 repeat' first | ((with_reducible first | refine cs ?_ ?_ | refine ws ?_ ?_) <;> intro h <;> try simp only [h]) | simp only [↓wBA, tHj, convA, seval, wH]
 have aS := Ap.app σ [some (Ob.row 2 [[AV.p (.v (.int .i64 (n : Nat))), AV.p (.v (.int .i64 (k : Nat)))]])]
 refine (ahatX (h.ap aS) hn hp hb hg).mono ?_
 rintro _ s2 ⟨rfl, U2, P2, f2, h2, k2⟩
 have l2 := f2.len
 simp only [List.length_append, List.length_cons, List.length_nil] at l2
 repeat' first | ((with_reducible first | refine cs ?_ ?_ | refine ws ?_ ?_) <;> intro h <;> try simp only [h]) | simp only [↓wBA, tHj, convA, seval, wH, pageA, hpc, hl, zl512, zB_512, len_zero512, z5]
 all_goals refine ret_st ?_ (by first | exact Nat.le_refl _ | (simp only [List.length_set, List.length_append]; omega) | omega)
 all_goals simp only [resA.eq_1, resL.eq_1, resL.eq_2, resV.eq_1, resV.eq_2, ↓wBA, tHj, convA, seval, wH]
 exact ⟨U2, P2, ((Ap.fr aS).trans f2).app _, h2.ap (Ap.app _ _), k2⟩
end
end Go.Proofs.Ytlddiphjpmlhbaa
namespace Go.Proofs.Ytlddiphjpmlhbaa
open Go.RowKit
def tHk := aa wX <| aa wbu <| aa T3 <| aa T26 <| aa T31 <| aa T37 <| aa T46 <| aa T52 <| aa T86 T91
theorem c1y : ((1 : Nat) : Int) = 1 := nr rfl
theorem OwnR.cells {q : St} {av : AV} {E : TypeId} {e : Nat} {ls : List (List PV)} (h : OwnR q av E e ls) : cellsA av = some [av] := by
 rcases h with ⟨rfl, _⟩ | ⟨t, rfl, _⟩ <;> rfl
def entL (n : Nat) : Nat → List (Option (List UInt8)) → List (Nat × Nat × List UInt8)
 | _, [] => []
 | k, none :: ss => entL n (k + 1) ss
 | k, some r :: ss => (n, k, r) :: entL n (k + 1) ss
theorem entL_snoc (n : Nat) (x : Option (List UInt8)) : ∀ (l : List (Option (List UInt8))) (k : Nat), entL n k (l ++ [x]) = entL n k l ++ (match x with | some r => [(n, k + l.length, r)] | none => [])
 | [], k => by cases x <;> simp [entL]
 | none :: l, k => by
   simp only [List.cons_append, entL, entL_snoc n x l (k + 1), List.length_cons]
   cases x <;> simp [Nat.add_assoc, Nat.add_comm 1]
 | some r :: l, k => by
   simp only [List.cons_append, entL, entL_snoc n x l (k + 1), List.length_cons]
   cases x <;> simp [Nat.add_assoc, Nat.add_comm 1]
theorem entL_len (n : Nat) : ∀ (l : List (Option (List UInt8))) (k : Nat), (entL n k l).length ≤ l.length
 | [], _ => Nat.le_refl _
 | none :: l, k => by have := entL_len n l (k + 1); simp only [entL, List.length_cons]; omega
 | some r :: l, k => by have := entL_len n l (k + 1); simp only [entL, List.length_cons]; omega
def entR (e : Nat × Nat × List UInt8) : List PV := [.v (.int .i64 (e.1 : Nat)), .v (.int .i64 (e.2.1 : Nat)), .sl 1 (encB e.2.2)]
def entP (n : Nat) (pg : List UInt8) : List (Nat × Nat × List UInt8) := entL n 1 (slotsL pg).tail
theorem ascan1 {σ : St} {t n : Nat} {av : AV} {ls : List (List PV)} {pg : List UInt8} (hpg : pg.length = 512) (hbox : σ[t]? = some (some (.row 1 [[av]]))) (ho : OwnR σ av 52 3 ls) (hne : ownOf av ≠ some t) (hlen : ls.length ≤ 900000) :
 ACalls Try.prog 37 [intV .i64 (n : Nat), pageA pg, .mp t 1 0 0] σ fun r σ' => r = intV .i64 0 ∧ ∃ av', σ'[t]? = some (some (.row 1 [[av']])) ∧ OwnR σ' av' 52 3 (ls ++ (entP n pg).map entR) ∧ Fr σ σ' (fun q => q = t ∨ ownOf av = some q) (fun q => q = t ∨ ownOf av' = some q) ∧ ownOf av' ≠ some t := by
 have hpc := pageC_512 hpg
 have hsl := slotsL_le pg
 have hlt := at_lt hbox
 obtain ⟨ts, hts⟩ : ∃ ts, ts = (slotsL pg).tail := ⟨_, rfl⟩
 have hbig : ts.length ≤ 124 := by rw [hts, List.length_tail]; omega
 refine acalls_of cx_ok dr_ok Try.func37 (by kernel_rfl) rfl (nt := 27) (rs := [.tmp 5]) rfl rfl ?_
 repeat' first | ((with_reducible first | refine cs ?_ ?_ | refine ws ?_ ?_) <;> intro h <;> try simp only [h]) | simp only [↓wBA, tHk, convA, seval, wH, pageA, hpc]
 obtain ⟨S0, hS0⟩ : ∃ S0, S0 = σ ++ [some (Ob.row 512 [pageC pg])] := ⟨_, rfl⟩
 have aS : Ap σ S0 := ⟨_, hS0⟩
 have hb0 : S0[σ.length]? = some (some (.row 512 [pageC pg])) := by rw [hS0]; simp
 have hl0 : S0.length = σ.length + 1 := by rw [hS0]; simp
 have ho0 := ho.same (q' := S0) fun q hq => by rw [hS0, List.getElem?_append_left (ho.lt hq)]
 rw [← hS0]
 refine awp_loopS (X := { j : Nat // j ≤ ts.length }) (fun j => ts.length - j.1) (fun j => [(6, intV .i64 (j.1 + 1 : Nat))]) [7, 8, 9, 10, 11, 12, 13, 14, 15, 16, 17, 18, 19, 20, 21, 22, 23, 24, 25, 26, 27, 28, 29] (fun j s => ∃ av', s[t]? = some (some (.row 1 [[av']])) ∧ OwnR s av' 52 3 (ls ++ (entL n 1 (ts.take j.1)).map entR) ∧ Fr S0 s (fun q => q = t ∨ ownOf av = some q) (fun q => q = t ∨ ownOf av' = some q) ∧ ownOf av' ≠ some t) (⟨0, by omega⟩) ?_ ?_ ?_ ?_
 ·simp only [wHl, wHf, c1y, Nat.zero_add]
 ·exact ⟨av, aS.get hbox, by simpa [entL] using ho0, Fr.refl _ _, hne⟩
 ·rintro _ _ ⟨_, _, _, h, _⟩; exact h.len
 ·intro y J s hI
  simp only [wHl]
  obtain ⟨j, hj⟩ := y
  obtain ⟨av', hbx, how, f1, hne1⟩ := hI
  dsimp only at *
  have hbp := f1.get hb0 (fun e => e.elim (fun e => by omega) fun e => by have := ho.lt e; omega)
  have yp := at_lt hbp
  have yb := at_lt hbx
  by_cases hjl : j < ts.length
  ·have hsn : (slotsL pg).length = ts.length + 1 := by rw [hts, List.length_tail] at *; omega
   have e1 : decide (((j + 1 : Nat) : Int) < ((slotsL pg).length : Int)) = true := by simp; omega
   obtain ⟨x, hx⟩ : ∃ x, ts[j]? = some x := ⟨ts[j], by simp⟩
   have hg : getL pg ((j + 1 : Nat) : Int) = x := by
    unfold getL
    rw [if_neg (by omega), Int.toNat_natCast, List.getD_eq_getElem?_getD]
    have : (slotsL pg)[j + 1]? = some x := by rw [← hx, hts, List.getElem?_tail]
    rw [this]; rfl
   have htake : ts.take (j + 1) = ts.take j ++ [x] := by rw [List.take_add_one, hx]; rfl
   have hwj := wI (j + 1) (by omega)
   have hll := entL_len n (ts.take j) 1
   simp only [List.length_take] at hll
   cases x with
   | none =>
     repeat' first | ((with_reducible first | refine cs ?_ ?_ | refine ws ?_ ?_) <;> intro h <;> try simp only [h]) | simp only [↓wBA, tHk, convA, seval, wH, wHl, pageA, hpc, hbp, yp, e1, hg, hwj, Option.isSome_none] | ((with_reducible show ACalls _ _ _ _ _); first | refine (anslots pg hpg _).eq ?_ | refine (aget pg (j + 1 : Nat) hpg _).eq ?_)
     refine ⟨⟨j + 1, by omega⟩, by show ts.length - (j + 1) < ts.length - j; omega, ⟨av', hbx, ?_, f1, hne1⟩, by simp only [wHl, wHf]⟩
     dsimp only
     rw [htake, entL_snoc]
     simpa using how
   | some r =>
     repeat' first | ((with_reducible first | refine cs ?_ ?_ | refine ws ?_ ?_) <;> intro h <;> try simp only [h]) | simp only [↓wBA, tHk, convA, seval, wH, wHl, pageA, hpc, hbp, yp, e1, hg, hwj, Option.isSome_some, recP, hbx, yb] | ((with_reducible show ACalls _ _ _ _ _); first | refine (anslots pg hpg _).eq ?_ | refine (aget pg (j + 1 : Nat) hpg _).eq ?_)
     have hll2 : (ls ++ (entL n 1 (ts.take j)).map entR).length ≤ 900200 := by simp only [List.length_append, List.length_map]; omega
     have how1 := how.same (q' := s ++ [some (.right 52 3)]) fun q hq => List.getElem?_append_left (how.lt hq)
     obtain ⟨av2, s2, h1, h2, h3, h4, h5⟩ := app_own (q := s ++ [some (.right 52 3)]) (y := .own s.length 3 [[.v (.int .i64 (n : Nat)), .v (.int .i64 (j + 1 : Nat)), .sl 1 (encB r)]]) (m := [[.v (.int .i64 (n : Nat)), .v (.int .i64 (j + 1 : Nat)), .sl 1 (encB r)]]) ck_46 how1 rfl (by simp) (by simp only [List.length_cons, List.length_nil]; omega) (by simp only [List.length_cons, List.length_nil]; omega)
     simp only [List.length_append, List.length_cons, List.length_nil, Nat.zero_add] at h1 h3 h4 h5
     have hbx2 : s2[t]? = some (some (.row 1 [[av']])) := by rw [h4 t (by omega) hne1, List.getElem?_append_left yb]; exact hbx
     have yb2 := at_lt hbx2
     have hcl := h2.cells
     repeat' first | ((with_reducible first | refine cs ?_ ?_ | refine ws ?_ ?_) <;> intro h <;> try simp only [h]) | simp only [↓wBA, tHk, convA, seval, wH, wHl, h1, hbx2, yb2, hwj, hcl]
     have hn2 : ownOf av2 ≠ some t := fun e => (h5 t e).elim hne1 fun e => by omega
     refine ⟨⟨j + 1, by omega⟩, by show ts.length - (j + 1) < ts.length - j; omega, ⟨av2, by simp [yb2], ?_, ?_, hn2⟩, by simp only [wHl, wHf]⟩
     ·dsimp only
      rw [htake, entL_snoc]
      have he : (ls ++ List.map entR (entL n 1 (ts.take j) ++ [(n, 1 + (ts.take j).length, r)])) = (ls ++ List.map entR (entL n 1 (ts.take j))) ++ [[.v (.int .i64 (n : Nat)), .v (.int .i64 (j + 1 : Nat)), .sl 1 (encB r)]] := by
       have hjj : 1 + (ts.take j).length = j + 1 := by rw [List.length_take]; omega
       rw [hjj]; simp [entR]
      show OwnR _ av2 _ 3 (ls ++ List.map entR (entL n 1 (ts.take j) ++ [(n, 1 + (ts.take j).length, r)]))
      rw [he]
      exact h2.same fun q hq => List.getElem?_set_ne fun e => hn2 (by rw [e]; exact hq)
     ·refine ⟨by have := f1.len; simp; omega, fun q hq hnf => ?_, fun q hq => ?_⟩
      ·have hnt : t ≠ q := fun e => hnf (.inl e.symm)
       rw [List.getElem?_set_ne hnt]
       have hno : ownOf av' ≠ some q := fun e => (f1.own q (.inr e)).elim hnf fun e => by omega
       have := f1.len
       rw [h4 q (by omega) hno, List.getElem?_append_left (by omega)]
       exact f1.keep q hq hnf
      ·have := f1.len
       rcases hq with h | h
       ·exact .inl (.inl h)
       ·exact (h5 q h).elim (fun e => f1.own q (.inr e)) fun e => .inr (by omega)
  ·obtain rfl : j = ts.length := by omega
   have e1 : decide (((ts.length + 1 : Nat) : Int) < ((slotsL pg).length : Int)) = false := by
    have : (slotsL pg).length ≤ ts.length + 1 := by rw [hts, List.length_tail]; omega
    simp; omega
   repeat' first | ((with_reducible first | refine cs ?_ ?_ | refine ws ?_ ?_) <;> intro h <;> try simp only [h]) | simp only [↓wBA, tHk, convA, seval, wH, wHl, pageA, hpc, hbp, yp, e1] | ((with_reducible show ACalls _ _ _ _ _); refine (anslots pg hpg _).eq ?_)
   have l1 := f1.len
   all_goals refine ret_st ?_ (by first | exact Nat.le_refl _ | (simp only [List.length_set, List.length_append]; omega) | omega)
   all_goals simp only [resA.eq_1, resL.eq_1, resL.eq_2, resV.eq_1, resV.eq_2, ↓wBA, tHk, convA, seval, wH]
   refine ⟨av', hbx, ?_, (Ap.fr aS).trans f1, hne1⟩
   rw [List.take_length, hts] at how
   exact how
def entH (v : Nat → List UInt8) (ns : List Nat) : List (Nat × Nat × List UInt8) := ns.flatMap fun n => entP n (v n)
theorem entP_len {n : Nat} {pg : List UInt8} : (entP n pg).length ≤ 124 := by
 have h1 := entL_len n (slotsL pg).tail 1
 have h2 := slotsL_le pg
 have h3 : (slotsL pg).tail.length ≤ (slotsL pg).length := by rw [List.length_tail]; omega
 unfold entP; omega
theorem entH_len (v : Nat → List UInt8) : ∀ ns : List Nat, (entH v ns).length ≤ 124 * ns.length
 | [] => Nat.le_refl _
 | n :: ns => by
   have h1 := entH_len v ns
   have h2 := entP_len (n := n) (pg := v n)
   simp only [entH, List.flatMap_cons, List.length_append, List.length_cons] at h1 ⊢
   omega
theorem aeach {σ : St} {b p dd l kh first t : Nat} {U : Nat → Prop} {P : PoolV} {v : Nat → List UInt8} {T : Nat → Bool} {ns : List Nat} {av : AV} {ls : List (List PV)} (h : Bt σ b p dd l kh U P v) (hh : Heap v T P.pages ns) (hf : ns[0]? = some first) (hb : Bud P 1) (hbox : σ[t]? = some (some (.row 1 [[av]]))) (ho : OwnR σ av 52 3 ls) (htU : ¬ U t) (hoU : ∀ q, ownOf av = some q → ¬ U q ∧ q ≠ t) (hlen : ls.length + 124 * ns.length ≤ 900000) :
 ACalls Try.prog 36 [.mp b 2 0 0, intV .i64 (first : Nat), .fn 37 [] [.mp t 1 0 0]] σ fun r σ' => r = intV .i64 0 ∧ ∃ U' P' av', Fr σ σ' (fun q => U q ∨ q = t ∨ ownOf av = some q) (fun q => U' q ∨ q = t ∨ ownOf av' = some q) ∧ Bt σ' b p dd l kh U' P' v ∧ Kp P P' 0 ∧ σ'[t]? = some (some (.row 1 [[av']])) ∧ OwnR σ' av' 52 3 (ls ++ (entH v ns).map entR) ∧ ¬ U' t ∧ ∀ q, ownOf av' = some q → ¬ U' q ∧ q ≠ t := by
 have hnl := hh.len
 have hl0 : 0 < ns.length := by have := (List.getElem?_eq_some_iff.1 hf).1; omega
 have z5 := pageC_512 len_zero512
 refine acalls_of cx_ok dr_ok Try.func36 (by kernel_rfl) rfl (nt := 32) (rs := [.tmp 6]) rfl rfl ?_
 repeat' first | ((with_reducible first | refine cs ?_ ?_ | refine ws ?_ ?_) <;> intro h <;> try simp only [h]) | simp only [↓wBA, tHk, convA, seval, wH]
 refine awp_loopS (X := { q : Nat × Nat // q.1 < ns.length ∧ ns[q.1]? = some q.2 }) (fun q => ns.length - q.1.1) (fun q => [(7, intV .i64 (q.1.2 : Nat))]) [6, 8, 9, 10, 14, 15, 16, 17, 18, 19, 20, 21, 22, 23, 24, 25, 26, 27, 28, 29, 30, 31, 32, 33, 34] (fun q s => ∃ U' P' av', Fr σ s (fun q => U q ∨ q = t ∨ ownOf av = some q) (fun q => U' q ∨ q = t ∨ ownOf av' = some q) ∧ Bt s b p dd l kh U' P' v ∧ Kp P P' 0 ∧ s[t]? = some (some (.row 1 [[av']])) ∧ OwnR s av' 52 3 (ls ++ (entH v (ns.take q.1.1)).map entR) ∧ ¬ U' t ∧ ∀ q, ownOf av' = some q → ¬ U' q ∧ q ≠ t) (⟨(0, first), hl0, hf⟩) ?_ ?_ ?_ ?_
 ·simp only [wHl, wHf]
 ·exact ⟨U, P, av, Fr.refl _ _, h, Kp.refl P _, hbox, by simpa [entH] using ho, htU, hoU⟩
 ·rintro _ _ ⟨_, _, _, h, _⟩; exact h.len
 ·intro y J s hI
  simp only [wHl]
  obtain ⟨⟨i, n⟩, hi, hni⟩ := y
  obtain ⟨U1, P1, av1, f1, h1, k1, hbx, how, htU1, hoU1⟩ := hI
  dsimp only at *
  obtain ⟨ss, hp⟩ := hh.ch.get hni
  obtain ⟨n1, n2, n3⟩ := hh.tk n (List.mem_of_getElem? hni)
  have hpl := hp.len
  have hpc := pageC_512 hpl.1
  have yb := at_lt hbx
  repeat' first | ((with_reducible first | refine cs ?_ ?_ | refine ws ?_ ?_) <;> intro h <;> try simp only [h]) | simp only [↓wBA, tHk, convA, seval, wH, wHl]
  refine (ahread h1 (by rw [k1.pages]; exact n2) hp (hb.kp k1 (by omega))).mono ?_
  rintro _ s2 ⟨rfl, U2, P2, f2, h2, k2⟩
  have hbx2 := f2.get hbx htU1
  have how2 := how.same (q' := s2) fun q hq => f2.keep q (how.lt hq) (hoU1 q hq).1
  have htU2 : ¬ U2 t := fun e => (f2.own t e).elim htU1 fun e => by omega
  have hoU2 : ∀ q, ownOf av1 = some q → ¬ U2 q := fun q hq e => (f2.own q e).elim (hoU1 q hq).1 fun e => by have := how.lt hq; omega
  have a3 := Ap.app s2 [some (.row 512 [pageC (v n)])]
  have how3 := how2.same (q' := s2 ++ [some (.row 512 [pageC (v n)])]) fun q hq => List.getElem?_append_left (how2.lt hq)
  have hel := entH_len v (ns.take i)
  have htl : (ns.take i).length = i := by rw [List.length_take]; omega
  have hm : 124 * i ≤ 124 * ns.length := Nat.mul_le_mul_left _ (by omega)
  have hsc := ascan1 (n := n) hpl.1 (a3.get hbx2) how3 (fun e => (hoU1 t e).2 rfl) (by simp only [List.length_append, List.length_map]; rw [htl] at hel; omega)
  repeat' first | ((with_reducible first | refine cs ?_ ?_ | refine ws ?_ ?_) <;> intro h <;> try simp only [h]) | simp only [↓wBA, tHk, convA, seval, wH, wHl, pageA, hpc, hpl.1, zl512, zB_512, len_zero512, z5]
  refine hsc.mono ?_
  rintro _ s4 ⟨rfl, av4, hb4, how4, f4, hn4⟩
  have l2 := f2.len
  have l4 := f4.len
  simp only [List.length_append, List.length_cons, List.length_nil] at l4
  have h4 := (h2.ap a3).frame f4 fun q h1 h2 => h2.elim (fun e => htU2 (by rw [← e]; exact h1)) fun e => hoU2 q e h1
  have hlt2 := h2.lt
  have hoU4 : ∀ q, ownOf av4 = some q → ¬ U2 q ∧ q ≠ t := fun q hq => ⟨fun e => (f4.own q (.inr hq)).elim (fun e' => e'.elim (fun e' => htU2 (by rw [← e']; exact e)) fun e' => hoU2 q e' e) fun e' => by have := hlt2 q e; simp at e'; omega, fun e => hn4 (by rw [← e]; exact hq)⟩
  have f14 : Fr σ s4 (fun q => U q ∨ q = t ∨ ownOf av = some q) (fun q => U2 q ∨ q = t ∨ ownOf av4 = some q) := by
   refine ⟨by have := f1.len; omega, fun q hq hnf => ?_, fun q hq => ?_⟩
   ·have hnf1 : ¬ (U1 q ∨ q = t ∨ ownOf av1 = some q) := fun e => (f1.own q e).elim hnf fun e => by omega
    have := f1.len
    rw [f4.keep q (by simp; omega) (fun e => hnf1 (.inr e)), List.getElem?_append_left (by omega), f2.keep q (by omega) (fun e => hnf1 (.inl e))]
    exact f1.keep q hq hnf
   ·have := f1.len
    rcases hq with e | e | e
    ·exact (f2.own q e).elim (fun e => f1.own q (.inl e)) fun e => .inr (by omega)
    ·exact .inl (.inr (.inl e))
    ·rcases f4.own q (.inr e) with e' | e'
     ·exact f1.own q (.inr e')
     ·simp at e'; exact .inr (by omega)
  have htk : entH v (ns.take (i + 1)) = entH v (ns.take i) ++ entP n (v n) := by
   rw [List.take_add_one, hni]
   simp [entH]
  have how4' : OwnR s4 av4 52 3 (ls ++ (entH v (ns.take (i + 1))).map entR) := by
   rw [htk, List.map_append, ← List.append_assoc]; exact how4
  by_cases hnx : i + 1 < ns.length
  ·obtain ⟨n', hn'⟩ : ∃ n', ns[i + 1]? = some n' := ⟨ns[i + 1], by simp⟩
   have hn1' := (hh.tk n' (List.mem_of_getElem? hn')).1
   have hgd : (ns[i + 1]?).getD 0 = n' := by rw [hn']; rfl
   have hnz : ((n' : Int) == 0) = false := by simp; omega
   repeat' first | ((with_reducible first | refine cs ?_ ?_ | refine ws ?_ ?_) <;> intro h <;> try simp only [h]) | simp only [↓wBA, tHk, convA, seval, wH, wHl, hgd, hnz]
   exact ⟨⟨(i + 1, n'), hnx, hn'⟩, by show ns.length - (i + 1) < ns.length - i; omega, ⟨U2, P2, av4, f14, h4, k1.trans k2, hb4, how4', htU2, hoU4⟩, by simp only [wHl, wHf]⟩
  ·have hgd : (ns[i + 1]?).getD 0 = 0 := by rw [List.getElem?_eq_none (by omega)]; rfl
   repeat' first | ((with_reducible first | refine cs ?_ ?_ | refine ws ?_ ?_) <;> intro h <;> try simp only [h]) | simp only [↓wBA, tHk, convA, seval, wH, wHl, hgd]
   have l14 := f14.len
   all_goals refine ret_st ?_ (by first | exact Nat.le_refl _ | (simp only [List.length_set, List.length_append]; omega) | omega)
   all_goals simp only [resA.eq_1, resL.eq_1, resL.eq_2, resV.eq_1, resV.eq_2, ↓wBA, tHk, convA, seval, wH]
   rw [List.take_of_length_le (by omega)] at how4'
   exact ⟨U2, P2, av4, f14, h4, k1.trans k2, hb4, how4', htU2, hoU4⟩
def lsV (e : Nat) (ls : List (List PV)) : AV := if ls = [] then .p (.v (.slice none 0 0)) else .p (.sl e ls)
theorem OwnR.tup {q : St} {av x : AV} {E : TypeId} {e : Nat} {ls : List (List PV)} (h : OwnR q av E e ls) {M : View} {u : Value} (hu : ARep M (.tup [av, x]) u) : ARep M (.tup [lsV e ls, x]) u := by
 rcases h with ⟨rfl, rfl⟩ | ⟨t, rfl, hl, _⟩
 ·exact hu
 ·unfold lsV
  rw [if_neg hl]
  simp only [ARep, ARepL] at hu ⊢
  obtain ⟨us, rfl, v1, us1, rfl, h1, h2⟩ := hu
  exact ⟨_, rfl, v1, us1, rfl, own_data (by simp only [ARep]; exact h1), h2⟩
theorem ascan {σ : St} {b p dd l kh first : Nat} {U : Nat → Prop} {P : PoolV} {v : Nat → List UInt8} {T : Nat → Bool} {ns : List Nat} (h : Bt σ b p dd l kh U P v) (hh : Heap v T P.pages ns) (hf : ns[0]? = some first) (hb : Bud P 1) (hns : ns.length ≤ 7000) :
 ACalls Try.prog 15 [.mp b 2 0 0, intV .i64 (first : Nat)] σ fun r σ' => r = .tup [lsV 3 ((entH v ns).map entR), intV .i64 0] ∧ ∃ U' P', Fr σ σ' U U' ∧ Bt σ' b p dd l kh U' P' v ∧ Kp P P' 0 := by
 have hlt := h.lt
 have hc : ACalls Try.prog 15 [.mp b 2 0 0, intV .i64 (first : Nat)] σ fun r σ' => ∃ av U' P', r = .tup [av, intV .i64 0] ∧ OwnR σ' av 52 3 ((entH v ns).map entR) ∧ Fr σ σ' U U' ∧ Bt σ' b p dd l kh U' P' v ∧ Kp P P' 0 := by
  refine acalls_of cx_ok dr_ok Try.func15 (by kernel_rfl) rfl (nt := 14) (rs := [.tmp 4, .tmp 5]) rfl rfl ?_
  repeat' first | ((with_reducible first | refine cs ?_ ?_ | refine ws ?_ ?_) <;> intro h <;> try simp only [h]) | simp only [↓wBA, tHk, convA, seval, wH]
  have aS := Ap.app σ [some (Ob.row 1 [[AV.p (.v (.slice none 0 0))]])]
  have hl1 : (σ ++ [some (Ob.row 1 [[AV.p (.v (.slice none 0 0))]])]).length = σ.length + 1 := by simp
  refine (aeach (t := σ.length) (av := .p (.v (.slice none 0 0))) (ls := []) (h.ap aS) hh hf hb (by simp) (.inl ⟨rfl, rfl⟩) (fun e => Nat.lt_irrefl _ (hlt _ e)) (by simp [ownOf]) (by simp; omega)).mono ?_
  rintro _ s2 ⟨rfl, U2, P2, av2, f2, h2, k2, hb2, how2, ht2, ho2⟩
  have y2 := at_lt hb2
  have l2 := f2.len
  have hcl := how2.cells
  repeat' first | ((with_reducible first | refine cs ?_ ?_ | refine ws ?_ ?_) <;> intro h <;> try simp only [h]) | simp only [↓wBA, tHk, convA, seval, wH, hb2, y2]
  all_goals refine ret_st ?_ (by first | exact Nat.le_refl _ | (simp only [List.length_set, List.length_append]; omega) | omega)
  all_goals simp only [resA.eq_1, resL.eq_1, resL.eq_2, resV.eq_1, resV.eq_2, ↓wBA, tHk, convA, seval, wH]
  refine ⟨av2, U2, P2, rfl, how2, ⟨by omega, fun q hq hn => ?_, fun q hq => ?_⟩, h2, k2⟩
  ·rw [f2.keep q (by omega) (fun e => e.elim hn fun e => e.elim (fun e => by omega) fun e => by cases e), List.getElem?_append_left hq]
  ·exact (f2.own q (.inl hq)).elim (fun e => e.elim .inl fun e => e.elim (fun e => .inr (by omega)) fun e => by cases e) fun e => .inr (by omega)
 refine hc.ans ?_
 rintro _ s ⟨av, U2, P2, rfl, how, hf2, h2, k2⟩
 exact ⟨_, ⟨rfl, U2, P2, hf2, h2, k2⟩, fun M v => how.tup⟩
end Go.Proofs.Ytlddiphjpmlhbaa
