/- Heaps: at, Get, Set, Drop. -/
import Derived.Test.YtlddiphjpmlhbaaM44
set_option linter.unusedSimpArgs false
set_option linter.unusedVariables false
set_option linter.defProp false
set_option maxRecDepth 100000
set_option maxHeartbeats 32000000
namespace Go.Proofs.Ytlddiphjpmlhbaa
open Go.RowKit
def tHj := aa wX <| aa wbu <| aa T3 <| aa T4 <| aa T23 <| aa T26 <| aa T31 <| aa T37 T86
section
variable {σ : St} {b p dd l kh n k nx : Nat} {U : Nat → Prop} {P : PoolV} {v : Nat → List UInt8} {ss : List (Option (List UInt8))} {r : List UInt8}
theorem ahat (h : Bt σ b p dd l kh U P v) (hn : n < P.pages) (hp : HPg (v n) nx ss) (hb : Bud P 1) (hg : getL (v n) (k : Nat) = some r) (hk1 : 1 ≤ k) :
 ACalls Try.prog 34 [.mp b 2 0 0, .agg [intV .i64 (n : Nat), intV .i64 (k : Nat)]] σ fun q σ' => q = .tup [pageA (v n), .p (recP (some r)), intV .i64 0] ∧ ∃ U' P', Fr σ σ' U U' ∧ Bt σ' b p dd l kh U' P' v ∧ Kp P P' 1 := by
 have hl := hp.len.1
 have hpc := pageC_512 hl
 have z5 := pageC_512 len_zero512
 have hlt := h.lt
 have hnz : ((k : Int) == 0) = false := by simp; omega
 refine acalls_of cx_ok dr_ok Try.func34 (by kernel_rfl) rfl (nt := 42) (rs := [.cell 4 86, .tmp 5, .tmp 6]) rfl rfl ?_
 repeat' first | ((with_reducible first | refine cs ?_ ?_ | refine ws ?_ ?_) <;> intro h <;> try simp only [h]) | simp only [↓wBA, tHj, convA, seval, wH, zl512, zB_512, len_zero512, z5]
 obtain ⟨S0, hS0⟩ : ∃ S0, S0 = σ ++ [some (Ob.row 2 [[AV.p (.v (.int .i64 (n : Nat))), AV.p (.v (.int .i64 (k : Nat)))]])] ++ [some (Ob.row 512 [pageC zero512])] := ⟨_, rfl⟩
 have aS : Ap σ S0 := by rw [hS0]; exact (Ap.app _ _).more _
 have hb0 : S0[σ.length]? = some (some (Ob.row 2 [[AV.p (.v (.int .i64 (n : Nat))), AV.p (.v (.int .i64 (k : Nat)))]])) := by rw [hS0]; simp
 have hb1 : S0[σ.length + 1]? = some (some (Ob.row 512 [pageC zero512])) := by rw [hS0]; simp
 have hl0 : S0.length = σ.length + 2 := by rw [hS0]; simp
 rw [← hS0]
 refine (ahread (h.ap aS) hn hp hb).mono ?_
 rintro _ s2 ⟨rfl, U2, P2, f2, h2, k2⟩
 have x2 := f2.get hb0 (fun e => Nat.lt_irrefl _ (hlt _ e))
 have x3 := f2.get hb1 (fun e => by have := hlt _ e; omega)
 have y2 := at_lt x2
 have y3 := at_lt x3
 have hU2 : ∀ t, t < S0.length → σ.length ≤ t → ¬ U2 t := fun t h1 h3 e => (f2.own t e).elim (fun e => by have := hlt t e; omega) fun e => by omega
 repeat' first | ((with_reducible first | refine cs ?_ ?_ | refine ws ?_ ?_) <;> intro h <;> try simp only [h]) | simp only [↓wBA, tHj, convA, seval, wH, pageA, hpc, hl, zl512, zB_512, len_zero512, z5, x2, y2, x3, y3, hg, hnz, Option.isSome_some] | ((with_reducible show ACalls _ _ _ _ _); refine (aget (v n) (k : Nat) hl _).eq ?_)
 all_goals refine ret_st ?_ (by first | exact Nat.le_refl _ | (simp only [List.length_set, List.length_append]; omega) | omega)
 all_goals simp only [resA.eq_1, resL.eq_1, resL.eq_2, resV.eq_1, resV.eq_2, ↓wBA, tHj, convA, seval, wH, pageA, hpc, x2, y2, x3, y3]
 refine ⟨U2, P2, (((Ap.fr aS).trans f2).setN (by omega) _).app _, (h2.set (hU2 _ (by omega) (by omega)) _).ap (Ap.app _ _), k2⟩
theorem ahatW (h : Bt σ b p dd l kh U P v) (hn : n < P.pages) (hp : HPg (v n) nx ss) (hb : Bud P 1) (hg : getL (v n) (k : Nat) = some r) (hk1 : 1 ≤ k) :
 ACalls Try.prog 34 [.mp b 2 0 0, .agg [intV .i64 (n : Nat), intV .i64 (k : Nat)]] σ fun q σ' => ∃ t, q = .tup [pageA (v n), .ms t 1 0 r.length, intV .i64 0] ∧ σ.length ≤ t ∧ σ'[t]? = some (some (.row 1 (bRow r))) ∧ ∃ U' P', Fr σ σ' U U' ∧ Bt σ' b p dd l kh U' P' v ∧ Kp P P' 1 ∧ ¬ U' t := by
 have hl := hp.len.1
 have hpc := pageC_512 hl
 have z5 := pageC_512 len_zero512
 have hlt := h.lt
 have hnz : ((k : Int) == 0) = false := by simp; omega
 refine acalls_of cx_ok dr_ok Try.func34 (by kernel_rfl) rfl (nt := 42) (rs := [.cell 4 86, .tmp 5, .tmp 6]) rfl rfl ?_
 repeat' first | ((with_reducible first | refine cs ?_ ?_ | refine ws ?_ ?_) <;> intro h <;> try simp only [h]) | simp only [↓wBA, tHj, convA, seval, wH, zl512, zB_512, len_zero512, z5]
 obtain ⟨S0, hS0⟩ : ∃ S0, S0 = σ ++ [some (Ob.row 2 [[AV.p (.v (.int .i64 (n : Nat))), AV.p (.v (.int .i64 (k : Nat)))]])] ++ [some (Ob.row 512 [pageC zero512])] := ⟨_, rfl⟩
 have aS : Ap σ S0 := by rw [hS0]; exact (Ap.app _ _).more _
 have hb0 : S0[σ.length]? = some (some (Ob.row 2 [[AV.p (.v (.int .i64 (n : Nat))), AV.p (.v (.int .i64 (k : Nat)))]])) := by rw [hS0]; simp
 have hb1 : S0[σ.length + 1]? = some (some (Ob.row 512 [pageC zero512])) := by rw [hS0]; simp
 have hl0 : S0.length = σ.length + 2 := by rw [hS0]; simp
 rw [← hS0]
 refine (ahread (h.ap aS) hn hp hb).mono ?_
 rintro _ s2 ⟨rfl, U2, P2, f2, h2, k2⟩
 have x2 := f2.get hb0 (fun e => Nat.lt_irrefl _ (hlt _ e))
 have x3 := f2.get hb1 (fun e => by have := hlt _ e; omega)
 have y2 := at_lt x2
 have y3 := at_lt x3
 have hU2 : ∀ t, t < S0.length → σ.length ≤ t → ¬ U2 t := fun t h1 h3 e => (f2.own t e).elim (fun e => by have := hlt t e; omega) fun e => by omega
 repeat' first | ((with_reducible first | refine cs ?_ ?_ | refine ws ?_ ?_) <;> intro h <;> try simp only [h]) | simp only [↓wBA, tHj, convA, seval, wH, pageA, hpc, hl, zl512, zB_512, len_zero512, z5, x2, y2, x3, y3, hnz] | ((with_reducible show ACalls _ _ _ _ _); refine (agetW (v n) r (k : Nat) hl hg _).eq' ?_)
 all_goals refine ret_st ?_ (by first | exact Nat.le_refl _ | (simp only [List.length_set, List.length_append]; omega) | omega)
 all_goals simp only [resA.eq_1, resL.eq_1, resL.eq_2, resV.eq_1, resV.eq_2, ↓wBA, tHj, convA, seval, wH, pageA, hpc, x2, y2, x3, y3]
 have hlt2 := h2.lt
 refine ⟨s2.length + 1, rfl, by omega, by simp, U2, P2, ((((Ap.fr aS).trans f2).setN (by omega) _).app _).app _, ((h2.set (hU2 _ (by omega) (by omega)) _).ap (Ap.app _ _)).ap (Ap.app _ _), k2, fun e => by have := hlt2 _ e; omega⟩
theorem ahgetW (h : Bt σ b p dd l kh U P v) (hn : n < P.pages) (hp : HPg (v n) nx ss) (hb : Bud P 1) (hg : getL (v n) (k : Nat) = some r) (hk1 : 1 ≤ k) :
 ACalls Try.prog 13 [.mp b 2 0 0, .agg [intV .i64 (n : Nat), intV .i64 (k : Nat)]] σ fun q σ' => ∃ t, q = .tup [.ms t 1 0 r.length, intV .i64 0] ∧ σ.length ≤ t ∧ σ'[t]? = some (some (.row 1 (bRow r))) ∧ ∃ U' P', Fr σ σ' U U' ∧ Bt σ' b p dd l kh U' P' v ∧ Kp P P' 1 ∧ ¬ U' t := by
 have hl := hp.len.1
 have hpc := pageC_512 hl
 have z5 := pageC_512 len_zero512
 refine acalls_of cx_ok dr_ok Try.func13 (by kernel_rfl) rfl (nt := 16) (rs := [.tmp 4, .tmp 5]) rfl rfl ?_
 repeat' first | ((with_reducible first | refine cs ?_ ?_ | refine ws ?_ ?_) <;> intro h <;> try simp only [h]) | simp only [↓wBA, tHj, convA, seval, wH]
 have aS := Ap.app σ [some (Ob.row 2 [[AV.p (.v (.int .i64 (n : Nat))), AV.p (.v (.int .i64 (k : Nat)))]])]
 refine (ahatW (h.ap aS) hn hp hb hg hk1).mono ?_
 rintro _ s2 ⟨t, rfl, ht, hrow, U2, P2, f2, h2, k2, hU⟩
 have l2 := f2.len
 simp only [List.length_append, List.length_cons, List.length_nil] at l2 ht
 repeat' first | ((with_reducible first | refine cs ?_ ?_ | refine ws ?_ ?_) <;> intro h <;> try simp only [h]) | simp only [↓wBA, tHj, convA, seval, wH, pageA, hpc, hl, zl512, zB_512, len_zero512, z5]
 all_goals refine ret_st ?_ (by first | exact Nat.le_refl _ | (simp only [List.length_set, List.length_append]; omega) | omega)
 all_goals simp only [resA.eq_1, resL.eq_1, resL.eq_2, resV.eq_1, resV.eq_2, ↓wBA, tHj, convA, seval, wH]
 exact ⟨t, rfl, by omega, by rw [List.getElem?_append_left (at_lt hrow)]; exact hrow, U2, P2, ((Ap.fr aS).trans f2).app _, h2.ap (Ap.app _ _), k2, hU⟩
theorem ahset (h : Bt σ b p dd l kh U P v) (hn0 : 1 ≤ n) (hn : n < P.pages) (hp : HPg (v n) nx ss) (hb : Bud P 1) (hg : getL (v n) (k : Nat) = some r) (hk1 : 1 ≤ k) {x : PV} {r' : List UInt8} (hx : BX x r') (hrl : r'.length ≤ r.length) :
 ACalls Try.prog 12 [.mp b 2 0 0, .agg [intV .i64 (n : Nat), intV .i64 (k : Nat)], .p x] σ fun q σ' => q = intV .i64 0 ∧ ∃ U' P', Fr σ σ' U U' ∧ Bt σ' b p dd l kh U' P' (upV v n (setL (v n) (k : Nat) r').1) ∧ Kp P P' 1 := by
 have hl := hp.len.1
 have hpc := pageC_512 hl
 have z5 := pageC_512 len_zero512
 have hlt := h.lt
 obtain ⟨j, rfl⟩ : ∃ j, k = j + 1 := ⟨k - 1, by omega⟩
 have hgs : ss.getD j none = some r := by rw [← hp.at]; exact hg
 have hp' := (hp.set hgs r' hrl).2
 have hr4 := hp.le r (mem_of_getD hgs)
 have hSl := hp'.len.1
 have hSp := pageC_512 hSl
 have hla : lenA cx 23 (.p x) = some r'.length := RecA.len (σ := σ) (.inl ⟨x, rfl, hx⟩)
 have hlb : lenA cx 23 (.p (.sl 1 (encB r))) = some r.length := RecA.len (σ := σ) (.inl ⟨_, rfl, .inl rfl⟩)
 have e1 : decide ((r'.length : Int) > (r.length : Int)) = false := by simp; omega
 refine acalls_of cx_ok dr_ok Try.func12 (by kernel_rfl) rfl (nt := 35) (rs := [.tmp 6]) rfl rfl ?_
 repeat' first | ((with_reducible first | refine cs ?_ ?_ | refine ws ?_ ?_) <;> intro h <;> try simp only [h]) | simp only [↓wBA, tHj, convA, seval, wH]
 have aS := Ap.app σ [some (Ob.row 2 [[AV.p (.v (.int .i64 (n : Nat))), AV.p (.v (.int .i64 (j + 1 : Nat)))]])]
 refine (ahat (h.ap aS) hn hp hb hg hk1).mono ?_
 rintro _ s2 ⟨rfl, U2, P2, f2, h2, k2⟩
 have l2 := f2.len
 simp only [List.length_append, List.length_cons, List.length_nil] at l2
 have x2 := f2.get (t := σ.length) (x := some (.row 2 [[AV.p (.v (.int .i64 (n : Nat))), AV.p (.v (.int .i64 (j + 1 : Nat)))]])) (by simp) (fun e => Nat.lt_irrefl _ (hlt _ e))
 have y2 := at_lt x2
 repeat' first | ((with_reducible first | refine cs ?_ ?_ | refine ws ?_ ?_) <;> intro h <;> try simp only [h]) | simp only [↓wBA, tHj, convA, seval, wH, pageA, hpc, hl, zl512, zB_512, len_zero512, z5, x2, y2, recP, hla, hlb, e1, hSl, hSp] | ((with_reducible show ACalls _ _ _ _ _); refine (asetP (v n) r' (j + 1 : Nat) x hl hx (by omega) _).eq ?_)
 have a3 := Ap.app s2 [some (Ob.row 512 [pageC (setL (v n) ((j + 1 : Nat) : Int) r').1])]
 refine (abWrt (h2.ap a3) hn0 (by rw [k2.pages]; exact hn) _ hSl hp'.len.2).mono ?_
 rintro _ s5 ⟨rfl, U5, f5, h5⟩
 have l5 := f5.len
 simp only [List.length_append, List.length_cons, List.length_nil] at l5
 repeat' first | ((with_reducible first | refine cs ?_ ?_ | refine ws ?_ ?_) <;> intro h <;> try simp only [h]) | simp only [↓wBA, tHj, convA, seval, wH]
 all_goals refine ret_st ?_ (by first | exact Nat.le_refl _ | (simp only [List.length_set, List.length_append]; omega) | omega)
 all_goals simp only [resA.eq_1, resL.eq_1, resL.eq_2, resV.eq_1, resV.eq_2, ↓wBA, tHj, convA, seval, wH]
 exact ⟨U5, P2, (((Ap.fr aS).trans f2).trans (Ap.fr a3)).trans f5, h5, k2⟩
theorem ahsetL (h : Bt σ b p dd l kh U P v) (hn0 : 1 ≤ n) (hn : n < P.pages) (hp : HPg (v n) nx ss) (hb : Bud P 1) (hg : getL (v n) (k : Nat) = some r) (hk1 : 1 ≤ k) {x : PV} {r' : List UInt8} (hx : BX x r') (hrl : r.length < r'.length) :
 ACalls Try.prog 12 [.mp b 2 0 0, .agg [intV .i64 (n : Nat), intV .i64 (k : Nat)], .p x] σ fun q σ' => q = intV .i64 4 ∧ ∃ U' P', Fr σ σ' U U' ∧ Bt σ' b p dd l kh U' P' v ∧ Kp P P' 1 := by
 have hl := hp.len.1
 have hpc := pageC_512 hl
 have z5 := pageC_512 len_zero512
 have hlt := h.lt
 have hla : lenA cx 23 (.p x) = some r'.length := RecA.len (σ := σ) (.inl ⟨x, rfl, hx⟩)
 have hlb : lenA cx 23 (.p (.sl 1 (encB r))) = some r.length := RecA.len (σ := σ) (.inl ⟨_, rfl, .inl rfl⟩)
 have e1 : decide ((r'.length : Int) > (r.length : Int)) = true := by simp; omega
 refine acalls_of cx_ok dr_ok Try.func12 (by kernel_rfl) rfl (nt := 35) (rs := [.tmp 6]) rfl rfl ?_
 repeat' first | ((with_reducible first | refine cs ?_ ?_ | refine ws ?_ ?_) <;> intro h <;> try simp only [h]) | simp only [↓wBA, tHj, convA, seval, wH]
 have aS := Ap.app σ [some (Ob.row 2 [[AV.p (.v (.int .i64 (n : Nat))), AV.p (.v (.int .i64 (k : Nat)))]])]
 refine (ahat (h.ap aS) hn hp hb hg hk1).mono ?_
 rintro _ s2 ⟨rfl, U2, P2, f2, h2, k2⟩
 have l2 := f2.len
 simp only [List.length_append, List.length_cons, List.length_nil] at l2
 repeat' first | ((with_reducible first | refine cs ?_ ?_ | refine ws ?_ ?_) <;> intro h <;> try simp only [h]) | simp only [↓wBA, tHj, convA, seval, wH, pageA, hpc, hl, zl512, zB_512, len_zero512, z5, recP, hla, hlb, e1]
 all_goals refine ret_st ?_ (by first | exact Nat.le_refl _ | (simp only [List.length_set, List.length_append]; omega) | omega)
 all_goals simp only [resA.eq_1, resL.eq_1, resL.eq_2, resV.eq_1, resV.eq_2, ↓wBA, tHj, convA, seval, wH]
 exact ⟨U2, P2, ((Ap.fr aS).trans f2).app _, h2.ap (Ap.app _ _), k2⟩
end
end Go.Proofs.Ytlddiphjpmlhbaa
