/- Trees: a node is written, in two pages if it must. -/
import Derived.Test.YtockimhceppkbaaGreatM38
set_option linter.unusedSimpArgs false
set_option linter.unusedVariables false
set_option linter.defProp false
set_option maxRecDepth 100000
set_option maxHeartbeats 32000000
namespace Go.Proofs.YtockimhceppkbaaGreat
open Go.RowKit
def pl68_8Yf : Plan := (.det 0 (.det 1 (.det 2 (.det 3 (.det 4 (.det 5 (.det 6 (.det 7 (.det 8 (.fin 9 (.det 10 .done)))))))))))
def pl68_11Yf : Plan := (.det 0 (.det 1 (.det 2 (.det 3 (.det 4 (.det 6 (.det 9 (.det 10 (.det 11 (.det 12 (.det 13 (.det 14 (.det 15 (.det 16 (.det 17 (.two 5 (.det 7 (.two 8 (.act 18 (.det 19 (.det 20 .done))) 18 (.act 8 (.det 19 (.det 20 .done))))) 18 (.act 5 (.det 7 (.act 8 (.det 19 (.det 20 .done)))))))))))))))))))))
def tYf := aa wX <| aa wbu <| aa T3 <| aa T25 <| aa T30 <| aa T48 <| aa T86 <| aa T90 <| aa T92 <| aa T97 T106
def nilQ : AV := .p (.v (.pointer none))
def SplR (T : Nat → Bool) (np n kd len0 : Nat) (its : List Itm) (v v' : Nat → List UInt8) (r : AV) (s : St) (U' : Nat → Prop) : Prop :=
 (szL its ≤ 496 ∧ r = .tup [nilQ, intV .i64 0] ∧ v' = upV v n (fitF kd its).1)
 ∨ (496 < szL its ∧ (∀ m, m < np → T m = true) ∧ r = .tup [nilQ, intV .i64 20] ∧ v' = v)
 ∨ (496 < szL its ∧ ∃ m tm x, 1 ≤ m ∧ m < np ∧ T m = false ∧ its[midF its]? = some x ∧ r = .tup [.mp tm 4 0 0, intV .i64 0] ∧ s[tm]? = some (some (.row 4 [itC ⟨x.e, m⟩])) ∧ len0 ≤ tm ∧ ¬ U' tm ∧
  v' m = (fitF kd (its.drop (midF its))).1 ∧ v' n = (fitF kd (its.take (midF its))).1 ∧ (∀ q, q ≠ m → q ≠ n → q ≠ 0 → v' q = v q) ∧ Tk (v' 0) np (updT T m true))
theorem szL_last (l : List Itm) (x : Itm) (k : Nat) (h : l[k]? = some x) : szL (l.take (k + 1)) = szL (l.take k) + szI x := by rw [takeI l k x h, szL_app, szL_cons, szL_nil]; omega
theorem halves (l : List Itm) (hok : ∀ x ∈ l, x.ok) (h1 : 496 < szL l) (h2 : szL l ≤ 646) : 1 ≤ midF l ∧ midF l < l.length ∧ szL (l.take (midF l)) ≤ 473 ∧ szL (l.drop (midF l)) ≤ 323 := by
 obtain ⟨m1, m2, m3⟩ := mid_spec l
 have hsum : szL (l.take (midF l)) + szL (l.drop (midF l)) = szL l := by rw [← szL_app, List.take_append_drop]
 have hm0 : midF l ≠ 0 := fun e => by rw [e] at m2; simp [szL_nil] at m2; omega
 have hm3 : 2 * szL (l.take (midF l - 1)) < szL l := m3.resolve_left hm0
 obtain ⟨k, hk⟩ : ∃ k, midF l = k + 1 := ⟨midF l - 1, by omega⟩
 rw [hk] at m1 m2 hsum hm3 ⊢
 simp only [Nat.add_sub_cancel] at hm3
 obtain ⟨x, hx⟩ : ∃ x, l[k]? = some x := ⟨l[k], by simp⟩
 have hxo := szI_le (hok x (List.mem_of_getElem? hx))
 have hl := szL_last l x k hx
 refine ⟨by omega, ?_, by omega, by omega⟩
 rcases Nat.lt_or_ge (k + 1) l.length with h | h
 ·exact h
 ·rw [List.take_of_length_le h] at hl; omega
theorem spl_view {v v1 : Nat → List UInt8} {m n : Nat} {A B : List UInt8} (hmn : m ≠ n) (hn : n ≠ 0) (hm : m ≠ 0) (hvo : ∀ q, q ≠ m → q ≠ 0 → v1 q = v q) :
 upV (upV v1 m A) n B m = A ∧ upV (upV v1 m A) n B n = B ∧ (∀ q, q ≠ m → q ≠ n → q ≠ 0 → upV (upV v1 m A) n B q = v q) ∧ upV (upV v1 m A) n B 0 = v1 0 := by
 unfold upV
 refine ⟨?_, ?_, fun q h1 h2 h3 => ?_, ?_⟩
 ·rw [if_neg hmn, if_pos rfl]
 ·rw [if_pos rfl]
 ·rw [if_neg h2, if_neg h1]; exact hvo q h1 h3
 ·rw [if_neg (fun e => hn e.symm), if_neg (fun e => hm e.symm)]
theorem atSplit {σ : St} {b p dd l kh n kd t : Nat} {U : Nat → Prop} {P : PoolV} {v : Nat → List UInt8} {T : Nat → Bool} {its : List Itm} (h : Bt σ b p dd l kh U P v) (hT : Tk (v 0) P.pages T) (hnp : P.pages ≤ 3200) (hT0 : T 0 = true) (hb : Bud P 1) (hn0 : 1 ≤ n) (hn : n < P.pages) (hTn : T n = true)
 (ht : σ[t]? = some (some (.row 4 (its.map itC)))) (htU : ¬ U t) (hkd : kd = 2 ∨ kd = 3) (hok : ∀ x ∈ its, x.ok) (hsz : szL its ≤ 646) :
 ACalls Tryz.prog 68 [.agg [.mp b 2 0 0], intV .i64 (n : Nat), .agg [intV .i64 (kd : Nat), .ms t 4 0 its.length]] σ fun r σ' => ∃ U' P' v', Fr σ σ' U U' ∧ Bt σ' b p dd l kh U' P' v' ∧ Kp P P' 0 ∧ SplR T P.pages n kd σ.length its v v' r σ' U' := by
 have hlen := szL_len its
 have yt := at_lt ht
 have hlt := h.lt
 have hnp1 : 1 ≤ P.pages := by omega
 have hItM : ∀ s : St, s[t]? = σ[t]? → ItM s t 0 its := fun s hs => ⟨its.map itC, hs.trans ht, by simp, fun j x hj => by simp [hj]⟩
 have hpl := fitF_len kd its
 have hpc := pageC_512 hpl
 have z5 := pageC_512 len_zero512
 refine acalls_of cx_ok dr_ok Tryz.func68 (by kernel_rfl) rfl (nt := 67) (rs := [.tmp 6, .tmp 7]) rfl rfl ?_
 repeat' first | ((with_reducible first | refine cs ?_ ?_ | refine ws ?_ ?_ | refine wd ?_ ?_ | refine wu ?_ ?_) <;> intro h <;> try simp only [h]) | simp only [↓wBA, tYf, convA, seval, pl68_8Yf, pl68_11Yf, wH] | (with_reducible refine dP pl68_8Yf 11 (some 38) (by decide) (by kernel_rfl) ?_) | (with_reducible refine dP pl68_11Yf 21 (some 51) (by decide) (by kernel_rfl) ?_) | with_reducible refine And.intro ?_ ?_
 have a1 : Ap σ (σ ++ [some (Ob.row 1 [[AV.mp b 2 0 0]])] ++ [some (Ob.row 2 [[intV .i64 (kd : Nat), AV.ms t 4 0 its.length]])]) := (Ap.app _ _).more _
 refine (atFits kd (hItM _ ((a1.get ht).trans ht.symm)).a hok (by omega)).eq ?_
 obtain ⟨S0, hS0⟩ : ∃ S0, S0 = σ ++ [some (Ob.row 1 [[AV.mp b 2 0 0]])] ++ [some (Ob.row 2 [[intV .i64 (kd : Nat), AV.ms t 4 0 its.length]])] ++ [some (Ob.row 512 [pageC (fitF kd its).1])] := ⟨_, rfl⟩
 have aS : Ap σ S0 := by rw [hS0]; exact a1.more _
 have hl0 : S0.length = σ.length + 3 := by rw [hS0]; simp
 have b0 : S0[σ.length]? = some (some (Ob.row 1 [[AV.mp b 2 0 0]])) := by rw [hS0]; simp
 have b1 : S0[σ.length + 1]? = some (some (Ob.row 2 [[intV .i64 (kd : Nat), AV.ms t 4 0 its.length]])) := by rw [hS0]; simp
 have t0 := aS.get ht
 have y0 := at_lt b0
 have y1 := at_lt b1
 have y2 := at_lt t0
 have h0 := h.ap aS
 have hS1 : σ ++ [some (Ob.row 1 [[AV.mp b 2 0 0]])] ++ [some (Ob.row 2 [[AV.p (PV.v (Value.int IntKind.i64 (kd : Nat))), AV.ms t 4 0 its.length]])] ++ [some (Ob.row 512 [pageC (fitF kd its).1])] = S0 := hS0.symm
 by_cases hs : szL its ≤ 496
 ·obtain ⟨hf2, hfn⟩ := fit_yes hkd hok hs
  repeat' first | ((with_reducible first | refine cs ?_ ?_ | refine ws ?_ ?_ | refine wd ?_ ?_ | refine wu ?_ ?_) <;> intro h <;> try simp only [h]) | simp only [↓wBA, tYf, convA, seval, pl68_8Yf, pl68_11Yf, wH, pageA, hpc, hpl, zl512, zB_512, len_zero512, z5, hf2, hS1, b0, b1, y0, y1] | (with_reducible refine dP pl68_8Yf 11 (some 38) (by decide) (by kernel_rfl) ?_) | (with_reducible refine dP pl68_11Yf 21 (some 51) (by decide) (by kernel_rfl) ?_) | with_reducible refine And.intro ?_ ?_
  refine (atWrite h0 hn0 hn (.inl ⟨t, 0, rfl, hItM _ (t0.trans ht.symm)⟩) hkd hok hs).mono ?_
  rintro _ s ⟨rfl, U1, f1, h1⟩
  repeat' first | ((with_reducible first | refine cs ?_ ?_ | refine ws ?_ ?_ | refine wd ?_ ?_ | refine wu ?_ ?_) <;> intro h <;> try simp only [h]) | simp only [↓wBA, tYf, convA, seval, pl68_8Yf, pl68_11Yf, wH] | (with_reducible refine dP pl68_8Yf 11 (some 38) (by decide) (by kernel_rfl) ?_) | (with_reducible refine dP pl68_11Yf 21 (some 51) (by decide) (by kernel_rfl) ?_) | with_reducible refine And.intro ?_ ?_
  have l1 := f1.len
  all_goals refine ret_st ?_ (by first | exact Nat.le_refl _ | (simp only [List.length_set, List.length_append]; omega) | omega)
  all_goals simp only [resA.eq_1, resL.eq_1, resL.eq_2, resV.eq_1, resV.eq_2, ↓wBA, tYf, convA, seval, wH]
  exact ⟨U1, P, _, aS.fr.trans f1, h1, Kp.refl P _, .inl ⟨hs, rfl, rfl⟩⟩
 ·have hf2 := fit_no hkd hok hs
  obtain ⟨q1, q2, q3, q4⟩ := halves its hok (by omega) hsz
  repeat' first | ((with_reducible first | refine cs ?_ ?_ | refine ws ?_ ?_ | refine wd ?_ ?_ | refine wu ?_ ?_) <;> intro h <;> try simp only [h]) | simp only [↓wBA, tYf, convA, seval, pl68_8Yf, pl68_11Yf, wH, pageA, hpc, hpl, zl512, zB_512, len_zero512, z5, hf2, hS1, b0, b1, y0, y1] | ((with_reducible show ACalls _ _ _ _ _); refine (atMid (hItM _ (t0.trans ht.symm)).a (by omega) hok).eq ?_) | (with_reducible refine dP pl68_8Yf 11 (some 38) (by decide) (by kernel_rfl) ?_) | (with_reducible refine dP pl68_11Yf 21 (some 51) (by decide) (by kernel_rfl) ?_) | with_reducible refine And.intro ?_ ?_
  refine (abAlloc (kind := kd) h0 hT hnp hnp1 hT0 hb).mono ?_
  rintro r s1 ⟨U1, P1, v1, f1, h1, k1, hc⟩
  have l1 := f1.len
  have hlt1 := h1.lt
  have nU : ∀ j, j < S0.length → ¬ U j → ¬ U1 j := fun j hj hn e => (f1.own j e).elim hn fun e => by omega
  have g0 := f1.get b0 fun e => by have := hlt _ e; omega
  have g1 := f1.get b1 fun e => by have := hlt _ e; omega
  have g2 := f1.get t0 htU
  have z0 := at_lt g0
  have z1 := at_lt g1
  have z2 := at_lt g2
  rcases hc with ⟨m, m1, m2, hTm, rfl, hvm, hvo, hTk⟩ | ⟨hall, rfl, rfl⟩
  ·have hsl := slFrom t 0 its.length (midF its) (by omega) q2
   have hst := slTo t 0 its.length (midF its) (by omega)
   have hi0 := nnI (midF its)
   have hif : (((midF its : Nat) : Int) < (its.length : Int)) = True := eq_true (by omega)
   obtain ⟨x, hx⟩ : ∃ x, its[midF its]? = some x := ⟨its[midF its], by simp⟩
   have hgx : (its.map itC)[midF its]? = some (itC x) := by simp [hx]
   repeat' first | ((with_reducible first | refine cs ?_ ?_ | refine ws ?_ ?_ | refine wd ?_ ?_ | refine wu ?_ ?_) <;> intro h <;> try simp only [h]) | simp only [↓wBA, tYf, convA, seval, pl68_8Yf, pl68_11Yf, wH, g0, g1, g2, z0, z1, z2, hsl, hst] | (with_reducible refine dP pl68_8Yf 11 (some 38) (by decide) (by kernel_rfl) ?_) | (with_reducible refine dP pl68_11Yf 21 (some 51) (by decide) (by kernel_rfl) ?_) | with_reducible refine And.intro ?_ ?_
   have hM1 := hItM s1 (g2.trans ht.symm)
   have hD : ItX s1 (.ms t 4 (midF its) (its.length - midF its)) (its.drop (midF its)) := .inl ⟨t, midF its, by rw [List.length_drop], by have := hM1.drop (midF its) (by omega); rwa [Nat.zero_add] at this⟩
   refine (atWrite h1 m1 (by rw [k1.pages]; exact m2) hD hkd (fun y hy => hok y (List.mem_of_mem_drop hy)) (by omega)).mono ?_
   rintro _ s2 ⟨rfl, U2, f2, h2⟩
   have l2 := f2.len
   have nU2 : ∀ j, j < S0.length → ¬ U j → ¬ U2 j := fun j hj hn e => (f2.own j e).elim (nU j hj hn) fun e => by omega
   have e0 := f2.get g0 (nU _ y0 fun e => by have := hlt _ e; omega)
   have e1 := f2.get g1 (nU _ y1 fun e => by have := hlt _ e; omega)
   have e2 := f2.get g2 (nU _ y2 htU)
   have w0 := at_lt e0
   have w1 := at_lt e1
   have w2 := at_lt e2
   have hlt2 := h2.lt
   have hM2 := (hItM s2 (e2.trans ht.symm)).take (midF its)
   have htl : (its.take (midF its)).length = midF its := by rw [List.length_take]; omega
   have nb0 : ¬ U2 σ.length := nU2 _ y0 fun e => by have := hlt _ e; omega
   have nb1 : ¬ U2 (σ.length + 1) := nU2 _ y1 fun e => by have := hlt _ e; omega
   have hX : ∀ s : St, s[t]? = s2[t]? → ItX s (.ms t 4 0 (midF its)) (its.take (midF its)) := fun s hs => .inl ⟨t, 0, by rw [htl], hM2.same hs⟩
   have hok2 : ∀ y ∈ its.take (midF its), y.ok := fun y hy => hok y (List.mem_of_mem_take hy)
   obtain ⟨Sm, hSm⟩ : ∃ Sm, Sm = (s2.set (σ.length + 1) none).set σ.length none := ⟨_, rfl⟩
   have hSl : Sm.length = s2.length := by rw [hSm]; simp
   have hSt : ∀ j, j ≠ σ.length → j ≠ σ.length + 1 → Sm[j]? = s2[j]? := fun j hj hj2 => by rw [hSm, List.getElem?_set_ne (by omega), List.getElem?_set_ne (by omega)]
   have hmB : Bt Sm b p dd l kh U2 P1 (upV v1 m (fitF kd (its.drop (midF its))).1) := by rw [hSm]; exact (h2.set nb1 _).set nb0 _
   have hW0 := atWrite hmB hn0 (by rw [k1.pages]; exact hn) (hX Sm (hSt t (by omega) (by omega))) hkd hok2 (by omega)
   have hW1 := fun (x : Option Ob) => atWrite (hmB.ap (Ap.app Sm [x])) hn0 (by rw [k1.pages]; exact hn) (hX (Sm ++ [x]) (by rw [List.getElem?_append_left (by omega)]; exact hSt t (by omega) (by omega))) hkd hok2 (by omega)
   have hfin : ∀ {s3 : St} {U3 : Nat → Prop} {σ3 : St}, Ap Sm σ3 → Fr σ3 s3 U2 U3 → ∀ a b c : Option Ob, Fr σ (((s3.set (σ.length + 1) a).set σ.length b).set (σ.length + 1) c) U U3 := fun {s3 U3 σ3} hA f3 a b c => by
    have l3 := f3.len
    have lA := hA.len
    refine (Fr.setY (Fr.setY (Fr.setY ?_ (by omega) _) (Nat.le_refl _) _) (by omega) _)
    have f02 : Fr σ s2 U U2 := (aS.fr.trans f1).trans f2
    refine ⟨by omega, fun j hj hn => ?_, fun j hj => (f3.own j hj).elim (f02.own j) fun e => .inr (by omega)⟩
    rw [f3.keep j (by omega) fun e => (f02.own j e).elim hn fun e => by omega]
    obtain ⟨τ, rfl⟩ := hA
    rw [List.getElem?_append_left (by omega), hSt j (by omega) (by omega)]
    exact f02.keep j hj hn
   obtain ⟨u1, u2, u3, u4⟩ := spl_view (v := v) (v1 := v1) (A := (fitF kd (its.drop (midF its))).1) (B := (fitF kd (its.take (midF its))).1) (m := m) (n := n) (fun e => by rw [e, hTn] at hTm; cases hTm) (by omega) (by omega) hvo
   rw [← u4] at hTk
   have hAm : Ap Sm Sm := ⟨[], by simp⟩
   have hAx : ∀ x : Option Ob, Ap Sm (Sm ++ [x]) := fun x => Ap.app _ _
   rw [hSm] at hW0 hW1 hAm hAx hfin
   repeat' first | ((with_reducible first | refine cs ?_ ?_ | refine ws ?_ ?_ | refine wd ?_ ?_ | refine wu ?_ ?_) <;> intro h <;> try simp only [h]) | simp only [↓wBA, tYf, convA, seval, pl68_8Yf, pl68_11Yf, wH, e0, e1, e2, w0, w1, w2, yt, hsl, hst, hi0, hif, hgx, itC] | (with_reducible refine dP pl68_8Yf 11 (some 38) (by decide) (by kernel_rfl) ?_) | (with_reducible refine dP pl68_11Yf 21 (some 51) (by decide) (by kernel_rfl) ?_) | with_reducible refine And.intro ?_ ?_
   ·refine (hW1 _).mono ?_
    rintro _ s3 ⟨rfl, U3, f3, h3⟩
    have l3 := f3.len
    simp only [List.length_append, List.length_cons, List.length_nil, List.length_set] at l3
    have v0 : σ.length < s3.length := by omega
    have v1 : σ.length + 1 < s3.length := by omega
    repeat' first | ((with_reducible first | refine cs ?_ ?_ | refine ws ?_ ?_ | refine wd ?_ ?_ | refine wu ?_ ?_) <;> intro h <;> try simp only [h]) | simp only [↓wBA, tYf, convA, seval, pl68_8Yf, pl68_11Yf, wH, e0, e1, w0, w1, v0, v1] | (with_reducible refine dP pl68_8Yf 11 (some 38) (by decide) (by kernel_rfl) ?_) | (with_reducible refine dP pl68_11Yf 21 (some 51) (by decide) (by kernel_rfl) ?_) | with_reducible refine And.intro ?_ ?_
    all_goals refine ret_st ?_ (by first | exact Nat.le_refl _ | (simp only [List.length_set, List.length_append]; omega) | omega)
    all_goals simp only [resA.eq_1, resL.eq_1, resL.eq_2, resV.eq_1, resV.eq_2, ↓wBA, tYf, convA, seval, wH]
    have n30 : ¬ U3 σ.length := fun e => (f3.own _ e).elim nb0 fun e => by simp at e; omega
    have n31 : ¬ U3 (σ.length + 1) := fun e => (f3.own _ e).elim nb1 fun e => by simp at e; omega
    refine ⟨U3, P1, _, hfin (hAx _) f3 _ _ _, ((h3.set n31 _).set n30 _).set n31 _, k1, .inr (.inr ⟨by omega, m, s2.length, x, m1, m2, hTm, hx, rfl, ?_, by omega, fun e => (f3.own _ e).elim (fun e => by have := hlt2 _ e; omega) fun e => by simp at e; omega, u1, u2, u3, hTk⟩)⟩
    rw [List.getElem?_set_ne (by omega), List.getElem?_set_ne (by omega), List.getElem?_set_ne (by omega), f3.keep s2.length (by simp) fun e => by have := hlt2 _ e; omega]
    simp [itC, intV]
   ·refine hW0.mono ?_
    rintro _ s3 ⟨rfl, U3, f3, h3⟩
    have l3 := f3.len
    simp only [List.length_append, List.length_cons, List.length_nil, List.length_set] at l3
    have v0 : σ.length < s3.length := by omega
    have v1 : σ.length + 1 < s3.length := by omega
    repeat' first | ((with_reducible first | refine cs ?_ ?_ | refine ws ?_ ?_ | refine wd ?_ ?_ | refine wu ?_ ?_) <;> intro h <;> try simp only [h]) | simp only [↓wBA, tYf, convA, seval, pl68_8Yf, pl68_11Yf, wH, e0, e1, w0, w1, v0, v1] | (with_reducible refine dP pl68_8Yf 11 (some 38) (by decide) (by kernel_rfl) ?_) | (with_reducible refine dP pl68_11Yf 21 (some 51) (by decide) (by kernel_rfl) ?_) | with_reducible refine And.intro ?_ ?_
    all_goals refine ret_st ?_ (by first | exact Nat.le_refl _ | (simp only [List.length_set, List.length_append]; omega) | omega)
    all_goals simp only [resA.eq_1, resL.eq_1, resL.eq_2, resV.eq_1, resV.eq_2, ↓wBA, tYf, convA, seval, wH]
    have n30 : ¬ U3 σ.length := fun e => (f3.own _ e).elim nb0 fun e => by simp at e; omega
    have n31 : ¬ U3 (σ.length + 1) := fun e => (f3.own _ e).elim nb1 fun e => by simp at e; omega
    have hlt3 := h3.lt
    refine ⟨U3, P1, _, (hfin hAm f3 _ _ _).app _, (((h3.set n31 _).set n30 _).set n31 _).ap (Ap.app _ _), k1, .inr (.inr ⟨by omega, m, s3.length, x, m1, m2, hTm, hx, rfl, ?_, by omega, fun e => by have := hlt3 _ e; omega, u1, u2, u3, hTk⟩)⟩
    rw [List.getElem?_append_right (by simp)]
    simp [itC, intV]
   ·refine hW0.mono ?_
    rintro _ s3 ⟨rfl, U3, f3, h3⟩
    have l3 := f3.len
    simp only [List.length_append, List.length_cons, List.length_nil, List.length_set] at l3
    have v0 : σ.length < s3.length := by omega
    have v1 : σ.length + 1 < s3.length := by omega
    have t3 : s3[t]? = some (some (.row 4 (its.map itC))) := by
     rw [f3.keep t (by simp; omega) (nU2 _ y2 htU), ← hSm, hSt t (by omega) (by omega)]; exact e2
    have v2 := at_lt t3
    repeat' first | ((with_reducible first | refine cs ?_ ?_ | refine ws ?_ ?_ | refine wd ?_ ?_ | refine wu ?_ ?_) <;> intro h <;> try simp only [h]) | simp only [↓wBA, tYf, convA, seval, pl68_8Yf, pl68_11Yf, wH, e0, e1, w0, w1, v0, v1, v2, t3, yt, hgx, itC] | (with_reducible refine dP pl68_8Yf 11 (some 38) (by decide) (by kernel_rfl) ?_) | (with_reducible refine dP pl68_11Yf 21 (some 51) (by decide) (by kernel_rfl) ?_) | with_reducible refine And.intro ?_ ?_
    all_goals refine ret_st ?_ (by first | exact Nat.le_refl _ | (simp only [List.length_set, List.length_append]; omega) | omega)
    all_goals simp only [resA.eq_1, resL.eq_1, resL.eq_2, resV.eq_1, resV.eq_2, ↓wBA, tYf, convA, seval, wH]
    have n30 : ¬ U3 σ.length := fun e => (f3.own _ e).elim nb0 fun e => by simp at e; omega
    have n31 : ¬ U3 (σ.length + 1) := fun e => (f3.own _ e).elim nb1 fun e => by simp at e; omega
    have hlt3 := h3.lt
    refine ⟨U3, P1, _, (hfin hAm f3 _ _ _).app _, (((h3.set n31 _).set n30 _).set n31 _).ap (Ap.app _ _), k1, .inr (.inr ⟨by omega, m, s3.length, x, m1, m2, hTm, hx, rfl, ?_, by omega, fun e => by have := hlt3 _ e; omega, u1, u2, u3, hTk⟩)⟩
    rw [List.getElem?_append_right (by simp)]
    simp [itC, intV]
  ·skip
   repeat' first | ((with_reducible first | refine cs ?_ ?_ | refine ws ?_ ?_ | refine wd ?_ ?_ | refine wu ?_ ?_) <;> intro h <;> try simp only [h]) | simp only [↓wBA, tYf, convA, seval, pl68_8Yf, pl68_11Yf, wH] | (with_reducible refine dP pl68_8Yf 11 (some 38) (by decide) (by kernel_rfl) ?_) | (with_reducible refine dP pl68_11Yf 21 (some 51) (by decide) (by kernel_rfl) ?_) | with_reducible refine And.intro ?_ ?_
   all_goals refine ret_st ?_ (by first | exact Nat.le_refl _ | (simp only [List.length_set, List.length_append]; omega) | omega)
   all_goals simp only [resA.eq_1, resL.eq_1, resL.eq_2, resV.eq_1, resV.eq_2, ↓wBA, tYf, convA, seval, wH]
   exact ⟨U1, P1, _, aS.fr.trans f1, h1, k1, .inr (.inl ⟨by omega, hall, rfl, rfl⟩)⟩
end Go.Proofs.YtockimhceppkbaaGreat
