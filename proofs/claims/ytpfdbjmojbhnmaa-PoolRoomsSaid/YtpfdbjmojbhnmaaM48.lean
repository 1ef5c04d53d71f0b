/- PoolRooms. -/
import Derived.Test.YtpfdbjmojbhnmaaM45
set_option linter.unusedSimpArgs false
set_option linter.unusedVariables false
set_option linter.defProp false
set_option maxRecDepth 100000
set_option maxHeartbeats 32000000
namespace Go.Proofs.Ytpfdbjmojbhnmaa
open Go.RowKit
def tLac := aa wX <| aa wbu <| aa T3 <| aa T4 <| aa T5 <| aa T24 <| aa T25 <| aa T28 <| aa T30 <| aa T39 T46
def cxJ : Ctx := { cx with muts := [46 * 100000 + 48] }
theorem cxJ_ok : cxJ.ok Try.prog := cx_ok
theorem drJ_ok : DrawOk Try.prog (aDraw Try.prog cxJ) := aDraw_ok cxJ_ok (by kernel_rfl)
theorem kindJ (t : TypeId) : cxJ.kind t = cx.kind t := nr rfl
theorem tyJ (t : TypeId) : cxJ.ty t = cx.ty t := nr rfl
theorem mutsJ : cxJ.muts = [46 * 100000 + 48] := nr rfl
theorem lenJ {T : TypeId} {x : AV} : lenA cxJ T x = lenA cx T x := nr rfl
def tkR (T : Nat → Bool) (n : Nat) : List (List AV) := (List.range n).map fun i => [AV.p (.v (.bool (T i)))]
theorem tkR_get {T : Nat → Bool} {n k : Nat} (h : k < n) : (tkR T n)[k]? = some [AV.p (.v (.bool (T k)))] := by simp [tkR, h]
theorem tkR_set (T : Nat → Bool) (n k : Nat) (v : Bool) : (tkR T n).set k [AV.p (.v (.bool v))] = tkR (updT T k v) n := by
 apply List.ext_getElem?
 intro i
 rw [List.getElem?_set]
 by_cases e : k = i
 ·subst e
  simp only [tkR, updT, if_true, List.length_map, List.length_range, List.getElem?_map]
  split
  ·rename_i h; simp [h]
  ·rename_i h; rw [List.getElem?_eq_none (by simp; omega)]; rfl
 ·rw [if_neg e]
  simp only [tkR, List.getElem?_map]
  by_cases h : i < n
  ·have : ¬ i = k := fun h => e h.symm
   simp [h, updT, this]
  ·rw [List.getElem?_eq_none (by simp; omega)]; rfl
theorem tkR_new (n : Nat) : (List.replicate n [AV.p (.v (.bool false))]).set 0 [AV.p (.v (.bool true))] = tkR (fun m => m == 0) n := by
 have : List.replicate n [AV.p (.v (.bool false))] = tkR (fun _ => false) n := by
  simp only [tkR]
  apply List.ext_getElem?
  intro i
  by_cases h : i < n
  ·simp [h]
  ·simp [h]
 rw [this, tkR_set]
 congr 1
theorem c1z : ((1 : Nat) : Int) = 1 := nr rfl
theorem apoolRooms (fl : List UInt8) (hfl : fl.length ≤ 140737488351232) (pgs : Nat) (hpgs : pgs < 256) (σ : St) : ACalls Try.prog 4 [intV .u8 (pgs : Nat), .p (.sl 1 (encB fl))] σ fun r σ' => r = boolV true := by
 obtain ⟨n, hn⟩ : ∃ n, n = pgs % 30 + 2 := ⟨_, rfl⟩
 have w1 : (pgs : Int).tmod 30 = ((pgs % 30 : Nat) : Int) := by rw [Int.tmod_eq_emod_of_nonneg (by omega)]; omega
 have w2 : IntKind.i64.wrap ((pgs % 30 : Nat) : Int) = ((pgs % 30 : Nat) : Int) := wrap_i64 (by omega) (by omega)
 have w3 : IntKind.i64.wrap (((pgs % 30 : Nat) : Int) + 2) = (n : Int) := by rw [wrap_i64 (by omega) (by omega)]; omega
 have w4 : (pgs : Int).tmod 8 = ((pgs % 8 : Nat) : Int) := by rw [Int.tmod_eq_emod_of_nonneg (by omega)]; omega
 have w5 : IntKind.i64.wrap ((pgs % 8 : Nat) : Int) = ((pgs % 8 : Nat) : Int) := wrap_i64 (by omega) (by omega)
 have w6 : IntKind.i64.wrap (8 * (n : Int)) = ((8 * n : Nat) : Int) := by rw [wrap_i64 (by omega) (by omega)]; omega
 have w7 : IntKind.i64.wrap (((8 * n : Nat) : Int) + ((pgs % 8 : Nat) : Int)) = ((8 * n + pgs % 8 : Nat) : Int) := by rw [wrap_i64 (by omega) (by omega)]; omega
 have hn1 : 2 ≤ n := by omega
 have hn2 : n ≤ 31 := by omega
 refine acalls_of cxJ_ok drJ_ok Try.func4 (by kernel_rfl) rfl (nt := 181) (rs := [.tmp 4]) rfl rfl ?_
 repeat' first | ((with_reducible first | refine cs ?_ ?_ | refine ws ?_ ?_) <;> intro h <;> try simp only [h]) | simp only [↓wBA, tLac, convA, seval, wH, kindJ, tyJ, mutsJ, lenJ, w1, w2, w3, w4, w5, w6, w7] | ((with_reducible show ACalls _ _ _ _ _); refine (aawake _).mono ?_; rintro _ s0 ⟨a0, rfl⟩)
 refine (adnew (8 * n + pgs % 8) (by omega) _).mono ?_
 rintro _ s1 ⟨dd, Fd, rfl, a1, hd, hFd⟩
 repeat' first | ((with_reducible first | refine cs ?_ ?_ | refine ws ?_ ?_) <;> intro h <;> try simp only [h]) | simp only [↓wBA, tLac, convA, seval, wH, kindJ, tyJ, mutsJ, lenJ]
 refine (adnew 900 (by omega) _).mono ?_
 rintro _ s2 ⟨dl, Fl, rfl, a2, hl, hFl⟩
 have hd2 := hd.ap a2
 have b0 := a0.len; have b1 := a1.len; have b2 := a2.len
 repeat' first | ((with_reducible first | refine cs ?_ ?_ | refine ws ?_ ?_) <;> intro h <;> try simp only [h]) | simp only [↓wBA, tLac, convA, seval, wH, kindJ, tyJ, mutsJ, lenJ]
 refine (aopenN2 hd2 hl (fun t h1 h2 => by have := hd.lt t h1; have := hFl t h2; omega) (by omega) (by omega) 3 (by omega) (by omega)).mono ?_
 rintro _ s3 ⟨p, l, kh, G, P, rfl, a3, hP, p1, p2, p3, p4, p5, p6, p7, p8, p9⟩
 have hpg : P.pages = n := by rw [p1]; omega
 clear hd hd2 hl
 have b3 := a3.len
 have e0 : ((n : Int) != (n : Int)) = false := by simp
 have tl1 : ((n : Int) ≤ 140737488355328) = True := eq_true (by omega)
 have hl2 : ((n : Int) ≤ ((maxLen : Nat) : Int)) = True := eq_true (Int.ofNat_le.2 (by unfold maxLen; omega))
 have hnew := tkR_new n
 have hz : ((0 : Int) < (n : Int)) = True := eq_true (by omega)
 have hz0 : (List.replicate n [AV.p (.v (.bool false))])[0]? = some [AV.p (.v (.bool false))] := by rw [List.getElem?_replicate, if_pos (by omega)]
 repeat' first | ((with_reducible first | refine cs ?_ ?_ | refine ws ?_ ?_) <;> intro h <;> try simp only [h]) | simp only [↓wBA, tLac, convA, seval, wH, kindJ, tyJ, mutsJ, lenJ, hpg, e0, make_eq, Int.one_mul, nnI, tl1, hl2, Int.toNat_natCast, zeroA, hnew, hz, hz0] | ((with_reducible show ACalls _ _ _ _ _); refine (apages hP).eq ?_)
 have hP4 := hP.ap (Ap.app s3 [some (.row 1 (tkR (fun m => m == 0) n))])
 obtain ⟨t, ht⟩ : ∃ t, t = s3.length := ⟨_, rfl⟩
 have htk : (s3 ++ [some (.row 1 (tkR (fun m => m == 0) n))])[t]? = some (some (.row 1 (tkR (fun m => m == 0) n))) := by subst ht; simp
 have htG : ¬ G t := fun e => by have := hP.lt t e; omega
 rw [← ht]
 obtain ⟨s4, hs4⟩ : ∃ s4, s4 = s3 ++ [some (.row 1 (tkR (fun m => m == 0) n))] := ⟨_, rfl⟩
 rw [← hs4] at hP4 htk ⊢
 have b4 : s4.length = s3.length + 1 := by rw [hs4]; simp
 refine awp_loopS (X := { i : Nat // 1 ≤ i ∧ i ≤ n }) (fun i => n - i.1) (fun i => [(9, intV .i64 (i.1 : Nat))]) [4, 10, 11, 12, 51, 52, 53, 54, 55, 56, 57, 58, 59, 60, 61, 62, 63, 64, 65, 66, 67, 68, 69, 70, 71, 72, 73, 74, 75, 76, 77, 78, 79, 80, 81, 82, 83, 84, 85, 86, 87, 88] (fun i s => s4.length ≤ s.length ∧ ∃ G' P' T, PoolAt s p dd l kh G' P' ∧ ¬ G' t ∧ s[t]? = some (some (.row 1 (tkR T n))) ∧ Tk (P'.view 0) n T ∧ T 0 = true ∧ cnt T n = i.1 ∧ P'.pages = n ∧ P'.log.disk.size = 900 ∧ P'.log.ctr ≤ 300001 * i.1 ∧ P'.data.wait.length ≤ 2400008 * i.1 ∧ P'.log.wait ≤ 300001 * i.1) (⟨1, by omega, by omega⟩) ?_ ?_ ?_ ?_
 ·simp only [wHl, wHf, c1z]
 ·exact ⟨Nat.le_refl _, G, P, _, hP4, htG, htk, by rw [p8]; exact tk_new (by omega), rfl, cnt_one _ (by omega), hpg, p3, by omega, by rw [p7]; simp, by omega⟩
 ·rintro _ _ ⟨h, _⟩; omega
 ·intro y J q hI
  simp only [wHl]
  obtain ⟨i, hi, hi2⟩ := y
  obtain ⟨hq, G', P', T, hP, hG, htk, hT, hT0, hcn, hpg', hls, hc, hw, hlw⟩ := hI
  dsimp only at *
  by_cases hlt : i < n
  ·have e1 := dT hlt
   repeat' first | ((with_reducible first | refine cs ?_ ?_ | refine ws ?_ ?_) <;> intro h <;> try simp only [h]) | simp only [↓wBA, tLac, convA, seval, wH, wHl, kindJ, tyJ, mutsJ, lenJ, e1] | ((with_reducible show ACalls _ _ _ _ _); refine abatch.mono ?_; rintro _ s5 ⟨rfl, a5, hB5⟩)
   have l5 := a5.len
   have hP5 := hP.ap a5
   have hd5 : ∀ t, t = q.length → G' t → False := fun t h1 h2 => by have := hP.lt t h2; omega
   have htk5 := a5.get htk
   refine (aalloc (kind := (i : Nat)) (T := T) hB5 hP5 hd5 (by rw [hpg']; exact hT) (by omega) (by omega) hT0 (by simp) (by omega) (by omega)).mono ?_
   rintro r s6 ⟨B6, G6, P6, ch6, f6, hB6, hP6, hd6, k6, _, hcase⟩
   rcases hcase with ⟨k, pg, n1, n2, hTn, rfl, rfl, hz, hT6⟩ | ⟨hall, _, _⟩
   rotate_left
   ·have := cnt_all (T := T) n fun m hm => hall m (by omega)
    omega
   have l6 := f6.len
   have htk6 := f6.get htk5 (fun e => e.elim (fun e => by omega) hG)
   have hG6 : ¬ (B6 t ∨ G6 t) := fun e => (f6.own t e).elim (fun e => e.elim (fun e => by have := at_lt htk; omega) hG) fun e => by have := at_lt htk5; omega
   have y6 := at_lt htk6
   have c6 := k6.ctr; have c7 := k6.dw; have c8 := k6.wait
   have hkb : kbt [] 0 = 1 := rfl
   have hkn := hB6.kn
   have hdone := adone1 hB6 hP6 hd6 (setM_ne _ _ _) (fun q hq => by
    rw [k6.pages]
    rcases mem_set q hq with rfl | hq
    ·exact ⟨n2, newL_nz _⟩
    ·rcases mem_set q hq with rfl | hq
     ·exact ⟨by show 0 < _; omega, hz⟩
     ·simp at hq) (by
    have h1 := len_setM (setM [] 0 pg) k (newL (i : Nat))
    have h2 := len_setM [] 0 pg
    simp only [List.length_nil] at h2
    rw [k6.ls, hls]; omega) (by omega) (by omega) (by omega)
   have q1 : decide ((k : Int) < 1) = false := by simp; omega
   have q2 : decide ((k : Int) ≥ (n : Int)) = false := by simp; omega
   have q3 : ((k : Int) < (n : Int)) = True := eq_true (by omega)
   have q4 := nnI k
   have hget := tkR_get (T := T) (n := n) (k := k) (by omega)
   rw [hTn] at hget
   have hset := tkR_set T n k true
   repeat' first | ((with_reducible first | refine cs ?_ ?_ | refine ws ?_ ?_) <;> intro h <;> try simp only [h]) | simp only [↓wBA, tLac, convA, seval, wH, wHl, kindJ, tyJ, mutsJ, lenJ, q1, q2, q3, q4, htk6, y6, hget, Int.toNat_natCast]
   refine hdone.mono ?_
   rintro _ s7 ⟨rfl, G7, P7, f7, hB7, hP7, f7', k7⟩
   have l7 := f7.len
   have htk7 := f7.get htk6 hG6
   have y7 := at_lt htk7
   have hG7 : ¬ G7 t := fun e => (f7' t e).elim (fun e => hG6 (.inr e)) fun e => by omega
   have hwi := wI i (by omega)
   repeat' first | ((with_reducible first | refine cs ?_ ?_ | refine ws ?_ ?_) <;> intro h <;> try simp only [h]) | simp only [↓wBA, tLac, convA, seval, wH, wHl, kindJ, tyJ, mutsJ, lenJ, q3, q4, htk7, y7, hget, Int.toNat_natCast, hset, hwi]
   have hP8 := hP7.same (s := s7.set t (some (.row 1 (tkR (updT T k true) n)))) fun t' ht' => List.getElem?_set_ne fun e => hG7 (by subst e; exact ht')
   have hv7 : P7.view 0 = pg := by
    rw [k7.view, ovr_lk _ _ _ hkn.1, bview_set, if_neg (by omega), bview_set, if_pos rfl]
   have d7 := k7.ctr; have d8 := k7.dw; have d9 := k7.wait
   refine ⟨⟨i + 1, by omega, by omega⟩, by show n - (i + 1) < n - i; omega, ?_, by simp only [wHl, wHf]⟩
   dsimp only
   refine ⟨by omega, G7, P7, updT T k true, hP8, hG7, by simp [y7], ?_, ?_, ?_, ?_, ?_, ?_, ?_, ?_⟩
   ·rw [hv7]; rw [hpg'] at hT6; exact hT6
   ·unfold updT; rw [if_neg (by omega)]; exact hT0
   ·rw [cnt_true hTn n (by omega), hcn]
   ·rw [k7.pages, k6.pages, hpg']
   ·rw [k7.ls, k6.ls, hls]
   ·omega
   ·omega
   ·omega
  ·obtain rfl : i = n := by omega
   have e1 := dF (i := i) (n := i) (by omega)
   repeat' first | ((with_reducible first | refine cs ?_ ?_ | refine ws ?_ ?_) <;> intro h <;> try simp only [h]) | simp only [↓wBA, tLac, convA, seval, wH, wHl, kindJ, tyJ, mutsJ, lenJ, e1] | ((with_reducible show ACalls _ _ _ _ _); refine abatch.mono ?_; rintro _ s5 ⟨rfl, a5, hB5⟩)
   have l5 := a5.len
   have hP5 := hP.ap a5
   have hd5 : ∀ t, t = q.length → G' t → False := fun t h1 h2 => by have := hP.lt t h2; omega
   have htk5 := a5.get htk
   refine (aalloc (kind := 1) (T := T) hB5 hP5 hd5 (by rw [hpg']; exact hT) (by omega) (by omega) hT0 (by simp) (by omega) (by omega)).mono ?_
   rintro r s6 ⟨B6, G6, P6, ch6, f6, hB6, hP6, hd6, k6, _, hcase⟩
   rcases hcase with ⟨k, pg, n1, n2, hTn, rfl, rfl, hz, hT6⟩ | ⟨hall, rfl, rfl⟩
   ·have := cnt_lt hTn i (by omega)
    omega
   have l6 := f6.len
   have htk6 := f6.get htk5 (fun e => e.elim (fun e => by have := at_lt htk; omega) hG)
   have hG6 : ¬ (B6 t ∨ G6 t) := fun e => (f6.own t e).elim (fun e => e.elim (fun e => by have := at_lt htk; omega) hG) fun e => by have := at_lt htk5; omega
   have y6 := at_lt htk6
   have c6 := k6.ctr; have c7 := k6.dw; have c8 := k6.wait
   have hkb : kbt [] 0 = 1 := rfl
   repeat' first | ((with_reducible first | refine cs ?_ ?_ | refine ws ?_ ?_) <;> intro h <;> try simp only [h]) | simp only [↓wBA, tLac, convA, seval, wH, wHl, kindJ, tyJ, mutsJ, lenJ]
   refine awp_loopS (X := { j : Nat // j ≤ fl.length }) (fun j => fl.length - j.1) (fun j => [(14, intV .i64 (j.1 : Nat))]) [4, 15, 98, 99, 100, 101, 102, 103, 104, 105, 106, 107, 108, 109, 110, 111, 112, 113, 114, 115, 116, 117, 118, 119, 120, 121, 122, 123, 124, 125, 126, 127, 128] (fun j s => s6.length ≤ s.length ∧ ∃ B G' P' ch T, BatchAt s q.length p B ch ∧ PoolAt s p dd l kh G' P' ∧ (∀ t, B t → G' t → False) ∧ ¬ (B t ∨ G' t) ∧ s[t]? = some (some (.row 1 (tkR T i))) ∧ Tk (bview P'.view ch 0) i T ∧ T 0 = true ∧ P'.pages = i ∧ P'.log.disk.size = 900 ∧ P'.log.ctr ≤ 300001 * i + 2 ∧ P'.data.wait.length ≤ 2400008 * i + 16 ∧ P'.log.wait ≤ 300001 * i + 2 ∧ ((ch = [] ∧ (∀ m, m < i → T m = true) ∧ P'.log.ctr ≤ 300001 * i + 1 ∧ P'.data.wait.length ≤ 2400008 * i + 8 ∧ P'.log.wait ≤ 300001 * i + 1) ∨ ∃ pg, ch = [(0, pg)] ∧ pgz pg = pg)) (⟨0, by omega⟩) ?_ ?_ ?_ ?_
   ·simp only [wHl, wHf]
   ·exact ⟨Nat.le_refl _, B6, G6, P6, [], T, hB6, hP6, hd6, hG6, htk6, by rw [bview_congr k6.view]; exact hT, hT0, by rw [k6.pages, hpg'], by rw [k6.ls, hls], by omega, by omega, by omega, .inl ⟨rfl, fun m hm => hall m (by omega), by omega, by omega, by omega⟩⟩
   ·rintro _ _ ⟨h, _⟩; omega
   ·intro y2 J2 q2 hI2
    clear hB5 hP5 hd5 htk5 hT hcn hP htk hall hB6 hP6 hd6 hG6 htk6
    simp only [wHl]
    obtain ⟨j, hj⟩ := y2
    obtain ⟨hq2, B, G2, P2, ch, T2, hB, hP, hd, hG, htk, hT, hT0, hpg2, hls2, hc2, hw2, hlw2, hch⟩ := hI2
    dsimp only at *
    have hel : ((encB fl).length : Int) = (fl.length : Int) := by simp [encB]
    have hel2 : (encB fl).length = fl.length := by simp [encB]
    by_cases hjl : j < fl.length
    ·have e1 := dT hjl
     obtain ⟨c, hcj⟩ : ∃ c, fl[j]? = some c := ⟨fl[j], by simp⟩
     have hge : (encB fl)[j]? = some [.v (.int .u8 (c.toNat : Nat))] := by simp [encB, hcj, byteP]
     have hc255 := c.toNat_lt
     have v1 : IntKind.i64.wrap ((c.toNat : Nat) : Int) = ((c.toNat : Nat) : Int) := wrap_i64 (by omega) (by omega)
     have v2 : ((c.toNat : Nat) : Int).tmod (i : Int) = ((c.toNat % i : Nat) : Int) := by rw [Int.tmod_eq_emod_of_nonneg (by omega)]; omega
     have v3 : ((i : Int) == 0) = false := by simp; omega
     have v4 : ((j : Int) < (fl.length : Int)) = True := eq_true (by omega)
     have v5 := nnI j
     have v6 : ((i : Int) = 0) = False := eq_false (by omega)
     have hki : c.toNat % i < i := Nat.mod_lt _ (by omega)
     obtain ⟨k, hk⟩ : ∃ k, k = c.toNat % i := ⟨_, rfl⟩
     rw [← hk] at v2 hki
     have hwj := wI j (by omega)
     have y2 := at_lt htk
     have q3 : ((k : Int) < (i : Int)) = True := eq_true (by omega)
     have q4 := nnI k
     by_cases hk0 : k = 0
     ·have q5 : decide ((k : Int) > 0) = false := by simp; omega
      repeat' first | ((with_reducible first | refine cs ?_ ?_ | refine ws ?_ ?_) <;> intro h <;> try simp only [h]) | simp only [↓wBA, tLac, convA, seval, wH, wHl, kindJ, tyJ, mutsJ, lenJ, e1, hel, hel2, hge, v1, v2, v3, v4, v5, v6, Int.toNat_natCast]
      refine (afreeX hB hP (n := (k : Int)) (by omega)).mono ?_
      rintro _ _ ⟨rfl, rfl⟩
      repeat' first | ((with_reducible first | refine cs ?_ ?_ | refine ws ?_ ?_) <;> intro h <;> try simp only [h]) | simp only [↓wBA, tLac, convA, seval, wH, wHl, kindJ, tyJ, mutsJ, lenJ, q5, hwj]
      refine ⟨⟨j + 1, by omega⟩, by show fl.length - (j + 1) < fl.length - j; omega, ?_, by simp only [wHl, wHf]⟩
      exact ⟨by omega, B, G2, P2, ch, T2, hB, hP, hd, hG, htk, hT, hT0, hpg2, hls2, hc2, hw2, hlw2, hch⟩
     ·have q5 : decide ((k : Int) > 0) = true := by simp; omega
      have hkb2 := kbt_le ch 0
      have hcl : ch.length ≤ 1 := by rcases hch with ⟨rfl, _⟩ | ⟨pg, rfl, _⟩ <;> simp
      repeat' first | ((with_reducible first | refine cs ?_ ?_ | refine ws ?_ ?_) <;> intro h <;> try simp only [h]) | simp only [↓wBA, tLac, convA, seval, wH, wHl, kindJ, tyJ, mutsJ, lenJ, e1, hel, hel2, hge, v1, v2, v3, v4, v5, v6, Int.toNat_natCast]
      refine (afree (n := k) (T := T2) hB hP hd (by rw [hpg2]; exact hT) (by omega) (by omega) (by omega) (by omega) (by omega) (by omega)).mono ?_
      rintro _ s7 ⟨B7, G7, P7, ch7, f7, hB7, hP7, hd7, k7, hk7, hcase⟩
      have l7 := f7.len
      have htk7 := f7.get htk hG
      have hG7 : ¬ (B7 t ∨ G7 t) := fun e => (f7.own t e).elim hG fun e => by have := at_lt htk; omega
      have y7 := at_lt htk7
      have d1 := k7.ctr; have d2 := k7.dw; have d3 := k7.wait
      have hbud : P7.log.ctr ≤ 300001 * i + 2 ∧ P7.data.wait.length ≤ 2400008 * i + 16 ∧ P7.log.wait ≤ 300001 * i + 2 := by
       rcases hch with ⟨rfl, _, h1, h2, h3⟩ | ⟨pg, rfl, _⟩
       ·exact ⟨by omega, by omega, by omega⟩
       ·rw [hk7 rfl]; exact ⟨hc2, hw2, hlw2⟩
      have hset0 := tkR_set T2 i k false
      rcases hcase with ⟨pg', hTk, rfl, rfl, hz', hT7⟩ | ⟨hTk, rfl, rfl⟩
      ·have hget := tkR_get (T := T2) (n := i) (k := k) (by omega)
       rw [hTk] at hget
       repeat' first | ((with_reducible first | refine cs ?_ ?_ | refine ws ?_ ?_) <;> intro h <;> try simp only [h]) | simp only [↓wBA, tLac, convA, seval, wH, wHl, kindJ, tyJ, mutsJ, lenJ, q5, hwj, q3, q4, htk7, y7, hget, Int.toNat_natCast, hset0]
       refine ⟨⟨j + 1, by omega⟩, by show fl.length - (j + 1) < fl.length - j; omega, ?_, by simp only [wHl, wHf]⟩
       have hP8 := hP7.same (s := s7.set t (some (.row 1 (tkR (updT T2 k false) i)))) fun t' ht' => List.getElem?_set_ne fun e => hG7 (.inr (by subst e; exact ht'))
       have hB8 := hB7.same (s := s7.set t (some (.row 1 (tkR (updT T2 k false) i)))) fun t' ht' => List.getElem?_set_ne fun e => hG7 (.inl (by subst e; exact ht'))
       refine ⟨by omega, B7, G7, P7, _, updT T2 k false, hB8, hP8, hd7, hG7, by simp [y7], ?_, ?_, by rw [k7.pages, hpg2], by rw [k7.ls, hls2], hbud.1, hbud.2.1, hbud.2.2, .inr ⟨pg', ?_, hz'⟩⟩
       ·rw [bview_set, if_pos rfl]; rw [hpg2] at hT7; exact hT7
       ·unfold updT; rw [if_neg (by omega)]; exact hT0
       ·rcases hch with ⟨rfl, _⟩ | ⟨pg, rfl, _⟩ <;> rfl
      ·have hget := tkR_get (T := T2) (n := i) (k := k) (by omega)
       rw [hTk] at hget
       rw [updT_same hTk] at hset0
       repeat' first | ((with_reducible first | refine cs ?_ ?_ | refine ws ?_ ?_) <;> intro h <;> try simp only [h]) | simp only [↓wBA, tLac, convA, seval, wH, wHl, kindJ, tyJ, mutsJ, lenJ, q5, hwj, q3, q4, htk7, y7, hget, Int.toNat_natCast, hset0]
       refine ⟨⟨j + 1, by omega⟩, by show fl.length - (j + 1) < fl.length - j; omega, ?_, by simp only [wHl, wHf]⟩
       have hch' : ∃ pg, ch7 = [(0, pg)] ∧ pgz pg = pg := by
        rcases hch with ⟨_, hall2, _⟩ | h
        ·rw [hall2 k (by omega)] at hTk; cases hTk
        ·exact h
       refine ⟨by omega, B7, G7, P7, ch7, T2, hB7, hP7, hd7, hG7, rfl, ?_, hT0, by rw [k7.pages, hpg2], by rw [k7.ls, hls2], hbud.1, hbud.2.1, hbud.2.2, .inr hch'⟩
       rw [bview_congr k7.view]; exact hT
    ·obtain rfl : j = fl.length := by omega
     have e1 := dF (i := fl.length) (n := fl.length) (by omega)
     repeat' first | ((with_reducible first | refine cs ?_ ?_ | refine ws ?_ ?_) <;> intro h <;> try simp only [h]) | simp only [↓wBA, tLac, convA, seval, wH, wHl, kindJ, tyJ, mutsJ, lenJ, e1, hel, hel2]
     have y2 := at_lt htk
     have hcnt1 : 1 - cnt T2 1 = 0 := by simp only [cnt, hT0]; rfl
     refine awp_loopS (X := { m : Nat // 1 ≤ m ∧ m ≤ i }) (fun m => i - m.1) (fun m => [(16, intV .i64 (m.1 - cnt T2 m.1 : Nat)), (17, intV .i64 (m.1 : Nat))]) [129, 130, 131, 132, 133, 134, 135, 136, 137, 138, 139, 140] (fun m s => s = q2) (⟨1, by omega, by omega⟩) ?_ ?_ ?_ ?_
     ·simp only [wHl, wHf, c1z, hcnt1]
     ·rfl
     ·rintro _ _ rfl; exact Nat.le_refl _
     ·intro y3 J3 q3 hI3
      simp only [wHl]
      obtain ⟨m, hm, hm2⟩ := y3
      subst hI3
      dsimp only at *
      have hcm := cnt_le T2 m
      by_cases hml : m < i
      ·have e2 := dT hml
       have u1 := nnI m
       have u2 : ((m : Int) < (i : Int)) = True := eq_true (by omega)
       have hget := tkR_get (T := T2) (n := i) (k := m) (by omega)
       have hwm := wI m (by omega)
       have hcs : cnt T2 (m + 1) = cnt T2 m + if T2 m then 1 else 0 := rfl
       have hwl := wI (m - cnt T2 m) (by omega)
       cases hTm : T2 m with
       | true =>
         rw [hTm] at hget hcs
         have hcs2 : m + 1 - cnt T2 (m + 1) = m - cnt T2 m := by rw [hcs]; simp
         repeat' first | ((with_reducible first | refine cs ?_ ?_ | refine ws ?_ ?_) <;> intro h <;> try simp only [h]) | simp only [↓wBA, tLac, convA, seval, wH, wHl, kindJ, tyJ, mutsJ, lenJ, e2, u1, u2, htk, y2, hget, Int.toNat_natCast, hwm]
         refine ⟨⟨m + 1, by omega, by omega⟩, by show i - (m + 1) < i - m; omega, by simp only [wHl, wHf, hcs2]⟩
       | false =>
         rw [hTm] at hget hcs
         have hcs2 : m + 1 - cnt T2 (m + 1) = m - cnt T2 m + 1 := by rw [hcs]; simp; omega
         repeat' first | ((with_reducible first | refine cs ?_ ?_ | refine ws ?_ ?_) <;> intro h <;> try simp only [h]) | simp only [↓wBA, tLac, convA, seval, wH, wHl, kindJ, tyJ, mutsJ, lenJ, e2, u1, u2, htk, y2, hget, Int.toNat_natCast, hwm, hwl]
         refine ⟨⟨m + 1, by omega, by omega⟩, by show i - (m + 1) < i - m; omega, by simp only [wHl, wHf, hcs2]⟩
      ·obtain rfl : m = i := by omega
       have e2 := dF (i := m) (n := m) (by omega)
       have hok0 : ∀ q ∈ ch, q.1 < m ∧ pgz q.2 = q.2 := by
        rcases hch with ⟨rfl, _⟩ | ⟨pg, rfl, hz⟩
        ·simp
        ·intro q hq; simp at hq; subst hq; exact ⟨by show 0 < m; omega, hz⟩
       have hcl0 : ch.length ≤ 1 := by rcases hch with ⟨rfl, _⟩ | ⟨pg, rfl, _⟩ <;> simp
       obtain ⟨lf, hlf⟩ : ∃ lf, lf = m - cnt T2 m := ⟨_, rfl⟩
       rw [← hlf]
       repeat' first | ((with_reducible first | refine cs ?_ ?_ | refine ws ?_ ?_) <;> intro h <;> try simp only [h]) | simp only [↓wBA, tLac, convA, seval, wH, wHl, kindJ, tyJ, mutsJ, lenJ, e2]
       refine awp_loopS (X := { r : Nat // r ≤ lf }) (fun r => lf - r.1) (fun r => [(18, intV .i64 (r.1 : Nat))]) [4, 19, 20, 141, 142, 143, 144, 145, 146, 147, 148, 149, 150, 151, 152, 153, 154, 155, 156, 157, 158, 159, 160, 161, 162, 163, 164, 165, 166, 167, 168, 169, 170] (fun r s => q3.length ≤ s.length ∧ ∃ B G' P' ch T, BatchAt s q.length p B ch ∧ PoolAt s p dd l kh G' P' ∧ (∀ t, B t → G' t → False) ∧ ¬ (B t ∨ G' t) ∧ s[t]? = some (some (.row 1 (tkR T m))) ∧ Tk (bview P'.view ch 0) m T ∧ T 0 = true ∧ P'.pages = m ∧ P'.log.disk.size = 900 ∧ P'.log.ctr ≤ 300001 * m + 2 + r.1 ∧ P'.data.wait.length ≤ 2400008 * m + 16 + 8 * r.1 ∧ P'.log.wait ≤ 300001 * m + 2 ∧ cnt T m = cnt T2 m + r.1 ∧ ch.length ≤ 1 + 2 * r.1 ∧ ∀ q ∈ ch, q.1 < m ∧ pgz q.2 = q.2) (⟨0, by omega⟩) ?_ ?_ ?_ ?_
       ·simp only [wHl, wHf]
       ·exact ⟨Nat.le_refl _, B, G2, P2, ch, T2, hB, hP, hd, hG, htk, hT, hT0, hpg2, hls2, hc2, hw2, hlw2, rfl, hcl0, hok0⟩
       ·rintro _ _ ⟨h, _⟩; omega
       ·intro y4 J4 q4 hI4
        clear hB hP hd hG htk hT hT0 hok0 hcl0 hch
        simp only [wHl]
        obtain ⟨r, hr⟩ := y4
        obtain ⟨hq4, B, G4, P4, ch4, T4, hB, hP, hd, hG, htk, hT, hT0, hpg4, hls4, hc4, hw4, hlw4, hct, hcl, hok⟩ := hI4
        dsimp only at *
        have hkb4 := kbt_le ch4 0
        have y4 := at_lt htk
        by_cases hrl : r < lf
        ·have e3 := dT hrl
         repeat' first | ((with_reducible first | refine cs ?_ ?_ | refine ws ?_ ?_) <;> intro h <;> try simp only [h]) | simp only [↓wBA, tLac, convA, seval, wH, wHl, kindJ, tyJ, mutsJ, lenJ, e3]
         refine (aalloc (kind := 2) (T := T4) hB hP hd (by rw [hpg4]; exact hT) (by omega) (by omega) hT0 (by omega) (by omega) (by omega)).mono ?_
         rintro r' s7 ⟨B7, G7, P7, ch7, f7, hB7, hP7, hd7, k7, _, hcase⟩
         rcases hcase with ⟨k, pg, n1, n2, hTn, rfl, rfl, hz, hT7⟩ | ⟨hall, _, _⟩
         rotate_left
         ·have := cnt_all (T := T4) m fun a ha => hall a (by omega)
          omega
         have l7 := f7.len
         have htk7 := f7.get htk hG
         have hG7 : ¬ (B7 t ∨ G7 t) := fun e => (f7.own t e).elim hG fun e => by have := at_lt htk; omega
         have y7 := at_lt htk7
         have d1 := k7.ctr; have d2 := k7.dw; have d3 := k7.wait
         have g1 : decide ((k : Int) < 1) = false := by simp; omega
         have g2 : decide ((k : Int) ≥ (m : Int)) = false := by simp; omega
         have g3 : ((k : Int) < (m : Int)) = True := eq_true (by omega)
         have g4 := nnI k
         have hget := tkR_get (T := T4) (n := m) (k := k) (by omega)
         rw [hTn] at hget
         have hset := tkR_set T4 m k true
         have hwr := wI r (by omega)
         repeat' first | ((with_reducible first | refine cs ?_ ?_ | refine ws ?_ ?_) <;> intro h <;> try simp only [h]) | simp only [↓wBA, tLac, convA, seval, wH, wHl, kindJ, tyJ, mutsJ, lenJ, g1, g2, g3, g4, htk7, y7, hget, Int.toNat_natCast, hset, hwr]
         have hP8 := hP7.same (s := s7.set t (some (.row 1 (tkR (updT T4 k true) m)))) fun t' ht' => List.getElem?_set_ne fun e => hG7 (.inr (by subst e; exact ht'))
         have hB8 := hB7.same (s := s7.set t (some (.row 1 (tkR (updT T4 k true) m)))) fun t' ht' => List.getElem?_set_ne fun e => hG7 (.inl (by subst e; exact ht'))
         have hl1 := len_setM (setM ch4 0 pg) k (newL 2)
         have hl2 := len_setM ch4 0 pg
         refine ⟨⟨r + 1, by omega⟩, by show lf - (r + 1) < lf - r; omega, ?_, by simp only [wHl, wHf]⟩
         dsimp only
         refine ⟨by omega, B7, G7, P7, _, updT T4 k true, hB8, hP8, hd7, hG7, by simp [y7], ?_, ?_, by rw [k7.pages, hpg4], by rw [k7.ls, hls4], by omega, by omega, by omega, ?_, by omega, fun a ha => ?_⟩
         ·rw [bview_set, if_neg (by omega), bview_set, if_pos rfl]; rw [hpg4] at hT7; exact hT7
         ·unfold updT; rw [if_neg (by omega)]; exact hT0
         ·rw [cnt_true hTn m (by omega), hct]; omega
         ·rcases mem_set a ha with rfl | ha
          ·exact ⟨by show k < m; omega, newL_nz _⟩
          ·rcases mem_set a ha with rfl | ha
           ·exact ⟨by show 0 < m; omega, hz⟩
           ·exact hok a ha
        ·obtain rfl : r = lf := by omega
         have e3 := dF (i := r) (n := r) (by omega)
         have hcm2 := cnt_le T2 m
         repeat' first | ((with_reducible first | refine cs ?_ ?_ | refine ws ?_ ?_) <;> intro h <;> try simp only [h]) | simp only [↓wBA, tLac, convA, seval, wH, wHl, kindJ, tyJ, mutsJ, lenJ, e3]
         refine (aalloc (kind := 1) (T := T4) hB hP hd (by rw [hpg4]; exact hT) (by omega) (by omega) hT0 (by omega) (by omega) (by omega)).mono ?_
         rintro r' s7 ⟨B7, G7, P7, ch7, f7, hB7, hP7, hd7, k7, _, hcase⟩
         rcases hcase with ⟨k, pg, n1, n2, hTn, rfl, rfl, hz, hT7⟩ | ⟨hall, rfl, rfl⟩
         ·have := cnt_lt hTn m (by omega)
          omega
         have l7 := f7.len
         have d1 := k7.ctr; have d2 := k7.dw; have d3 := k7.wait
         have hdone : ACalls Try.prog 19 [.mp q.length 2 0 0] s7 fun r σ' => r = intV .i64 0 ∧ s7.length ≤ σ'.length := by
          by_cases hne : ch7 = []
          ·subst hne
           refine (adone0 hB7).mono ?_
           rintro _ s8 ⟨rfl, f8, _⟩
           exact ⟨rfl, f8.len⟩
          ·refine (adone1 hB7 hP7 hd7 hne (fun a ha => by rw [k7.pages, hpg4]; exact hok a ha) (by rw [k7.ls, hls4]; omega) (by omega) (by omega) (by omega)).mono ?_
           rintro _ s8 ⟨rfl, G8, P8, f8, _⟩
           exact ⟨rfl, f8.len⟩
         repeat' first | ((with_reducible first | refine cs ?_ ?_ | refine ws ?_ ?_) <;> intro h <;> try simp only [h]) | simp only [↓wBA, tLac, convA, seval, wH, wHl, kindJ, tyJ, mutsJ, lenJ]
         refine hdone.mono ?_
         rintro _ s8 ⟨rfl, l8⟩
         repeat' first | ((with_reducible first | refine cs ?_ ?_ | refine ws ?_ ?_) <;> intro h <;> try simp only [h]) | simp only [↓wBA, tLac, convA, seval, wH, wHl, kindJ, tyJ, mutsJ, lenJ]
         all_goals refine ret_st ?_ (by first | exact Nat.le_refl _ | (simp only [List.length_set, List.length_append]; omega) | omega)
         all_goals simp only [resA.eq_1, resL.eq_1, resL.eq_2, resV.eq_1, resV.eq_2, ↓wBA, tLac, convA, seval, wH, kindJ, tyJ, mutsJ, lenJ]
theorem rooms_law (c : Int) (x : PV) (v : Value) (W : World) (hx : HasSh (.sl 1 [.int .u8]) x) (hr : PRep W (inH W) x v) (hw : (Lit.int .u8 c).wf = true) :
 Calls Try.prog 4 #[.int .u8 c, v] W fun e W' => e = .returned (.bool true) ∧ Below W.heap.size W W' := by
 obtain ⟨r, hb, hrl⟩ := bytes_sh2 hx
 subst hb
 have hb : 0 ≤ c ∧ c ≤ 255 := by
  simp [Lit.wf, IntKind.min, IntKind.max, IntKind.signed, IntKind.bits] at hw
  omega
 obtain ⟨n, rfl⟩ : ∃ n : Nat, c = n := ⟨c.toNat, by omega⟩
 exact law_calls2 (W := W) (vs := [.int .u8 n, v]) (apoolRooms r (by omega) n (by omega) []) (by
  simp only [ARepL]
  exact ⟨_, _, rfl, rep_mk rfl, _, _, rfl, (by simp only [ARep]; exact hr), rfl⟩)
end Go.Proofs.Ytpfdbjmojbhnmaa
