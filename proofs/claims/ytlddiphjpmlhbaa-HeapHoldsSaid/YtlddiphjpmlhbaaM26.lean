/- Logs: the records of bytes. Logs: an empty one is opened. -/
import Derived.Test.YtlddiphjpmlhbaaM25
set_option linter.unusedSimpArgs false
set_option linter.unusedVariables false
set_option linter.defProp false
set_option maxRecDepth 100000
set_option maxHeartbeats 32000000
namespace Go.Proofs.Ytlddiphjpmlhbaa
open Go.RowKit
def tWf := aa wX <| aa wbu <| aa T3 <| aa T5 <| aa T22 <| aa T23 T112
theorem anumberM {σ : St} {t o : Nat} {ls : List (List AV)} (l : List UInt8) (ht : σ[t]? = some (some (.row 1 ls))) (hl : l.length ≤ 8) (hc : ∀ i, (h : i < l.length) → ls[o + i]? = some [.p (byteP l[i])]) :
 ACalls Try.prog 46 [.ms t 1 o l.length] σ fun r σ' => σ' = σ ∧ r = .p (.v (.int .u64 (numB l : Nat))) := by
 have l0 := at_lt ht
 refine acalls_of cx_ok dr_ok Try.func46 (by kernel_rfl) rfl (nt := 21) (rs := [.tmp 2]) rfl rfl ?_
 repeat' first | ((with_reducible first | refine cs ?_ ?_ | refine ws ?_ ?_) <;> intro h <;> try simp only [h]) | simp only [↓wBA, tWf, convA, seval, wH]
 refine awp_loopS (X := { i : Nat // i ≤ l.length }) (fun i => l.length - i.1) (fun i => [(3, .p (.v (.int .u64 (numB (l.take i.1) : Nat)))), (7, intV .i64 (i.1 : Nat))]) [4, 8, 9, 10, 11, 12, 13, 14, 15, 16, 17, 18, 19, 20] (fun i s => s = σ) (⟨0, by omega⟩) ?_ ?_ ?_ ?_
 ·simp only [wHl, wHf, List.take_zero, numB]
 ·rfl
 ·rintro _ _ rfl; exact Nat.le_refl _
 ·intro x J s hI
  simp only [wHl]
  obtain ⟨i, hi⟩ := x
  subst hI
  dsimp only
  by_cases hlt : i < l.length
  ·have hdec := dT (i := i) (n := l.length) (by omega)
   have hi0 := nnI i
   have hw1 := wI i (by omega)
   have hg := hc i hlt
   have hor := or_num hlt (by omega)
   have hbd : ((i : Int) < (l.length : Int)) = True := eq_true (by omega)
   have hm : IntKind.i64.wrap (8 * (i : Int)) = ((8 * i : Nat) : Int) := by rw [wrap_i64 (by omega) (by omega)]; simp
   have hu : IntKind.u64.wrap ((l[i]).toNat : Int) = ((l[i]).toNat : Int) := by have := (l[i]).toNat_lt; exact IntKind.wrap_u64 _ ▸ (by omega)
   have hmn : min (8 * i) IntKind.u64.bits = 8 * i := Nat.min_eq_left (by show 8 * i ≤ 64; omega)
   have hng : (((8 * i : Nat) : Int) < 0) = False := eq_false (by omega)
   repeat' first | ((with_reducible first | refine cs ?_ ?_ | refine ws ?_ ?_) <;> intro h <;> try simp only [h]) | simp only [↓wBA, tWf, convA, seval, wH, wHl, ht, l0, hdec, hi0, hg, hbd, hw1, hm, hu, hmn, hng, hor, byteP]
   all_goals exact ⟨⟨i + 1, by omega⟩, by show l.length - (i + 1) < l.length - i; omega, rfl⟩
  ·have hdec := dF (i := i) (n := l.length) (by omega)
   have he : i = l.length := by omega
   subst he
   repeat' first | ((with_reducible first | refine cs ?_ ?_ | refine ws ?_ ?_) <;> intro h <;> try simp only [h]) | simp only [↓wBA, tWf, convA, seval, wH, wHl, ht, hdec]
   all_goals refine ret_st ?_ (by first | exact Nat.le_refl _ | (simp only [List.length_set, List.length_append]; omega) | omega)
   all_goals simp only [resA.eq_1, resL.eq_1, resL.eq_2, resV.eq_1, resV.eq_2, ↓wBA, tWf, convA, seval, wH, List.take_length]
theorem toPss_b (l : List UInt8) : toPss (bRows l) = some (encB l) := by
 induction l with
 | nil => rfl
 | cons b l ih =>
   simp only [bRows, List.map_cons, toPss, toPs, toP, encB] at ih ⊢
   rw [ih]
theorem acloneB {σ : St} {t o : Nat} {ls : List (List AV)} (r : List UInt8) (ht : σ[t]? = some (some (.row 1 ls))) (hr : (ls.drop o).take r.length = bRows r) (ho : o + r.length ≤ ls.length) (h0 : 0 < r.length) (hb : r.length ≤ 1000000000000) :
 ACalls Try.prog 68 [.ms t 1 o r.length] σ fun x σ' => Ap σ σ' ∧ ∃ t', x = .own t' 1 (encB r) := by
 have l0 := at_lt ht
 have hs := toPss_b r
 have hne : encB r ≠ [] := fun e => by have := encB_len r; rw [e] at this; simp at this; omega
 have hl1 := tL (n := r.length) (by omega)
 have hl2 := lM (n := r.length) (by omega)
 have he := encB_len r
 have hin : (o + r.length ≤ ls.length) = True := eq_true ho
 refine acalls_of cx_ok dr_ok Try.func68 (by kernel_rfl) rfl (nt := 7) (rs := [.tmp 2]) rfl rfl ?_
 repeat' first | ((with_reducible first | refine cs ?_ ?_ | refine ws ?_ ?_) <;> intro h <;> try simp only [h]) | simp only [↓wBA, tWf, convA, seval, wH, ht, l0, hr, hs, hl1, hl2, he, hin, appendA, Nat.mul_one, Nat.zero_add, List.nil_append, List.length_nil, Nat.zero_mul]
 all_goals refine ret_st ?_ (by first | exact Nat.le_refl _ | (simp only [List.length_set, List.length_append]; omega) | omega)
 all_goals simp only [resA.eq_1, resL.eq_1, resL.eq_2, resV.eq_1, resV.eq_2, ↓wBA, tWf, convA, seval, wH]
 exact ⟨Ap.app _ _, _, rfl⟩
theorem slice_end {C : Ctx} {T E es eb t i n : Nat} {ez : List Value} (hc : C.kind T = some (.slice E es eb ez)) (hk : 0 < n) : sliceA C T (.ms t es i n) (some (.p (.v (.int .i64 (n : Nat))))) none = some (.p (.sl es [])) := by
 obtain ⟨m, rfl⟩ : ∃ m, n = m + 1 := ⟨n - 1, by omega⟩
 simp only [sliceA, hc, elemsA, boundA, intA]
 rw [if_neg (fun h => by have := h.2.2.1; omega), if_pos ⟨trivial, by omega, by first | trivial | rfl, by omega⟩]
theorem slice_pre {C : Ctx} {T E es eb t i n k : Nat} {ez : List Value} {kk : IntKind} (hc : C.kind T = some (.slice E es eb ez)) (hk : k ≤ n) : sliceA C T (.ms t es i n) none (some (.p (.v (.int kk (k : Nat))))) = some (.ms t es i k) := by
 simp only [sliceA, hc, elemsA, boundA, intA]
 simp
 omega
theorem slice_mid {C : Ctx} {T E es eb t i n k h : Nat} {ez : List Value} (hc : C.kind T = some (.slice E es eb ez)) (hk0 : 0 < k) (hk : k < h) (hh : h ≤ n) : sliceA C T (.ms t es i n) (some (.p (.v (.int .i64 (k : Nat))))) (some (.p (.v (.int .i64 (h : Nat))))) = some (.ms t es (i + k) (h - k)) := by
 obtain ⟨m, rfl⟩ : ∃ m, k = m + 1 := ⟨k - 1, by omega⟩
 simp only [sliceA, hc, elemsA, boundA, intA]
 rw [if_pos ⟨trivial, by omega, by omega, by omega⟩]
 simp
def recB (r : List UInt8) : List UInt8 := leB r.length 4 ++ r
def recsB (rs : List (List UInt8)) : List UInt8 := rs.flatMap recB
theorem recB_len (r : List UInt8) : (recB r).length = r.length + 4 := by simp [recB, leB_len]; omega
theorem recsB_cons (r : List UInt8) (rs : List (List UInt8)) : recsB (r :: rs) = recB r ++ recsB rs := rfl
theorem recsB_app (a b : List (List UInt8)) : recsB (a ++ b) = recsB a ++ recsB b := List.flatMap_append ..
theorem c4 : ((4 : Nat) : Int) = 4 := rfl
def rsA (t o n : Nat) : AV := if o < n then .ms t 1 o (n - o) else .p (.sl 1 [])
def clR (rs : List (List UInt8)) : List (List PV) := rs.map fun r => [.sl 1 (encB r)]
theorem clR_app (a : List (List UInt8)) (r : List UInt8) : clR a ++ [[.sl 1 (encB r)]] = clR (a ++ [r]) := by simp [clR]
theorem clR_len (a : List (List UInt8)) : (clR a).length = a.length := by simp [clR]
theorem at_row {ls : List (List AV)} {S : List UInt8} (h3 : ls.take S.length = bRows S) {i : Nat} (hi : i < S.length) : ls[i]? = some [.p (byteP S[i])] := by
 have h : (ls.take S.length)[i]? = (bRows S)[i]? := by rw [h3]
 rw [List.getElem?_take, if_pos hi] at h
 rw [h]; simp [bRows, hi]
theorem bRow_part {ls : List (List AV)} {S : List UInt8} (h3 : ls.take S.length = bRows S) (o n : Nat) (hn : o + n ≤ S.length) : (ls.drop o).take n = bRows ((S.drop o).take n) := by
 have h : (ls.take S.length).drop o = (bRows S).drop o := by rw [h3]
 have h2 : (ls.drop o).take n = ((ls.take S.length).drop o).take n := by
  rw [List.drop_take, List.take_take, Nat.min_eq_left (by omega)]
 rw [h2, h]
 simp only [bRows, List.map_take, List.map_drop]
theorem recsB_ge : ∀ rs : List (List UInt8), (∀ r ∈ rs, 0 < r.length) → 5 * rs.length ≤ (recsB rs).length
 | [], _ => Nat.le_refl _
 | r :: rs, h => by have := recsB_ge rs (fun x hx => h x (by simp [hx])); have := h r (by simp); rw [recsB_cons, List.length_append, recB_len, List.length_cons]; omega
theorem arecords {σ : St} {t : Nat} {ls : List (List AV)} (rs : List (List UInt8)) (ht : σ[t]? = some (some (.row 1 ls))) (h3 : ls.take (recsB rs).length = bRows (recsB rs)) (h4 : (recsB rs).length ≤ ls.length) (hne : rs ≠ []) (h0 : ∀ r ∈ rs, 0 < r.length) (hb : (recsB rs).length ≤ 4194304) :
 ACalls Try.prog 48 [.ms t 1 0 (recsB rs).length] σ fun x σ' => Ap σ σ' ∧ ∃ t', x = .tup [.own t' 1 (clR rs), boolV true] := by
 have l0 := at_lt ht
 have hS0 : 0 < (recsB rs).length := by
  cases rs with
  | nil => exact absurd rfl hne
  | cons r rs => rw [recsB_cons, List.length_append, recB_len]; omega
 obtain ⟨N, hN⟩ : ∃ N, (recsB rs).length = N := ⟨_, rfl⟩
 have e0 : AV.ms t 1 0 N = rsA t (recsB (rs.take 0)).length N := by unfold rsA; simp [recsB]; omega
 rw [hN] at hS0 hb h4 ⊢
 refine acalls_of cx_ok dr_ok Try.func48 (by kernel_rfl) rfl (nt := 37) (rs := [.tmp 2, .tmp 3]) rfl rfl ?_
 repeat' first | ((with_reducible first | refine cs ?_ ?_ | refine ws ?_ ?_) <;> intro h <;> try simp only [h]) | simp only [↓wBA, tWf, convA, seval, wH]
 refine awp_loopS (X := { k : Nat // k ≤ rs.length } × AV) (fun k => rs.length - k.1.1) (fun k => [(0, rsA t (recsB (rs.take k.1.1)).length N), (4, k.2)]) [2, 3, 5, 6, 7, 8, 9, 10, 11, 12, 13, 14, 15, 16, 17, 18, 19, 20, 21, 22, 23, 24, 25, 26, 27, 28, 29, 30, 31, 32, 33, 34, 35, 36] (fun k s => Ap σ s ∧ OwnR s k.2 23 1 (clR (rs.take k.1.1)) ∧ ∀ t, ownOf k.2 = some t → σ.length ≤ t) ((⟨0, by omega⟩, .p (.v (.slice none 0 0)))) ?_ ?_ ?_ ?_
 ·simp only [wHl, wHf, ← e0]
 ·exact ⟨Ap.refl _, .inl ⟨rfl, rfl⟩, fun t e => by cases e⟩
 ·rintro _ _ ⟨hf, _⟩; exact hf.len
 ·intro y J s hI
  simp only [wHl]
  obtain ⟨⟨k, hk⟩, a⟩ := y
  obtain ⟨ha, ho, hnew⟩ := hI
  dsimp only at *
  have hlen' := ha.len
  by_cases hlt : k < rs.length
  ·obtain ⟨r, hr⟩ : ∃ r, rs[k]? = some r := ⟨rs[k], by simp [hlt]⟩
   have hr0 := h0 r (List.mem_of_getElem? hr)
   have htk : rs.take (k + 1) = rs.take k ++ [r] := by rw [List.take_add_one, hr]; rfl
   have hsp : recsB rs = recsB (rs.take k) ++ (recB r ++ recsB (rs.drop (k + 1))) := by
    conv => lhs; rw [← List.take_append_drop k rs, List.drop_eq_getElem_cons hlt]
    rw [recsB_app, recsB_cons]
    have : rs[k] = r := by have := List.getElem?_eq_getElem hlt; rw [hr] at this; simpa using this.symm
    rw [this]
   obtain ⟨o, hoo⟩ : ∃ o, (recsB (rs.take k)).length = o := ⟨_, rfl⟩
   have hsl : N = o + (r.length + 4 + (recsB (rs.drop (k + 1))).length) := by rw [← hN, hsp, List.length_append, List.length_append, recB_len, hoo]
   have ho1 : (recsB (rs.take (k + 1))).length = o + (r.length + 4) := by rw [htk, recsB_app, List.length_append, hoo, recsB_cons, List.length_append, recB_len]; rfl
   have hA : rsA t o N = .ms t 1 o (N - o) := if_pos (by omega)
   have g := ha.get ht
   have q := at_lt g
   have k1 : ∀ i, (h : i < (leB r.length 4).length) → ls[o + i]? = some [.p (byteP (leB r.length 4)[i])] := fun i hi => by
    rw [at_row h3 (by rw [hN]; rw [leB_len] at hi; omega)]
    simp only [hsp]
    rw [List.getElem_append_right (by omega)]
    simp only [hoo, Nat.add_sub_cancel_left, recB]
    rw [List.getElem_append_left (by simp [leB_len] at hi ⊢; omega), List.getElem_append_left hi]
   have hnum := fun τ => anumberM (σ := s ++ τ) (o := o) (leB r.length 4) (by rw [List.getElem?_append_left q]; exact g) (by rw [leB_len]; omega) k1
   have hn0 := hnum []
   rw [List.append_nil, leB_len, numB_leB, Nat.mod_eq_of_lt (show r.length < 256 ^ 4 by omega)] at hn0
   have hcl := bRow_part h3 (o + 4) r.length (by rw [hN]; omega)
   have hcl2 : List.take r.length (List.drop (o + 4) (recsB rs)) = r := by
    rw [hsp, List.drop_append, hoo, List.drop_eq_nil_of_le (by omega), List.nil_append, show o + 4 - o = 4 by omega, recB, List.append_assoc, List.drop_left' (leB_len _ 4), List.take_left' rfl]
   rw [hcl2] at hcl
   have hlo := hN
   rw [hoo]
   rw [hA]
   have b1 : decide (((N - o : Nat) : Int) > 0) = true := by simp; omega
   have b2 : decide (((N - o : Nat) : Int) < 4) = false := by simp; omega
   have w1 : IntKind.i64.wrap (((N - o : Nat) : Int) - 4) = ((N - o - 4 : Nat) : Int) := by rw [wrap_i64 (by omega) (by omega)]; omega
   have w2 : IntKind.u64.wrap ((N - o - 4 : Nat) : Int) = ((N - o - 4 : Nat) : Int) := IntKind.wrap_u64 _ ▸ (by omega)
   have b3 : decide (((N - o - 4 : Nat) : Int) < (r.length : Int)) = false := by simp; omega
   have w3 := wrap_i64 (n := (r.length : Int)) (by omega) (by omega)
   have w4 : IntKind.i64.wrap ((r.length : Int) + 4) = ((r.length + 4 : Nat) : Int) := by rw [wrap_i64 (by omega) (by omega)]; simp
   have s4 := slice_pre (C := cx) (t := t) (i := o) (n := N - o) (k := 4) (kk := .i64) ck_23 (by omega)
   have s5 := slice_mid (C := cx) (t := t) (i := o) (n := N - o) (k := 4) (h := r.length + 4) ck_23 (by omega) (by omega) (by omega)
   rw [Nat.add_sub_cancel] at s5
   simp only [c4] at s4 s5
   have hrest : sliceA cx 23 (.ms t 1 o (N - o)) (some (.p (.v (.int .i64 ((r.length + 4 : Nat) : Int))))) none = some (rsA t (o + (r.length + 4)) N) := by
    by_cases hc : r.length + 4 < N - o
    ·rw [slice_rest ck_23 hc, rsA, if_pos (by omega)]
     congr 2; omega
    ·have : N - o = r.length + 4 := by omega
     rw [rsA, if_neg (by omega), this, slice_end ck_23 (by omega)]
   repeat' first | ((with_reducible first | refine cs ?_ ?_ | refine ws ?_ ?_) <;> intro h <;> try simp only [h]) | simp only [↓wBA, tWf, convA, seval, wH, wHl, g, q, b1, b2, w1, w2, b3, w3, w4, s4, s5, hrest] | ((with_reducible show ACalls _ _ _ _ _); refine hn0.eq ?_)
   refine (acloneB (σ := s) (t := t) (o := o + 4) r g hcl (by omega) hr0 (by omega)).mono ?_
   rintro _ s1 ⟨ha1, t1, rfl⟩
   have ho1' : OwnR (s1 ++ [some (.right 23 1)]) a 23 1 (clR (rs.take k)) := ho.same fun q hq => by
    have := ho.lt hq
    rw [List.getElem?_append_left (by have := ha1.len; omega)]
    obtain ⟨τ, rfl⟩ := ha1
    exact List.getElem?_append_left this
   have hkk := recsB_ge rs h0
   obtain ⟨a2, s2, h1, h2, h3', h4', h5⟩ := app_own (q := s1 ++ [some (.right 23 1)]) (y := .own s1.length 1 [[.sl 1 (encB r)]]) (m := [[.sl 1 (encB r)]]) ck_22 ho1' rfl (by simp) (by simp only [clR_len, List.length_take, List.length_cons, List.length_nil]; omega) (by simp only [clR_len, List.length_take, List.length_cons, List.length_nil]; omega)
   rw [clR_app, ← htk] at h2
   simp only [List.length_append, List.length_cons, List.length_nil, Nat.zero_add] at h1 h3' h4' h5
   repeat' first | ((with_reducible first | refine cs ?_ ?_ | refine ws ?_ ?_) <;> intro h <;> try simp only [h]) | simp only [↓wBA, tWf, convA, seval, wH, wHl, h1, hrest]
   have hl1 := ha1.len
   have hA2 : Ap σ s2 := Ap.of_keep (by omega) fun t' ht' => by
    by_cases e : ownOf a = some t'
    ·have := hnew t' e; omega
    ·rw [h4' t' (by omega) e, List.getElem?_append_left (by omega)]
     obtain ⟨τ, rfl⟩ := ha.trans ha1
     exact List.getElem?_append_left ht'
   refine ⟨(⟨k + 1, by omega⟩, a2), by show rs.length - (k + 1) < rs.length - k; omega, ⟨hA2, h2, fun t' e => (h5 t' e).elim (hnew t') fun e => by omega⟩, ?_⟩
   simp only [wHl, wHf, ho1]
  ·have he : k = rs.length := by omega
   subst he
   have hA : rsA t (recsB (rs.take rs.length)).length N = .p (.sl 1 []) := if_neg (by rw [List.take_length, hN]; omega)
   rw [hA]
   rw [List.take_length] at ho
   repeat' first | ((with_reducible first | refine cs ?_ ?_ | refine ws ?_ ?_) <;> intro h <;> try simp only [h]) | simp only [↓wBA, tWf, convA, seval, wH, wHl]
   all_goals refine ret_st ?_ (by first | exact Nat.le_refl _ | (simp only [List.length_set, List.length_append]; omega) | omega)
   all_goals simp only [resA.eq_1, resL.eq_1, resL.eq_2, resV.eq_1, resV.eq_2, ↓wBA, tWf, convA, seval, wH]
   rcases ho with ⟨_, e⟩ | ⟨t', rfl, _, _⟩
   ·exact absurd (List.length_eq_zero_iff.1 (by rw [← clR_len, e]; rfl)) hne
   ·exact ⟨ha, t', rfl⟩
end Go.Proofs.Ytlddiphjpmlhbaa
namespace Go.Proofs.Ytlddiphjpmlhbaa
open Go.RowKit
def pl22_12Wo : Plan := (.det 0 (.det 2 (.two 1 (.two 3 (.det 4 (.fin 5 (.fin 6 .done))) 5 (.fin 3 (.det 4 (.fin 6 .done)))) 5 (.fin 1 (.fin 3 (.det 4 (.fin 6 .done)))))))
def pl22_13Wo : Plan := (.det 0 (.det 1 (.det 2 (.det 3 (.det 4 (.det 5 (.det 6 (.det 7 .done))))))))
def pl22_16Wo : Plan := (.det 0 (.det 1 (.det 2 (.det 3 (.det 5 (.two 4 (.act 6 (.det 7 (.det 8 .done))) 6 (.det 7 (.act 4 (.det 8 .done)))))))))
def pl22_19Wo : Plan := (.det 0 (.det 1 (.det 2 (.det 3 (.det 4 (.det 5 (.det 6 (.det 7 (.det 8 (.det 9 (.det 10 (.det 11 .done))))))))))))
def pl22_24Wo : Plan := (.det 0 (.det 1 (.det 2 (.det 3 (.det 4 (.det 5 (.fin 6 (.det 7 (.det 8 (.fin 9 .done))))))))))
def pl22_25Wo : Plan := (.det 0 (.det 1 (.det 2 (.det 3 (.det 4 (.det 5 (.det 6 (.det 7 (.det 8 (.det 9 (.det 10 (.det 11 (.det 12 (.fin 13 .done))))))))))))))
def tWo := aa wX <| aa wbu <| aa T3 <| aa T4 <| aa T22 <| aa T23 <| aa T26 <| aa T29 <| aa T66 <| aa T107 <| aa T112 <| aa T114 T116
theorem anumberS {σ : St} {t e : Nat} (s : List UInt8) (o n : Nat) (ht : σ[t]? = some (some (.row e [pageC s]))) (hn : n ≤ 8) (ho : o + n ≤ s.length) :
 ACalls Try.prog 46 [.bs t e 0 o n] σ fun r σ' => σ' = σ ∧ r = .p (.v (.int .u64 (numB ((s.drop o).take n) : Nat))) := by
 have hl : ((s.drop o).take n).length = n := by simp; omega
 have := anumber (o := o) ((s.drop o).take n) ht (by omega) (fun i hi => by
  have h1 : o + i < s.length := by omega
  simp only [pageC, List.getElem?_map, List.getElem?_eq_getElem h1, Option.map_some, List.getElem_take, List.getElem_drop])
 rw [hl] at this
 exact this
theorem arecs0 (σ : St) : ACalls Try.prog 48 [.p (.v (.slice none 0 0))] σ fun r σ' => σ' = σ ∧ r = .tup [.p (.v (.slice none 0 0)), boolV true] := by
 refine acalls_of cx_ok dr_ok Try.func48 (by kernel_rfl) rfl (nt := 37) (rs := [.tmp 2, .tmp 3]) rfl rfl ?_
 repeat' first | ((with_reducible first | refine cs ?_ ?_ | refine ws ?_ ?_) <;> intro h <;> try simp only [h]) | simp only [↓wBA, tWo, convA, seval, wH]
 refine awp_loopS (X := Nat) (fun i => 0) (fun i => [(0, .p (.v (.slice none 0 0))), (4, .p (.v (.slice none 0 0)))]) [2, 3, 5, 6, 7, 8, 9, 10, 11, 12, 13, 14, 15, 16, 17, 18, 19, 20, 21, 22, 23, 24, 25, 26, 27, 28, 29, 30, 31, 32, 33, 34, 35, 36] (fun i s => s = σ) (0) ?_ ?_ ?_ ?_
 ·simp only [wHl, wHf]
 ·rfl
 ·rintro _ _ rfl; exact Nat.le_refl _
 ·intro x J s hI
  simp only [wHl]
  subst hI
  repeat' first | ((with_reducible first | refine cs ?_ ?_ | refine ws ?_ ?_) <;> intro h <;> try simp only [h]) | simp only [↓wBA, tWo, convA, seval, wH, wHl]
  all_goals refine ret_st ?_ (by first | exact Nat.le_refl _ | (simp only [List.length_set, List.length_append]; omega) | omega)
  all_goals simp only [resA.eq_1, resL.eq_1, resL.eq_2, resV.eq_1, resV.eq_2, ↓wBA, tWo, convA, seval, wH]
def hdN (m : List (Nat × List UInt8)) : Nat → Nat × Nat
 | 0 => (0, 0)
 | 1 => if 0 < (headB (secAt m 0)).1 then headB (secAt m 0) else (0, 0)
 | _ => headD m
theorem hdN_succ (m : List (Nat × List UInt8)) (i : Nat) (hi : i < 2) : hdN m (i + 1) = if (hdN m i).1 < (headB (secAt m i)).1 then headB (secAt m i) else hdN m i := by
 match i, hi with
 | 0, _ => rfl
 | 1, _ => rfl
theorem awopen {σ : St} {d : Nat} {F : Nat → Prop} {D : DiskV} (h : DiskAt σ d F D) (hz : 3 ≤ D.size) (c : Nat) (hh : Heads D.now c 0) (hs : ∀ k, (secAt D.now k).length = 64) (hw : D.wait = []) :
 ACalls Try.prog 22 [.mp d 6 0 0] σ fun r σ' => r = .tup [.mp σ.length 5 0 0, .p (.v (.slice none 0 0)), intV .i64 0] ∧ Ap σ σ' ∧ LogAt σ' σ.length (fun t => t = σ.length ∨ F t) { d := d, disk := D, ctr := c, len := 0, str := [], wait := 0 } := by
 have hsz := adsize h
 have hb2 : D.size ≤ 65536 := by obtain ⟨kn, kk, w', a', es, hd, hF⟩ := h; exact hd.big
 have e0 : decide ((D.size : Int) < 3) = false := by simp; omega
 refine acalls_of cx_ok dr_ok Try.func22 (by kernel_rfl) rfl (nt := 120) (rs := [.tmp 2, .tmp 3, .tmp 4]) rfl rfl ?_
 repeat' first | ((with_reducible first | refine cs ?_ ?_ | refine ws ?_ ?_ | refine wd ?_ ?_ | refine wu ?_ ?_) <;> intro h <;> try simp only [h]) | simp only [↓wBA, tWo, convA, seval, pl22_12Wo, pl22_13Wo, pl22_16Wo, pl22_19Wo, pl22_24Wo, pl22_25Wo, wH, e0] | ((with_reducible show ACalls _ _ _ _ _); refine hsz.eq ?_) | (with_reducible refine dP pl22_12Wo 7 (some 37) (by decide) (by kernel_rfl) ?_) | (with_reducible refine dP pl22_13Wo 8 (some 42) (by decide) (by kernel_rfl) ?_) | (with_reducible refine dP pl22_16Wo 9 (some 55) (by decide) (by kernel_rfl) ?_) | (with_reducible refine dP pl22_19Wo 12 (some 64) (by decide) (by kernel_rfl) ?_) | (with_reducible refine dP pl22_24Wo 10 (some 87) (by decide) (by kernel_rfl) ?_) | (with_reducible refine dP pl22_25Wo 14 (some 96) (by decide) (by kernel_rfl) ?_) | with_reducible refine And.intro ?_ ?_
 refine awp_loopS (X := { i : Nat // i ≤ 2 }) (fun i => 2 - i.1) (fun i => [(25, intV .i64 (i.1 : Nat))]) [2, 3, 4, 6, 7, 8, 9, 26, 27, 28, 29, 30, 31, 32, 33, 34, 35, 36, 37, 38, 39, 40, 41, 42, 43, 44, 45, 46, 47, 48, 49, 50, 51, 52, 53, 54] (fun i s => Ap σ s ∧ s[σ.length]? = some (some (.row 5 [[.mp d 6 0 0, .p (.v (.int .u64 ((hdN D.now i.1).1 : Nat))), .p (.v (.int .u64 ((hdN D.now i.1).2 : Nat))), .p (.v (.slice none 0 0)), intV .i64 0]]))) (⟨0, by omega⟩) ?_ ?_ ?_ ?_
 ·simp only [wHl, wHf]
 ·exact ⟨Ap.app _ _, by simp only [wH, wHe, hdN, cz]⟩
 ·rintro _ _ ⟨_, hl⟩; have := at_lt hl; simp; omega
 ·intro x J s hI
  simp only [wHl]
  obtain ⟨i, hi⟩ := x
  obtain ⟨ha, hl⟩ := hI
  dsimp only at *
  have l0 := at_lt hl
  by_cases hlt : i < 2
  ·have hdec : decide ((i : Int) < 2) = true := by simp; omega
   have hw1 := wI i (by omega)
   repeat' first | ((with_reducible first | refine cs ?_ ?_ | refine ws ?_ ?_ | refine wd ?_ ?_ | refine wu ?_ ?_) <;> intro h <;> try simp only [h]) | simp only [↓wBA, tWo, convA, seval, pl22_12Wo, pl22_13Wo, pl22_16Wo, pl22_19Wo, pl22_24Wo, pl22_25Wo, wH, wHl, hl, l0, hdec] | (with_reducible refine dP pl22_12Wo 7 (some 37) (by decide) (by kernel_rfl) ?_) | (with_reducible refine dP pl22_13Wo 8 (some 42) (by decide) (by kernel_rfl) ?_) | (with_reducible refine dP pl22_16Wo 9 (some 55) (by decide) (by kernel_rfl) ?_) | (with_reducible refine dP pl22_19Wo 12 (some 64) (by decide) (by kernel_rfl) ?_) | (with_reducible refine dP pl22_24Wo 10 (some 87) (by decide) (by kernel_rfl) ?_) | (with_reducible refine dP pl22_25Wo 14 (some 96) (by decide) (by kernel_rfl) ?_) | with_reducible refine And.intro ?_ ?_
   refine (adread (h.ap ha) i (by omega) (hs i)).mono ?_
   rintro _ s1 ⟨ha1, rfl⟩
   have hl1 := ha1.get hl
   have l1 := at_lt hl1
   have ha2 := ha.trans ha1
   have q64 := pageC_64 (hs i)
   have e64 := pageC_64 len_zero64
   have q1 : numB (List.take 8 (secAt D.now i)) = (headB (secAt D.now i)).1 := rfl
   have q2 : numB (List.take 4 (List.drop 8 (secAt D.now i))) = (headB (secAt D.now i)).2 := rfl
   have n0 : (σ.length = s1.length) = False := nf (by omega)
   have n1 : (s1.length = σ.length) = False := nf (by omega)
   by_cases hgt : (hdN D.now i).1 < (headB (secAt D.now i)).1
   ·have hd2 : decide (((headB (secAt D.now i)).1 : Int) > ((hdN D.now i).1 : Int)) = true := by simp; omega
    repeat' first | ((with_reducible first | refine cs ?_ ?_ | refine ws ?_ ?_ | refine wd ?_ ?_ | refine wu ?_ ?_) <;> intro h <;> try simp only [h]) | simp only [↓wBA, tWo, convA, seval, pl22_12Wo, pl22_13Wo, pl22_16Wo, pl22_19Wo, pl22_24Wo, pl22_25Wo, wH, wHl, hl1, l1, q64, zB_64, boundA, n0, n1, q1, q2, hd2, hw1, pageA, e64] | ((with_reducible show ACalls _ _ _ _ _); first | (refine (anumberS (secAt D.now i) 0 8 (by simp only [wH, wHe, Nat.reduceAdd, Nat.reduceLT]) (by omega) (by rw [hs]; omega)).eq ?_) | (refine (anumberS (secAt D.now i) 8 4 (by simp only [wH, wHe, Nat.reduceAdd, Nat.reduceLT]) (by omega) (by rw [hs]; omega)).eq ?_)) | (with_reducible refine dP pl22_12Wo 7 (some 37) (by decide) (by kernel_rfl) ?_) | (with_reducible refine dP pl22_13Wo 8 (some 42) (by decide) (by kernel_rfl) ?_) | (with_reducible refine dP pl22_16Wo 9 (some 55) (by decide) (by kernel_rfl) ?_) | (with_reducible refine dP pl22_19Wo 12 (some 64) (by decide) (by kernel_rfl) ?_) | (with_reducible refine dP pl22_24Wo 10 (some 87) (by decide) (by kernel_rfl) ?_) | (with_reducible refine dP pl22_25Wo 14 (some 96) (by decide) (by kernel_rfl) ?_) | with_reducible refine And.intro ?_ ?_
    all_goals exact ⟨⟨i + 1, by omega⟩, by show 2 - (i + 1) < 2 - i; omega, ⟨((ha2.set (Nat.le_refl _) _).more _).more _, by simp only [hdN_succ D.now i hlt, if_pos hgt]⟩, rfl⟩
   ·have hd2 : decide (((headB (secAt D.now i)).1 : Int) > ((hdN D.now i).1 : Int)) = false := by simp; omega
    repeat' first | ((with_reducible first | refine cs ?_ ?_ | refine ws ?_ ?_ | refine wd ?_ ?_ | refine wu ?_ ?_) <;> intro h <;> try simp only [h]) | simp only [↓wBA, tWo, convA, seval, pl22_12Wo, pl22_13Wo, pl22_16Wo, pl22_19Wo, pl22_24Wo, pl22_25Wo, wH, wHl, hl1, l1, q64, zB_64, boundA, n0, n1, q1, q2, hd2, hw1, pageA, e64] | ((with_reducible show ACalls _ _ _ _ _); first | (refine (anumberS (secAt D.now i) 0 8 (by simp only [wH, wHe, Nat.reduceAdd, Nat.reduceLT]) (by omega) (by rw [hs]; omega)).eq ?_) | (refine (anumberS (secAt D.now i) 8 4 (by simp only [wH, wHe, Nat.reduceAdd, Nat.reduceLT]) (by omega) (by rw [hs]; omega)).eq ?_)) | (with_reducible refine dP pl22_12Wo 7 (some 37) (by decide) (by kernel_rfl) ?_) | (with_reducible refine dP pl22_13Wo 8 (some 42) (by decide) (by kernel_rfl) ?_) | (with_reducible refine dP pl22_16Wo 9 (some 55) (by decide) (by kernel_rfl) ?_) | (with_reducible refine dP pl22_19Wo 12 (some 64) (by decide) (by kernel_rfl) ?_) | (with_reducible refine dP pl22_24Wo 10 (some 87) (by decide) (by kernel_rfl) ?_) | (with_reducible refine dP pl22_25Wo 14 (some 96) (by decide) (by kernel_rfl) ?_) | with_reducible refine And.intro ?_ ?_
    all_goals exact ⟨⟨i + 1, by omega⟩, by show 2 - (i + 1) < 2 - i; omega, ⟨(ha2.more _).more _, by simp only [hdN_succ D.now i hlt, if_neg hgt]⟩, rfl⟩
  ·have he : i = 2 := by omega
   subst he
   have hL : LogAt s σ.length (fun t => t = σ.length ∨ F t) { d := d, disk := D, ctr := c, len := 0, str := [], wait := 0 } := by
    have e1 : hdN D.now 2 = (c, 0) := hh.says
    rw [e1] at hl
    exact ⟨d, F, none, _, ⟨hl, h.ap ha, .inl ⟨rfl, rfl, rfl⟩, fun hF => Nat.lt_irrefl _ (h.lt _ hF), fun t ht => (by cases ht), hz, by simp, Nat.le_refl _, hh, hs, hw, rfl, fun k hk => absurd hk (Nat.not_lt_zero _), fun _ => rfl⟩, fun t => by simp⟩
   have hr := awroom hL
   have e1 : hdN D.now 2 = (c, 0) := hh.says
   rw [e1] at hl
   have u1 : IntKind.u64.wrap (((D.size - 2) * 64 : Nat) : Int) = (((D.size - 2) * 64 : Nat) : Int) := IntKind.wrap_u64 _ ▸ (by omega)
   have u2 : decide ((0 : Int) > (((D.size - 2) * 64 : Nat) : Int)) = false := by simp only [decide_eq_false_iff_not]; omega
   repeat' first | ((with_reducible first | refine cs ?_ ?_ | refine ws ?_ ?_ | refine wd ?_ ?_ | refine wu ?_ ?_) <;> intro h <;> try simp only [h]) | simp only [↓wBA, tWo, convA, seval, pl22_12Wo, pl22_13Wo, pl22_16Wo, pl22_19Wo, pl22_24Wo, pl22_25Wo, wH, wHl, hl, l0, cz, u1, u2] | ((with_reducible show ACalls _ _ _ _ _); refine hr.eq ?_) | (with_reducible refine dP pl22_12Wo 7 (some 37) (by decide) (by kernel_rfl) ?_) | (with_reducible refine dP pl22_13Wo 8 (some 42) (by decide) (by kernel_rfl) ?_) | (with_reducible refine dP pl22_16Wo 9 (some 55) (by decide) (by kernel_rfl) ?_) | (with_reducible refine dP pl22_19Wo 12 (some 64) (by decide) (by kernel_rfl) ?_) | (with_reducible refine dP pl22_24Wo 10 (some 87) (by decide) (by kernel_rfl) ?_) | (with_reducible refine dP pl22_25Wo 14 (some 96) (by decide) (by kernel_rfl) ?_) | with_reducible refine And.intro ?_ ?_
   all_goals
    refine awp_loopS (X := Nat) (fun i => 0) (fun i => [(10, intV .i64 2)]) [2, 3, 4, 11, 12, 64, 65, 66, 67, 68, 69, 70, 71, 72, 73, 74, 75, 76, 77, 78, 79, 80, 81, 82, 83, 84, 85, 86, 87, 88, 89, 90, 91, 92, 93, 94, 95] (fun i q => q = s) (0) ?_ ?_ ?_ ?_
    ·simp only [wHl, wHf]
    ·rfl
    ·rintro _ _ rfl; exact Nat.le_refl _
    ·intro x J' q hI
     simp only [wHl]
     subst hI
     have u3 : IntKind.i64.wrap 0 = 0 := wz0
     repeat' first | ((with_reducible first | refine cs ?_ ?_ | refine ws ?_ ?_ | refine wd ?_ ?_ | refine wu ?_ ?_) <;> intro h <;> try simp only [h]) | simp only [↓wBA, tWo, convA, seval, pl22_12Wo, pl22_13Wo, pl22_16Wo, pl22_19Wo, pl22_24Wo, pl22_25Wo, wH, wHl, hl, l0, cz, u3, boundA, sliceA, elemsA] | ((with_reducible show ACalls _ _ _ _ _); refine (arecs0 _).eq ?_) | (with_reducible refine dP pl22_12Wo 7 (some 37) (by decide) (by kernel_rfl) ?_) | (with_reducible refine dP pl22_13Wo 8 (some 42) (by decide) (by kernel_rfl) ?_) | (with_reducible refine dP pl22_16Wo 9 (some 55) (by decide) (by kernel_rfl) ?_) | (with_reducible refine dP pl22_19Wo 12 (some 64) (by decide) (by kernel_rfl) ?_) | (with_reducible refine dP pl22_24Wo 10 (some 87) (by decide) (by kernel_rfl) ?_) | (with_reducible refine dP pl22_25Wo 14 (some 96) (by decide) (by kernel_rfl) ?_) | with_reducible refine And.intro ?_ ?_
     all_goals refine ret_st ?_ (by first | exact Nat.le_refl _ | (simp only [List.length_set, List.length_append]; omega) | omega)
     all_goals simp only [resA.eq_1, resL.eq_1, resL.eq_2, resV.eq_1, resV.eq_2, ↓wBA, tWo, convA, seval, wH]
     all_goals exact ⟨ha, hL⟩
end Go.Proofs.Ytlddiphjpmlhbaa
