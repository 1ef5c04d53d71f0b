/- Logs: append. Logs: the head is written. -/
import Derived.Test.YtlddiphjpmlhbaaM29
set_option linter.unusedSimpArgs false
set_option linter.unusedVariables false
set_option linter.defProp false
set_option maxRecDepth 100000
set_option maxHeartbeats 32000000
namespace Go.Proofs.Ytlddiphjpmlhbaa
open Go.RowKit
def pl41_3Wc : Plan := (.det 0 (.det 1 (.det 2 (.det 4 (.det 5 (.det 6 (.two 3 (.act 7 (.det 8 (.det 9 (.det 10 (.det 11 (.det 12 .done)))))) 7 (.det 8 (.act 3 (.det 9 (.det 10 (.det 11 (.det 12 .done)))))))))))))
def pl41_5Wc : Plan := (.det 0 (.det 1 (.det 2 (.det 3 (.det 4 (.det 5 (.det 6 (.det 7 (.det 10 (.act 8 (.fin 9 (.fin 11 (.det 12 (.det 13 (.fin 14 .done)))))))))))))))
def tWc := aa wX <| aa wbu <| aa T3 <| aa T23 <| aa T66 <| aa T112 T116
theorem awappend {σ : St} {l t0 : Nat} {G : Nat → Prop} {L : LogV} (h : LogAt σ l G L) (r : List UInt8) (hfit : L.str.length + 4 + r.length ≤ (L.disk.size - 2) * 64) (hr0 : 0 < r.length) (hwt : L.wait ≤ 1000000000000) :
 ACalls Try.prog 41 [.mp l 5 0 0, .own t0 1 (encB r)] σ fun x σ' => x = intV .i64 0 ∧ ∃ G', Fr σ σ' G G' ∧ LogAt σ' l G' { L with str := L.str ++ leB r.length 4 ++ r, wait := L.wait + 1 } := by
 have hroom := awroom h
 obtain ⟨d, F, w, a, h, hG⟩ := h
 have h0 := h.o
 have l0 := at_lt h0
 have hb2 : L.disk.size ≤ 65536 := by obtain ⟨kn, kk, w', a', es, hd, hF⟩ := h.disk; exact hd.big
 have hst := h.room
 have w1 : IntKind.i64.wrap ((((L.disk.size - 2) * 64 : Nat) : Int) - (L.str.length : Int)) = (((L.disk.size - 2) * 64 : Nat) : Int) - (L.str.length : Int) := wrap_i64 (by omega) (by omega)
 have w2 : IntKind.i64.wrap ((((L.disk.size - 2) * 64 : Nat) : Int) - (L.str.length : Int) - 4) = (((L.disk.size - 2) * 64 : Nat) : Int) - (L.str.length : Int) - 4 := wrap_i64 (by omega) (by omega)
 have hdec : decide ((r.length : Int) > (((L.disk.size - 2) * 64 : Nat) : Int) - (L.str.length : Int) - 4) = false := by simp only [decide_eq_false_iff_not]; omega
 have w3 : IntKind.u64.wrap (r.length : Int) = (r.length : Int) := IntKind.wrap_u64 _ ▸ (by omega)
 have w4 := wI L.wait (by omega)
 have el : (encB r).length = r.length := encB_len r
 have e4 : (encB (leB r.length 4)).length = 4 := by rw [encB_len, leB_len]
 have m1 := lM (n := 4) (by omega)
 have m2 := tL (n := (4 + r.length) * 1) (by omega)
 have m3 := lM (n := 4 + r.length) (by omega)
 refine acalls_of cx_ok dr_ok Try.func41 (by kernel_rfl) rfl (nt := 40) (rs := [.tmp 4]) rfl rfl ?_
 rcases h.str with ⟨rfl, rfl, hS⟩ | ⟨t, ls, rfl, rfl, h2, h3, h4⟩
 ·rw [hS] at w1 w2 hdec
  simp only [List.length_nil, cz] at w1 w2 hdec
  repeat' first | ((with_reducible first | refine cs ?_ ?_ | refine ws ?_ ?_ | refine wd ?_ ?_ | refine wu ?_ ?_) <;> intro h <;> try simp only [h]) | simp only [↓wBA, tWc, convA, seval, pl41_3Wc, pl41_5Wc, wH, h0, l0, w1, w2, w3, w4, hdec, el, e4, m1, m2, m3, appendM, srcM, srcA, rows_enc, bRows_len, leB_len, Nat.le_refl] | ((with_reducible show ACalls _ _ _ _ _); first | refine hroom.eq ?_ | ((refine (abytes' r.length 4 (by omega) (by omega) (by omega) _).mono ?_; rintro _ _ ⟨⟨τ, rfl⟩, t1, rfl⟩))) | (with_reducible refine dP pl41_3Wc 13 (some 9) (by decide) (by kernel_rfl) ?_) | (with_reducible refine dP pl41_5Wc 15 (some 21) (by decide) (by kernel_rfl) ?_) | with_reducible refine And.intro ?_ ?_
  all_goals refine ret_st ?_ (by first | exact Nat.le_refl _ | (simp only [List.length_set, List.length_append]; omega) | omega)
  all_goals simp only [resA.eq_1, resL.eq_1, resL.eq_2, resV.eq_1, resV.eq_2, ↓wBA, tWc, convA, seval, wH]
  all_goals
   refine ⟨_, ?_, LogAt.mk' (K := fun t => t = l) (K' := fun t => t = l) (w' := some (σ.length + (τ.length + 1))) (a' := .ms (σ.length + (τ.length + 1)) 1 0 (4 + r.length)) h (((((Fr.refl σ (fun t => t = l)).set _ rfl).app _).app _).app _) (fun t ht e => h.nl (e ▸ ht)) rfl ?_ (.inr ⟨_, bRows (leB r.length 4 ++ r), ?_, rfl, ?_, ?_, ?_⟩) (fun t ht => .inl ?_) ?_ ?_ ⟨rfl, rfl⟩ (fun k hk => ?_) (fun e => ?_)⟩
   ·refine ((((Fr.refl σ G).set _ ((hG _).2 (.inl rfl))).app _).app _ |>.app _).to fun t ht => ?_
    rcases ht with rfl | ht | ht
    ·exact .inl ((hG _).2 (.inl rfl))
    ·exact .inl ((hG _).2 (.inr (.inl ht)))
    ·simp at ht; omega
   ·skip
    simp only [wH, wHe, Nat.reduceAdd, Nat.reduceLT, Nat.reduceEqDiff, Nat.reduceMul, reduceCtorEq, Nat.lt_irrefl, l0]
   ·simp [hS, leB_len]
   ·rw [bRows_take _ (leB_len _ 4), bRows_app]
    simp only [wH, wHe, Nat.reduceAdd, Nat.reduceLT, Nat.reduceEqDiff, Nat.reduceMul, reduceCtorEq, Nat.lt_irrefl, l0]
   ·rw [hS, List.nil_append, bRows_take _ rfl]
   ·rw [hS, List.nil_append, bRows_len]; exact Nat.le_refl _
   ·simp at ht; omega
   ·simp [hS, leB_len]; omega
   ·have := h.le; simp only [List.length_append]; omega
   ·have := h.le; simp only [List.append_assoc]; exact List.getElem?_append_left (by omega)
   ·exact absurd e (Nat.succ_ne_zero _)
 ·have l2 := at_lt h2
  have n1 : (t = l) = False := nf (ne_of_ob h2 h0 (by simp))
  have n2 : (l = t) = False := nf (ne_of_ob h0 h2 (by simp))
  have m4 := tL (n := (L.str.length + 4) * 1) (by omega)
  have m5 := lM (n := L.str.length + 4) (by omega)
  have m6 := tL (n := (L.str.length + (4 + r.length)) * 1) (by omega)
  have m7 := lM (n := L.str.length + (4 + r.length)) (by omega)
  repeat' first | ((with_reducible first | refine cs ?_ ?_ | refine ws ?_ ?_ | refine wd ?_ ?_ | refine wu ?_ ?_) <;> intro h <;> try simp only [h]) | simp only [↓wBA, tWc, convA, seval, pl41_3Wc, pl41_5Wc, wH, h0, h2, l0, l2, n1, n2, w1, w2, w3, w4, hdec, el, e4, m1, m2, m3, m4, m5, m6, m7, h3, h4, appendM, srcM, srcA, rows_enc, bRows_len, leB_len, Nat.le_refl] | ((with_reducible show ACalls _ _ _ _ _); first | refine hroom.eq ?_ | ((refine (abytes' r.length 4 (by omega) (by omega) (by omega) _).mono ?_; rintro _ _ ⟨⟨τ, rfl⟩, t1, rfl⟩))) | (with_reducible refine dP pl41_3Wc 13 (some 9) (by decide) (by kernel_rfl) ?_) | (with_reducible refine dP pl41_5Wc 15 (some 21) (by decide) (by kernel_rfl) ?_) | with_reducible refine And.intro ?_ ?_
  all_goals refine ret_st ?_ (by first | exact Nat.le_refl _ | (simp only [List.length_set, List.length_append]; omega) | omega)
  all_goals simp only [resA.eq_1, resL.eq_1, resL.eq_2, resV.eq_1, resV.eq_2, ↓wBA, tWc, convA, seval, wH]
  all_goals
   refine ⟨_, ?_, LogAt.mk' (K := fun q => q = l ∨ q = t) (K' := fun q => q = l ∨ q = t) (w' := some (σ.length + (τ.length + 1))) (a' := .ms (σ.length + (τ.length + 1)) 1 0 (L.str.length + (4 + r.length))) h ((((((Fr.refl σ (fun q => q = l ∨ q = t)).set _ (.inr rfl)).set _ (.inl rfl)).app _).app _).app _) (fun q hq e => e.elim (fun e => h.nl (e ▸ hq)) fun e => h.nw t rfl (e ▸ hq)) rfl ?_ (.inr ⟨_, bRows (L.str ++ leB r.length 4 ++ r), ?_, rfl, ?_, ?_, ?_⟩) (fun q hq => .inl ?_) ?_ ?_ ⟨rfl, rfl⟩ (fun k hk => ?_) (fun e => ?_)⟩
   ·refine (((((Fr.refl σ G).set _ ((hG _).2 (.inr (.inr rfl)))).set _ ((hG _).2 (.inl rfl))).app _).app _ |>.app _).to fun q hq => ?_
    rcases hq with rfl | ht | ht
    ·exact .inl ((hG _).2 (.inl rfl))
    ·exact .inl ((hG _).2 (.inr (.inl ht)))
    ·simp at ht; omega
   ·skip
    simp only [wH, wHe, Nat.reduceAdd, Nat.reduceLT, Nat.reduceEqDiff, Nat.reduceMul, reduceCtorEq, Nat.lt_irrefl, l0, l2, n1, n2]
   ·simp [leB_len, Nat.add_assoc]
   ·rw [bRows_app, bRows_take _ (by simp [leB_len]), bRows_app]
    simp only [wH, wHe, Nat.reduceAdd, Nat.reduceLT, Nat.reduceEqDiff, Nat.reduceMul, reduceCtorEq, Nat.lt_irrefl, l0, l2]
   ·rw [bRows_take _ rfl]
   ·rw [bRows_len]; exact Nat.le_refl _
   ·simp at hq; omega
   ·simp [leB_len]; omega
   ·have := h.le; simp only [List.length_append]; omega
   ·have := h.le; simp only [List.append_assoc]; exact List.getElem?_append_left (by omega)
   ·exact absurd e (Nat.succ_ne_zero _)
end Go.Proofs.Ytlddiphjpmlhbaa
namespace Go.Proofs.Ytlddiphjpmlhbaa
open Go.RowKit
def pl66_3Wd : Plan := (.det 0 (.det 1 (.det 2 (.det 4 (.det 5 (.act 3 (.fin 6 (.fin 7 (.fin 8 .done)))))))))
def pl66_4Wd : Plan := (.det 0 (.det 1 (.det 2 (.det 3 (.det 4 (.det 5 (.det 6 (.det 7 (.det 8 (.fin 9 (.det 10 .done)))))))))))
def pl66_10Wd : Plan := (.det 0 (.det 1 (.det 2 (.det 3 (.det 4 (.det 5 (.det 6 (.det 7 (.det 8 (.det 9 (.det 10 (.det 11 (.fin 12 (.det 13 (.det 14 (.fin 15 (.det 16 (.det 17 (.fin 18 .done)))))))))))))))))))
def tWd := aa wX <| aa wbu <| aa T3 <| aa T23 <| aa T26 <| aa T29 <| aa T107 <| aa T112 <| aa T114 T116
theorem flat_encB (l : List UInt8) : List.flatten (encB l) = l.map byteP := by
 induction l with
 | nil => rfl
 | cons b l ih => simp only [encB, List.map_cons, List.flatten_cons, List.cons_append, List.nil_append] at ih ⊢; rw [ih]
theorem encB_app (l m : List UInt8) : encB l ++ encB m = encB (l ++ m) := by simp [encB]
theorem hd_len (c n : Nat) : (leB c 8 ++ leB n 4).length = 12 := by simp [leB_len]
theorem hd_take (c n : Nat) : List.take 64 (pageC (leB c 8 ++ leB n 4)) = pageC (leB c 8 ++ leB n 4) := List.take_of_length_le (by rw [pageC_len, hd_len]; omega)
theorem hd_splice (c n : Nat) : pageC (leB c 8 ++ leB n 4) ++ List.drop 12 (pageC zero64) = pageC (headS c n) := by
 simp only [headS, zero64, pageC, List.map_append, List.map_replicate, List.drop_replicate, List.append_assoc]
theorem ACalls.gen {P : Program} {f : FuncId} {args : List AV} {X : St} {R : AV → St → Prop} (Pr : St → Prop) (h : Pr X) (k : ∀ s, Pr s → ACalls P f args s R) : ACalls P f args X R := k X h
theorem DiskAt.ap {σ s : St} {d : Nat} {F : Nat → Prop} {D : DiskV} (h : DiskAt σ d F D) (hs : Ap σ s) : DiskAt s d F D := by
 obtain ⟨τ, rfl⟩ := hs
 exact h.app τ
theorem awseal {σ : St} {l : Nat} {G : Nat → Prop} {L : LogV} (h : LogAt σ l G L) (n : Nat) (hn : n ≤ L.str.length) (hc : L.ctr + 1 < 18446744073709551616) (hon : ∀ k, k < n → (secAt L.disk.now (2 + k / 64))[k % 64]? = L.str[k]?) :
 ACalls Try.prog 66 [.mp l 5 0 0, intV .i64 (n : Nat)] σ fun x σ' => x = intV .i64 0 ∧ ∃ G', Fr σ σ' G G' ∧ LogAt σ' l G' { d := L.d, disk := { L.disk with now := setM L.disk.now ((L.ctr + 1) % 2) (headS (L.ctr + 1) n), wait := [], kept := secAt (setM L.disk.now ((L.ctr + 1) % 2) (headS (L.ctr + 1) n)) }, ctr := L.ctr + 1, len := n, str := L.str.take n, wait := 0 } := by
 obtain ⟨d, F, w, a, h, hG⟩ := h
 have h0 := h.o
 have l0 := at_lt h0
 have hb2 : L.disk.size ≤ 65536 := by obtain ⟨kn, kk, w', a', es, hd, hF⟩ := h.disk; exact hd.big
 have hst := h.room
 have w1 : IntKind.u64.wrap ((L.ctr : Int) + 1) = ((L.ctr + 1 : Nat) : Int) := IntKind.wrap_u64 _ ▸ (by omega)
 have w2 : IntKind.u64.wrap (n : Int) = (n : Int) := IntKind.wrap_u64 _ ▸ (by omega)
 have e8 : (encB (leB (L.ctr + 1) 8)).length = 8 := by rw [encB_len, leB_len]
 have e4 : (encB (leB n 4)).length = 4 := by rw [encB_len, leB_len]
 have w3 : IntKind.i64.wrap (((L.ctr + 1 : Nat) : Int).tmod 2) = (((L.ctr + 1) % 2 : Nat) : Int) := by
  have e : ((L.ctr + 1 : Nat) : Int).tmod 2 = (((L.ctr + 1) % 2 : Nat) : Int) := by rw [Int.tmod_eq_emod_of_nonneg (by omega)]; omega
  rw [e, wrap_i64 (by omega) (by omega)]
 have lm1 := lM (n := 12) (by omega)
 have lm2 := lM (n := 8 + 4) (by omega)
 refine acalls_of cx_ok dr_ok Try.func66 (by kernel_rfl) rfl (nt := 62) (rs := [.tmp 4]) rfl rfl ?_
 repeat' first | ((with_reducible first | refine cs ?_ ?_ | refine ws ?_ ?_ | refine wd ?_ ?_ | refine wu ?_ ?_) <;> intro h <;> try simp only [h]) | simp only [↓wBA, tWd, convA, seval, pl66_3Wd, pl66_4Wd, pl66_10Wd, wH, wHt, wBt, h0, l0, w1, w2, e8, e4, zB_64, appendA, srcA, boundA, copyA, srcC, encB_app, flat_encB, map_byteP, hd_len, hd_take, hd_splice, pageC_len, len_zero64, leB_len, encB_len, headS_len, lm1, lm2, w3] | ((with_reducible show ACalls _ _ _ _ _); first | refine (abytes (L.ctr + 1) 8 (by omega) (by omega) (by omega) _).eq' ?_ | refine (abytes n 4 (by omega) (by omega) (by omega) _).eq' ?_) | (with_reducible refine dP pl66_3Wd 9 (some 18) (by decide) (by kernel_rfl) ?_) | (with_reducible refine dP pl66_4Wd 11 (some 27) (by decide) (by kernel_rfl) ?_) | (with_reducible refine dP pl66_10Wd 19 (some 48) (by decide) (by kernel_rfl) ?_)
 refine ACalls.gen (fun s => Ap σ s ∧ s[σ.length]? = some (some (.row 2 [[.p (.v (.int .u64 (L.ctr + 1 : Nat))), .p (.v (.int .u64 n))]]))) ⟨?_, ?_⟩ fun s ⟨hs, hq⟩ => ?_
 ·exact (((((Ap.app _ _).more _).more _).set (by omega) _).set (by omega) _).more _
 ·simp only [wH, wHe, wBt, Nat.reduceAdd, Nat.reduceLT, Nat.reduceEqDiff]
 refine (adwrite (h.disk.ap hs) ((L.ctr + 1) % 2) (by have := h.big; omega) (headS (L.ctr + 1) n) (headS_len _ _) (by rw [h.dry]; simp)).mono ?_
 rintro _ s1 ⟨rfl, F1, hf1, hd1⟩
 have hsl : σ.length < s.length := at_lt hq
 have k0 := hf1.get (hs.get h0) h.nl
 have k1 := hf1.get hq (fun hF => Nat.lt_irrefl _ (h.disk.lt _ hF))
 have k2 := hf1.len
 have q0 := at_lt k0
 have q1 := at_lt k1
 have nl1 : ¬ F1 l := fun hF => (hf1.own _ hF).elim h.nl (fun hl => by omega)
 have nl2 : ¬ F1 σ.length := fun hF => (hf1.own _ hF).elim (fun hF => Nat.lt_irrefl _ (h.disk.lt _ hF)) (fun hl => by omega)
 repeat' first | ((with_reducible first | refine cs ?_ ?_ | refine ws ?_ ?_ | refine wd ?_ ?_ | refine wu ?_ ?_) <;> intro h <;> try simp only [h]) | simp only [↓wBA, tWd, convA, seval, pl66_3Wd, pl66_4Wd, pl66_10Wd, wH, k0, k1, q0, q1] | (with_reducible refine dP pl66_3Wd 9 (some 18) (by decide) (by kernel_rfl) ?_) | (with_reducible refine dP pl66_4Wd 11 (some 27) (by decide) (by kernel_rfl) ?_) | (with_reducible refine dP pl66_10Wd 19 (some 48) (by decide) (by kernel_rfl) ?_)
 refine (adsync hd1 (by simp [h.dry])).mono ?_
 rintro _ s2 ⟨rfl, F2, hf2, hd2⟩
 have j0 := hf2.get k0 nl1
 have j1 := hf2.get k1 nl2
 have j2 := hf2.len
 have p0 := at_lt j0
 have p1 := at_lt j1
 have n0 : (l = σ.length) = False := nf (by omega)
 have n1 : (σ.length = l) = False := nf (by omega)
 have nl3 : ¬ F2 l := fun hF => (hf2.own _ hF).elim nl1 (fun hl => by omega)
 have hF12 : ∀ t, F2 t → F t ∨ σ.length ≤ t := fun t hF => (hf2.own t hF).elim (fun hF => (hf1.own t hF).imp id (fun hl => by omega)) (fun hl => .inr (by omega))
 have hh := h.heads.sealed n hc (by omega)
 have hsec : ∀ k, (secAt (setM L.disk.now ((L.ctr + 1) % 2) (headS (L.ctr + 1) n)) k).length = 64 := fun k => by
  rw [secAt_set]
  split
  ·exact headS_len _ _
  ·exact h.secs k
 have hgo : ∀ (w' : Option Nat) (a' : AV) (X : Option Ob) (s3 : St), s3 = s2.set l (some (.row 5 [[.mp d 6 0 0, .p (.v (.int .u64 (L.ctr + 1 : Nat))), .p (.v (.int .u64 (n : Nat))), a', .p (.v (.int .i64 0))]])) → StrAt s3 a' w' (L.str.take n) → (∀ t, w' = some t → w = some t) →
  ∃ G', Fr σ s3 G G' ∧ LogAt s3 l G' { d := L.d, disk := { L.disk with now := setM L.disk.now ((L.ctr + 1) % 2) (headS (L.ctr + 1) n), wait := [], kept := secAt (setM L.disk.now ((L.ctr + 1) % 2) (headS (L.ctr + 1) n)) }, ctr := L.ctr + 1, len := n, str := L.str.take n, wait := 0 } := fun w' a' X s3 e hst' hw' => by
  subst e
  refine ⟨fun t => t = l ∨ F2 t ∨ w' = some t, ?_, d, F2, w', a', ⟨by simp only [wH, p0]; rfl, hd2.same fun t ht => List.getElem?_set_ne fun e => by subst e; exact nl3 ht, hst', nl3, fun t ht hF => (hF12 t hF).elim (h.nw t (hw' t ht)) (fun hl => ?_), h.big, by simp only [List.length_take]; omega, by simp only [List.length_take]; omega, hh, hsec, rfl, h.id, fun k hk => ?_, fun _ => by simp only [List.length_take]; omega⟩, fun t => Iff.rfl⟩
  ·have f1 : Fr σ s G G := hs.fr
   have hFG : ∀ t, F t → G t := fun t ht => (hG t).2 (.inr (.inl ht))
   have f2 : Fr σ s2 G fun t => F2 t ∨ (G t) := ⟨by omega, fun t ht hn => by
    rw [hf2.keep t (by omega) (fun hF => (hf1.own t hF).elim (fun hF => hn (hFG t hF)) (fun hl => by omega)), hf1.keep t (by omega) (fun hF => hn (hFG t hF))]
    exact f1.keep t ht hn, fun t ht => ht.elim (fun hF => (hF12 t hF).imp (hFG t) id) .inl⟩
   refine (f2.set _ ((hG l).2 (.inl rfl))).to fun t ht => ?_
   rcases ht with rfl | ht | ht
   ·exact .inl ((hG _).2 (.inl rfl))
   ·exact (hF12 t ht).imp (hFG t) id
   ·exact .inl ((hG t).2 (.inr (.inr (hw' t ht))))
  ·rcases h.str with ⟨_, e, _⟩ | ⟨t', ls, _, e, h2, _⟩
   ·rw [hw' t ht] at e; cases e
   ·rw [hw' t ht] at e; simp only [Option.some.injEq] at e; subst e; exact absurd (at_lt h2) (by omega)
  ·show (secAt (setM L.disk.now ((L.ctr + 1) % 2) (headS (L.ctr + 1) n)) (2 + k / 64))[k % 64]? = (L.str.take n)[k]?
   rw [secAt_set, if_neg (by omega), List.getElem?_take, if_pos hk]
   exact hon k hk
 have hstr2 : ∀ t x, w = some t → σ[t]? = some x → s2[t]? = some x := fun t x ht hx => hf2.get (hf1.get (hs.get hx) (h.nw t ht)) (fun hF => (hf1.own t hF).elim (h.nw t ht) (fun hl => by have := at_lt hx; omega))
 rcases h.str with ⟨rfl, rfl, hS⟩ | ⟨t, ls, rfl, rfl, h2, h3, h4⟩
 ·have hn0 : n = 0 := by rw [hS] at hn; simpa using hn
  subst hn0
  repeat' first | ((with_reducible first | refine cs ?_ ?_ | refine ws ?_ ?_ | refine wd ?_ ?_ | refine wu ?_ ?_) <;> intro h <;> try simp only [h]) | simp only [↓wBA, tWd, convA, seval, pl66_3Wd, pl66_4Wd, pl66_10Wd, wH, j0, j1, p0, p1, n0, n1, boundA, cz, sliceA, elemsA] | (with_reducible refine dP pl66_3Wd 9 (some 18) (by decide) (by kernel_rfl) ?_) | (with_reducible refine dP pl66_4Wd 11 (some 27) (by decide) (by kernel_rfl) ?_) | (with_reducible refine dP pl66_10Wd 19 (some 48) (by decide) (by kernel_rfl) ?_)
  all_goals refine ret_st ?_ (by first | exact Nat.le_refl _ | (simp only [List.length_set, List.length_append]; omega) | omega)
  all_goals simp only [resA.eq_1, resL.eq_1, resL.eq_2, resV.eq_1, resV.eq_2, ↓wBA, tWd, convA, seval, wH]
  all_goals exact hgo none _ none _ rfl (.inl ⟨rfl, rfl, by simp⟩) (fun t ht => by cases ht)
 ·have i2 := hstr2 t _ rfl h2
  have hnn := nnI n
  have hnS : ((n : Int) ≤ (L.str.length : Int)) = True := eq_true (by omega)
  repeat' first | ((with_reducible first | refine cs ?_ ?_ | refine ws ?_ ?_ | refine wd ?_ ?_ | refine wu ?_ ?_) <;> intro h <;> try simp only [h]) | simp only [↓wBA, tWd, convA, seval, pl66_3Wd, pl66_4Wd, pl66_10Wd, wH, j0, j1, p0, p1, n0, n1, boundA, hnn, hnS, sliceA, elemsA] | (with_reducible refine dP pl66_3Wd 9 (some 18) (by decide) (by kernel_rfl) ?_) | (with_reducible refine dP pl66_4Wd 11 (some 27) (by decide) (by kernel_rfl) ?_) | (with_reducible refine dP pl66_10Wd 19 (some 48) (by decide) (by kernel_rfl) ?_)
  all_goals refine ret_st ?_ (by first | exact Nat.le_refl _ | (simp only [List.length_set, List.length_append]; omega) | omega)
  all_goals simp only [resA.eq_1, resL.eq_1, resL.eq_2, resV.eq_1, resV.eq_2, ↓wBA, tWd, convA, seval, wH]
  all_goals exact hgo (some t) _ none _ rfl (.inr ⟨t, ls, by simp [Nat.min_eq_left hn], rfl, by rw [List.getElem?_set_ne (by intro e; exact (ne_of_ob h0 h2 (by simp)) e)]; exact i2, by rw [List.length_take, Nat.min_eq_left hn]; simp only [bRows, List.map_take]; rw [← bRows, ← h3, List.take_take, Nat.min_eq_left hn], by simp; omega⟩) (fun q hq => hq)
end Go.Proofs.Ytlddiphjpmlhbaa
