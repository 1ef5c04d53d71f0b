/- Logs: one that has records is opened. -/
import Derived.Test.YtlddiphjpmlhbaaM26
set_option linter.unusedSimpArgs false
set_option linter.unusedVariables false
set_option linter.defProp false
set_option maxRecDepth 100000
set_option maxHeartbeats 32000000
namespace Go.Proofs.Ytlddiphjpmlhbaa
open Go.RowKit
def pl22_12Wp : Plan := (.det 0 (.det 2 (.two 1 (.two 3 (.det 4 (.fin 5 (.fin 6 .done))) 5 (.fin 3 (.det 4 (.fin 6 .done)))) 5 (.fin 1 (.fin 3 (.det 4 (.fin 6 .done)))))))
def pl22_13Wp : Plan := (.det 0 (.det 1 (.det 2 (.det 3 (.det 4 (.det 5 (.det 6 (.det 7 .done))))))))
def pl22_16Wp : Plan := (.det 0 (.det 1 (.det 2 (.det 3 (.det 5 (.two 4 (.act 6 (.det 7 (.det 8 .done))) 6 (.det 7 (.act 4 (.det 8 .done)))))))))
def pl22_19Wp : Plan := (.det 0 (.det 1 (.det 2 (.det 3 (.det 4 (.det 5 (.det 6 (.det 7 (.det 8 (.det 9 (.det 10 (.det 11 .done))))))))))))
def pl22_24Wp : Plan := (.det 0 (.det 1 (.det 2 (.det 3 (.det 4 (.det 5 (.fin 6 (.det 7 (.det 8 (.fin 9 .done))))))))))
def pl22_25Wp : Plan := (.det 0 (.det 1 (.det 2 (.det 3 (.det 4 (.det 5 (.det 6 (.det 7 (.det 8 (.det 9 (.det 10 (.det 11 (.det 12 (.fin 13 .done))))))))))))))
def tWp := aa wX <| aa wbu <| aa T3 <| aa T4 <| aa T23 <| aa T26 <| aa T29 <| aa T66 <| aa T107 <| aa T112 <| aa T114 T116
def secT (m : List (Nat × List UInt8)) (k : Nat) : List UInt8 := (List.range k).flatMap fun i => secAt m (2 + i)
theorem secT_succ (m : List (Nat × List UInt8)) (k : Nat) : secT m (k + 1) = secT m k ++ secAt m (2 + k) := by simp [secT, List.range_succ]
theorem secT_len {m : List (Nat × List UInt8)} (h : ∀ k, (secAt m k).length = 64) : ∀ k, (secT m k).length = 64 * k
 | 0 => rfl
 | k + 1 => by rw [secT_succ, List.length_append, secT_len h k, h]; omega
theorem secT_at {m : List (Nat × List UInt8)} (h : ∀ k, (secAt m k).length = 64) : ∀ (k j : Nat), j < 64 * k → (secT m k)[j]? = (secAt m (2 + j / 64))[j % 64]?
 | 0, j, hj => by omega
 | k + 1, j, hj => by
   rw [secT_succ]
   by_cases hl : j < 64 * k
   ·rw [List.getElem?_append_left (by rw [secT_len h]; omega)]
    exact secT_at h k j hl
   ·rw [List.getElem?_append_right (by rw [secT_len h]; omega), secT_len h]
    have e1 : j / 64 = k := by omega
    have e2 : j % 64 = j - 64 * k := by omega
    rw [e1, e2]
theorem secT_take {m : List (Nat × List UInt8)} (h : ∀ k, (secAt m k).length = 64) {S : List UInt8} (hon : ∀ k, k < S.length → (secAt m (2 + k / 64))[k % 64]? = S[k]?) {k : Nat} (hk : S.length ≤ 64 * k) : (secT m k).take S.length = S := by
 apply List.ext_getElem?
 intro j
 rw [List.getElem?_take]
 by_cases hj : j < S.length
 ·rw [if_pos hj, secT_at h k j (by omega), hon j hj]
 ·rw [if_neg hj, List.getElem?_eq_none (by omega)]
theorem pageC_rows (l : List UInt8) : List.map (fun a => [a]) (pageC l) = bRows l := by simp [pageC, bRows]
def stA (k t : Nat) : AV := if k = 0 then .p (.v (.slice none 0 0)) else .ms t 1 0 (64 * k)
def StIn (s : St) (m : List (Nat × List UInt8)) (n k t : Nat) : Prop := k = 0 ∨ 0 < k ∧ s[t]? = some (some (.row 1 (bRows (secT m k)))) ∧ n ≤ t
theorem c20 : ((2 + 0 : Nat) : Int) = 2 := rfl
theorem awroom0 {σ : St} {l d : Nat} {F : Nat → Prop} {D : DiskV} {x1 x2 x3 x4 : AV} (h0 : σ[l]? = some (some (.row 5 [[.mp d 6 0 0, x1, x2, x3, x4]]))) (hd : DiskAt σ d F D) (hb : 2 ≤ D.size) : ACalls Try.prog 47 [.mp l 5 0 0] σ fun r σ' => σ' = σ ∧ r = intV .i64 ((D.size - 2) * 64 : Nat) := by
 have hs := adsize hd
 have hb2 : D.size ≤ 65536 := by obtain ⟨kn, kk, w', a', es, hd, hF⟩ := hd; exact hd.big
 have w1 : IntKind.i64.wrap ((D.size : Int) - 2) = ((D.size - 2 : Nat) : Int) := by rw [wrap_i64 (by omega) (by omega)]; omega
 have w2 : IntKind.i64.wrap (((D.size - 2 : Nat) : Int) * 64) = (((D.size - 2) * 64 : Nat) : Int) := by rw [wrap_i64 (by omega) (by omega)]; simp
 refine acalls_of cx_ok dr_ok Try.func47 (by kernel_rfl) rfl (nt := 9) (rs := [.tmp 2]) rfl rfl ?_
 repeat' first | ((with_reducible first | refine cs ?_ ?_ | refine ws ?_ ?_) <;> intro h <;> try simp only [h]) | simp only [↓wBA, tWp, convA, seval, wH, h0, w1, w2] | ((with_reducible show ACalls _ _ _ _ _); refine hs.eq ?_)
 all_goals refine ret_st ?_ (by first | exact Nat.le_refl _ | (simp only [List.length_set, List.length_append]; omega) | omega)
 all_goals simp only [resA.eq_1, resL.eq_1, resL.eq_2, resV.eq_1, resV.eq_2, ↓wBA, tWp, convA, seval, wH]
theorem awopenR {σ : St} {d : Nat} {F : Nat → Prop} {D : DiskV} (h : DiskAt σ d F D) (hz : 3 ≤ D.size) (c : Nat) (rs : List (List UInt8)) (hne : rs ≠ []) (h0 : ∀ r ∈ rs, 0 < r.length) (hroom : (recsB rs).length ≤ (D.size - 2) * 64) (hh : Heads D.now c (recsB rs).length) (hs : ∀ k, (secAt D.now k).length = 64) (hw : D.wait = []) (hon : ∀ k, k < (recsB rs).length → (secAt D.now (2 + k / 64))[k % 64]? = (recsB rs)[k]?) :
 ACalls Try.prog 22 [.mp d 6 0 0] σ fun r σ' => ∃ t w, r = .tup [.mp σ.length 5 0 0, .own t 1 (clR rs), intV .i64 0] ∧ Ap σ σ' ∧ σ.length < w ∧ LogAt σ' σ.length (fun t => t = σ.length ∨ F t ∨ some w = some t) { d := d, disk := D, ctr := c, len := (recsB rs).length, str := recsB rs, wait := 0 } := by
 obtain ⟨S, hS⟩ : ∃ S, S = recsB rs := ⟨_, rfl⟩
 have hsz := adsize h
 have hb2 : D.size ≤ 65536 := by obtain ⟨kn, kk, w', a', es, hd, hF⟩ := h; exact hd.big
 have hS0 : 0 < S.length := by
  rw [hS]
  cases rs with
  | nil => exact absurd rfl hne
  | cons r rs => rw [recsB_cons, List.length_append, recB_len]; omega
 rw [← hS] at hroom hh hon ⊢
 have e0 : decide ((D.size : Int) < 3) = false := by simp; omega
 refine acalls_of cx_ok dr_ok Try.func22 (by kernel_rfl) rfl (nt := 120) (rs := [.tmp 2, .tmp 3, .tmp 4]) rfl rfl ?_
 repeat' first | ((with_reducible first | refine cs ?_ ?_ | refine ws ?_ ?_ | refine wd ?_ ?_ | refine wu ?_ ?_) <;> intro h <;> try simp only [h]) | simp only [↓wBA, tWp, convA, seval, pl22_12Wp, pl22_13Wp, pl22_16Wp, pl22_19Wp, pl22_24Wp, pl22_25Wp, wH, e0] | ((with_reducible show ACalls _ _ _ _ _); refine hsz.eq ?_) | (with_reducible refine dP pl22_12Wp 7 (some 37) (by decide) (by kernel_rfl) ?_) | (with_reducible refine dP pl22_13Wp 8 (some 42) (by decide) (by kernel_rfl) ?_) | (with_reducible refine dP pl22_16Wp 9 (some 55) (by decide) (by kernel_rfl) ?_) | (with_reducible refine dP pl22_19Wp 12 (some 64) (by decide) (by kernel_rfl) ?_) | (with_reducible refine dP pl22_24Wp 10 (some 87) (by decide) (by kernel_rfl) ?_) | (with_reducible refine dP pl22_25Wp 14 (some 96) (by decide) (by kernel_rfl) ?_) | with_reducible refine And.intro ?_ ?_
 refine awp_loopS (X := { i : Nat // i ≤ 2 }) (fun i => 2 - i.1) (fun i => [(25, intV .i64 (i.1 : Nat))]) [2, 3, 4, 6, 7, 8, 9, 26, 27, 28, 29, 30, 31, 32, 33, 34, 35, 36, 37, 38, 39, 40, 41, 42, 43, 44, 45, 46, 47, 48, 49, 50, 51, 52, 53, 54] (fun i s => Ap σ s ∧ s[σ.length]? = some (some (.row 5 [[.mp d 6 0 0, .p (.v (.int .u64 ((hdN D.now i.1).1 : Nat))), .p (.v (.int .u64 ((hdN D.now i.1).2 : Nat))), .p (.v (.slice none 0 0)), intV .i64 0]]))) (⟨0, by omega⟩) ?_ ?_ ?_ ?_
 ·simp only [wHl, wHf]
 ·exact ⟨Ap.app _ _, by simp only [wH, wHe, hdN, cz]⟩
 ·rintro _ _ ⟨_, hl⟩; have := at_lt hl; simp; omega
 ·intro x J s hI
  simp only [wHl]
  obtain ⟨i, hi⟩ := x
  obtain ⟨ha, hl⟩ := hI
  dsimp only at *
  have l0 := at_lt hl
  by_cases hlt : i < 2
  ·have hdec : decide ((i : Int) < 2) = true := by simp; omega
   have hw1 := wI i (by omega)
   repeat' first | ((with_reducible first | refine cs ?_ ?_ | refine ws ?_ ?_ | refine wd ?_ ?_ | refine wu ?_ ?_) <;> intro h <;> try simp only [h]) | simp only [↓wBA, tWp, convA, seval, pl22_12Wp, pl22_13Wp, pl22_16Wp, pl22_19Wp, pl22_24Wp, pl22_25Wp, wH, wHl, hl, l0, hdec] | (with_reducible refine dP pl22_12Wp 7 (some 37) (by decide) (by kernel_rfl) ?_) | (with_reducible refine dP pl22_13Wp 8 (some 42) (by decide) (by kernel_rfl) ?_) | (with_reducible refine dP pl22_16Wp 9 (some 55) (by decide) (by kernel_rfl) ?_) | (with_reducible refine dP pl22_19Wp 12 (some 64) (by decide) (by kernel_rfl) ?_) | (with_reducible refine dP pl22_24Wp 10 (some 87) (by decide) (by kernel_rfl) ?_) | (with_reducible refine dP pl22_25Wp 14 (some 96) (by decide) (by kernel_rfl) ?_) | with_reducible refine And.intro ?_ ?_
   refine (adread (h.ap ha) i (by omega) (hs i)).mono ?_
   rintro _ s1 ⟨ha1, rfl⟩
   have hl1 := ha1.get hl
   have l1 := at_lt hl1
   have ha2 := ha.trans ha1
   have q64 := pageC_64 (hs i)
   have e64 := pageC_64 len_zero64
   have q1 : numB (List.take 8 (secAt D.now i)) = (headB (secAt D.now i)).1 := rfl
   have q2 : numB (List.take 4 (List.drop 8 (secAt D.now i))) = (headB (secAt D.now i)).2 := rfl
   have n0 : (σ.length = s1.length) = False := nf (by omega)
   have n1 : (s1.length = σ.length) = False := nf (by omega)
   by_cases hgt : (hdN D.now i).1 < (headB (secAt D.now i)).1
   ·have hd2 : decide (((headB (secAt D.now i)).1 : Int) > ((hdN D.now i).1 : Int)) = true := by simp; omega
    repeat' first | ((with_reducible first | refine cs ?_ ?_ | refine ws ?_ ?_ | refine wd ?_ ?_ | refine wu ?_ ?_) <;> intro h <;> try simp only [h]) | simp only [↓wBA, tWp, convA, seval, pl22_12Wp, pl22_13Wp, pl22_16Wp, pl22_19Wp, pl22_24Wp, pl22_25Wp, wH, wHl, hl1, l1, q64, zB_64, boundA, n0, n1, q1, q2, hd2, hw1, pageA, e64] | ((with_reducible show ACalls _ _ _ _ _); first | (refine (anumberS (secAt D.now i) 0 8 (by simp only [wH, wHe, Nat.reduceAdd, Nat.reduceLT]) (by omega) (by rw [hs]; omega)).eq ?_) | (refine (anumberS (secAt D.now i) 8 4 (by simp only [wH, wHe, Nat.reduceAdd, Nat.reduceLT]) (by omega) (by rw [hs]; omega)).eq ?_)) | (with_reducible refine dP pl22_12Wp 7 (some 37) (by decide) (by kernel_rfl) ?_) | (with_reducible refine dP pl22_13Wp 8 (some 42) (by decide) (by kernel_rfl) ?_) | (with_reducible refine dP pl22_16Wp 9 (some 55) (by decide) (by kernel_rfl) ?_) | (with_reducible refine dP pl22_19Wp 12 (some 64) (by decide) (by kernel_rfl) ?_) | (with_reducible refine dP pl22_24Wp 10 (some 87) (by decide) (by kernel_rfl) ?_) | (with_reducible refine dP pl22_25Wp 14 (some 96) (by decide) (by kernel_rfl) ?_) | with_reducible refine And.intro ?_ ?_
    all_goals exact ⟨⟨i + 1, by omega⟩, by show 2 - (i + 1) < 2 - i; omega, ⟨((ha2.set (Nat.le_refl _) _).more _).more _, by simp only [hdN_succ D.now i hlt, if_pos hgt]⟩, rfl⟩
   ·have hd2 : decide (((headB (secAt D.now i)).1 : Int) > ((hdN D.now i).1 : Int)) = false := by simp; omega
    repeat' first | ((with_reducible first | refine cs ?_ ?_ | refine ws ?_ ?_ | refine wd ?_ ?_ | refine wu ?_ ?_) <;> intro h <;> try simp only [h]) | simp only [↓wBA, tWp, convA, seval, pl22_12Wp, pl22_13Wp, pl22_16Wp, pl22_19Wp, pl22_24Wp, pl22_25Wp, wH, wHl, hl1, l1, q64, zB_64, boundA, n0, n1, q1, q2, hd2, hw1, pageA, e64] | ((with_reducible show ACalls _ _ _ _ _); first | (refine (anumberS (secAt D.now i) 0 8 (by simp only [wH, wHe, Nat.reduceAdd, Nat.reduceLT]) (by omega) (by rw [hs]; omega)).eq ?_) | (refine (anumberS (secAt D.now i) 8 4 (by simp only [wH, wHe, Nat.reduceAdd, Nat.reduceLT]) (by omega) (by rw [hs]; omega)).eq ?_)) | (with_reducible refine dP pl22_12Wp 7 (some 37) (by decide) (by kernel_rfl) ?_) | (with_reducible refine dP pl22_13Wp 8 (some 42) (by decide) (by kernel_rfl) ?_) | (with_reducible refine dP pl22_16Wp 9 (some 55) (by decide) (by kernel_rfl) ?_) | (with_reducible refine dP pl22_19Wp 12 (some 64) (by decide) (by kernel_rfl) ?_) | (with_reducible refine dP pl22_24Wp 10 (some 87) (by decide) (by kernel_rfl) ?_) | (with_reducible refine dP pl22_25Wp 14 (some 96) (by decide) (by kernel_rfl) ?_) | with_reducible refine And.intro ?_ ?_
    all_goals exact ⟨⟨i + 1, by omega⟩, by show 2 - (i + 1) < 2 - i; omega, ⟨(ha2.more _).more _, by simp only [hdN_succ D.now i hlt, if_neg hgt]⟩, rfl⟩
  ·have he : i = 2 := by omega
   subst he
   have e1 : hdN D.now 2 = (c, S.length) := hh.says
   rw [e1] at hl
   have hr := awroom0 hl (h.ap ha) (by omega)
   have u1 : IntKind.u64.wrap (((D.size - 2) * 64 : Nat) : Int) = (((D.size - 2) * 64 : Nat) : Int) := IntKind.wrap_u64 _ ▸ (by omega)
   have u2 : decide ((S.length : Int) > (((D.size - 2) * 64 : Nat) : Int)) = false := by simp only [decide_eq_false_iff_not]; omega
   have u3 : IntKind.i64.wrap (S.length : Int) = (S.length : Int) := wrap_i64 (by omega) (by omega)
   have hsl := ha.len
   repeat' first | ((with_reducible first | refine cs ?_ ?_ | refine ws ?_ ?_ | refine wd ?_ ?_ | refine wu ?_ ?_) <;> intro h <;> try simp only [h]) | simp only [↓wBA, tWp, convA, seval, pl22_12Wp, pl22_13Wp, pl22_16Wp, pl22_19Wp, pl22_24Wp, pl22_25Wp, wH, wHl, hl, l0, cz, u1, u2] | ((with_reducible show ACalls _ _ _ _ _); refine hr.eq ?_) | (with_reducible refine dP pl22_12Wp 7 (some 37) (by decide) (by kernel_rfl) ?_) | (with_reducible refine dP pl22_13Wp 8 (some 42) (by decide) (by kernel_rfl) ?_) | (with_reducible refine dP pl22_16Wp 9 (some 55) (by decide) (by kernel_rfl) ?_) | (with_reducible refine dP pl22_19Wp 12 (some 64) (by decide) (by kernel_rfl) ?_) | (with_reducible refine dP pl22_24Wp 10 (some 87) (by decide) (by kernel_rfl) ?_) | (with_reducible refine dP pl22_25Wp 14 (some 96) (by decide) (by kernel_rfl) ?_) | with_reducible refine And.intro ?_ ?_
   all_goals
    refine awp_loopS (X := { k : Nat // k ≤ 65536 } × Nat) (fun k => 65536 - k.1.1) (fun k => [(10, intV .i64 (2 + k.1.1 : Nat))]) [2, 3, 4, 11, 12, 64, 65, 66, 67, 68, 69, 70, 71, 72, 73, 74, 75, 76, 77, 78, 79, 80, 81, 82, 83, 84, 85, 86, 87, 88, 89, 90, 91, 92, 93, 94, 95] (fun k q => (Ap σ q ∧ s.length ≤ q.length) ∧ q[σ.length]? = some (some (.row 5 [[.mp d 6 0 0, .p (.v (.int .u64 (c : Nat))), .p (.v (.int .u64 (S.length : Nat))), stA k.1.1 k.2, intV .i64 0]])) ∧ StIn q D.now (σ.length + 1) k.1.1 k.2) ((⟨0, by omega⟩, 0)) ?_ ?_ ?_ ?_
    ·simp only [wHl, wHf, c20, stA]
    ·exact ⟨⟨ha, Nat.le_refl _⟩, hl, .inl rfl⟩
    ·rintro _ _ ⟨hf, _⟩; exact hf.2
    ·intro y J' q hI
     simp only [wHl]
     obtain ⟨⟨k, hk⟩, t⟩ := y
     obtain ⟨⟨hA0, hsl2⟩, hq, hst⟩ := hI
     dsimp only at *
     have q0 := at_lt hq
     by_cases hlt : 64 * k < S.length
     ·have b1 : decide (((64 * k : Nat) : Int) < (S.length : Int)) = true := by simp only [decide_eq_true_eq]; omega
      have w5 : IntKind.i64.wrap (((2 + k : Nat) : Int) + 1) = ((2 + (k + 1) : Nat) : Int) := by rw [wrap_i64 (by omega) (by omega)]; omega
      have e64 := pageC_64 (hs (2 + k))
      have ez4 := pageC_64 len_zero64
      have m64 := lM (n := 64) (by omega)
      have hread := fun (X : St) (hX : Ap q X) => adread (h.ap (hA0.trans hX)) (2 + k) (by omega) (hs _)
      have hread0 := hread q (Ap.refl q)
      rcases hst with hk0 | ⟨hk0, ht, htn⟩
      ·have d0 : decide ((0 : Int) < (S.length : Int)) = true := by simp only [decide_eq_true_eq]; omega
       rw [show stA k t = .p (.v (.slice none 0 0)) from if_pos hk0] at hq
       repeat' first | ((with_reducible first | refine cs ?_ ?_ | refine ws ?_ ?_ | refine wd ?_ ?_ | refine wu ?_ ?_) <;> intro h <;> try simp only [h]) | simp only [↓wBA, tWp, convA, seval, pl22_12Wp, pl22_13Wp, pl22_16Wp, pl22_19Wp, pl22_24Wp, pl22_25Wp, wH, wHl, hq, q0, b1, d0, u3] | (with_reducible refine dP pl22_12Wp 7 (some 37) (by decide) (by kernel_rfl) ?_) | (with_reducible refine dP pl22_13Wp 8 (some 42) (by decide) (by kernel_rfl) ?_) | (with_reducible refine dP pl22_16Wp 9 (some 55) (by decide) (by kernel_rfl) ?_) | (with_reducible refine dP pl22_19Wp 12 (some 64) (by decide) (by kernel_rfl) ?_) | (with_reducible refine dP pl22_24Wp 10 (some 87) (by decide) (by kernel_rfl) ?_) | (with_reducible refine dP pl22_25Wp 14 (some 96) (by decide) (by kernel_rfl) ?_) | with_reducible refine And.intro ?_ ?_
       refine hread0.mono ?_
       rintro _ s1 ⟨ha1, rfl⟩
       have hl1 := ha1.get hq
       have l1 := at_lt hl1
       have n0 : (σ.length = s1.length) = False := nf (by omega)
       have n1 : (s1.length = σ.length) = False := nf (by omega)
       have n2 : (s1.length + 1 = σ.length) = False := nf (by omega)
       have n3 : (σ.length = s1.length + 1) = False := nf (by omega)
       have hs1 := ha1.len
       repeat' first | ((with_reducible first | refine cs ?_ ?_ | refine ws ?_ ?_ | refine wd ?_ ?_ | refine wu ?_ ?_) <;> intro h <;> try simp only [h]) | simp only [↓wBA, tWp, convA, seval, pl22_12Wp, pl22_13Wp, pl22_16Wp, pl22_19Wp, pl22_24Wp, pl22_25Wp, wH, wHl, hl1, l1, n0, n1, e64, ez4, m64, zB_64, pageA, boundA, appendM, srcM, srcA, w5, pageC_rows, take_page (hs (2 + k)), bRows_len, hs] | (with_reducible refine dP pl22_12Wp 7 (some 37) (by decide) (by kernel_rfl) ?_) | (with_reducible refine dP pl22_13Wp 8 (some 42) (by decide) (by kernel_rfl) ?_) | (with_reducible refine dP pl22_16Wp 9 (some 55) (by decide) (by kernel_rfl) ?_) | (with_reducible refine dP pl22_19Wp 12 (some 64) (by decide) (by kernel_rfl) ?_) | (with_reducible refine dP pl22_24Wp 10 (some 87) (by decide) (by kernel_rfl) ?_) | (with_reducible refine dP pl22_25Wp 14 (some 96) (by decide) (by kernel_rfl) ?_) | with_reducible refine And.intro ?_ ?_
       refine ⟨(⟨k + 1, by omega⟩, s1.length + 1), by show 65536 - (k + 1) < 65536 - k; omega, ⟨⟨((hA0.trans ha1).set (by omega) _ |>.more _).more _, ?_⟩, ?_, .inr ⟨Nat.succ_pos _, ?_, ?_⟩⟩, ?_⟩
       ·omega
       ·subst hk0; simp only [wH, l1, n0, n1, n3]; rfl
       ·rw [secT_succ, show secT D.now k = [] by subst hk0; rfl, List.nil_append]
        simp only [wH, wHe, Nat.reduceAdd, Nat.reduceLT, Nat.reduceEqDiff, Nat.reduceMul, reduceCtorEq, Nat.lt_irrefl, n2]
       ·show σ.length + 1 ≤ s1.length + 1; omega
       ·simp only [wHl, wHf]
      ·have hsA : stA k t = .ms t 1 0 (64 * k) := if_neg (by omega)
       rw [hsA] at hq
       have htl := at_lt ht
       have hTl := secT_len hs k
       have m65 := tL (n := (64 * k + 64) * 1) (by omega)
       have m66 := lM (n := 64 * k + 64) (by omega)
       repeat' first | ((with_reducible first | refine cs ?_ ?_ | refine ws ?_ ?_ | refine wd ?_ ?_ | refine wu ?_ ?_) <;> intro h <;> try simp only [h]) | simp only [↓wBA, tWp, convA, seval, pl22_12Wp, pl22_13Wp, pl22_16Wp, pl22_19Wp, pl22_24Wp, pl22_25Wp, wH, wHl, hq, q0, b1, u3] | (with_reducible refine dP pl22_12Wp 7 (some 37) (by decide) (by kernel_rfl) ?_) | (with_reducible refine dP pl22_13Wp 8 (some 42) (by decide) (by kernel_rfl) ?_) | (with_reducible refine dP pl22_16Wp 9 (some 55) (by decide) (by kernel_rfl) ?_) | (with_reducible refine dP pl22_19Wp 12 (some 64) (by decide) (by kernel_rfl) ?_) | (with_reducible refine dP pl22_24Wp 10 (some 87) (by decide) (by kernel_rfl) ?_) | (with_reducible refine dP pl22_25Wp 14 (some 96) (by decide) (by kernel_rfl) ?_) | with_reducible refine And.intro ?_ ?_
       refine hread0.mono ?_
       rintro _ s1 ⟨ha1, rfl⟩
       have hl1 := ha1.get hq
       have l1 := at_lt hl1
       have ht1 := ha1.get ht
       have t1 := at_lt ht1
       have n0 : (σ.length = s1.length) = False := nf (by omega)
       have n1 : (s1.length = σ.length) = False := nf (by omega)
       have n2 : (t = σ.length) = False := nf (by omega)
       have n3 : (σ.length = t) = False := nf (by omega)
       have n4 : (t = s1.length) = False := nf (by omega)
       have n5 : (s1.length = t) = False := nf (by omega)
       have n6 : (s1.length + 1 = σ.length) = False := nf (by omega)
       have n7 : (σ.length = s1.length + 1) = False := nf (by omega)
       have hs1 := ha1.len
       have hbt : (bRows (secT D.now k)).take (64 * k) = bRows (secT D.now k) := List.take_of_length_le (by rw [bRows_len, hTl]; exact Nat.le_refl _)
       repeat' first | ((with_reducible first | refine cs ?_ ?_ | refine ws ?_ ?_ | refine wd ?_ ?_ | refine wu ?_ ?_) <;> intro h <;> try simp only [h]) | simp only [↓wBA, tWp, convA, seval, pl22_12Wp, pl22_13Wp, pl22_16Wp, pl22_19Wp, pl22_24Wp, pl22_25Wp, wH, wHl, hl1, l1, ht1, t1, n0, n1, n2, n3, n4, n5, e64, ez4, m64, m65, m66, zB_64, pageA, boundA, appendM, srcM, srcA, w5, pageC_rows, take_page (hs (2 + k)), bRows_len, hs, hTl, hbt, Nat.le_refl] | (with_reducible refine dP pl22_12Wp 7 (some 37) (by decide) (by kernel_rfl) ?_) | (with_reducible refine dP pl22_13Wp 8 (some 42) (by decide) (by kernel_rfl) ?_) | (with_reducible refine dP pl22_16Wp 9 (some 55) (by decide) (by kernel_rfl) ?_) | (with_reducible refine dP pl22_19Wp 12 (some 64) (by decide) (by kernel_rfl) ?_) | (with_reducible refine dP pl22_24Wp 10 (some 87) (by decide) (by kernel_rfl) ?_) | (with_reducible refine dP pl22_25Wp 14 (some 96) (by decide) (by kernel_rfl) ?_) | with_reducible refine And.intro ?_ ?_
       refine ⟨(⟨k + 1, by omega⟩, s1.length + 1), by show 65536 - (k + 1) < 65536 - k; omega, ⟨⟨(((hA0.trans ha1).set (by omega) _ |>.set (by omega) _).more _).more _, ?_⟩, ?_, .inr ⟨Nat.succ_pos _, ?_, ?_⟩⟩, ?_⟩
       ·omega
       ·simp only [wH, l1, n0, n1, n2, n3, n7]; rfl
       ·rw [secT_succ, ← bRows_app]
        simp only [wH, wHe, Nat.reduceAdd, Nat.reduceLT, Nat.reduceEqDiff, Nat.reduceMul, reduceCtorEq, Nat.lt_irrefl, n6, n2]
       ·show σ.length + 1 ≤ s1.length + 1; omega
       ·simp only [wHl, wHf]
     ·have hk0 : 0 < k := by omega
      obtain ⟨_, ht, htn⟩ : 0 < k ∧ q[t]? = some (some (.row 1 (bRows (secT D.now k)))) ∧ σ.length + 1 ≤ t := hst.elim (fun e => by omega) id
      have hsA : stA k t = .ms t 1 0 (64 * k) := if_neg (by omega)
      rw [hsA] at hq
      have htl := at_lt ht
      have hTl := secT_len hs k
      have b1 : decide (((64 * k : Nat) : Int) < (S.length : Int)) = false := by simp only [decide_eq_false_iff_not]; omega
      have hsp := slice_pre (C := cx) (t := t) (i := 0) (n := 64 * k) (k := S.length) (kk := .u64) ck_23 (by omega)
      have n2 : (t = σ.length) = False := nf (by omega)
      have n3 : (σ.length = t) = False := nf (by omega)
      repeat' first | ((with_reducible first | refine cs ?_ ?_ | refine ws ?_ ?_ | refine wd ?_ ?_ | refine wu ?_ ?_) <;> intro h <;> try simp only [h]) | simp only [↓wBA, tWp, convA, seval, pl22_12Wp, pl22_13Wp, pl22_16Wp, pl22_19Wp, pl22_24Wp, pl22_25Wp, wH, wHl, hq, q0, ht, htl, n2, n3, b1, u3, hsp] | (with_reducible refine dP pl22_12Wp 7 (some 37) (by decide) (by kernel_rfl) ?_) | (with_reducible refine dP pl22_13Wp 8 (some 42) (by decide) (by kernel_rfl) ?_) | (with_reducible refine dP pl22_16Wp 9 (some 55) (by decide) (by kernel_rfl) ?_) | (with_reducible refine dP pl22_19Wp 12 (some 64) (by decide) (by kernel_rfl) ?_) | (with_reducible refine dP pl22_24Wp 10 (some 87) (by decide) (by kernel_rfl) ?_) | (with_reducible refine dP pl22_25Wp 14 (some 96) (by decide) (by kernel_rfl) ?_) | with_reducible refine And.intro ?_ ?_
      have hAq : Ap σ (q.set σ.length (some (.row 5 [[.mp d 6 0 0, .p (.v (.int .u64 (c : Nat))), .p (.v (.int .u64 (S.length : Nat))), .ms t 1 0 S.length, .p (.v (.int .i64 0))]]))) := hA0.set (Nat.le_refl _) _
      obtain ⟨Q, hQ⟩ : ∃ Q, Q = q.set σ.length (some (.row 5 [[.mp d 6 0 0, .p (.v (.int .u64 (c : Nat))), .p (.v (.int .u64 (S.length : Nat))), .ms t 1 0 S.length, .p (.v (.int .i64 0))]])) := ⟨_, rfl⟩
      rw [← hQ] at hAq ⊢
      have hQt : Q[t]? = some (some (.row 1 (bRows (secT D.now k)))) := by rw [hQ, List.getElem?_set_ne (by omega)]; exact ht
      have hQl : Q[σ.length]? = some (some (.row 5 [[.mp d 6 0 0, .p (.v (.int .u64 (c : Nat))), .p (.v (.int .u64 (S.length : Nat))), .ms t 1 0 S.length, .p (.v (.int .i64 0))]])) := by rw [hQ]; simp [q0]
      have hbr : (bRows (secT D.now k)).take S.length = bRows S := by
       have := secT_take hs hon (k := k) (by omega)
       conv => rhs; rw [← this]
       simp only [bRows, List.map_take]
      subst hS
      refine (arecords rs hQt hbr (by rw [bRows_len, hTl]; omega) hne h0 (by omega)).mono ?_
      rintro _ s2 ⟨ha2, t', rfl⟩
      have hlen := hAq.len
      have hl2 := ha2.len
      repeat' first | ((with_reducible first | refine cs ?_ ?_ | refine ws ?_ ?_ | refine wd ?_ ?_ | refine wu ?_ ?_) <;> intro h <;> try simp only [h]) | simp only [↓wBA, tWp, convA, seval, pl22_12Wp, pl22_13Wp, pl22_16Wp, pl22_19Wp, pl22_24Wp, pl22_25Wp, wH, wHl] | (with_reducible refine dP pl22_12Wp 7 (some 37) (by decide) (by kernel_rfl) ?_) | (with_reducible refine dP pl22_13Wp 8 (some 42) (by decide) (by kernel_rfl) ?_) | (with_reducible refine dP pl22_16Wp 9 (some 55) (by decide) (by kernel_rfl) ?_) | (with_reducible refine dP pl22_19Wp 12 (some 64) (by decide) (by kernel_rfl) ?_) | (with_reducible refine dP pl22_24Wp 10 (some 87) (by decide) (by kernel_rfl) ?_) | (with_reducible refine dP pl22_25Wp 14 (some 96) (by decide) (by kernel_rfl) ?_) | with_reducible refine And.intro ?_ ?_
      all_goals refine ret_st ?_ (by first | exact Nat.le_refl _ | (simp only [List.length_set, List.length_append]; omega) | omega)
      all_goals simp only [resA.eq_1, resL.eq_1, resL.eq_2, resV.eq_1, resV.eq_2, ↓wBA, tWp, convA, seval, wH]
      refine ⟨t', t, rfl, hAq.trans ha2, Nat.lt_of_lt_of_le (Nat.lt_succ_self _) htn, d, F, some t, .ms t 1 0 (recsB rs).length, ⟨ha2.get hQl, h.ap (hAq.trans ha2), .inr ⟨t, _, rfl, rfl, ha2.get hQt, hbr, by rw [bRows_len, hTl]; exact Nat.le_of_not_lt hlt⟩, fun hF => Nat.lt_irrefl _ (h.lt _ hF), fun t2 ht2 hF => ?_, hz, hroom, Nat.le_refl _, hh, hs, hw, rfl, hon, fun _ => rfl⟩, fun t => Iff.rfl⟩
      simp only [Option.some.injEq] at ht2
      have := h.lt _ hF
      omega
end Go.Proofs.Ytlddiphjpmlhbaa
