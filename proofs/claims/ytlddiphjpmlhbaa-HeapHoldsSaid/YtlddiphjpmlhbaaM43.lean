/- Law 06: awake. Laws of heaps: what they share. -/
import Derived.Test.YtlddiphjpmlhbaaM42
set_option linter.unusedSimpArgs false
set_option linter.unusedVariables false
set_option linter.defProp false
set_option maxRecDepth 100000
set_option maxHeartbeats 32000000
namespace Go.Proofs.Ytlddiphjpmlhbaa
open Go.RowKit
def pl6_8Hw : Plan := (.det 0 (.det 1 (.det 2 (.det 3 (.det 4 (.det 5 (.det 6 (.det 7 (.det 8 (.det 9 (.det 10 (.det 11 (.det 12 (.det 13 (.det 14 (.det 15 (.det 16 (.det 17 (.det 18 (.det 19 (.det 20 (.det 21 (.det 22 (.det 23 (.det 24 (.det 25 (.det 26 (.det 27 (.fin 28 (.det 29 (.det 30 (.det 31 (.det 32 (.det 33 (.act 34 (.act 35 (.fin 36 (.det 37 (.det 38 (.det 39 .done))))))))))))))))))))))))))))))))))))))))
def tHw := aa wX <| aa wbu <| aa T3 <| aa T9 <| aa T23 <| aa T25 <| aa T26 <| aa T29 <| aa T31 <| aa T37 <| aa T46 T52
theorem Heap.one {v : Nat → List UInt8} {T : Nat → Bool} {np m : Nat} (h1 : 1 ≤ m) (h2 : m < np) (hT : T m = true) (hp : HPg (v m) 0 []) : Heap v T np [m] ∧ ∀ n k, HRec v [m] n k = none := by
 refine ⟨⟨by simp, by simp, by simp; exact ⟨h1, h2, hT⟩, ⟨[], by simpa using hp⟩, trivial⟩, fun n k => ?_⟩
 unfold HRec
 split
 ·rename_i hn
  simp at hn; subst hn
  cases k with
  | zero => exact recOf_zero _ _
  | succ k => rw [hp.recOf]; simp
 ·rfl
theorem aawake6 (σ : St) : ACalls Try.prog 6 [] σ fun r σ' => Ap σ σ' ∧ r = boolV true := by
 refine acalls_of cx_ok dr_ok Try.func6 (by kernel_rfl) rfl (nt := 81) (rs := [.tmp 0]) rfl rfl ?_
 repeat' first | ((with_reducible first | refine cs ?_ ?_ | refine ws ?_ ?_ | refine wd ?_ ?_ | refine wu ?_ ?_) <;> intro h <;> try simp only [h]) | simp only [↓wBA, tHw, convA, seval, pl6_8Hw, wH] | (with_reducible refine dP pl6_8Hw 40 (some 42) (by decide) (by kernel_rfl) ?_)
 refine (adnew 400 (by omega) σ).mono ?_
 rintro _ s1 ⟨dd, Fd, rfl, a1, hd, hFd⟩
 repeat' first | ((with_reducible first | refine cs ?_ ?_ | refine ws ?_ ?_ | refine wd ?_ ?_ | refine wu ?_ ?_) <;> intro h <;> try simp only [h]) | simp only [↓wBA, tHw, convA, seval, pl6_8Hw, wH] | (with_reducible refine dP pl6_8Hw 40 (some 42) (by decide) (by kernel_rfl) ?_)
 refine (adnew 4000 (by omega) s1).mono ?_
 rintro _ s2 ⟨dl, Fl, rfl, a2, hl, hFl⟩
 have hd2 := hd.ap a2
 have l1 := a1.len
 have l2 := a2.len
 repeat' first | ((with_reducible first | refine cs ?_ ?_ | refine ws ?_ ?_ | refine wd ?_ ?_ | refine wu ?_ ?_) <;> intro h <;> try simp only [h]) | simp only [↓wBA, tHw, convA, seval, pl6_8Hw, wH] | (with_reducible refine dP pl6_8Hw 40 (some 42) (by decide) (by kernel_rfl) ?_)
 refine (aopenN2 hd2 hl (fun t h1 h2 => by have := hd.lt t h1; have := hFl t h2; omega) (by omega) (by omega) 4 (by omega) (by omega)).mono ?_
 rintro _ s3 ⟨p, l, kh, G, P, rfl, a3, hP, p1, p2, p3, p4, p5, p6, p7, p8, p9⟩
 have l3 := a3.len
 have hGσ : ∀ t, G t → σ.length ≤ t := fun t ht => by
  rcases p9 t ht with h | h | h
  ·exact hFd t h
  ·have := hFl t h; omega
  ·omega
 have hpg : P.pages = 50 := by rw [p1]; rfl
 have hbud : Bud P 1000000 := ⟨by omega, by rw [p7]; simp, by omega⟩
 repeat' first | ((with_reducible first | refine cs ?_ ?_ | refine ws ?_ ?_ | refine wd ?_ ?_ | refine wu ?_ ?_) <;> intro h <;> try simp only [h]) | simp only [↓wBA, tHw, convA, seval, pl6_8Hw, wH] | ((with_reducible show ACalls _ _ _ _ _); refine (abBatch hP).mono ?_; rintro _ s4 ⟨rfl, a4, h4⟩) | (with_reducible refine dP pl6_8Hw 40 (some 42) (by decide) (by kernel_rfl) ?_)
 have l4 := a4.len
 refine (amake (T := fun n => n == 0) h4 (by rw [p8]; exact tk_new (by omega)) (by omega) (by omega) rfl (hbud.mono (by omega))).mono ?_
 rintro r s5 ⟨U5, P5, v5, f5, h5, k5, hc⟩
 rcases hc with ⟨m, m1, m2, hTm, rfl, hpm, hvo, hTk⟩ | ⟨hall, _, _⟩
 rotate_left
 ·exact absurd (hall 1 (by omega)) (by decide)
 have l5 := f5.len
 have hpg5 := k5.pages
 obtain ⟨hh5, hr5⟩ := Heap.one (T := updT (fun n => n == 0) m true) m1 m2 (by simp [updT]) hpm
 have hu8 := ck_5
 have hst := ck_9
 repeat' first | ((with_reducible first | refine cs ?_ ?_ | refine ws ?_ ?_ | refine wd ?_ ?_ | refine wu ?_ ?_) <;> intro h <;> try simp only [h]) | simp only [↓wBA, tHw, convA, seval, pl6_8Hw, wH, convB, convC, hu8, hst] | (with_reducible refine dP pl6_8Hw 40 (some 42) (by decide) (by kernel_rfl) ?_)
 have a6 : Ap s5 (s5 ++ [none]) := Ap.app _ _
 have h6 := h5.ap a6
 have ht0 : updT (fun n => n == 0) m true 0 = true := by unfold updT; rw [if_neg (by omega)]; rfl
 refine (ahinsert (first := m) (r := [97, 98]) (T := updT (fun n => n == 0) m true) h6 (by rw [hpg5]; exact hTk) (by omega) ht0 (ns := [m]) (by rw [hpg5]; exact hh5) rfl (.inl ⟨_, rfl, .inl rfl⟩) (by simp) (by simp [msOf]) (hbud.kp k5 (by simp))).mono ?_
 rintro q s7 ⟨U7, P7, v7, f7, h7, k7, hc7⟩
 rcases hc7 with ⟨n, k, T7, ns7, rfl, hI⟩ | ⟨hall, _, _⟩
 rotate_left
 ·exfalso
  have h1 := hall 1 (by omega)
  have h2 := hall 2 (by omega)
  unfold updT at h1 h2
  by_cases e : 1 = m
  ·rw [if_neg (by omega)] at h2; exact absurd h2 (by decide)
  ·rw [if_neg e] at h1; exact absurd h1 (by decide)
 have l7 := f7.len
 simp only [List.length_append, List.length_cons, List.length_nil] at l7
 have hone := entH_one hI.heap fun n' k' => by rw [hI.get, hr5]
 have hmn : ns7[0]? = some m := by
  rcases hI.pages with ⟨rfl, _⟩ | ⟨q, _, _, rfl, _⟩ <;> rfl
 have hn7 : ns7.length ≤ 2 := by
  rcases hI.pages with ⟨rfl, _⟩ | ⟨q, _, _, rfl, _⟩ <;> simp
 have kk7 := k5.trans k7
 repeat' first | ((with_reducible first | refine cs ?_ ?_ | refine ws ?_ ?_ | refine wd ?_ ?_ | refine wu ?_ ?_) <;> intro h <;> try simp only [h]) | simp only [↓wBA, tHw, convA, seval, pl6_8Hw, wH] | (with_reducible refine dP pl6_8Hw 40 (some 42) (by decide) (by kernel_rfl) ?_)
 have a8 : Ap s7 (s7 ++ [some (.row 2 [[intV .i64 (n : Nat), intV .i64 (k : Nat)]])]) := Ap.app _ _
 refine (ascan (h7.ap a8) (by rw [k7.pages]; exact hI.heap) hmn (hbud.kp kk7 (by first | omega | (simp; omega))) (by omega)).mono ?_
 rintro _ s9 ⟨rfl, U9, P9, f9, h9, k9⟩
 have l9 := f9.len
 simp only [List.length_append, List.length_cons, List.length_nil] at l9
 have x9 := f9.get (t := s7.length) (x := some (.row 2 [[intV .i64 (n : Nat), intV .i64 (k : Nat)]])) (by simp) (fun e => Nat.lt_irrefl _ (h7.lt _ e))
 have y9 := at_lt x9
 rw [hone]
 have hgr : getL (v7 n) (k : Nat) = some [97, 98] := by
  have := hI.get n k
  rw [if_pos ⟨rfl, rfl⟩] at this
  unfold HRec at this
  rw [if_pos hI.mem] at this
  unfold recOf at this
  rw [if_neg (by have := hI.k1; omega)] at this
  exact this
 obtain ⟨nx, ss, hp⟩ := hI.heap.ch.mem hI.mem
 obtain ⟨n1, n2, n3⟩ := hI.heap.tk n hI.mem
 have hb2 : bytesOfR [[.v (.int .u8 97)], [.v (.int .u8 98)]] = some [97, 98] := rfl
 have hsq : binStr .eql { data := #[97, 98] } { data := #[97, 98] } = some (.bool true) := by simp [binStr]
 have hset : ∀ {s : St}, Ap s9 s → ACalls Try.prog 12 [.mp s3.length 2 0 0, .agg [intV .i64 (n : Nat), intV .i64 (k : Nat)], .p (.sl 1 [[.v (.int .u8 97)], [.v (.int .u8 98)], [.v (.int .u8 99)]])] s fun q σ' => q = intV .i64 4 ∧ ∃ U', Fr s σ' U9 U' := fun {s} ha =>
  (ahsetL (r' := [97, 98, 99]) (h9.ap ha) n1 (by rw [k9.pages, k7.pages]; exact n2) hp ((hbud.kp (kk7.trans k9) (by first | omega | (simp; omega))).mono (Nat.le_refl 1)) hgr hI.k1 (.inl rfl) (by simp)).mono fun q s ⟨h1, U', _, h2, _⟩ => ⟨h1, U', h2⟩
 repeat' first | ((with_reducible first | refine cs ?_ ?_ | refine ws ?_ ?_ | refine wd ?_ ?_ | refine wu ?_ ?_) <;> intro h <;> try simp only [h]) | simp only [↓wBA, tHw, convA, seval, pl6_8Hw, wH, lsV, entR, encB, byteP, List.map_cons, List.map_nil, x9, y9, convB, convC, hu8, hst, hb2, beq_self_eq_true, Bool.and_self, hsq] | ((with_reducible show ACalls _ _ _ _ _); refine (hset (Ap.app _ _)).mono ?_; rintro _ s10 ⟨rfl, U10, f10⟩) | (with_reducible refine dP pl6_8Hw 40 (some 42) (by decide) (by kernel_rfl) ?_)
 have l10 := f10.len
 simp only [List.length_append, List.length_cons, List.length_nil] at l10
 all_goals refine ret_st ?_ (by first | exact Nat.le_refl _ | (simp only [List.length_set, List.length_append]; omega) | omega)
 all_goals simp only [resA.eq_1, resL.eq_1, resL.eq_2, resV.eq_1, resV.eq_2, ↓wBA, tHw, convA, seval, wH]
 exact Ap.of_fr ((((a1.trans a2).trans a3).trans a4).fr (F := fun t => t = s3.length ∨ G t) |>.trans (f5.trans (a6.fr.trans (f7.trans (a8.fr.trans (f9.trans ((Ap.app s9 [none]).fr.trans f10))))))) fun t ht => ht.elim (fun e => by omega) (hGσ t)
end Go.Proofs.Ytlddiphjpmlhbaa
namespace Go.Proofs.Ytlddiphjpmlhbaa
open Go.RowKit
def pl11_16Hu : Plan := (.det 0 (.det 1 (.act 2 (.fin 3 (.det 4 (.det 5 (.det 6 (.fin 7 .done))))))))
def tHu := aa wX <| aa wbu <| aa T3 <| aa T23 <| aa T26 <| aa T31 <| aa T37 T86
theorem ahinsertL {σ : St} {b : Nat} {first : Int} {a : AV} {r : List UInt8} (ha : RecA σ a r) (hr : 400 < r.length) :
 ACalls Try.prog 11 [.mp b 2 0 0, intV .i64 first, a] σ fun q σ' => q = .tup [.agg [intV .i64 0, intV .i64 0], intV .i64 4] ∧ Ap σ σ' := by
 have hla := ha.len
 have e1 : decide ((r.length : Int) > 400) = true := by simp; omega
 refine acalls_of cx_ok dr_ok Try.func11 (by kernel_rfl) rfl (nt := 76) (rs := [.cell 6 37, .tmp 7]) rfl rfl ?_
 repeat' first | ((with_reducible first | refine cs ?_ ?_ | refine ws ?_ ?_ | refine wd ?_ ?_ | refine wu ?_ ?_) <;> intro h <;> try simp only [h]) | simp only [↓wBA, tHu, convA, seval, pl11_16Hu, wH, hla, e1] | (with_reducible refine dP pl11_16Hu 8 (some 64) (by decide) (by kernel_rfl) ?_)
 all_goals refine ret_st ?_ (by first | exact Nat.le_refl _ | (simp only [List.length_set, List.length_append]; omega) | omega)
 all_goals simp only [resA.eq_1, resL.eq_1, resL.eq_2, resV.eq_1, resV.eq_2, ↓wBA, tHu, convA, seval, wH]
 exact Ap.app _ _
theorem convB_bx {y : PV} {r : List UInt8} (h : BX y r) : convB cx 23 9 (.p y) = some (.p (.v (.string ⟨r.toArray⟩))) := by
 unfold convB
 rw [ck_23, ck_9]
 simp only [ck_5]
 rcases h with rfl | ⟨rfl, rfl⟩
 ·simp only [elemsA, bytesOf_enc]; rfl
 ·rfl
theorem binStr_neq (b : ByteArray) : binStr .neq b b = some (.bool false) := by simp [binStr]
end Go.Proofs.Ytlddiphjpmlhbaa
