/- Disks: what they are in a state. Disks: walks. Disks: walks, more. Disks: made, brought up. -/
import Derived.Test.YtockimhceppkbaaGreatM21
set_option linter.unusedSimpArgs false
set_option linter.unusedVariables false
set_option linter.defProp false
set_option maxRecDepth 100000
set_option maxHeartbeats 32000000
namespace Go.Proofs.YtockimhceppkbaaGreat
open Go.RowKit
def lkM {β : Type} : List (Nat × β) → Nat → Option β
 | [], _ => none
 | (j, x) :: m, k => if j = k then some x else lkM m k
def setM {β : Type} : List (Nat × β) → Nat → β → List (Nat × β)
 | [], k, y => [(k, y)]
 | (j, x) :: m, k, y => if j = k then (k, y) :: m else (j, x) :: setM m k y
theorem lk_setM {β : Type} (k : Nat) (y : β) (i : Nat) : ∀ m : List (Nat × β), lkM (setM m k y) i = if i = k then some y else lkM m i
 | [] => by simp only [setM, lkM, eq_comm]
 | (j, x) :: m => by
   simp only [setM]
   by_cases h : j = k
   ·subst h
    simp only [if_true, lkM]
    by_cases h2 : j = i
    ·subst h2; simp
    ·have : ¬ i = j := fun e => h2 e.symm
     simp [h2, this]
   ·simp only [if_neg h, lkM, lk_setM k y i m]
    by_cases h2 : j = i
    ·subst h2; simp [h]
    ·simp [h2]
def encM {β : Type} (f : β → AV) (m : List (Nat × β)) : List (Value × AV) := m.map fun q => (.int .i64 q.1, f q.2)
def ixM {β : Type} : List (Nat × β) → Nat → Nat → Option (Nat × β)
 | [], _, _ => none
 | (j, x) :: m, k, i => if j = k then some (i, x) else ixM m k (i + 1)
theorem same_int (a b : Int) : Instr.sameNow (.int .i64) (.int .i64 a) (.int .i64 b) = some (a == b) := by simp [Instr.sameNow]
theorem find_enc {β : Type} (f : β → AV) (k : Nat) : ∀ (m : List (Nat × β)) (i : Nat), findMK (.int .i64) (.int .i64 k) (encM f m) i = some ((ixM m k i).map fun q => (q.1, f q.2))
 | [], i => rfl
 | (j, x) :: m, i => by
   have ih := find_enc f k m (i + 1)
   simp only [encM, List.map_cons, findMK, same_int, ixM] at ih ⊢
   by_cases h : j = k
   ·subst h
    simp
   ·have h' : ((k : Int) == (j : Int)) = false := by simp; omega
    simp only [h', if_neg h, ih]
theorem ix_none {β : Type} (k : Nat) (y : β) : ∀ (m : List (Nat × β)) (i : Nat), ixM m k i = none → lkM m k = none ∧ setM m k y = m ++ [(k, y)]
 | [], i, _ => ⟨rfl, rfl⟩
 | (j, x) :: m, i, h => by
   simp only [ixM] at h
   by_cases e : j = k
   ·rw [if_pos e] at h; cases h
   ·rw [if_neg e] at h
    obtain ⟨h1, h2⟩ := ix_none k y m _ h
    simp only [lkM, setM, if_neg e, h1, h2, List.cons_append, and_self]
theorem ix_lk {β : Type} (k : Nat) : ∀ (m : List (Nat × β)) (i : Nat), ixM m k i = none → lkM m k = none
 | [], i, _ => rfl
 | (j, x) :: m, i, h => by
   simp only [ixM] at h
   by_cases e : j = k
   ·rw [if_pos e] at h; cases h
   ·rw [if_neg e] at h
    simp only [lkM, if_neg e, ix_lk k m _ h]
theorem ix_some {β : Type} (k : Nat) : ∀ (m : List (Nat × β)) (i j : Nat) (x : β), ixM m k i = some (j, x) → i ≤ j ∧ lkM m k = some x ∧ ∀ (f : β → AV) (y : β), (encM f m).set (j - i) (.int .i64 k, f y) = encM f (setM m k y)
 | [], i, j, x, h => by simp [ixM] at h
 | (q, z) :: m, i, j, x, h => by
   simp only [ixM] at h
   by_cases e : q = k
   ·subst e
    simp only [if_true, Option.some.injEq, Prod.mk.injEq] at h
    obtain ⟨rfl, rfl⟩ := h
    exact ⟨Nat.le_refl _, by simp [lkM], fun f y => by simp [encM, setM]⟩
   ·rw [if_neg e] at h
    obtain ⟨h1, h2, h3⟩ := ix_some k m _ j x h
    refine ⟨by omega, by simp only [lkM, if_neg e, h2], fun f y => ?_⟩
    have := h3 f y
    rw [show j - i = (j - (i + 1)) + 1 by omega]
    simp only [encM, setM, if_neg e, List.map_cons, List.set_cons_succ] at this ⊢
    rw [this]
theorem upd_enc {β : Type} (f : β → AV) (m : List (Nat × β)) (k : Nat) (y : β) : updK (.int .i64) (.int .i64 (k : Int)) (f y) (encM f m) = some (encM f (setM m k y)) := by
 unfold updK
 rw [if_pos (by simp [keyOk]), find_enc]
 cases hl : ixM m k 0 with
 | none => simp [(ix_none k y m 0 hl).2, encM]
 | some q =>
   obtain ⟨j, x⟩ := q
   simpa using (ix_some k m 0 j x hl).2.2 f y
theorem look_enc {β : Type} (f : β → AV) (m : List (Nat × β)) (k : Nat) (z : Value) (ok : Bool) : lookA (.int .i64) z (.int .i64 (k : Int)) ok (encM f m) = match lkM m k with
    | some x => some (if ok = true then .tup [f x, boolV true] else f x)
    | none => (zAV z).map fun a => if ok = true then .tup [a, boolV false] else a := by
  unfold lookA
  rw [if_pos (by simp [keyOk]), find_enc]
  cases hl : ixM m k 0 with
  | none => simp [ix_lk k m 0 hl]
  | some q =>
    obtain ⟨j, x⟩ := q
    simp [(ix_some k m 0 j x hl).2.1]
def zero64 : List UInt8 := List.replicate 64 0
def secAt (m : List (Nat × List UInt8)) (k : Nat) : List UInt8 := (lkM m k).getD zero64
theorem zero_sec : zAV (.agg ⟨zB 64⟩) = some (pageA zero64) := by
 have h : (zB 64).all plain = true := by simp [zB, plain]
 simp only [zAV, h, if_true, Option.some.injEq]
 simp only [pageA, pageC, zero64, zeroA, zB, byteP, List.map_replicate]
 rfl
theorem look_sec (m : List (Nat × List UInt8)) (k : Nat) : lookA (.int .i64) (.agg ⟨zB 64⟩) (.int .i64 (k : Int)) false (encM pageA m) = some (pageA (secAt m k)) := by
 rw [look_enc]
 unfold secAt
 cases lkM m k with
 | none => simp [zero_sec]
 | some x => rfl
def ovr (v : Nat → List UInt8) : List (Nat × List UInt8) → Nat → List UInt8
 | [], m => v m
 | q :: ch, m => ovr (fun m => if m = q.1 then q.2 else v m) ch m
theorem ovr_app (v : Nat → List UInt8) (q : Nat × List UInt8) (m : Nat) : ∀ ch, ovr v (ch ++ [q]) m = if m = q.1 then q.2 else ovr v ch m := by
 intro ch
 induction ch generalizing v with
 | nil => rfl
 | cons r ch ih => exact ih _
theorem ovr_congr {v v' : Nat → List UInt8} (h : ∀ m, v m = v' m) (m : Nat) : ∀ ch, ovr v ch m = ovr v' ch m := by
 intro ch
 have : v = v' := funext h
 rw [this]
structure DiskV where
 size : Nat
 now : List (Nat × List UInt8)
 wait : List (Nat × List UInt8)
 kept : Nat → List UInt8
def wRows (W : List (Nat × List UInt8)) : List (List PV) := W.map fun q => .v (.int .i64 q.1) :: q.2.map byteP
theorem wRows_len (W : List (Nat × List UInt8)) : (wRows W).length = W.length := by simp [wRows]
def WaitAt (σ : St) (a : AV) (w : Option Nat) (W : List (Nat × List UInt8)) : Prop :=
 (a = .p (.v (.slice none 0 0)) ∧ w = none ∧ W = []) ∨ ∃ t, a = .own t 65 (wRows W) ∧ w = some t ∧ W ≠ [] ∧ σ[t]? = some (some (.right 171 (W.length * 65)))
theorem ovr_len {v : Nat → List UInt8} {n : Nat} : ∀ ch : List (Nat × List UInt8), (∀ k, (v k).length = n) → (∀ q ∈ ch, q.2.length = n) → ∀ k, (ovr v ch k).length = n := by
 intro ch
 induction ch generalizing v with
 | nil => intro h _ k; exact h k
 | cons r ch ih =>
   intro h hc k
   refine ih (fun m => ?_) (fun q hq => hc q (List.mem_cons_of_mem _ hq)) k
   split
   ·exact hc r (by simp)
   ·exact h m
def KeptI (es : List (Value × AV)) (f : Nat → List UInt8) : Prop := ∃ km : List (Nat × List UInt8), es = encM pageA km ∧ ∀ k, secAt km k = f k
theorem secAt_setM (m : List (Nat × List UInt8)) (k : Nat) (s : List UInt8) (j : Nat) : secAt (setM m k s) j = if j = k then s else secAt m j := by
 unfold secAt
 rw [lk_setM]
 split <;> rfl
theorem KeptI.upd {es : List (Value × AV)} {f : Nat → List UInt8} (h : KeptI es f) (k : Nat) (s : List UInt8) : ∃ es', updK (.int .i64) (.int .i64 (k : Int)) (pageA s) es = some es' ∧ KeptI es' fun m => if m = k then s else f m := by
 obtain ⟨km, rfl, hf⟩ := h
 exact ⟨_, upd_enc pageA km k s, setM km k s, rfl, fun j => by rw [secAt_setM, hf]⟩
theorem KeptI.congr {es : List (Value × AV)} {f g : Nat → List UInt8} (h : KeptI es f) (he : ∀ k, f k = g k) : KeptI es g := by
 have : f = g := funext he
 rw [← this]; exact h
structure DiskIn (σ : St) (d kn kk : Nat) (w : Option Nat) (a : AV) (es : List (Value × AV)) (D : DiskV) : Prop where
 d : σ[d]? = some (some (.row 6 [[intV .i64 (D.size : Nat), .mmap kn, .mmap kk, a, boolV false, intV .i64 (-1)]]))
 now : σ[kn]? = some (some (.map (encM pageA D.now)))
 kept : σ[kk]? = some (some (.map es))
 keys : KeptI es D.kept
 ne : kn ≠ kk
 wt : WaitAt σ a w D.wait
 len : ∀ q ∈ D.wait, q.2.length = 64
 big : D.size ≤ 65536
 ov : ∀ k, secAt D.now k = ovr D.kept D.wait k
 kl : ∀ k, (D.kept k).length = 64
def DiskAt (σ : St) (d : Nat) (F : Nat → Prop) (D : DiskV) : Prop := ∃ kn kk w a es, DiskIn σ d kn kk w a es D ∧ ∀ t, F t ↔ (t = d ∨ t = kn ∨ t = kk ∨ w = some t)
theorem DiskAt.mk' {σ : St} {d kn kk : Nat} {w : Option Nat} {a : AV} {es : List (Value × AV)} {z : Nat} {now W : List (Nat × List UInt8)} {kept : Nat → List UInt8} (h0 : σ[d]? = some (some (.row 6 [[intV .i64 (z : Nat), .mmap kn, .mmap kk, a, boolV false, intV .i64 (-1)]])))
 (h1 : σ[kn]? = some (some (.map (encM pageA now)))) (h2 : σ[kk]? = some (some (.map es))) (hk : KeptI es kept) (hn : kn ≠ kk) (hw : WaitAt σ a w W) (hl : ∀ q ∈ W, q.2.length = 64) (hb : z ≤ 65536) (hov : ∀ k, secAt now k = ovr kept W k) (hkl : ∀ k, (kept k).length = 64) : DiskAt σ d (fun t => t = d ∨ t = kn ∨ t = kk ∨ w = some t) ⟨z, now, W, kept⟩ :=
 ⟨kn, kk, w, a, es, ⟨h0, h1, h2, hk, hn, hw, hl, hb, hov, hkl⟩, fun t => Iff.rfl⟩
theorem wait_len {W : List (Nat × List UInt8)} (h : ∀ q ∈ W, q.2.length = 64) {n : Nat} {s : List UInt8} (hs : s.length = 64) : ∀ q ∈ W ++ [(n, s)], q.2.length = 64 := fun q hq => by
 rcases List.mem_append.1 hq with hq | hq
 ·exact h q hq
 ·simp at hq; subst hq; exact hs
theorem wRows_app (W : List (Nat × List UInt8)) (n : Nat) (s : List UInt8) : wRows W ++ [.v (.int .i64 (n : Int)) :: s.map byteP] = wRows (W ++ [(n, s)]) := by simp [wRows]
theorem DiskAt.lt {σ : St} {d : Nat} {F : Nat → Prop} {D : DiskV} (h : DiskAt σ d F D) : ∀ t, F t → t < σ.length := by
 obtain ⟨kn, kk, w, a, es, h, hF⟩ := h
 intro t ht
 rcases (hF t).1 ht with rfl | rfl | rfl | hw
 ·exact at_lt h.d
 ·exact at_lt h.now
 ·exact at_lt h.kept
 ·rcases h.wt with ⟨_, h1, _⟩ | ⟨t', _, h1, _, h2⟩
  ·rw [h1] at hw; cases hw
  ·rw [h1] at hw; simp only [Option.some.injEq] at hw; subst hw; exact at_lt h2
theorem DiskAt.same {σ σ' : St} {d : Nat} {F : Nat → Prop} {D : DiskV} (h : DiskAt σ d F D) (hs : ∀ t, F t → σ'[t]? = σ[t]?) : DiskAt σ' d F D := by
 obtain ⟨kn, kk, w, a, es, h, hF⟩ := h
 refine ⟨kn, kk, w, a, es, ⟨?_, ?_, ?_, h.keys, h.ne, ?_, h.len, h.big, h.ov, h.kl⟩, hF⟩
 ·rw [hs _ ((hF d).2 (.inl rfl))]; exact h.d
 ·rw [hs _ ((hF kn).2 (.inr (.inl rfl)))]; exact h.now
 ·rw [hs _ ((hF kk).2 (.inr (.inr (.inl rfl))))]; exact h.kept
 ·rcases h.wt with h1 | ⟨t, h1, h2, h3, h4⟩
  ·exact .inl h1
  ·exact .inr ⟨t, h1, h2, h3, by rw [hs _ ((hF t).2 (.inr (.inr (.inr h2))))]; exact h4⟩
theorem DiskAt.frame {σ σ' : St} {d : Nat} {F G G' : Nat → Prop} {D : DiskV} (h : DiskAt σ d F D) (hf : Fr σ σ' G G') (hd : ∀ t, F t → G t → False) : DiskAt σ' d F D :=
 h.same fun t ht => hf.keep t (h.lt t ht) fun hg => hd t ht hg
theorem DiskAt.app {σ : St} {d : Nat} {F : Nat → Prop} {D : DiskV} (h : DiskAt σ d F D) (τ : St) : DiskAt (σ ++ τ) d F D :=
 h.same fun t ht => List.getElem?_append_left (h.lt t ht)
theorem pageC_512 {l : List UInt8} (h : l.length = 512) : (pageC l).length = 512 := by simp [pageC, h]
theorem pageC_64 {l : List UInt8} (h : l.length = 64) : (pageC l).length = 64 := by simp [pageC, h]
theorem zB_64 : (List.map (fun x => AV.p (PV.v x)) (zB 64)) = pageC zero64 := by
 simp only [pageC, zero64, zB, byteP, List.map_replicate]; rfl
theorem len_zero64 : zero64.length = 64 := rfl
theorem DiskAt.root {σ : St} {d : Nat} {F : Nat → Prop} {D : DiskV} (h : DiskAt σ d F D) : F d := by
 obtain ⟨kn, kk, w, a, es, h, hF⟩ := h
 exact (hF d).2 (.inl rfl)
end Go.Proofs.YtockimhceppkbaaGreat
namespace Go.Proofs.YtockimhceppkbaaGreat
open Go.RowKit
def pl95_6Dk : Plan := (.det 0 (.det 1 (.det 2 (.det 3 (.det 4 (.det 5 (.fin 6 .done)))))))
def pl95_7Dk : Plan := (.det 0 (.det 1 (.det 2 (.det 3 (.det 4 (.det 5 (.det 6 (.det 7 (.act 8 (.fin 9 (.det 10 (.det 11 (.fin 12 .done)))))))))))))
def tDk := aa wX <| aa wbu <| aa T3 <| aa T4 <| aa T25 <| aa T28 <| aa T78 <| aa T79 <| aa T81 <| aa T122 T171
theorem adsize {σ : St} {d : Nat} {F : Nat → Prop} {D : DiskV} (h : DiskAt σ d F D) : ACalls Tryz.prog 26 [.mp d 6 0 0] σ fun r σ' => σ' = σ ∧ r = intV .i64 (D.size : Nat) := by
 obtain ⟨kn, kk, w, a, es, hd, hF⟩ := h
 have h0 := hd.d
 refine acalls_of cx_ok dr_ok Tryz.func26 (by kernel_rfl) rfl (nt := 8) (rs := [.tmp 2]) rfl rfl ?_
 repeat' first | ((with_reducible first | refine cs ?_ ?_ | refine ws ?_ ?_) <;> intro h <;> try simp only [h]) | simp only [↓wBA, tDk, convA, seval, h0]
 all_goals refine ret_st ?_ (Nat.le_refl _)
 all_goals simp only [wS]
 all_goals simp
theorem admay {σ : St} {d : Nat} {F : Nat → Prop} {D : DiskV} (h : DiskAt σ d F D) (n : Nat) (hn : n < D.size ∨ n = 0) : ACalls Tryz.prog 89 [.mp d 6 0 0, intV .i64 (n : Nat)] σ fun r σ' => σ' = σ ∧ r = intV .i64 0 := by
 obtain ⟨kn, kk, w, a, es, hd, hF⟩ := h
 have h0 := hd.d
 have e1 : decide ((n : Int) < 0) = false := by simp
 refine acalls_of cx_ok dr_ok Tryz.func89 (by kernel_rfl) rfl (nt := 26) (rs := [.tmp 4]) rfl rfl ?_
 repeat' first | ((with_reducible first | refine cs ?_ ?_ | refine ws ?_ ?_) <;> intro h <;> try simp only [h]) | simp only [↓wBA, tDk, convA, seval, h0, e1]
 all_goals try (exfalso; simp_all; omega)
 all_goals refine ret_st ?_ (Nat.le_refl _)
 all_goals simp only [wS]
 all_goals simp
theorem adchange {σ : St} {d : Nat} {c0 c1 c2 c3 c4 : AV} (h0 : σ[d]? = some (some (.row 6 [[c0, c1, c2, c3, c4, .p (.v (.int .i64 (-1)))]]))) : ACalls Tryz.prog 96 [.mp d 6 0 0] σ fun r σ' => σ' = σ ∧ r = .tup [] := by
 refine acalls_of cx_ok dr_ok Tryz.func96 (by kernel_rfl) rfl (nt := 21) (rs := []) rfl rfl ?_
 repeat' first | ((with_reducible first | refine cs ?_ ?_ | refine ws ?_ ?_) <;> intro h <;> try simp only [h]) | simp only [↓wBA, tDk, convA, seval, h0]
 all_goals refine ret_st ?_ (Nat.le_refl _)
 all_goals simp only [wS]
 all_goals simp
theorem adread {σ : St} {d : Nat} {F : Nat → Prop} {D : DiskV} (h : DiskAt σ d F D) (n : Nat) (hn : n < D.size) (hs : (secAt D.now n).length = 64) : ACalls Tryz.prog 55 [.mp d 6 0 0, intV .i64 (n : Nat)] σ fun r σ' => Ap σ σ' ∧ r = .tup [pageA (secAt D.now n), intV .i64 0] := by
 have hm := fun τ => admay (h.app τ) n (.inl hn)
 obtain ⟨kn, kk, w, a, es, hd, hF⟩ := h
 have h0 := hd.d
 have h1 := hd.now
 have l0 := at_lt h0
 have l1 := at_lt h1
 have e1 : decide ((n : Int) ≥ (D.size : Int)) = false := by simp; omega
 have e2 := look_sec D.now n
 have e3 := pageC_64 hs
 have e4 := pageC_64 len_zero64
 refine acalls_of cx_ok dr_ok Tryz.func55 (by kernel_rfl) rfl (nt := 29) (rs := [.cell 4 122, .tmp 5]) rfl rfl ?_
 repeat' first | ((with_reducible first | refine cs ?_ ?_ | refine ws ?_ ?_) <;> intro h <;> try simp only [h]) | simp only [↓wBA, tDk, convA, seval, wH, h0, h1, l0, l1, e1, e2, e3, e4, zB_64, pageA] | ((with_reducible show ACalls _ _ _ _ _); refine (hm _).eq ?_)
 all_goals refine ret_st ?_ (by first | exact Nat.le_refl _ | (simp only [List.length_set, List.length_append]; omega) | omega)
 all_goals simp only [resA.eq_1, resL.eq_1, resL.eq_2, resV.eq_1, resV.eq_2, ↓wBA, tDk, convA, seval, wH, h0, h1, l0, l1, e3]
 all_goals exact Ap.app _ _
theorem adwrite {σ : St} {d : Nat} {F : Nat → Prop} {D : DiskV} (h : DiskAt σ d F D) (n : Nat) (hn : n < D.size) (s : List UInt8) (hs : s.length = 64) (hw : D.wait.length ≤ 1000000000000) :
 ACalls Tryz.prog 95 [.mp d 6 0 0, intV .i64 (n : Nat), pageA s] σ fun r σ' => r = intV .i64 0 ∧ ∃ F', Fr σ σ' F F' ∧ DiskAt σ' d F' { D with now := setM D.now n s, wait := D.wait ++ [(n, s)] } := by
 have hm := fun τ => admay (h.app τ) n (.inl hn)
 obtain ⟨kn, kk, w, a, es, hd, hF⟩ := h
 have h0 := hd.d
 have h1 := hd.now
 have l0 := at_lt h0
 have l1 := at_lt h1
 have e1 : decide ((n : Int) ≥ (D.size : Int)) = false := by simp; omega
 have e2 := upd_enc pageA D.now n s
 have e3 := pageC_64 hs
 simp only [pageA] at e2
 have n0 : (d = kn) = False := nf (ne_of_ob h0 h1 (by simp))
 have n1 : (kn = d) = False := nf (ne_of_ob h1 h0 (by simp))
 have hl1 := tL (n := (D.wait.length + 1) * 72) (by omega)
 have hl2 := lM (n := D.wait.length + 1) (by omega)
 refine acalls_of cx_ok dr_ok Tryz.func95 (by kernel_rfl) rfl (nt := 41) (rs := [.tmp 6]) rfl rfl ?_
 have hl3 := lM (n := 1) (by omega)
 have h3 := hd.kept
 have l3 := at_lt h3
 have n2 : (d = kk) = False := nf (ne_of_ob h0 h3 (by simp))
 have n3 : (kn = kk) = False := nf hd.ne
 rcases hd.wt with ⟨rfl, rfl, hW⟩ | ⟨t, rfl, rfl, hW, h2⟩
 ·skip
  repeat' first | ((with_reducible first | refine cs ?_ ?_ | refine ws ?_ ?_ | refine wd ?_ ?_ | refine wu ?_ ?_) <;> intro h <;> try simp only [h]) | simp only [↓wBA, tDk, convA, seval, pl95_6Dk, pl95_7Dk, wH, h0, h1, l0, l1, e1, e2, e3, pageA, n0, n1, wZt, appendA, srcA, wRows_len, hl1, hl2, hl3] | ((with_reducible show ACalls _ _ _ _ _); first | refine (hm _).eq ?_ | (refine (adchange (by simp only [wH, h0, h1, l0, l1, n0, n1, Nat.zero_add, Nat.reduceAdd]; rfl)).eq ?_)) | (with_reducible refine dP pl95_6Dk 7 (some 24) (by decide) (by kernel_rfl) ?_) | (with_reducible refine dP pl95_7Dk 13 (some 30) (by decide) (by kernel_rfl) ?_)
  all_goals refine ret_st ?_ (by first | exact Nat.le_refl _ | (simp only [List.length_set, List.length_append]; omega) | omega)
  all_goals simp only [resA.eq_1, resL.eq_1, resL.eq_2, resV.eq_1, resV.eq_2, ↓wBA, tDk, convA, seval, wH, h0, h1, l0, l1]
  refine ⟨_, ?_, DiskAt.mk' (kn := kn) (kk := kk) (w := some (σ.length + 2)) (a := .own (σ.length + 2) 65 (wRows (D.wait ++ [(n, s)]))) (es := es) ?_ ?_ ?_ hd.keys hd.ne (.inr ⟨_, rfl, rfl, by simp, ?_⟩) (wait_len hd.len hs) hd.big (fun j => by rw [secAt_setM, ovr_app, hd.ov]) hd.kl⟩
  ·refine (((((((Fr.refl σ F).set _ ((hF kn).2 (by simp))).set _ ((hF d).2 (by simp))).app _).app _).app _).to fun t ht => ?_)
   rcases ht with rfl | rfl | rfl | h
   ·exact .inl ((hF _).2 (by simp))
   ·exact .inl ((hF _).2 (by simp))
   ·exact .inl ((hF _).2 (by simp))
   ·simp at h; omega
  ·simp only [wH, l0, n0, n1, hW, List.nil_append, wRows, List.map_cons, List.map_nil, intV, boolV]
  ·simp only [wH, l0, l1, n0, n1, n2, n3, h1]
  ·simp only [wH, l0, l1, l3, n0, n1, n2, n3, h3]
  ·simp only [wH, l0, hW, List.length_cons, List.length_nil, Nat.zero_add, Nat.reduceAdd, Nat.reduceMul]
 ·have l2 := at_lt h2
  have n4 : (t = kn) = False := nf (ne_of_ob h2 h1 (by simp))
  have n5 : (kn = t) = False := nf (ne_of_ob h1 h2 (by simp))
  have n6 : (t = d) = False := nf (ne_of_ob h2 h0 (by simp))
  have n7 : (d = t) = False := nf (ne_of_ob h0 h2 (by simp))
  have n8 : (t = kk) = False := nf (ne_of_ob h2 h3 (by simp))
  repeat' first | ((with_reducible first | refine cs ?_ ?_ | refine ws ?_ ?_ | refine wd ?_ ?_ | refine wu ?_ ?_) <;> intro h <;> try simp only [h]) | simp only [↓wBA, tDk, convA, seval, pl95_6Dk, pl95_7Dk, wH, h0, h1, h2, l0, l1, l2, e1, e2, e3, pageA, n0, n1, n4, n5, n6, n7, wZt, appendA, srcA, wRows_len, hl1, hl2] | ((with_reducible show ACalls _ _ _ _ _); first | refine (hm _).eq ?_ | (refine (adchange (by simp only [wH, h0, h1, l0, l1, l2, n0, n1, n6, n7, Nat.zero_add, Nat.reduceAdd]; rfl)).eq ?_)) | (with_reducible refine dP pl95_6Dk 7 (some 24) (by decide) (by kernel_rfl) ?_) | (with_reducible refine dP pl95_7Dk 13 (some 30) (by decide) (by kernel_rfl) ?_)
  all_goals refine ret_st ?_ (by first | exact Nat.le_refl _ | (simp only [List.length_set, List.length_append]; omega) | omega)
  all_goals simp only [resA.eq_1, resL.eq_1, resL.eq_2, resV.eq_1, resV.eq_2, ↓wBA, tDk, convA, seval, wH, h0, h1, l0, l1]
  refine ⟨_, ?_, DiskAt.mk' (kn := kn) (kk := kk) (w := some t) (a := .own t 65 (wRows (D.wait ++ [(n, s)]))) (es := es) ?_ ?_ ?_ hd.keys hd.ne (.inr ⟨_, rfl, rfl, by simp, ?_⟩) (wait_len hd.len hs) hd.big (fun j => by rw [secAt_setM, ovr_app, hd.ov]) hd.kl⟩
  ·refine ((((((Fr.refl σ F).set _ ((hF kn).2 (by simp))).set _ ((hF t).2 (by simp))).set _ ((hF d).2 (by simp))).app _).app _).to fun t ht => ?_
   exact .inl ((hF _).2 ht)
  ·simp only [wH, l0, l1, l2, n0, n1, n6, n7, wRows_app, intV, boolV]
  ·simp only [wH, l0, l1, l2, n0, n1, n2, n3, n4, n5, h1]
  ·simp only [wH, l0, l1, l2, l3, n0, n1, n2, n3, n4, n5, n6, n7, n8, h3]
  ·simp only [wH, l0, l1, l2, n0, n1, n6, n7, n4, n5, List.length_cons, List.length_nil]
end Go.Proofs.YtockimhceppkbaaGreat
namespace Go.Proofs.YtockimhceppkbaaGreat
open Go.RowKit
def pl63_7Ds : Plan := (.det 0 (.det 1 (.det 2 (.det 3 (.det 4 (.det 5 (.det 6 (.det 7 (.fin 8 .done)))))))))
def tDs := aa wX <| aa wbu <| aa T3 <| aa T25 <| aa T28 <| aa T78 <| aa T79 <| aa T81 <| aa T122 T171
theorem adsync {σ : St} {d : Nat} {F : Nat → Prop} {D : DiskV} (h : DiskAt σ d F D) (hw : D.wait.length ≤ 1000000000000) :
 ACalls Tryz.prog 63 [.mp d 6 0 0] σ fun r σ' => r = intV .i64 0 ∧ ∃ F', Fr σ σ' F F' ∧ DiskAt σ' d F' { D with wait := [], kept := secAt D.now } := by
 have hm := admay h 0 (.inr rfl)
 obtain ⟨kn, kk, w, a, es, hd, hF⟩ := h
 have h0 := hd.d
 have h1 := hd.now
 have h3 := hd.kept
 have l0 := at_lt h0
 have l1 := at_lt h1
 have l3 := at_lt h3
 have n0 : (d = kn) = False := nf (ne_of_ob h0 h1 (by simp))
 have n1 : (kn = d) = False := nf (ne_of_ob h1 h0 (by simp))
 have n2 : (d = kk) = False := nf (ne_of_ob h0 h3 (by simp))
 have n3 : (kn = kk) = False := nf hd.ne
 have n4 : (kk = d) = False := nf (ne_of_ob h3 h0 (by simp))
 have n5 : (kk = kn) = False := nf hd.ne.symm
 have hnl : ∀ k, (secAt D.now k).length = 64 := fun k => by rw [hd.ov]; exact ovr_len _ hd.kl hd.len k
 have hm : ACalls Tryz.prog 89 [.mp d 6 0 0, .p (.v (.int .i64 0))] σ fun r σ' => σ' = σ ∧ r = intV .i64 0 := hm
 refine acalls_of cx_ok dr_ok Tryz.func63 (by kernel_rfl) rfl (nt := 33) (rs := [.tmp 2]) rfl rfl ?_
 rcases hd.wt with ⟨rfl, rfl, hW⟩ | ⟨t, rfl, rfl, hW, h2⟩
 ·skip
  repeat' first | ((with_reducible first | refine cs ?_ ?_ | refine ws ?_ ?_ | refine wd ?_ ?_ | refine wu ?_ ?_) <;> intro h <;> try simp only [h]) | simp only [↓wBA, tDs, convA, seval, pl63_7Ds, wH, h0, h1, l0, l1, n0, n1] | ((with_reducible show ACalls _ _ _ _ _); refine hm.eq ?_) | (with_reducible refine dP pl63_7Ds 9 (some 20) (by decide) (by kernel_rfl) ?_)
  refine awp_loopS (X := Nat) (fun i => 0) (fun i => [(16, intV .i64 0)]) [5, 17, 18, 19, 20, 21, 22, 23, 24, 25, 26, 27, 28] (fun i s => s = σ) (0) ?_ ?_ ?_ ?_
  ·simp only [wHl, wHf]
  ·rfl
  ·rintro _ _ rfl; exact Nat.le_refl _
  ·rintro i J s rfl
   simp only [wHl]
   repeat' first | ((with_reducible first | refine cs ?_ ?_ | refine ws ?_ ?_ | refine wd ?_ ?_ | refine wu ?_ ?_) <;> intro h <;> try simp only [h]) | simp only [↓wBA, tDs, convA, seval, pl63_7Ds, wH, wHl, h0, h1, l0, l1, n0, n1] | ((with_reducible show ACalls _ _ _ _ _); refine (adchange (by simp only [wH, h0, h1, l0, l1, n0, n1, Nat.zero_add, Nat.reduceAdd]; rfl)).eq ?_) | (with_reducible refine dP pl63_7Ds 9 (some 20) (by decide) (by kernel_rfl) ?_)
   all_goals refine ret_st ?_ (by first | exact Nat.le_refl _ | (simp only [List.length_set, List.length_append]; omega) | omega)
   all_goals simp only [resA.eq_1, resL.eq_1, resL.eq_2, resV.eq_1, resV.eq_2, ↓wBA, tDs, convA, seval, wH, h0, h1, l0, l1]
   exact ⟨_, Fr.refl _ _, kn, kk, none, _, es, ⟨h0, h1, h3, hd.keys.congr fun k => by have := hd.ov k; rw [hW] at this; exact this.symm, hd.ne, .inl ⟨rfl, rfl, rfl⟩, by simp, hd.big, fun k => rfl, hnl⟩, hF⟩
 ·have l2 := at_lt h2
  repeat' first | ((with_reducible first | refine cs ?_ ?_ | refine ws ?_ ?_ | refine wd ?_ ?_ | refine wu ?_ ?_) <;> intro h <;> try simp only [h]) | simp only [↓wBA, tDs, convA, seval, pl63_7Ds, wH, h0, h1, l0, l1, n0, n1, wRows_len] | ((with_reducible show ACalls _ _ _ _ _); refine hm.eq ?_) | (with_reducible refine dP pl63_7Ds 9 (some 20) (by decide) (by kernel_rfl) ?_)
  refine awp_loopS (X := { i : Nat // i ≤ D.wait.length }) (fun i => D.wait.length - i.1) (fun i => [(16, intV .i64 (i.1 : Nat))]) [5, 17, 18, 19, 20, 21, 22, 23, 24, 25, 26, 27, 28] (fun i s => Fr σ s F F ∧ s[d]? = σ[d]? ∧ s[kn]? = σ[kn]? ∧ ∃ es', s[kk]? = some (some (.map es')) ∧ KeptI es' (ovr D.kept (D.wait.take i.1))) (⟨0, by omega⟩) ?_ ?_ ?_ ?_
  ·simp only [wHl, wHf]
  ·exact ⟨Fr.refl _ _, rfl, rfl, es, h3, hd.keys⟩
  ·rintro _ _ ⟨h, _⟩; exact h.len
  ·intro x J s hI
   simp only [wHl]
   obtain ⟨i, hi⟩ := x
   obtain ⟨hf, g0, g1, es', g3, hk⟩ := hI
   dsimp only
   rw [h0] at g0; rw [h1] at g1
   have hfl := hf.len
   have k0 := at_lt g0
   have k1 := at_lt g1
   have k3 := at_lt g3
   by_cases hlt : i < D.wait.length
   ·have hdec := dT (i := i) (n := D.wait.length) (by omega)
    have hi0 := nnI i
    have hg : (wRows D.wait)[i]? = some (.v (.int .i64 ((D.wait[i]).1 : Nat)) :: (D.wait[i]).2.map byteP) := by simp [wRows, hlt]
    have hq := hd.len _ (List.getElem_mem hlt)
    have e1 := pageC_64 hq
    have hw1 := wI i (by omega)
    obtain ⟨es2, u1, u2⟩ := hk.upd (D.wait[i]).1 (D.wait[i]).2
    simp only [pageA] at u1
    have u3 : KeptI es2 (ovr D.kept (D.wait.take (i + 1))) := u2.congr fun k => by
     rw [List.take_add_one, List.getElem?_eq_getElem hlt]
     exact (ovr_app _ _ _ _).symm
    repeat' first | ((with_reducible first | refine cs ?_ ?_ | refine ws ?_ ?_ | refine wd ?_ ?_ | refine wu ?_ ?_) <;> intro h <;> try simp only [h]) | simp only [↓wBA, tDs, convA, seval, pl63_7Ds, wH, wHl, g0, g1, g3, k0, k1, k3, hdec, hi0, hg, n0, n1, n2, n3, n4, n5, e1, hq, u1, u2, hw1, wZt] | (with_reducible refine dP pl63_7Ds 9 (some 20) (by decide) (by kernel_rfl) ?_)
    refine ⟨⟨i + 1, by omega⟩, by show D.wait.length - (i + 1) < D.wait.length - i; omega, ⟨(hf.set _ ((hF _).2 (by simp))).app _, h0.symm, h1.symm, es2, rfl, u3⟩, rfl⟩
   ·have hdec := dF (i := i) (n := D.wait.length) (by omega)
    repeat' first | ((with_reducible first | refine cs ?_ ?_ | refine ws ?_ ?_ | refine wd ?_ ?_ | refine wu ?_ ?_) <;> intro h <;> try simp only [h]) | simp only [↓wBA, tDs, convA, seval, pl63_7Ds, wH, wHl, g0, g1, g3, k0, k1, k3, hdec, n0, n1, n2, n3, n4, n5] | ((with_reducible show ACalls _ _ _ _ _); refine (adchange (by simp only [wH, g0, k0]; rfl)).eq ?_) | (with_reducible refine dP pl63_7Ds 9 (some 20) (by decide) (by kernel_rfl) ?_)
    all_goals refine ret_st ?_ (by first | exact Nat.le_refl _ | (simp only [List.length_set, List.length_append]; omega) | omega)
    all_goals simp only [resA.eq_1, resL.eq_1, resL.eq_2, resV.eq_1, resV.eq_2, ↓wBA, tDs, convA, seval, wH, g0, k0]
    refine ⟨_, (hf.set _ ((hF _).2 (by simp))).to fun t ht => .inl ((hF t).2 ?_), DiskAt.mk' (kn := kn) (kk := kk) (w := none) (es := es') ?_ ?_ ?_ (hk.congr fun k => by rw [List.take_of_length_le (show D.wait.length ≤ i by omega)]; exact (hd.ov k).symm) hd.ne (.inl ⟨rfl, rfl, rfl⟩) (by simp) hd.big (fun k => rfl) hnl⟩
    ·rcases ht with h | h | h | h
     ·exact .inl h
     ·exact .inr (.inl h)
     ·exact .inr (.inr (.inl h))
     ·cases h
    ·simp only [wH, k0, intV, boolV]
    ·simp only [wH, k0, n0, n1, g1]
    ·simp only [wH, k0, n2, n4, g3]
end Go.Proofs.YtockimhceppkbaaGreat
namespace Go.Proofs.YtockimhceppkbaaGreat
open Go.RowKit
def tDn := aa wX <| aa wbu <| aa T3 <| aa T78 T81
theorem adnew (n : Nat) (hn : n ≤ 65536) (σ : St) : ACalls Tryz.prog 9 [intV .i64 (n : Nat)] σ fun r σ' => ∃ d F, r = .mp d 6 0 0 ∧ Ap σ σ' ∧ DiskAt σ' d F ⟨n, [], [], fun _ => zero64⟩ ∧ ∀ t, F t → σ.length ≤ t := by
 have e1 : (if (0 : Int) > (n : Int) then 0 else (n : Int)) = n := by split <;> omega
 have e2 : (if (65536 : Int) < (n : Int) then 65536 else (n : Int)) = n := by split <;> omega
 refine acalls_of cx_ok dr_ok Tryz.func9 (by kernel_rfl) rfl (nt := 11) (rs := [.tmp 2]) rfl rfl ?_
 repeat' first | ((with_reducible first | refine cs ?_ ?_ | refine ws ?_ ?_) <;> intro h <;> try simp only [h]) | simp only [↓wBA, tDn, convA, seval, wH, e1, e2]
 all_goals refine ret_st ?_ (by first | exact Nat.le_refl _ | (simp only [List.length_set, List.length_append]; omega) | omega)
 all_goals simp only [resA.eq_1, resL.eq_1, resL.eq_2, resV.eq_1, resV.eq_2, ↓wBA, tDn, convA, seval, wH]
 refine ⟨_, _, rfl, ?_, DiskAt.mk' (kn := σ.length) (kk := σ.length + 1) (w := none) (a := .p (.v (.slice none 0 0))) (es := []) ?_ ?_ ?_ ⟨[], rfl, fun _ => rfl⟩ (by omega) (.inl ⟨rfl, rfl, rfl⟩) (by simp) hn (fun _ => rfl) (fun _ => rfl), fun t ht => ?_⟩
 ·exact ((Ap.app _ _).trans (Ap.app _ _)).trans (Ap.app _ _)
 ·skip
  simp only [wH, wHe, Nat.reduceAdd, Nat.reduceLT, Nat.reduceEqDiff, Nat.reduceMul, reduceCtorEq, Nat.lt_irrefl]
 ·skip
  simp only [wH, wHe, Nat.reduceAdd, Nat.reduceLT, Nat.reduceEqDiff, Nat.reduceMul, reduceCtorEq, Nat.lt_irrefl, encM, List.map_nil]
 ·skip
  simp only [wH, wHe, Nat.reduceAdd, Nat.reduceLT, Nat.reduceEqDiff, Nat.reduceMul, reduceCtorEq, Nat.lt_irrefl]
 ·rcases ht with rfl | rfl | rfl | h
  ·omega
  ·exact Nat.le_refl _
  ·omega
  ·cases h
end Go.Proofs.YtockimhceppkbaaGreat
