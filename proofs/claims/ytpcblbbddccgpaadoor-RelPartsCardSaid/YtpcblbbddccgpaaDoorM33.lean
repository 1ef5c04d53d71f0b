/- A join is the filter of all pairs: the plain law. Rows compared. Data with nil for slices of no elements. -/
import Derived.Test.YtpcblbbddccgpaaDoorM31
import Derived.Test.YtpcblbbddccgpaaDoorM21
import Derived.Test.YtpcblbbddccgpaaDoorM23
import Derived.Test.YtpcblbbddccgpaaDoorM15
set_option linter.unusedSimpArgs false
set_option linter.unusedVariables false
set_option linter.defProp false
set_option maxRecDepth 100000
set_option maxHeartbeats 32000000
namespace Go.Proofs.YtpcblbbddccgpaaDoor
open Go.RowKit
def pairsS (a b : List (List Va)) : List (List Va) := a.flatMap fun x => b.map fun y => x ++ y
theorem cmpI_zero {a b : Int} (h : cmpI a b = 0) : a = b := by
 unfold cmpI at h
 split at h
 ·simp at h
 ·split at h
  ·simp at h
  ·omega
theorem cmpS_zero {a b : ByteArray} (h : cmpS a b = 0) : a = b := by
 unfold cmpS at h
 split at h
 ·simp at h
 ·split at h
  ·rename_i hh; exact (Lib.bytes_beq_iff a b).1 hh
  ·simp at h
theorem cmpV_zero {a b : Va} (h : cmpV a b = 0) : a = b := by
 unfold cmpV at h
 split at h
 ·rename_i h1; exact (h1 h).elim
 ·split at h
  ·rename_i h1; exact (h1 h).elim
  ·rename_i h1 h2
   obtain ⟨a1, a2, a3⟩ := a
   obtain ⟨b1, b2, b3⟩ := b
   simp only [ne_eq, Decidable.not_not] at h1 h2
   have e1 := cmpI_zero h1
   have e2 := cmpI_zero h2
   have e3 := cmpS_zero h
   simp only at e1 e2 e3
   subst e1 e2 e3
   rfl
theorem okV_kind {v : Va} (h : okV v = true) : 0 ≤ v.1 := by
 unfold okV at h
 split at h
 ·omega
 ·split at h
  ·omega
  ·split at h
   ·omega
   ·simp only [Bool.and_eq_true, beq_iff_eq] at h
    have := h.1.1
    omega
theorem goodS_kind (w : Int) (c : Nat) : ∀ (rows : List (List Va)) (k k' : Int), 0 ≤ k → goodS w c rows k = (true, k') → 0 ≤ k' ∧ (k ≠ 0 → k' = k) ∧ ∀ r ∈ rows, (r.getD c va0).1 = 0 ∨ (r.getD c va0).1 = k'
 | [], k, k', hk, h => by
   simp only [goodS, Prod.mk.injEq, true_and] at h
   subst h
   exact ⟨hk, fun _ => rfl, by simp⟩
 | q :: rows, k, k', hk, h => by
   simp only [goodS] at h
   split at h
   ·rename_i hg
    simp only [rowG, Bool.and_eq_true, Bool.or_eq_true, decide_eq_true_eq] at hg
    have h0 := okV_kind hg.1.2
    have hkd : kdS c k q = k ∨ (k = 0 ∧ kdS c k q = (q.getD c va0).1) := by
     unfold kdS
     rcases hg.2 with (h1 | h1) | h1
     ·rw [if_neg (by omega)]; exact .inl rfl
     ·by_cases h2 : (q.getD c va0).1 > k
      ·rw [if_pos h2]; exact .inr ⟨h1, rfl⟩
      ·rw [if_neg h2]; exact .inl rfl
     ·rw [if_neg (by omega)]; exact .inl rfl
    have hkn : 0 ≤ kdS c k q := by rcases hkd with h1 | h1 <;> omega
    obtain ⟨i1, i2, i3⟩ := goodS_kind w c rows _ k' hkn h
    refine ⟨i1, fun hk0 => ?_, fun r hr => ?_⟩
    ·rcases hkd with h1 | h1
     ·rw [i2 (by omega), h1]
     ·omega
    ·rcases List.mem_cons.1 hr with rfl | hr
     ·by_cases hz : (r.getD c va0).1 = 0
      ·exact .inl hz
      ·right
       have : kdS c k r = (r.getD c va0).1 := by
        rcases hkd with h1 | h1
        ·rcases hg.2 with (h2 | h2) | h2
         ·omega
         ·unfold kdS at h1 ⊢
          split
          ·rfl
          ·rename_i h3; omega
         ·omega
        ·exact h1.2
       rw [i2 (by omega), this]
     ·exact i3 r hr
   ·simp at h
theorem find_slot (row : List Va) (vk vn : Int) (vs tb nm : ByteArray) (s : Nat) (e : Int) (hs : s < row.length) (ho : okV (row.getD s va0) = true) : findV row (.mk 24 vk vn vs tb nm (s : Int) []) e = (row.getD s va0, e) := by
 have hk : kidsV 24 = 0 := by decide
 simp only [findV, hk, ne_eq, not_true, if_false]
 unfold leafV
 rw [if_neg (by omega), if_neg (by omega), if_pos ⟨rfl, by omega, by omega, by simpa using ho⟩]
 simp
theorem holds_eq {row : List Va} {x y : Ex} {vk vn : Int} {vs tb nm : ByteArray} {s : Int} {v u : Va} (hx : findV row x 0 = (v, 0)) (hy : findV row y 0 = (u, 0)) (hk : v.1 = 0 ∨ u.1 = 0 ∨ v.1 = u.1) (hne : v ≠ u) : holdsV row (.mk 10 vk vn vs tb nm s [x, y]) = (false, 0) := by
 have hf : findV row (.mk 10 vk vn vs tb nm s [x, y]) 0 = twoV 10 v u 0 := by
  have hk : kidsV 10 = 2 := by decide
  simp only [findV, hk, ne_eq, not_true, if_false, hx, hy]
  rw [if_neg (by omega)]
 have ht : twoV 10 v u 0 = (va0, 0) ∨ twoV 10 v u 0 = (trV false, 0) := by
  unfold twoV
  rw [if_neg (by omega), if_neg (by omega)]
  by_cases h0 : v.1 = 0 ∨ u.1 = 0
  ·rw [if_pos h0]; exact .inl rfl
  ·rw [if_neg h0, if_neg (by omega)]
   right
   have : relV 10 (cmpV v u) = false := by
    simp only [relV, if_true]
    exact decide_eq_false fun h => hne (cmpV_zero h)
   rw [this]
 unfold holdsV evalV
 rw [hf]
 rcases ht with h | h <;> rw [h] <;> rfl
theorem getD_app_l {x y : List Va} {c : Nat} (h : c < x.length) : (x ++ y).getD c va0 = x.getD c va0 := by
 simp [List.getD, List.getElem?_append_left h]
theorem getD_app_r {x y : List Va} {d : Nat} : (x ++ y).getD (x.length + d) va0 = y.getD d va0 := by
 simp only [List.getD]
 rw [List.getElem?_append_right (by omega), show x.length + d - x.length = d by omega]
def kidsOk : Ex → Prop | .mk _ _ _ _ _ _ _ kids => ∀ y ∈ kids, (exKs y).length ≤ 140737488351232
theorem wrap_le {m n : Nat} (hm : m ≤ 140737488351232) (hn : n ≤ 140737488351232) (h : IntKind.i64.wrap ((m : Int) + (n : Int)) ≤ 0) : m = 0 ∧ n = 0 := by
 rw [wrap_i64 (by omega) (by omega)] at h
 omega
theorem idxP_miss {a b : List (List Va)} {x0 y0 : Ex} {c d : Nat} (hi : idxP a b x0 y0 = some (c, d)) (hx : (exKs x0).length ≤ 140737488351232) (hy : (exKs y0).length ≤ 140737488351232) {x y : List Va} (hxa : x ∈ a) (hyb : y ∈ b) :
 findV (x ++ y) x0 0 = (x.getD c va0, 0) ∧ findV (x ++ y) y0 0 = (y.getD d va0, 0) ∧ ((x.getD c va0).1 = 0 ∨ (y.getD d va0).1 = 0 ∨ (x.getD c va0).1 = (y.getD d va0).1) := by
 simp only [idxP] at hi
 split at hi
 ·rename_i hS
  split at hi
  ·rename_i hg
   obtain ⟨q1, q2, q3, q4, q5, q6⟩ := slots_iff.1 hS
   simp only [Option.some.injEq, Prod.mk.injEq] at hi
   obtain ⟨rfl, rfl⟩ := hi
   generalize hw : (a.headD []).length = w at *
   obtain ⟨g1, g2⟩ := hg
   generalize hgg : goodS (w : Int) (exSl x0).toNat a 0 = g at *
   obtain ⟨ga, gk⟩ := g
   simp only at g1 g2
   subst g1
   generalize hhh : goodS (-1) (exSl y0 - w).toNat b gk = h at *
   obtain ⟨ha, hk⟩ := h
   simp only at g2
   subst g2
   obtain ⟨k1, k2, k3⟩ := goodS_kind _ _ _ _ _ (Int.le_refl 0) hgg
   obtain ⟨l1, l2, l3⟩ := goodS_kind _ _ _ _ _ k1 hhh
   obtain ⟨m1, m2, m3⟩ := goodS_row _ _ _ _ _ hgg x hxa
   obtain ⟨n1, n2, n3⟩ := goodS_row _ _ _ _ _ hhh y hyb
   have hxl : x.length = w := by omega
   obtain ⟨hz1, hz2⟩ := wrap_le hx hy q3
   obtain ⟨kx, vk0, vn0, vs0, tb0, nm0, s0, ks0⟩ := x0
   obtain ⟨ky, vk1, vn1, vs1, tb1, nm1, s1, ks1⟩ := y0
   simp only [exKd, exKs, exSl] at *
   have e0 := List.eq_nil_of_length_eq_zero hz1
   have e1 := List.eq_nil_of_length_eq_zero hz2
   subst e0 e1 q1 q2
   obtain ⟨c, rfl⟩ : ∃ c : Nat, s0 = (c : Int) := ⟨s0.toNat, by omega⟩
   obtain ⟨d, rfl⟩ : ∃ d : Nat, s1 = ((x.length + d : Nat) : Int) := ⟨(s1 - w).toNat, by omega⟩
   have hd : (((x.length + d : Nat) : Int) - (w : Int)).toNat = d := by omega
   rw [hd]
   rw [hd] at n1 n2 l3
   simp only [Int.toNat_natCast] at k3 m1 m2 ⊢
   refine ⟨?_, ?_, ?_⟩
   ·rw [find_slot _ _ _ _ _ _ c 0 (by simp; omega) (by rw [getD_app_l m1]; exact m2), getD_app_l m1]
   ·rw [find_slot _ _ _ _ _ _ (x.length + d) 0 (by simp; omega) (by rw [getD_app_r]; exact n2), getD_app_r]
   ·have h1 := k3 x hxa
    have h2 := l3 y hyb
    rcases h1 with h1 | h1
    ·exact .inl h1
    ·rcases h2 with h2 | h2
     ·exact .inr (.inl h2)
     ·by_cases hz : gk = 0
      ·left; omega
      ·have := l2 hz
       right; right; omega
  ·simp at hi
 ·simp at hi
theorem idx_miss {a b : List (List Va)} {on : Ex} {c d : Nat} (hi : idxS a b on = some (c, d)) (hk : kidsOk on) {x y : List Va} (hxa : x ∈ a) (hyb : y ∈ b) (hne : keyS c x ≠ keyS d y) : holdsV (x ++ y) on = (false, 0) := by
 obtain ⟨k, vk, vn, vs, tb, nm, s, kids⟩ := on
 rcases kids with _ | ⟨x0, _ | ⟨y0, _ | ⟨z0, kids⟩⟩⟩
 ·simp [idxS] at hi
 ·simp [idxS] at hi
 ·simp only [idxS] at hi
  split at hi
  ·rename_i hc
   obtain ⟨rfl, _, _⟩ := hc
   have hv : x.getD c va0 ≠ y.getD d va0 := fun e => hne (by unfold keyS; rw [e])
   have h0 := hk x0 (by simp)
   have h1 := hk y0 (by simp)
   split at hi
   ·obtain ⟨f1, f2, f3⟩ := idxP_miss hi h1 h0 hxa hyb
    exact holds_eq f2 f1 (f3.elim (fun h => .inr (.inl h)) fun h => h.elim (fun h => .inl h) fun h => .inr (.inr h.symm)) fun e => hv e.symm
   ·obtain ⟨f1, f2, f3⟩ := idxP_miss hi h0 h1 hxa hyb
    exact holds_eq f1 f2 f3 hv
  ·simp at hi
 ·simp [idxS] at hi
theorem fold_flat {α β γ : Type} (f : γ → β → γ) (g : α → List β) : ∀ (l : List α) (s : γ), (l.flatMap g).foldl f s = l.foldl (fun s x => (g x).foldl f s) s
 | [], s => rfl
 | x :: l, s => by simp only [List.flatMap_cons, List.foldl_append, List.foldl_cons, fold_flat f g l]
theorem fold_skip {α γ : Type} (f : γ → α → γ) (p : α → Bool) : ∀ (l : List α) (s : γ), (∀ x ∈ l, p x = false → ∀ s, f s x = s) → (l.filter p).foldl f s = l.foldl f s
 | [], s, h => rfl
 | x :: l, s, h => by
   rw [List.filter_cons]
   have hl : ∀ y ∈ l, p y = false → ∀ s, f s y = s := fun y hy => h y (by simp [hy])
   cases hp : p x with
   | true => simp only [if_true, List.foldl_cons, fold_skip f p l _ hl]
   | false => simp only [Bool.false_eq_true, if_false, List.foldl_cons, h x (by simp) hp, fold_skip f p l _ hl]
theorem fold_mem {α γ : Type} {f g : γ → α → γ} : ∀ (l : List α) (s : γ), (∀ x ∈ l, ∀ s, f s x = g s x) → l.foldl f s = l.foldl g s
 | [], s, h => rfl
 | x :: l, s, h => by rw [List.foldl_cons, List.foldl_cons, h x (by simp), fold_mem l _ fun y hy => h y (by simp [hy])]
theorem join_eq (a b : List (List Va)) (on : Ex) (hk : kidsOk on) : joinS a b on = filS (pairsS a b) on := by
 unfold joinS filS
 have : (pairsS a b).foldl (filStep on) ([], 0) = joinF a b on := by
  unfold pairsS joinF
  rw [fold_flat]
  refine (fold_mem a _ fun x hx s => ?_).symm
  unfold restS
  cases hi : idxS a b on with
  | none => simp only [List.foldl_map]
  | some cd =>
    obtain ⟨c, d⟩ := cd
    simp only [List.foldl_map]
    refine fold_skip (fun s y => filStep on s (x ++ y)) (fun y => decide (keyS d y = keyS c x)) b s fun y hy hp s => ?_
    have hne : keyS c x ≠ keyS d y := fun e => by simp [e] at hp
    simp only [filStep, idx_miss hi hk hx hy hne, Bool.false_eq_true, false_and, if_false, leastI, ne_eq, not_true]
 rw [this]
end Go.Proofs.YtpcblbbddccgpaaDoor
namespace Go.Proofs.YtpcblbbddccgpaaDoor
open Go.RowKit
def pl21_6Sa : Plan := (.det 0 (.det 1 (.det 2 (.det 3 (.det 4 (.det 5 (.det 6 (.det 7 (.det 8 .done)))))))))
def pl9_6Sa : Plan := (.det 0 (.det 1 (.det 2 (.det 3 (.det 4 (.det 5 (.det 6 (.det 7 (.fin 8 (.det 9 .done))))))))))
def tSa := aa wX <| aa wbu <| aa T3 <| aa T4 <| aa T22 <| aa T24 T36
theorem ba_ext {a b : ByteArray} (h : a.toList = b.toList) : a = b := by
 rw [ba_list, ba_list] at h
 cases a; cases b
 congr
 exact Array.toList_inj.1 h
def sameVV (a b : List (List Va)) : Bool := decide (a = b)
theorem va_eq (a1 a2 b1 b2 : Int) (a3 b3 : ByteArray) : (a1 == b1 && ((a2 == b2) && ((a3.toList == b3.toList) && true))) = decide (((a1, a2, a3) : Va) = (b1, b2, b3)) := by
 by_cases h : ((a1, a2, a3) : Va) = (b1, b2, b3)
 ·cases h; simp
 ·rw [decide_eq_false h]
  by_cases h1 : a1 = b1
  ·by_cases h2 : a2 = b2
   ·have h3 : a3.toList ≠ b3.toList := fun e => h (by rw [h1, h2, ba_ext e])
    simp [h3]
   ·simp [h2]
  ·simp [h1]
def sameV (a b : List Va) : Bool := decide (a = b)
theorem asameV (a b : List Va) (ha : a.length ≤ 4398046511104) (hb : b.length ≤ 4398046511104) (σ : St) : ACalls Tryd.prog 21 [.p (.sl 3 (enV a)), .p (.sl 3 (enV b))] σ fun r s => s = σ ∧ r = boolV (sameV a b) := by
 refine ACalls.pureF (R := fun r => r = boolV (sameV a b)) ?_ rfl σ
 refine acalls_of cx_ok dr_ok Tryd.func21 (by kernel_rfl) rfl (nt := 24) (rs := [.tmp 4]) rfl rfl ?_
 by_cases hab : a.length = b.length
 ·have d : ((a.length : Int) != (b.length : Int)) = false := by simp [hab]
  repeat' first | ((with_reducible first | refine cs ?_ ?_ | refine ws ?_ ?_ | refine wd ?_ ?_ | refine wu ?_ ?_) <;> intro h <;> try simp only [h]) | simp only [↓wBA, tSa, convA, seval, pl21_6Sa, enV_len, d] | (with_reducible refine dP pl21_6Sa 9 (some 17) (by decide) (by kernel_rfl) ?_)
  refine awp_loopN (a.length) (fun i => [(5, intV .i64 (i : Nat)), (4, .any), (11, .any), (12, .any), (13, .any), (14, .any), (15, .any), (16, .any), (17, .any), (18, .any), (19, .any), (20, .any), (21, .any), (22, .any), (23, .any), (24, .any), (25, .any)]) (fun i => []) (fun i => a.take i = b.take i) ?_ ?_ ?_
  ·rfl
  ·skip
   simp only [wR, Nat.reduceAdd, Nat.reduceLT, reduceIte]
   simp [wW]
  ·intro i hi hI
   simp only [wR, Nat.reduceAdd, Nat.reduceLT, reduceIte]
   by_cases hlt : i < a.length
   ·have hdec := dT (i := i) (n := a.length) (by omega)
    have hi0 := nnI i
    have hw := wI i (by omega)
    have hltb : i < b.length := by omega
    have hg := enV_get a i hlt
    have hgb := enV_get b i hltb
    have hta := List.take_succ_eq_append_getElem hlt
    have htb := List.take_succ_eq_append_getElem hltb
    have hfin : a[i] ≠ b[i] → sameV a b = false := fun h => decide_eq_false fun e => h (by subst e; rfl)
    rcases hai : a[i] with ⟨a1, a2, a3⟩
    rcases hbi : b[i] with ⟨b1, b2, b3⟩
    rw [hai] at hg hta hfin
    rw [hbi] at hgb htb hfin
    simp only [vaC] at hg hgb
    have hv := va_eq a1 a2 b1 b2 a3 b3
    repeat' first | ((with_reducible first | refine cs ?_ ?_ | refine ws ?_ ?_ | refine wd ?_ ?_ | refine wu ?_ ?_) <;> intro h <;> try simp only [h]) | simp only [↓wBA, tSa, convA, seval, pl21_6Sa, enV_len, hdec, hi0, hw, hg, hgb, hv] | (with_reducible refine dP pl21_6Sa 9 (some 17) (by decide) (by kernel_rfl) ?_)
    ·have hf := hfin (by intro e; rw [decide_eq_true e] at h; simp at h)
     simp only [hf]
     all_goals refine ret_is (a := _) ?_ rfl rfl
     all_goals simp only [↓wBA, tSa, convA, seval]
     all_goals simp_all [wS]
    ·skip
     refine ⟨⟨i + 1, by omega, ?_⟩, by show a.length - (i + 1) < a.length - i; omega, ?_⟩
     ·rw [hta, htb, hI]; congr 1; simpa using h
     ·skip
      simp only [wR, Nat.reduceAdd, Nat.reduceLT, reduceIte]
      simp [wW]
   ·have hdec := dF (i := i) (n := a.length) (by omega)
    have hs : sameV a b = true := decide_eq_true (by rw [List.take_of_length_le (by omega), List.take_of_length_le (by omega)] at hI; exact hI)
    simp only [hs]
    repeat' first | ((with_reducible first | refine cs ?_ ?_ | refine ws ?_ ?_ | refine wd ?_ ?_ | refine wu ?_ ?_) <;> intro h <;> try simp only [h]) | simp only [↓wBA, tSa, convA, seval, pl21_6Sa, enV_len, hdec] | (with_reducible refine dP pl21_6Sa 9 (some 17) (by decide) (by kernel_rfl) ?_)
    all_goals refine ret_is (a := _) ?_ rfl rfl
    all_goals simp only [↓wBA, tSa, convA, seval]
    all_goals simp_all [wS]
 ·have d : ((a.length : Int) != (b.length : Int)) = true := by simp; omega
  have hs : sameV a b = false := decide_eq_false fun e => hab (by rw [e])
  simp only [hs]
  repeat' first | ((with_reducible first | refine cs ?_ ?_ | refine ws ?_ ?_ | refine wd ?_ ?_ | refine wu ?_ ?_) <;> intro h <;> try simp only [h]) | simp only [↓wBA, tSa, convA, seval, pl21_6Sa, enV_len, d] | (with_reducible refine dP pl21_6Sa 9 (some 17) (by decide) (by kernel_rfl) ?_)
  all_goals refine ret_is (a := _) ?_ rfl rfl
  all_goals simp only [↓wBA, tSa, convA, seval]
  all_goals simp_all [wS]
theorem asameVV (a b : List (List Va)) (ha : a.length ≤ 4398046511104) (hb : b.length ≤ 4398046511104) (hra : ∀ r ∈ a, r.length ≤ 4398046511104) (hrb : ∀ r ∈ b, r.length ≤ 4398046511104) (σ : St) : ACalls Tryd.prog 9 [.p (.sl 1 (enVV a)), .p (.sl 1 (enVV b))] σ fun r s => s = σ ∧ r = boolV (sameVV a b) := by
 refine ACalls.pureF (R := fun r => r = boolV (sameVV a b)) ?_ rfl σ
 refine acalls_of cx_ok dr_ok Tryd.func9 (by kernel_rfl) rfl (nt := 25) (rs := [.tmp 4]) rfl rfl ?_
 by_cases hab : a.length = b.length
 ·have d : ((a.length : Int) != (b.length : Int)) = false := by simp [hab]
  repeat' first | ((with_reducible first | refine cs ?_ ?_ | refine ws ?_ ?_ | refine wd ?_ ?_ | refine wu ?_ ?_) <;> intro h <;> try simp only [h]) | simp only [↓wBA, tSa, convA, seval, pl9_6Sa, enVV_len, d] | (with_reducible refine dP pl9_6Sa 10 (some 17) (by decide) (by kernel_rfl) ?_)
  refine awp_loopN (a.length) (fun i => [(5, intV .i64 (i : Nat)), (4, .any), (11, .any), (12, .any), (13, .any), (14, .any), (15, .any), (16, .any), (17, .any), (18, .any), (19, .any), (20, .any), (21, .any), (22, .any), (23, .any), (24, .any), (25, .any), (26, .any)]) (fun i => []) (fun i => a.take i = b.take i) ?_ ?_ ?_
  ·rfl
  ·skip
   simp only [wR, Nat.reduceAdd, Nat.reduceLT, reduceIte]
   simp [wW]
  ·intro i hi hI
   simp only [wR, Nat.reduceAdd, Nat.reduceLT, reduceIte]
   by_cases hlt : i < a.length
   ·have hdec := dT (i := i) (n := a.length) (by omega)
    have hi0 := nnI i
    have hw := wI i (by omega)
    have hltb : i < b.length := by omega
    have hg := enVV_get a i hlt
    have hgb := enVV_get b i hltb
    have hta := List.take_succ_eq_append_getElem hlt
    have htb := List.take_succ_eq_append_getElem hltb
    have hfin : a[i] ≠ b[i] → sameVV a b = false := fun h => decide_eq_false fun e => h (by subst e; rfl)
    have hS := asameV a[i] b[i] (hra _ (List.getElem_mem hlt)) (hrb _ (List.getElem_mem hltb))
    repeat' first | ((with_reducible first | refine cs ?_ ?_ | refine ws ?_ ?_ | refine wd ?_ ?_ | refine wu ?_ ?_) <;> intro h <;> try simp only [h]) | simp only [↓wBA, tSa, convA, seval, pl9_6Sa, enVV_len, hdec, hi0, hw, hg, hgb] | ((with_reducible show ACalls _ _ _ _ _); refine (hS _).eq ?_) | (with_reducible refine dP pl9_6Sa 10 (some 17) (by decide) (by kernel_rfl) ?_)
    all_goals first
     | (refine ⟨⟨i + 1, by omega, ?_⟩, by show a.length - (i + 1) < a.length - i; omega, ?_⟩
        ·rw [hta, htb, hI]; congr 1; simpa [sameV] using h
        ·simp [wW])
     | (have hf := hfin (by intro e; simp [sameV, e] at h)
        simp only [hf]
        refine ret_is (a := _) ?_ rfl rfl
        simp only [resA, resL, resV, List.getD_cons_zero, List.getD_cons_succ]
        simp_all [leT, leG, leA, leC, leM, leaf, tokLt, tokLtL, intV, boolV, nilA, nilSl]
        done)
   ·have hdec := dF (i := i) (n := a.length) (by omega)
    have hs : sameVV a b = true := decide_eq_true (by rw [List.take_of_length_le (by omega), List.take_of_length_le (by omega)] at hI; exact hI)
    simp only [hs]
    repeat' first | ((with_reducible first | refine cs ?_ ?_ | refine ws ?_ ?_ | refine wd ?_ ?_ | refine wu ?_ ?_) <;> intro h <;> try simp only [h]) | simp only [↓wBA, tSa, convA, seval, pl9_6Sa, enVV_len, hdec] | (with_reducible refine dP pl9_6Sa 10 (some 17) (by decide) (by kernel_rfl) ?_)
    all_goals refine ret_is (a := _) ?_ rfl rfl
    all_goals simp only [↓wBA, tSa, convA, seval]
    all_goals simp_all [wS]
 ·have d : ((a.length : Int) != (b.length : Int)) = true := by simp; omega
  have hs : sameVV a b = false := decide_eq_false fun e => hab (by rw [e])
  simp only [hs]
  repeat' first | ((with_reducible first | refine cs ?_ ?_ | refine ws ?_ ?_ | refine wd ?_ ?_ | refine wu ?_ ?_) <;> intro h <;> try simp only [h]) | simp only [↓wBA, tSa, convA, seval, pl9_6Sa, enVV_len, d] | (with_reducible refine dP pl9_6Sa 10 (some 17) (by decide) (by kernel_rfl) ?_)
  all_goals refine ret_is (a := _) ?_ rfl rfl
  all_goals simp only [↓wBA, tSa, convA, seval]
  all_goals simp_all [wS]
end Go.Proofs.YtpcblbbddccgpaaDoor
namespace Go.Proofs.YtpcblbbddccgpaaDoor
open Go.RowKit
mutual
def nleP : PV → PV → Prop
 | .v a, .v b => a = b
 | .v a, .sl _ ls => a = .slice none 0 0 ∧ ls = []
 | .sl e ls, .sl e' ls' => e = e' ∧ nleR ls ls'
 | .sl _ _, .v _ => False
def nleR : List (List PV) → List (List PV) → Prop
 | [], [] => True
 | c :: ls, c' :: ls' => nleQ c c' ∧ nleR ls ls'
 | _, _ => False
def nleQ : List PV → List PV → Prop
 | [], [] => True
 | x :: c, y :: c' => nleP x y ∧ nleQ c c'
 | _, _ => False
end
theorem nleR_len : ∀ {l m : List (List PV)}, nleR l m → l.length = m.length
 | [], [], _ => rfl
 | _ :: l, _ :: m, h => by simp only [nleR] at h; simp [nleR_len h.2]
 | [], _ :: _, h => by simp [nleR] at h
 | _ :: _, [], h => by simp [nleR] at h
theorem nleQ_len : ∀ {l m : List PV}, nleQ l m → l.length = m.length
 | [], [], _ => rfl
 | _ :: l, _ :: m, h => by simp only [nleQ] at h; simp [nleQ_len h.2]
 | [], _ :: _, h => by simp [nleQ] at h
 | _ :: _, [], h => by simp [nleQ] at h
mutual
theorem nleP.rep {w : World} {I : Nat → Nat → Prop} : ∀ {x y : PV} {u : Value}, nleP x y → PRep w I x u → PRep w I y u
 | .v a, .v b, u, h, hx => by simp only [nleP] at h; subst h; exact hx
 | .v a, .sl e ls, u, h, hx => by
   simp only [nleP] at h
   obtain ⟨rfl, rfl⟩ := h
   simp only [PRep] at hx ⊢
   exact .inl ⟨trivial, none, 0, hx.2, fun _ => rfl⟩
 | .sl e ls, .sl e' ls', u, h, hx => by
   simp only [nleP] at h
   obtain ⟨rfl, h⟩ := h
   have hl := nleR_len h
   simp only [PRep] at hx ⊢
   rcases hx with ⟨h0, h1⟩ | ⟨b, off, cap, h1, h2, h3⟩
   ·subst h0
    refine .inl ⟨?_, h1⟩
    cases ls' with
    | nil => rfl
    | cons c l => simp at hl
   ·exact .inr ⟨b, off, cap, by rw [← hl]; exact h1, by omega, nleR.rep h h3⟩
 | .sl _ _, .v _, u, h, hx => by simp [nleP] at h
theorem nleR.rep {w : World} {I : Nat → Nat → Prop} {b : Nat} : ∀ {l m : List (List PV)} {off e : Nat}, nleR l m → PRepR w I b off e l → PRepR w I b off e m
 | [], [], off, e, _, hx => hx
 | c :: l, c' :: m, off, e, h, hx => by
   simp only [nleR] at h
   simp only [PRepR] at hx ⊢
   exact ⟨by rw [← nleQ_len h.1]; exact hx.1, nleQ.rep h.1 hx.2.1, nleR.rep h.2 hx.2.2⟩
 | [], _ :: _, _, _, h, _ => by simp [nleR] at h
 | _ :: _, [], _, _, h, _ => by simp [nleR] at h
theorem nleQ.rep {w : World} {I : Nat → Nat → Prop} {b : Nat} : ∀ {l m : List PV} {off : Nat}, nleQ l m → PRepC w I b off l → PRepC w I b off m
 | [], [], off, _, hx => hx
 | x :: l, y :: m, off, h, hx => by
   simp only [nleQ] at h
   simp only [PRepC] at hx ⊢
   obtain ⟨⟨u, h1, h2, h3⟩, h4⟩ := hx
   exact ⟨⟨u, h1, h2, nleP.rep h.1 h3⟩, nleQ.rep h.2 h4⟩
 | [], _ :: _, _, h, _ => by simp [nleQ] at h
 | _ :: _, [], _, h, _ => by simp [nleQ] at h
end
theorem nleQ.args {M : View} : ∀ {l m : List PV} {us : List Value}, nleQ l m → ARepL M (l.map .p) us → ARepL M (m.map .p) us
 | [], [], us, _, hx => hx
 | x :: l, y :: m, us, h, hx => by
   simp only [nleQ] at h
   simp only [List.map_cons, ARepL] at hx ⊢
   obtain ⟨u, us', rfl, h1, h2⟩ := hx
   refine ⟨u, us', rfl, ?_, nleQ.args h.2 h2⟩
   simp only [ARep] at h1 ⊢
   exact nleP.rep h.1 h1
 | [], _ :: _, _, h, _ => by simp [nleQ] at h
 | _ :: _, [], _, h, _ => by simp [nleQ] at h
theorem ACalls.arg2 {P : Program} {f : FuncId} {a : AV} {x y : PV} {rest : List AV} {σ : St} {R : AV → St → Prop} (h : nleP x y) (hc : ACalls P f (a :: .p y :: rest) σ R) : ACalls P f (a :: .p x :: rest) σ R :=
 ⟨hc.1, fun M vs hM hv => hc.2 M vs hM (by
  simp only [ARepL] at hv ⊢
  obtain ⟨u, us', rfl, h0, u2, us2, rfl, h1, h2⟩ := hv
  refine ⟨u, _, rfl, h0, u2, us2, rfl, ?_, h2⟩
  simp only [ARep] at h1 ⊢
  exact nleP.rep h h1)⟩
end Go.Proofs.YtpcblbbddccgpaaDoor
