/- A join is the filter of all pairs: the plain law. Data with nil for slices of no elements. Answers that the document fixes, and small functions of law 17. -/
import Derived.Test.YtpcblbbddccgpaaGreatDoorM37
import Derived.Test.YtpcblbbddccgpaaGreatDoorM15
import Derived.Test.YtpcblbbddccgpaaGreatDoorM38
import Derived.Test.YtpcblbbddccgpaaGreatDoorM30
set_option linter.unusedSimpArgs false
set_option linter.unusedVariables false
set_option linter.defProp false
set_option maxRecDepth 100000
set_option maxHeartbeats 32000000
namespace Go.Proofs.YtpcblbbddccgpaaGreatDoor
open Go.RowKit
def pairsS (a b : List (List Va)) : List (List Va) := a.flatMap fun x => b.map fun y => x ++ y
theorem cmpI_zero {a b : Int} (h : cmpI a b = 0) : a = b := by
 unfold cmpI at h
 split at h
 ·simp at h
 ·split at h
  ·simp at h
  ·omega
theorem cmpS_zero {a b : ByteArray} (h : cmpS a b = 0) : a = b := by
 unfold cmpS at h
 split at h
 ·simp at h
 ·split at h
  ·rename_i hh; exact (Lib.bytes_beq_iff a b).1 hh
  ·simp at h
theorem cmpV_zero {a b : Va} (h : cmpV a b = 0) : a = b := by
 unfold cmpV at h
 split at h
 ·rename_i h1; exact (h1 h).elim
 ·split at h
  ·rename_i h1; exact (h1 h).elim
  ·rename_i h1 h2
   obtain ⟨a1, a2, a3⟩ := a
   obtain ⟨b1, b2, b3⟩ := b
   simp only [ne_eq, Decidable.not_not] at h1 h2
   have e1 := cmpI_zero h1
   have e2 := cmpI_zero h2
   have e3 := cmpS_zero h
   simp only at e1 e2 e3
   subst e1 e2 e3
   rfl
theorem okV_kind {v : Va} (h : okV v = true) : 0 ≤ v.1 := by
 unfold okV at h
 split at h
 ·omega
 ·split at h
  ·omega
  ·split at h
   ·omega
   ·simp only [Bool.and_eq_true, beq_iff_eq] at h
    have := h.1.1
    omega
theorem goodS_kind (w : Int) (c : Nat) : ∀ (rows : List (List Va)) (k k' : Int), 0 ≤ k → goodS w c rows k = (true, k') → 0 ≤ k' ∧ (k ≠ 0 → k' = k) ∧ ∀ r ∈ rows, (r.getD c va0).1 = 0 ∨ (r.getD c va0).1 = k'
 | [], k, k', hk, h => by
   simp only [goodS, Prod.mk.injEq, true_and] at h
   subst h
   exact ⟨hk, fun _ => rfl, by simp⟩
 | q :: rows, k, k', hk, h => by
   simp only [goodS] at h
   split at h
   ·rename_i hg
    simp only [rowG, Bool.and_eq_true, Bool.or_eq_true, decide_eq_true_eq] at hg
    have h0 := okV_kind hg.1.2
    have hkd : kdS c k q = k ∨ (k = 0 ∧ kdS c k q = (q.getD c va0).1) := by
     unfold kdS
     rcases hg.2 with (h1 | h1) | h1
     ·rw [if_neg (by omega)]; exact .inl rfl
     ·by_cases h2 : (q.getD c va0).1 > k
      ·rw [if_pos h2]; exact .inr ⟨h1, rfl⟩
      ·rw [if_neg h2]; exact .inl rfl
     ·rw [if_neg (by omega)]; exact .inl rfl
    have hkn : 0 ≤ kdS c k q := by rcases hkd with h1 | h1 <;> omega
    obtain ⟨i1, i2, i3⟩ := goodS_kind w c rows _ k' hkn h
    refine ⟨i1, fun hk0 => ?_, fun r hr => ?_⟩
    ·rcases hkd with h1 | h1
     ·rw [i2 (by omega), h1]
     ·omega
    ·rcases List.mem_cons.1 hr with rfl | hr
     ·by_cases hz : (r.getD c va0).1 = 0
      ·exact .inl hz
      ·right
       have : kdS c k r = (r.getD c va0).1 := by
        rcases hkd with h1 | h1
        ·rcases hg.2 with (h2 | h2) | h2
         ·omega
         ·unfold kdS at h1 ⊢
          split
          ·rfl
          ·rename_i h3; omega
         ·omega
        ·exact h1.2
       rw [i2 (by omega), this]
     ·exact i3 r hr
   ·simp at h
theorem find_slot (row : List Va) (vk vn : Int) (vs tb nm : ByteArray) (s : Nat) (e : Int) (hs : s < row.length) (ho : okV (row.getD s va0) = true) : findV row (.mk 24 vk vn vs tb nm (s : Int) []) e = (row.getD s va0, e) := by
 have hk : kidsV 24 = 0 := by decide
 simp only [findV, hk, ne_eq, not_true, if_false]
 unfold leafV
 rw [if_neg (by omega), if_neg (by omega), if_pos ⟨rfl, by omega, by omega, by simpa using ho⟩]
 simp
theorem holds_eq {row : List Va} {x y : Ex} {vk vn : Int} {vs tb nm : ByteArray} {s : Int} {v u : Va} (hx : findV row x 0 = (v, 0)) (hy : findV row y 0 = (u, 0)) (hk : v.1 = 0 ∨ u.1 = 0 ∨ v.1 = u.1) (hne : v ≠ u) : holdsV row (.mk 10 vk vn vs tb nm s [x, y]) = (false, 0) := by
 have hf : findV row (.mk 10 vk vn vs tb nm s [x, y]) 0 = twoV 10 v u 0 := by
  have hk : kidsV 10 = 2 := by decide
  simp only [findV, hk, ne_eq, not_true, if_false, hx, hy]
  rw [if_neg (by omega)]
 have ht : twoV 10 v u 0 = (va0, 0) ∨ twoV 10 v u 0 = (trV false, 0) := by
  unfold twoV
  rw [if_neg (by omega), if_neg (by omega)]
  by_cases h0 : v.1 = 0 ∨ u.1 = 0
  ·rw [if_pos h0]; exact .inl rfl
  ·rw [if_neg h0, if_neg (by omega)]
   right
   have : relV 10 (cmpV v u) = false := by
    simp only [relV, if_true]
    exact decide_eq_false fun h => hne (cmpV_zero h)
   rw [this]
 unfold holdsV evalV
 rw [hf]
 rcases ht with h | h <;> rw [h] <;> rfl
theorem getD_app_l {x y : List Va} {c : Nat} (h : c < x.length) : (x ++ y).getD c va0 = x.getD c va0 := by
 simp [List.getD, List.getElem?_append_left h]
theorem getD_app_r {x y : List Va} {d : Nat} : (x ++ y).getD (x.length + d) va0 = y.getD d va0 := by
 simp only [List.getD]
 rw [List.getElem?_append_right (by omega), show x.length + d - x.length = d by omega]
def kidsOk : Ex → Prop | .mk _ _ _ _ _ _ _ kids => ∀ y ∈ kids, (exKs y).length ≤ 140737488351232
theorem wrap_le {m n : Nat} (hm : m ≤ 140737488351232) (hn : n ≤ 140737488351232) (h : IntKind.i64.wrap ((m : Int) + (n : Int)) ≤ 0) : m = 0 ∧ n = 0 := by
 rw [wrap_i64 (by omega) (by omega)] at h
 omega
theorem idxP_miss {a b : List (List Va)} {x0 y0 : Ex} {c d : Nat} (hi : idxP a b x0 y0 = some (c, d)) (hx : (exKs x0).length ≤ 140737488351232) (hy : (exKs y0).length ≤ 140737488351232) {x y : List Va} (hxa : x ∈ a) (hyb : y ∈ b) :
 findV (x ++ y) x0 0 = (x.getD c va0, 0) ∧ findV (x ++ y) y0 0 = (y.getD d va0, 0) ∧ ((x.getD c va0).1 = 0 ∨ (y.getD d va0).1 = 0 ∨ (x.getD c va0).1 = (y.getD d va0).1) := by
 simp only [idxP] at hi
 split at hi
 ·rename_i hS
  split at hi
  ·rename_i hg
   obtain ⟨q1, q2, q3, q4, q5, q6⟩ := slots_iff.1 hS
   simp only [Option.some.injEq, Prod.mk.injEq] at hi
   obtain ⟨rfl, rfl⟩ := hi
   generalize hw : (a.headD []).length = w at *
   obtain ⟨g1, g2⟩ := hg
   generalize hgg : goodS (w : Int) (exSl x0).toNat a 0 = g at *
   obtain ⟨ga, gk⟩ := g
   simp only at g1 g2
   subst g1
   generalize hhh : goodS (-1) (exSl y0 - w).toNat b gk = h at *
   obtain ⟨ha, hk⟩ := h
   simp only at g2
   subst g2
   obtain ⟨k1, k2, k3⟩ := goodS_kind _ _ _ _ _ (Int.le_refl 0) hgg
   obtain ⟨l1, l2, l3⟩ := goodS_kind _ _ _ _ _ k1 hhh
   obtain ⟨m1, m2, m3⟩ := goodS_row _ _ _ _ _ hgg x hxa
   obtain ⟨n1, n2, n3⟩ := goodS_row _ _ _ _ _ hhh y hyb
   have hxl : x.length = w := by omega
   obtain ⟨hz1, hz2⟩ := wrap_le hx hy q3
   obtain ⟨kx, vk0, vn0, vs0, tb0, nm0, s0, ks0⟩ := x0
   obtain ⟨ky, vk1, vn1, vs1, tb1, nm1, s1, ks1⟩ := y0
   simp only [exKd, exKs, exSl] at *
   have e0 := List.eq_nil_of_length_eq_zero hz1
   have e1 := List.eq_nil_of_length_eq_zero hz2
   subst e0 e1 q1 q2
   obtain ⟨c, rfl⟩ : ∃ c : Nat, s0 = (c : Int) := ⟨s0.toNat, by omega⟩
   obtain ⟨d, rfl⟩ : ∃ d : Nat, s1 = ((x.length + d : Nat) : Int) := ⟨(s1 - w).toNat, by omega⟩
   have hd : (((x.length + d : Nat) : Int) - (w : Int)).toNat = d := by omega
   rw [hd]
   rw [hd] at n1 n2 l3
   simp only [Int.toNat_natCast] at k3 m1 m2 ⊢
   refine ⟨?_, ?_, ?_⟩
   ·rw [find_slot _ _ _ _ _ _ c 0 (by simp; omega) (by rw [getD_app_l m1]; exact m2), getD_app_l m1]
   ·rw [find_slot _ _ _ _ _ _ (x.length + d) 0 (by simp; omega) (by rw [getD_app_r]; exact n2), getD_app_r]
   ·have h1 := k3 x hxa
    have h2 := l3 y hyb
    rcases h1 with h1 | h1
    ·exact .inl h1
    ·rcases h2 with h2 | h2
     ·exact .inr (.inl h2)
     ·by_cases hz : gk = 0
      ·left; omega
      ·have := l2 hz
       right; right; omega
  ·simp at hi
 ·simp at hi
theorem idx_miss {a b : List (List Va)} {on : Ex} {c d : Nat} (hi : idxS a b on = some (c, d)) (hk : kidsOk on) {x y : List Va} (hxa : x ∈ a) (hyb : y ∈ b) (hne : keyS c x ≠ keyS d y) : holdsV (x ++ y) on = (false, 0) := by
 obtain ⟨k, vk, vn, vs, tb, nm, s, kids⟩ := on
 rcases kids with _ | ⟨x0, _ | ⟨y0, _ | ⟨z0, kids⟩⟩⟩
 ·simp [idxS] at hi
 ·simp [idxS] at hi
 ·simp only [idxS] at hi
  split at hi
  ·rename_i hc
   obtain ⟨rfl, _, _⟩ := hc
   have hv : x.getD c va0 ≠ y.getD d va0 := fun e => hne (by unfold keyS; rw [e])
   have h0 := hk x0 (by simp)
   have h1 := hk y0 (by simp)
   split at hi
   ·obtain ⟨f1, f2, f3⟩ := idxP_miss hi h1 h0 hxa hyb
    exact holds_eq f2 f1 (f3.elim (fun h => .inr (.inl h)) fun h => h.elim (fun h => .inl h) fun h => .inr (.inr h.symm)) fun e => hv e.symm
   ·obtain ⟨f1, f2, f3⟩ := idxP_miss hi h0 h1 hxa hyb
    exact holds_eq f1 f2 f3 hv
  ·simp at hi
 ·simp [idxS] at hi
theorem fold_flat {α β γ : Type} (f : γ → β → γ) (g : α → List β) : ∀ (l : List α) (s : γ), (l.flatMap g).foldl f s = l.foldl (fun s x => (g x).foldl f s) s
 | [], s => rfl
 | x :: l, s => by simp only [List.flatMap_cons, List.foldl_append, List.foldl_cons, fold_flat f g l]
theorem fold_skip {α γ : Type} (f : γ → α → γ) (p : α → Bool) : ∀ (l : List α) (s : γ), (∀ x ∈ l, p x = false → ∀ s, f s x = s) → (l.filter p).foldl f s = l.foldl f s
 | [], s, h => rfl
 | x :: l, s, h => by
   rw [List.filter_cons]
   have hl : ∀ y ∈ l, p y = false → ∀ s, f s y = s := fun y hy => h y (by simp [hy])
   cases hp : p x with
   | true => simp only [if_true, List.foldl_cons, fold_skip f p l _ hl]
   | false => simp only [Bool.false_eq_true, if_false, List.foldl_cons, h x (by simp) hp, fold_skip f p l _ hl]
theorem fold_mem {α γ : Type} {f g : γ → α → γ} : ∀ (l : List α) (s : γ), (∀ x ∈ l, ∀ s, f s x = g s x) → l.foldl f s = l.foldl g s
 | [], s, h => rfl
 | x :: l, s, h => by rw [List.foldl_cons, List.foldl_cons, h x (by simp), fold_mem l _ fun y hy => h y (by simp [hy])]
theorem join_eq (a b : List (List Va)) (on : Ex) (hk : kidsOk on) : joinS a b on = filS (pairsS a b) on := by
 unfold joinS filS
 have : (pairsS a b).foldl (filStep on) ([], 0) = joinF a b on := by
  unfold pairsS joinF
  rw [fold_flat]
  refine (fold_mem a _ fun x hx s => ?_).symm
  unfold restS
  cases hi : idxS a b on with
  | none => simp only [List.foldl_map]
  | some cd =>
    obtain ⟨c, d⟩ := cd
    simp only [List.foldl_map]
    refine fold_skip (fun s y => filStep on s (x ++ y)) (fun y => decide (keyS d y = keyS c x)) b s fun y hy hp s => ?_
    have hne : keyS c x ≠ keyS d y := fun e => by simp [e] at hp
    simp only [filStep, idx_miss hi hk hx hy hne, Bool.false_eq_true, false_and, if_false, leastI, ne_eq, not_true]
 rw [this]
end Go.Proofs.YtpcblbbddccgpaaGreatDoor
namespace Go.Proofs.YtpcblbbddccgpaaGreatDoor
open Go.RowKit
mutual
def nleP : PV → PV → Prop
 | .v a, .v b => a = b
 | .v a, .sl _ ls => a = .slice none 0 0 ∧ ls = []
 | .sl e ls, .sl e' ls' => e = e' ∧ nleR ls ls'
 | .sl _ _, .v _ => False
def nleR : List (List PV) → List (List PV) → Prop
 | [], [] => True
 | c :: ls, c' :: ls' => nleQ c c' ∧ nleR ls ls'
 | _, _ => False
def nleQ : List PV → List PV → Prop
 | [], [] => True
 | x :: c, y :: c' => nleP x y ∧ nleQ c c'
 | _, _ => False
end
theorem nleR_len : ∀ {l m : List (List PV)}, nleR l m → l.length = m.length
 | [], [], _ => rfl
 | _ :: l, _ :: m, h => by simp only [nleR] at h; simp [nleR_len h.2]
 | [], _ :: _, h => by simp [nleR] at h
 | _ :: _, [], h => by simp [nleR] at h
theorem nleQ_len : ∀ {l m : List PV}, nleQ l m → l.length = m.length
 | [], [], _ => rfl
 | _ :: l, _ :: m, h => by simp only [nleQ] at h; simp [nleQ_len h.2]
 | [], _ :: _, h => by simp [nleQ] at h
 | _ :: _, [], h => by simp [nleQ] at h
mutual
theorem nleP.rep {w : World} {I : Nat → Nat → Prop} : ∀ {x y : PV} {u : Value}, nleP x y → PRep w I x u → PRep w I y u
 | .v a, .v b, u, h, hx => by simp only [nleP] at h; subst h; exact hx
 | .v a, .sl e ls, u, h, hx => by
   simp only [nleP] at h
   obtain ⟨rfl, rfl⟩ := h
   simp only [PRep] at hx ⊢
   exact .inl ⟨trivial, none, 0, hx.2, fun _ => rfl⟩
 | .sl e ls, .sl e' ls', u, h, hx => by
   simp only [nleP] at h
   obtain ⟨rfl, h⟩ := h
   have hl := nleR_len h
   simp only [PRep] at hx ⊢
   rcases hx with ⟨h0, h1⟩ | ⟨b, off, cap, h1, h2, h3⟩
   ·subst h0
    refine .inl ⟨?_, h1⟩
    cases ls' with
    | nil => rfl
    | cons c l => simp at hl
   ·exact .inr ⟨b, off, cap, by rw [← hl]; exact h1, by omega, nleR.rep h h3⟩
 | .sl _ _, .v _, u, h, hx => by simp [nleP] at h
theorem nleR.rep {w : World} {I : Nat → Nat → Prop} {b : Nat} : ∀ {l m : List (List PV)} {off e : Nat}, nleR l m → PRepR w I b off e l → PRepR w I b off e m
 | [], [], off, e, _, hx => hx
 | c :: l, c' :: m, off, e, h, hx => by
   simp only [nleR] at h
   simp only [PRepR] at hx ⊢
   exact ⟨by rw [← nleQ_len h.1]; exact hx.1, nleQ.rep h.1 hx.2.1, nleR.rep h.2 hx.2.2⟩
 | [], _ :: _, _, _, h, _ => by simp [nleR] at h
 | _ :: _, [], _, _, h, _ => by simp [nleR] at h
theorem nleQ.rep {w : World} {I : Nat → Nat → Prop} {b : Nat} : ∀ {l m : List PV} {off : Nat}, nleQ l m → PRepC w I b off l → PRepC w I b off m
 | [], [], off, _, hx => hx
 | x :: l, y :: m, off, h, hx => by
   simp only [nleQ] at h
   simp only [PRepC] at hx ⊢
   obtain ⟨⟨u, h1, h2, h3⟩, h4⟩ := hx
   exact ⟨⟨u, h1, h2, nleP.rep h.1 h3⟩, nleQ.rep h.2 h4⟩
 | [], _ :: _, _, h, _ => by simp [nleQ] at h
 | _ :: _, [], _, h, _ => by simp [nleQ] at h
end
theorem nleQ.args {M : View} : ∀ {l m : List PV} {us : List Value}, nleQ l m → ARepL M (l.map .p) us → ARepL M (m.map .p) us
 | [], [], us, _, hx => hx
 | x :: l, y :: m, us, h, hx => by
   simp only [nleQ] at h
   simp only [List.map_cons, ARepL] at hx ⊢
   obtain ⟨u, us', rfl, h1, h2⟩ := hx
   refine ⟨u, us', rfl, ?_, nleQ.args h.2 h2⟩
   simp only [ARep] at h1 ⊢
   exact nleP.rep h.1 h1
 | [], _ :: _, _, h, _ => by simp [nleQ] at h
 | _ :: _, [], _, h, _ => by simp [nleQ] at h
theorem ACalls.arg1 {P : Program} {f : FuncId} {x y : PV} {rest : List AV} {σ : St} {R : AV → St → Prop} (h : nleP x y) (hc : ACalls P f (.p y :: rest) σ R) : ACalls P f (.p x :: rest) σ R :=
 ⟨hc.1, fun M vs hM hv => hc.2 M vs hM (by
  simp only [ARepL] at hv ⊢
  obtain ⟨u, us', rfl, h1, h2⟩ := hv
  refine ⟨u, us', rfl, ?_, h2⟩
  simp only [ARep] at h1 ⊢
  exact nleP.rep h h1)⟩
theorem ACalls.arg2 {P : Program} {f : FuncId} {a : AV} {x y : PV} {rest : List AV} {σ : St} {R : AV → St → Prop} (h : nleP x y) (hc : ACalls P f (a :: .p y :: rest) σ R) : ACalls P f (a :: .p x :: rest) σ R :=
 ⟨hc.1, fun M vs hM hv => hc.2 M vs hM (by
  simp only [ARepL] at hv ⊢
  obtain ⟨u, us', rfl, h0, u2, us2, rfl, h1, h2⟩ := hv
  refine ⟨u, _, rfl, h0, u2, us2, rfl, ?_, h2⟩
  simp only [ARep] at h1 ⊢
  exact nleP.rep h h1)⟩
end Go.Proofs.YtpcblbbddccgpaaGreatDoor
namespace Go.Proofs.YtpcblbbddccgpaaGreatDoor
open Go.RowKit
def tW7 := aa wX <| aa wbu <| aa T2 <| aa T3 <| aa T22 <| aa T24 <| aa T25 <| aa T27 <| aa T30 T39
def nmV (n : Int) : Va := (1, n, emp)
def slX (n : Int) : Ex := .mk 24 0 0 emp emp emp n []
def noX (k : Int) (kids : List Ex) : Ex := .mk k 0 0 emp emp emp 0 kids
theorem anum (n : Int) (σ : St) : ACalls Tryz.prog 14 [intV .i64 n] σ fun r s => s = σ ∧ r = vaA (nmV n) := by
 refine ACalls.pureF (R := fun r => r = vaA (nmV n)) ?_ rfl σ
 refine acalls_of cx_ok dr_ok Tryz.func14 (by kernel_rfl) rfl (nt := 4) (rs := [.cell 2 24]) rfl rfl ?_
 repeat' first | ((with_reducible first | refine cs ?_ ?_ | refine ws ?_ ?_) <;> intro h <;> try simp only [h]) | simp only [↓wBA, tW7, convA, seval]
 all_goals refine ret_is (a := _) ?_ rfl rfl
 all_goals simp only [↓wBA, tW7, convA, seval]
 all_goals simp_all [wS, vaA, vaC, nmV, emp]
theorem aslot (n : Int) (σ : St) : ACalls Tryz.prog 16 [intV .i64 n] σ fun r s => s = σ ∧ r = exA (slX n) := by
 refine ACalls.pureF (R := fun r => r = exA (slX n)) ?_ rfl σ
 refine acalls_of cx_ok dr_ok Tryz.func16 (by kernel_rfl) rfl (nt := 4) (rs := [.cell 2 27]) rfl rfl ?_
 repeat' first | ((with_reducible first | refine cs ?_ ?_ | refine ws ?_ ?_) <;> intro h <;> try simp only [h]) | simp only [↓wBA, tW7, convA, seval]
 all_goals refine ret_is (a := _) ?_ rfl rfl
 all_goals simp only [↓wBA, tW7, convA, seval]
 all_goals simp_all [wS, exA, exC, exL, slX, emp]
theorem anode (k : Int) (kids : List Ex) (σ : St) : ACalls Tryz.prog 15 [intV .i64 k, .p (.sl 8 (exL kids))] σ fun r s => s = σ ∧ r = exA (noX k kids) := by
 refine ACalls.pureF (R := fun r => r = exA (noX k kids)) ?_ rfl σ
 refine acalls_of cx_ok dr_ok Tryz.func15 (by kernel_rfl) rfl (nt := 6) (rs := [.cell 4 27]) rfl rfl ?_
 repeat' first | ((with_reducible first | refine cs ?_ ?_ | refine ws ?_ ?_) <;> intro h <;> try simp only [h]) | simp only [↓wBA, tW7, convA, seval]
 all_goals refine ret_is (a := _) ?_ rfl rfl
 all_goals simp only [↓wBA, tW7, convA, seval]
 all_goals simp_all [wS, exA, exC, noX, emp]
theorem awJoin : filS (pairsS [[nmV 1], [nmV 2]] [[nmV 2, nmV 8], [nmV 1, nmV 9]]) (noX 10 [slX 0, slX 1]) = ([[nmV 1, nmV 1, nmV 9], [nmV 2, nmV 2, nmV 8]], 0) := by kernel_rfl
theorem awFil : filS [[nmV 1], [nmV 2]] (noX 14 [slX 0, .mk 1 1 1 emp emp emp 0 []]) = ([[nmV 2]], 0) := by kernel_rfl
theorem aawake (σ : St) : ACalls Tryz.prog 5 [] σ fun r s => s = σ ∧ r = boolV true := by
 refine ACalls.pureF (R := fun r => r = boolV true) ?_ rfl σ
 have hJ := ajoin [[nmV 1], [nmV 2]] [[nmV 2, nmV 8], [nmV 1, nmV 9]] 10 0 0 emp emp emp 0 [slX 0, slX 1] (by decide) (by decide) (by decide) (by decide) (by decide) (by decide)
 have hF := afilter [[nmV 1], [nmV 2]] (noX 14 [slX 0, .mk 1 1 1 emp emp emp 0 []]) ⟨by decide, by decide⟩
 have hS := asameVV [[nmV 1, nmV 1, nmV 9], [nmV 2, nmV 2, nmV 8]] [[nmV 1, nmV 1, nmV 9], [nmV 2, nmV 2, nmV 8]] (by decide) (by decide) (by decide) (by decide)
 have hkk : kidsOk (noX 10 [slX 0, slX 1]) := by
  intro y hy
  rcases List.mem_cons.1 hy with rfl | hy
  ·decide
  ·rcases List.mem_cons.1 hy with rfl | hy
   ·decide
   ·cases hy
 have hje := join_eq [[nmV 1], [nmV 2]] [[nmV 2, nmV 8], [nmV 1, nmV 9]] (noX 10 [slX 0, slX 1]) hkk
 rw [awJoin] at hje
 have hJ1 : (joinS [[nmV 1], [nmV 2]] [[nmV 2, nmV 8], [nmV 1, nmV 9]] (.mk 10 0 0 emp emp emp 0 [slX 0, slX 1])) = _ := hje
 rw [hJ1] at hJ
 rw [awFil] at hF
 have hn1 := anode 10 [slX 0, slX 1]
 have hn2 := anode 14 [slX 0, .mk 1 1 1 emp emp emp 0 []]
 have hsv : sameVV [[nmV 1, nmV 1, nmV 9], [nmV 2, nmV 2, nmV 8]] [[nmV 1, nmV 1, nmV 9], [nmV 2, nmV 2, nmV 8]] = true := decide_eq_true rfl
 rw [hsv] at hS
 simp only [exA, exC, exL, enVV, enV, vaC, slX, noX, nmV, List.map_cons, List.map_nil, emp] at hJ hF hS hn1 hn2
 refine acalls_of cx_ok dr_ok Tryz.func5 (by kernel_rfl) rfl (nt := 63) (rs := [.tmp 0]) rfl rfl ?_
 have hnum := anum
 have hslot := aslot
 simp only [exA, exC, exL, vaA, vaC, slX, nmV, List.map_cons, List.map_nil, emp, intV] at hnum hslot hJ hF hn1 hn2
 repeat' first | ((with_reducible first | refine cs ?_ ?_ | refine ws ?_ ?_) <;> intro h <;> try simp only [h]) | simp only [↓wBA, tW7, convA, seval] | ((with_reducible show ACalls _ _ _ _ _); first | ((with_reducible show ACalls _ 14 _ _ _); refine (hnum _ _).eq ?_) | ((with_reducible show ACalls _ 16 _ _ _); refine (hslot _ _).eq ?_) | ((with_reducible show ACalls _ 15 _ _ _); refine ACalls.frzArgs ?_; simp only [frzL, frzA]; refine (hn1 _).eq ?_) | ((with_reducible show ACalls _ 15 _ _ _); refine ACalls.frzArgs ?_; simp only [frzL, frzA]; refine ACalls.arg2 (by simp [nleP, nleR, nleQ]) ((hn2 _).mono ?_); rintro _ _ ⟨rfl,rfl⟩) | ((with_reducible show ACalls _ 7 _ _ _); refine ACalls.frzArgs ?_; simp only [frzL, frzA]; refine (hJ _).eq ?_) | ((with_reducible show ACalls _ 11 _ _ _); refine ACalls.frzArgs ?_; simp only [frzL, frzA]; refine (hF _).eq ?_) | ((with_reducible show ACalls _ 10 _ _ _); refine ACalls.frzArgs ?_; simp only [frzL, frzA]; refine (hS _).eq ?_))
 all_goals refine ret_is (a := _) ?_ rfl rfl
 all_goals simp only [↓wBA, tW7, convA, seval]
 all_goals simp_all [wS]
end Go.Proofs.YtpcblbbddccgpaaGreatDoor
