/- Heaps: chains of pages. -/
import Derived.Test.YtlddiphjpmlhbaaM42
set_option linter.unusedSimpArgs false
set_option linter.unusedVariables false
set_option linter.defProp false
set_option maxRecDepth 100000
set_option maxHeartbeats 32000000
namespace Go.Proofs.Ytlddiphjpmlhbaa
open Go.RowKit
def Chain (v : Nat → List UInt8) : List Nat → Prop
 | [] => True
 | n :: ns => (∃ ss, HPg (v n) ((ns[0]?).getD 0) ss) ∧ Chain v ns
theorem Chain.get {v : Nat → List UInt8} : ∀ {ns : List Nat} {i n : Nat}, Chain v ns → ns[i]? = some n → ∃ ss, HPg (v n) ((ns[i + 1]?).getD 0) ss
 | [], i, n, _, h => by simp at h
 | m :: ns, 0, n, hc, h => by
   simp at h; subst h
   obtain ⟨ss, h⟩ := hc.1
   exact ⟨ss, by simpa using h⟩
 | m :: ns, i + 1, n, hc, h => by
   have := Chain.get (i := i) hc.2 (by simpa using h)
   simpa using this
theorem Chain.congr {v v' : Nat → List UInt8} : ∀ {ns : List Nat}, (∀ n ∈ ns, v' n = v n) → Chain v ns → Chain v' ns
 | [], _, _ => trivial
 | m :: ns, h, hc => ⟨by rw [h m (by simp)]; exact hc.1, Chain.congr (fun n hn => h n (by simp [hn])) hc.2⟩
theorem Chain.up {v : Nat → List UInt8} {pg : List UInt8} {ss : List (Option (List UInt8))} : ∀ {ns : List Nat} {i n : Nat}, ns.Nodup → Chain v ns → ns[i]? = some n → HPg pg ((ns[i + 1]?).getD 0) ss → Chain (upV v n pg) ns
 | [], i, n, _, _, h, _ => by simp at h
 | m :: ns, 0, n, hd, hc, h, hp => by
   simp at h; subst h
   have hm := (List.nodup_cons.1 hd).1
   refine ⟨⟨ss, by unfold upV; rw [if_pos rfl]; simpa using hp⟩, Chain.congr (fun q hq => ?_) hc.2⟩
   unfold upV; rw [if_neg (fun e => hm (by subst e; exact hq))]
 | m :: ns, i + 1, n, hd, hc, h, hp => by
   have hm := List.nodup_cons.1 hd
   have hn : n ∈ ns := List.mem_of_getElem? (by simpa using h : ns[i]? = some n)
   refine ⟨?_, Chain.up hm.2 hc.2 (i := i) (by simpa using h) (by simpa using hp)⟩
   have : ¬ m = n := fun e => hm.1 (by subst e; exact hn)
   unfold upV; rw [if_neg this]; exact hc.1
theorem Chain.snoc {v v' : Nat → List UInt8} {m : Nat} {ss' : List (Option (List UInt8))} : ∀ {ns : List Nat} {n : Nat} {ss : List (Option (List UInt8))}, ns.Nodup → Chain v ns → ns[ns.length - 1]? = some n → (∀ q ∈ ns, q ≠ n → v' q = v q) → HPg (v' n) m ss → HPg (v' m) 0 ss' → Chain v' (ns ++ [m])
 | [], n, ss, _, _, h, _, _, _ => by simp at h
 | [a], n, ss, _, _, h, _, h1, h2 => by
   simp at h; subst h
   exact ⟨⟨ss, h1⟩, ⟨ss', h2⟩, trivial⟩
 | a :: b :: ns, n, ss, hd, hc, h, hv, h1, h2 => by
   have hm := List.nodup_cons.1 hd
   have hl : (b :: ns)[(b :: ns).length - 1]? = some n := by simpa using h
   have hn : n ∈ b :: ns := List.mem_of_getElem? hl
   have ha : a ≠ n := fun e => hm.1 (by subst e; exact hn)
   refine ⟨?_, Chain.snoc hm.2 hc.2 hl (fun q hq => hv q (by simp at hq ⊢; right; exact hq)) h1 h2⟩
   rw [hv a (by simp) ha]
   exact hc.1
structure Heap (v : Nat → List UInt8) (T : Nat → Bool) (np : Nat) (ns : List Nat) : Prop where
 ne : ns ≠ []
 nd : ns.Nodup
 tk : ∀ n ∈ ns, 1 ≤ n ∧ n < np ∧ T n = true
 ch : Chain v ns
def recOf (v : Nat → List UInt8) (n k : Nat) : Option (List UInt8) := if k = 0 then none else getL (v n) (k : Int)
def HRec (v : Nat → List UInt8) (ns : List Nat) (n k : Nat) : Option (List UInt8) := if n ∈ ns then recOf v n k else none
theorem HPg.recOf {v : Nat → List UInt8} {n nx : Nat} {ss : List (Option (List UInt8))} (h : HPg (v n) nx ss) (k : Nat) : recOf v n (k + 1) = ss.getD k none := by
 unfold Go.Proofs.Ytlddiphjpmlhbaa.recOf
 rw [if_neg (by omega)]
 exact h.at k
theorem recOf_zero (v : Nat → List UInt8) (n : Nat) : recOf v n 0 = none := by unfold recOf; rw [if_pos rfl]
theorem Heap.len {v : Nat → List UInt8} {T : Nat → Bool} {np : Nat} {ns : List Nat} (h : Heap v T np ns) : ns.length ≤ np := len_le_of_lt np ns h.nd fun x hx => (h.tk x hx).2.1
theorem Heap.change {v : Nat → List UInt8} {T : Nat → Bool} {np i n k nx : Nat} {ns : List Nat} {pg : List UInt8} {ss ss' : List (Option (List UInt8))} {x : Option (List UInt8)} (h : Heap v T np ns) (hi : ns[i]? = some n) (hp : HPg (v n) nx ss) (hnx : nx = (ns[i + 1]?).getD 0) (hp' : HPg pg nx ss') (hs : ∀ j, ss'.getD j none = if j = k then x else ss.getD j none) :
 Heap (upV v n pg) T np ns ∧ ∀ n' k', HRec (upV v n pg) ns n' k' = if n' = n ∧ k' = k + 1 then x else HRec v ns n' k' := by
 subst hnx
 refine ⟨⟨h.ne, h.nd, h.tk, Chain.up h.nd h.ch hi hp'⟩, fun n' k' => ?_⟩
 have hn : n ∈ ns := List.mem_of_getElem? hi
 unfold HRec
 by_cases e : n' = n
 ·subst e
  rw [if_pos hn, if_pos hn]
  cases k' with
  | zero => rw [recOf_zero, recOf_zero, if_neg (by omega)]
  | succ k' =>
    have hq : HPg (upV v n' pg n') ((ns[i + 1]?).getD 0) ss' := by unfold upV; rw [if_pos rfl]; exact hp'
    rw [hq.recOf, hp.recOf, hs]
    by_cases e2 : k' = k
    ·subst e2; simp
    ·have : ¬ (k' + 1 = k + 1) := by omega
     simp [e2]
 ·have h1 : ¬ (n' = n ∧ k' = k + 1) := fun h => e h.1
  rw [if_neg h1]
  have : recOf (upV v n pg) n' k' = recOf v n' k' := by unfold recOf upV; rw [if_neg e]
  rw [this]
theorem Heap.grow {v v' : Nat → List UInt8} {T : Nat → Bool} {np n m : Nat} {ns : List Nat} {ss : List (Option (List UInt8))} (h : Heap v T np ns) (hl : ns[ns.length - 1]? = some n) (hm : T m = false) (hm1 : 1 ≤ m) (hm2 : m < np) (hp : HPg (v n) 0 ss) (hn' : HPg (v' n) m ss) (hm' : HPg (v' m) 0 []) (hv : ∀ q, q ≠ m → q ≠ n → q ≠ 0 → v' q = v q) :
 Heap v' (updT T m true) np (ns ++ [m]) ∧ ∀ n' k', HRec v' (ns ++ [m]) n' k' = HRec v ns n' k' := by
 have hmn : ∀ q ∈ ns, q ≠ m := fun q hq e => by have := (h.tk q hq).2.2; rw [e, hm] at this; cases this
 have hq : ∀ q ∈ ns, q ≠ n → v' q = v q := fun q hq hqn => hv q (hmn q hq) hqn (by have := (h.tk q hq).1; omega)
 refine ⟨⟨by simp, List.nodup_append.2 ⟨h.nd, by simp, fun a ha b hb => by simp at hb; subst hb; exact hmn a ha⟩, fun q hq' => ?_, Chain.snoc h.nd h.ch hl hq hn' hm'⟩, fun n' k' => ?_⟩
 ·rcases List.mem_append.1 hq' with hq' | hq'
  ·obtain ⟨h1, h2, h3⟩ := h.tk q hq'
   exact ⟨h1, h2, by unfold updT; split <;> simp_all⟩
  ·simp at hq'; subst hq'; exact ⟨hm1, hm2, by simp [updT]⟩
 ·unfold HRec
  by_cases e : n' ∈ ns
  ·rw [if_pos (by simp [e]), if_pos e]
   by_cases e2 : n' = n
   ·subst e2
    cases k' with
    | zero => rw [recOf_zero, recOf_zero]
    | succ k' => rw [hn'.recOf, hp.recOf]
   ·unfold recOf; rw [hq n' e e2]
  ·rw [if_neg e]
   by_cases e2 : n' = m
   ·subst e2
    rw [if_pos (by simp)]
    cases k' with
    | zero => rw [recOf_zero]
    | succ k' => rw [hm'.recOf]; simp
   ·rw [if_neg (by simp [e, e2])]
theorem Heap.other {v v' : Nat → List UInt8} {T T' : Nat → Bool} {np : Nat} {ns : List Nat} (h : Heap v T np ns) (hv : ∀ n ∈ ns, v' n = v n) (hT : ∀ n ∈ ns, T' n = T n) : Heap v' T' np ns ∧ ∀ n k, HRec v' ns n k = HRec v ns n k := by
 refine ⟨⟨h.ne, h.nd, fun n hn => by rw [hT n hn]; exact h.tk n hn, Chain.congr hv h.ch⟩, fun n k => ?_⟩
 unfold HRec
 split
 ·rename_i hn; unfold recOf; rw [hv n hn]
 ·rfl
end Go.Proofs.Ytlddiphjpmlhbaa
