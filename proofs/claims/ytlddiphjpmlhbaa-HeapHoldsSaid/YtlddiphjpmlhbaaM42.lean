/- Heaps: what a scan finds; rows that are written. -/
import Derived.Test.YtlddiphjpmlhbaaM41
set_option linter.unusedSimpArgs false
set_option linter.unusedVariables false
set_option linter.defProp false
set_option maxRecDepth 100000
set_option maxHeartbeats 32000000
namespace Go.Proofs.Ytlddiphjpmlhbaa
open Go.RowKit
def MutR (q : St) (av : AV) (e : Nat) (ls : List (List AV)) : Prop := (av = .p (.v (.slice none 0 0)) ∧ ls = []) ∨ ∃ t, av = .ms t e 0 ls.length ∧ ls ≠ [] ∧ q[t]? = some (some (.row e ls))
theorem MutR.same {q s : St} {av : AV} {e : Nat} {ls : List (List AV)} (h : MutR q av e ls) (hs : ∀ t, msOf av = some t → s[t]? = q[t]?) : MutR s av e ls := by
 rcases h with h | ⟨t, rfl, h1, h2⟩
 ·exact .inl h
 ·exact .inr ⟨t, rfl, h1, by rw [hs t rfl]; exact h2⟩
theorem MutR.lt {q : St} {av : AV} {e : Nat} {ls : List (List AV)} (h : MutR q av e ls) {t : Nat} (ht : msOf av = some t) : t < q.length := by
 rcases h with ⟨rfl, _⟩ | ⟨t', rfl, h1, h2⟩
 ·cases ht
 ·simp only [msOf, Option.some.injEq] at ht; subst ht; exact at_lt h2
theorem app_mut {C : Ctx} {q : St} {av y : AV} {E T : TypeId} {e eb : Nat} {ez : List Value} {ls m : List (List AV)} (hk : C.kind T = some (.slice E e eb ez)) (h : MutR q av e ls) (hy : srcM q e y = some m) (hm : m ≠ []) (hb : (ls.length + m.length) * eb ≤ 140737488355328) (hb2 : ls.length + m.length ≤ 1000000) :
 ∃ q', appendM C q.length T av y q = some (.ms q.length e 0 (ls.length + m.length), q') ∧ q'[q.length]? = some (some (.row e (ls ++ m))) ∧ q'.length = q.length + 1 ∧ ∀ t, t < q.length → msOf av ≠ some t → q'[t]? = q[t]? := by
 have c2 : ls.length + m.length ≤ maxLen := by unfold maxLen; omega
 have hml : 0 < m.length := List.length_pos_iff.2 hm
 rcases h with ⟨rfl, rfl⟩ | ⟨t, rfl, hl, ht⟩
 ·refine ⟨q ++ [some (.row e m)], ?_, by simp, by simp, fun t ht _ => List.getElem?_append_left ht⟩
  unfold appendM
  rw [hk]
  simp only [hy]
  rw [if_pos ⟨hml, by simpa using hb, by simpa using c2⟩, put_new rfl]
  simp
 ·have htl := at_lt ht
  refine ⟨q.set t none ++ [some (.row e (ls ++ m))], ?_, ?_, by simp, fun t' ht' hn => ?_⟩
  ·unfold appendM
   rw [hk]
   simp only [hy]
   rw [if_pos ⟨trivial, hb, c2⟩, ht]
   simp only [Nat.le_refl, and_self, if_true, List.take_length]
   rw [put_new (by simp)]
  ·rw [List.getElem?_append_right (by simp)]; simp
  ·rw [List.getElem?_append_left (by simpa using ht'), List.getElem?_set_ne fun e => hn (by rw [e]; rfl)]
theorem mem_entL (n n' k' : Nat) (r : List UInt8) : ∀ (l : List (Option (List UInt8))) (k : Nat), (n', k', r) ∈ entL n k l ↔ n' = n ∧ ∃ j, l[j]? = some (some r) ∧ k' = k + j
 | [], k => by simp [entL]
 | none :: l, k => by
   rw [entL, mem_entL n n' k' r l (k + 1)]
   constructor
   ·rintro ⟨h, j, h1, h2⟩
    exact ⟨h, j + 1, by simpa using h1, by omega⟩
   ·rintro ⟨h, j, h1, h2⟩
    cases j with
    | zero => simp at h1
    | succ j => exact ⟨h, j, by simpa using h1, by omega⟩
 | some x :: l, k => by
   rw [entL, List.mem_cons, mem_entL n n' k' r l (k + 1)]
   constructor
   ·rintro (h | ⟨h, j, h1, h2⟩)
    ·simp only [Prod.mk.injEq] at h
     obtain ⟨rfl, rfl, rfl⟩ := h
     exact ⟨rfl, 0, rfl, by omega⟩
    ·exact ⟨h, j + 1, by simpa using h1, by omega⟩
   ·rintro ⟨h, j, h1, h2⟩
    cases j with
    | zero => simp at h1; subst h1; left; rw [h, h2]; rfl
    | succ j => right; exact ⟨h, j, by simpa using h1, by omega⟩
theorem mem_entP {v : Nat → List UInt8} {n nx : Nat} {ss : List (Option (List UInt8))} (h : HPg (v n) nx ss) (n' k' : Nat) (r : List UInt8) : (n', k', r) ∈ entP n (v n) ↔ n' = n ∧ recOf v n k' = some r := by
 unfold entP
 rw [h.pg.slots, List.tail_cons, mem_entL]
 constructor
 ·rintro ⟨h1, j, h2, rfl⟩
  refine ⟨h1, ?_⟩
  rw [Nat.add_comm 1 j, h.recOf, List.getD_eq_getElem?_getD, h2]; rfl
 ·rintro ⟨h1, h2⟩
  refine ⟨h1, ?_⟩
  cases k' with
  | zero => rw [recOf_zero] at h2; cases h2
  | succ j =>
    rw [h.recOf, List.getD_eq_getElem?_getD] at h2
    refine ⟨j, ?_, by omega⟩
    cases hj : ss[j]? with
    | none => rw [hj] at h2; cases h2
    | some x => rw [hj] at h2; simp at h2; subst h2; rfl
theorem Chain.mem {v : Nat → List UInt8} {ns : List Nat} (h : Chain v ns) {n : Nat} (hn : n ∈ ns) : ∃ nx ss, HPg (v n) nx ss := by
 obtain ⟨i, hi⟩ := List.getElem?_of_mem hn
 obtain ⟨ss, h⟩ := h.get hi
 exact ⟨_, ss, h⟩
theorem mem_entH {v : Nat → List UInt8} {T : Nat → Bool} {np : Nat} {ns : List Nat} (h : Heap v T np ns) (n k : Nat) (r : List UInt8) : (n, k, r) ∈ entH v ns ↔ HRec v ns n k = some r := by
 unfold entH HRec
 rw [List.mem_flatMap]
 constructor
 ·rintro ⟨m, hm, h1⟩
  obtain ⟨nx, ss, hp⟩ := h.ch.mem hm
  obtain ⟨rfl, h2⟩ := (mem_entP hp n k r).1 h1
  rw [if_pos hm]; exact h2
 ·intro h1
  by_cases hn : n ∈ ns
  ·rw [if_pos hn] at h1
   obtain ⟨nx, ss, hp⟩ := h.ch.mem hn
   exact ⟨n, hn, (mem_entP hp n k r).2 ⟨rfl, h1⟩⟩
  ·rw [if_neg hn] at h1; cases h1
theorem nodup_entL (n : Nat) : ∀ (l : List (Option (List UInt8))) (k : Nat), ((entL n k l).map fun e => (e.1, e.2.1)).Nodup
 | [], _ => by simp [entL]
 | none :: l, k => nodup_entL n l (k + 1)
 | some r :: l, k => by
   simp only [entL, List.map_cons, List.nodup_cons]
   refine ⟨fun h => ?_, nodup_entL n l (k + 1)⟩
   obtain ⟨⟨a, c, x⟩, h1, h2⟩ := List.mem_map.1 h
   obtain ⟨_, j, _, h3⟩ := (mem_entL n a c x l (k + 1)).1 h1
   simp only [Prod.mk.injEq] at h2
   omega
theorem fst_entL (n : Nat) (l : List (Option (List UInt8))) (k : Nat) : ∀ e ∈ entL n k l, e.1 = n := fun ⟨a, c, x⟩ h => ((mem_entL n a c x l k).1 h).1
theorem nodup_entH (v : Nat → List UInt8) : ∀ ns : List Nat, ns.Nodup → ((entH v ns).map fun e => (e.1, e.2.1)).Nodup
 | [], _ => by simp [entH]
 | n :: ns, h => by
   have hd := List.nodup_cons.1 h
   have ih := nodup_entH v ns hd.2
   simp only [entH, List.flatMap_cons, List.map_append] at ih ⊢
   refine List.nodup_append.2 ⟨nodup_entL n _ 1, ih, fun a ha b hb e => ?_⟩
   obtain ⟨x, hx, rfl⟩ := List.mem_map.1 ha
   obtain ⟨y, hy, rfl⟩ := List.mem_map.1 hb
   obtain ⟨m, hm, hy2⟩ := List.mem_flatMap.1 hy
   have h1 := fst_entL n _ 1 x hx
   have h2 := fst_entL m _ 1 y hy2
   simp only [Prod.mk.injEq] at e
   exact hd.1 (by rw [← h1, e.1, h2]; exact hm)
theorem entH_one {v : Nat → List UInt8} {T : Nat → Bool} {np n k : Nat} {ns : List Nat} {r : List UInt8} (h : Heap v T np ns) (h1 : ∀ n' k', HRec v ns n' k' = if n' = n ∧ k' = k then some r else none) : entH v ns = [(n, k, r)] := by
 have hm : ∀ x, x ∈ entH v ns ↔ x = (n, k, r) := fun ⟨a, c, y⟩ => by
  rw [mem_entH h, h1]
  constructor
  ·intro e
   split at e
   ·rename_i h2; simp only [Option.some.injEq] at e; rw [h2.1, h2.2, e]
   ·cases e
  ·intro e
   simp only [Prod.mk.injEq] at e
   rw [if_pos ⟨e.1, e.2.1⟩, e.2.2]
 have hnd := nodup_entH v ns h.nd
 cases he : entH v ns with
 | nil => rw [he] at hm; have := (hm (n, k, r)).2 rfl; cases this
 | cons x l =>
   rw [he] at hm hnd
   have hx := (hm x).1 (by simp)
   cases l with
   | nil => rw [hx]
   | cons y l =>
     have hy := (hm y).1 (by simp)
     rw [hx, hy] at hnd
     simp at hnd
end Go.Proofs.Ytlddiphjpmlhbaa
