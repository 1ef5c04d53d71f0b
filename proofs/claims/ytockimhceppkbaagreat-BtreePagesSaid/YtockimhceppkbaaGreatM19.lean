/- Steps over pages in variables; what a page is, as a kind and slots. -/
import Derived.Test.YtockimhceppkbaaGreatM18
import Derived.Deep.WholeRow
set_option linter.unusedSimpArgs false
set_option linter.unusedVariables false
set_option linter.defProp false
set_option maxRecDepth 100000
set_option maxHeartbeats 32000000
namespace Go.Proofs.YtockimhceppkbaaGreat
open Go.RowKit
section
variable {ops : Array Oper} {rest : List Oper} {o : Oper} {a : Act} {w : World} {Q : Exit → Act → World → Prop}
end
theorem heap_alloc_lt {w : World} {g : Nat} {b : Obj} (o : Obj) (h : w.heap[g]? = some b) : (w.alloc o).heap[g]? = some b :=
 (Below.heap_alloc w o g (Array.getElem?_eq_some_iff.1 h).1).trans h
theorem ByteS.new (w : World) (r : List UInt8) (c : Nat) (t : TypeId) (fr : Nat × Nat) : ByteS (w.alloc (.cells (bytesA r) t fr)) (.slice (some ⟨w.heap.size, 0, none⟩) r.length c) r :=
 Src.at fun j u hj => by rw [cell_of_row _ w.heap.size (0 + j) _ _ _ (heap_alloc_new w _)]; simpa using hj
theorem ByteS.cells {w : World} {b off n c : Nat} {r : List UInt8} (h : ByteS w (.slice (some ⟨b, off, none⟩) n c) r) (j : Nat) (hj : j < r.length) : w.cell? ⟨b, off + j, none⟩ = some (.int .u8 (r.getD j 0).toNat) := by
 obtain ⟨ao, c', he, hc⟩ := h
 simp only [Value.slice.injEq] at he
 obtain ⟨rfl, _, rfl⟩ := he
 rcases hc with ⟨h1, _⟩ | ⟨ad, h1, h2⟩
 ·cases h1
 ·obtain rfl : ad = ⟨b, off, none⟩ := by simpa using h1.symm
  have := h2 j _ (get_bytesL r j hj)
  rwa [Addr.add_lit] at this
theorem Rec.bytes {w : World} {base : Nat} {v : Value} {r : List UInt8} (h : Rec w base v (some r)) : ByteS w v r := by
 obtain ⟨⟨h1, h2⟩, g, cap, rfl⟩ := h
 rcases h2 with ⟨h3, _⟩ | ⟨g', cap', cur, h3, _, hh, _, _, _, ht⟩
 ·simp at h3
 ·simp only [Value.slice.injEq, Option.some.injEq, Addr.mk.injEq, and_true, true_and] at h3
  obtain ⟨rfl, rfl⟩ := h3
  refine Src.at fun j u hj => ?_
  rw [← ht, List.getElem?_take] at hj
  split at hj
  ·rw [cell_of_row _ g (0 + j) _ _ _ hh]; simpa using hj
  ·cases hj
theorem ByteS.nil (w : World) : ByteS w (.slice none 0 0) [] := Src.nil w
theorem trimL_last {ss : List (Option (List UInt8))} (h : ss.getD (ss.length - 1) none ≠ none) : trimL ss = ss := by
 have := trimL_eq ss ss.length (Nat.le_refl _) (fun i hi => by simp [List.getElem?_eq_none hi]) (.inr h)
 rwa [List.take_length] at this
theorem last_of_trimL : ∀ {ss : List (Option (List UInt8))}, trimL ss = ss → ss = [] ∨ ss.getD (ss.length - 1) none ≠ none
 | [], _ => .inl rfl
 | none :: r, h => by
   unfold trimL at h
   split at h
   ·cases h
   ·rename_i hne
    have hr : trimL r = r := by simpa using h
    rcases last_of_trimL hr with e | e
    ·subst e; exact absurd rfl hne
    ·right
     have hl : r.length ≠ 0 := by intro e0; rw [List.eq_nil_of_length_eq_zero e0] at e; simp at e
     rw [show (none :: r).length - 1 = (r.length - 1) + 1 by simp; omega]
     simpa using e
 | some x :: r, h => by
   right
   have hr : trimL r = r := by simpa [trimL] using h
   rcases last_of_trimL hr with e | e
   ·subst e; simp
   ·have hl : r.length ≠ 0 := by intro e0; rw [List.eq_nil_of_length_eq_zero e0] at e; simp at e
    rw [show (some x :: r).length - 1 = (r.length - 1) + 1 by simp; omega]
    simpa using e
theorem trimL_idem (ss : List (Option (List UInt8))) : trimL (trimL ss) = trimL ss := by
 induction ss with
 | nil => rfl
 | cons o r ih =>
   cases o with
   | none =>
     rw [show trimL (none :: r) = if trimL r = [] then [] else none :: trimL r from rfl]
     by_cases h : trimL r = []
     ·rw [if_pos h]; rfl
     ·rw [if_neg h, show trimL (none :: trimL r) = if trimL (trimL r) = [] then [] else none :: trimL (trimL r) from rfl, ih, if_neg h]
   | some x => simp [trimL, ih]
theorem trimL_putL {ss : List (Option (List UInt8))} (h : trimL ss = ss) (k : Nat) (hk : k ≤ ss.length) (r : List UInt8) : trimL (putL ss k r) = putL ss k r := by
 apply trimL_last
 unfold putL
 by_cases e : k = ss.length
 ·subst e
  simp
 ·rw [if_neg e]
  have hk' : k < ss.length := by omega
  by_cases e2 : k = ss.length - 1
  ·subst e2; simp [List.getElem?_set, hk']
  ·rcases last_of_trimL h with e3 | e3
   ·subst e3; simp at hk'
   ·simpa [List.getElem?_set, e2] using e3
structure Pg (l : List UInt8) (kd : Int) (ss : List (Option (List UInt8))) : Prop where
 len : l.length = 512
 kind : kindL l = kd
 slots : slotsL l = ss
 right : rightL l = true
 trim : trimL ss = ss
 cost : costL ss ≤ 496
 k0 : 0 ≤ kd
 k1 : kd < 256
theorem Pg.made (kd : Int) (h0 : 0 ≤ kd) (h1 : kd < 256) (ss : List (Option (List UInt8))) (hc : costL ss ≤ 496) : Pg (madeL kd ss) kd (trimL ss) :=
 ⟨length_madeL _ _ (by have := costL_trim ss; unfold costL at *; omega), kindL_made kd h0 h1 ss hc, slotsL_made kd ss hc, rightL_made kd ss hc, trimL_idem ss, by have := costL_trim ss; omega, h0, h1⟩
theorem Pg.new (k : Int) : Pg (newL k) (k % 256) [] := Pg.made (k % 256) (by omega) (by omega) [] (by simp [costL, lens])
theorem Pg.put {l : List UInt8} {kd : Int} {ss : List (Option (List UInt8))} (h : Pg l kd ss) (k : Nat) (hk : k ≤ ss.length) (r : List UInt8) (h1 : r.length ≤ 400) (h2 : costL (putL ss k r) ≤ 496) :
 (putPage (kindL l) (slotsL l) k r).2 = true ∧ Pg (putPage (kindL l) (slotsL l) k r).1 kd (putL ss k r) := by
 rw [h.kind, h.slots]
 unfold putPage
 rw [if_neg (by omega)]
 refine ⟨rfl, ?_⟩
 have := Pg.made kd h.k0 h.k1 (putL ss k r) h2
 rwa [trimL_putL h.trim k hk r] at this
theorem Pg.put_not {l : List UInt8} {kd : Int} {ss : List (Option (List UInt8))} (h : Pg l kd ss) (k : Nat) (r : List UInt8) (h1 : 400 < r.length ∨ 496 < costL (putL ss k r)) :
 putPage (kindL l) (slotsL l) k r = (zeroPage, false) := by
 rw [h.kind, h.slots]
 unfold putPage
 rw [if_pos h1]
theorem Pg.add {l : List UInt8} {kd : Int} {ss : List (Option (List UInt8))} (h : Pg l kd ss) (r : List UInt8) (h1 : r.length ≤ 400) (h2 : costL (putL ss (freeL ss) r) ≤ 496) :
 (addL l r).2.1 = freeL ss ∧ (addL l r).2.2 = true ∧ Pg (addL l r).1 kd (putL ss (freeL ss) r) := by
 have := h.put (freeL ss) (freeL_le ss) r h1 h2
 rw [h.slots] at this
 unfold addL
 simp only [h.slots, this.1, if_true, true_and]
 exact this.2
theorem Pg.add_not {l : List UInt8} {kd : Int} {ss : List (Option (List UInt8))} (h : Pg l kd ss) (r : List UInt8) (h1 : 400 < r.length ∨ 496 < costL (putL ss (freeL ss) r)) : addL l r = (zeroPage, 0, false) := by
 have := h.put_not (freeL ss) r h1
 rw [h.slots] at this
 unfold addL
 simp [h.slots, this]
theorem Pg.get {l : List UInt8} {kd : Int} {ss : List (Option (List UInt8))} (h : Pg l kd ss) (k : Int) : getL l k = if k < 0 then none else ss.getD k.toNat none := by
 unfold getL; rw [h.slots]
end Go.Proofs.YtockimhceppkbaaGreat
