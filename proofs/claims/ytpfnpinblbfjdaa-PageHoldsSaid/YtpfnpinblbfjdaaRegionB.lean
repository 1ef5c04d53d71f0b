/- More steps through a region that draws its order; a page that stands beside others. -/
import Derived.Test.YtpfnpinblbfjdaaOpen
import Derived.Deep.CutRange
set_option linter.unusedSimpArgs false
namespace Go.Proofs.Ytpfnpinblbfjdaa
open Go.RowKit
section
variable {ops : Array Oper} {Q : Exit → Act → World → Prop} {S : World → Prop} {fuel : Nat} {listed : Array Bool} {a : Act} {w : World}
/-- A load of one cell. -/
theorem takeH_cell (i d b o : Nat) (oi : Oper) (ty : TypeId) (x : Operand) (v : Value) (t : TypeDesc) (hi : ops[i]? = some oi) (hd : oi.dst = some d) (hg : Region.wanted oi (yielded ops a.tmps) = true)
    (hs : Region.noSelect ops = true) (hf : Region.free .any ops listed i = true) (hr : (Region.ready .any ops listed).contains i = true)
    (hop : oi.op = .load ty x) (hx : a.eval x = .pointer (some ⟨b, o, none⟩)) (hu : Try.prog.underlying ty = some t) (ht : t.isRow = false)
    (hS : S w) (hc : ∀ w, S w → w.cell? ⟨b, o, none⟩ = some v)
    (h : wpAnyH Try.prog .any ops (NoPanic Q) S fuel (listed.setIfInBounds i true) { a with tmps := a.tmps.setIfInBounds d v } w) :
    wpAnyH Try.prog .any ops (NoPanic Q) S (fuel + 1) listed a w :=
  takeH i d oi _ hi hd hg hs hf hr hS (fun w hw => by
    have hagg : (isAgg ty).run Try.prog w = .ok false w := by
      unfold isAgg
      rw [Sem.run_bind, run_underlying hu w]
      cases t <;> simp_all
    unfold execOp
    simp [hop, hx, Instr.loadAt, Instr.sureAddr, Sem.run_bind, Sem.run_pure, Result.andThen_ok, loadVar, hagg, load, Sem.run, hc w hw]) h
end

/-- A page that stands in a variable, and all that was there. -/
def One (w : World) (g : Nat) (l : List UInt8) (w' : World) : Prop := w'.heap[g]? = some (.cells (bytesA l) 26 (0, 0)) ∧ Below w.heap.size w w'
theorem One.next {w w' w'' : World} {g : Nat} {l : List UInt8} (h : One w g l w') (hb : Below w'.heap.size w' w'') : One w g l w'' :=
  ⟨(hb.block _ (Array.getElem?_eq_some_iff.1 h.1).1).trans h.1, h.2.trans (hb.mono h.2.size)⟩
theorem One.drew {w w' : World} {g : Nat} {l : List UInt8} (h : One w g l w') : One w g l w'.drew := ⟨h.1, h.2.drew⟩
theorem One.alloc {w w' : World} {g : Nat} {l : List UInt8} (h : One w g l w') (o : Obj) : One w g l (w'.alloc o) := ⟨heap_alloc_lt o h.1, h.2.alloc h.2.size o⟩
theorem One.lt {w w' : World} {g : Nat} {l : List UInt8} (h : One w g l w') : g < w'.heap.size := (Array.getElem?_eq_some_iff.1 h.1).1
theorem One.set {w w' : World} {g : Nat} {l : List UInt8} (h : One w g l w') (m : List UInt8) (hg : w.heap.size ≤ g) : One w g m (w'.setRow g (bytesA m)) :=
  ⟨setRow_heap _ _ _ _ _ _ h.1, h.2.trans (Below.setRow _ _ _ _ hg)⟩
end Go.Proofs.Ytpfnpinblbfjdaa
