/- Steps through a region that draws its order, under a condition on the world that every operation keeps. -/
import Derived.Test.YtpfnpinblbfjdaaBase
import Derived.Deep.RegionHeld3
import Derived.Deep.MidRow
set_option linter.unusedSimpArgs false
namespace Go.Proofs.Ytpfnpinblbfjdaa
open Go.RowKit
section
variable {ops : Array Oper} {Q : Exit → Act → World → Prop} {S : World → Prop} {fuel : Nat} {listed : Array Bool} {a : Act} {w : World}

/-- An operation that yields in every world that meets S is taken first. -/
theorem takeH (i d : Nat) (oi : Oper) (v : Value) (hi : ops[i]? = some oi) (hd : oi.dst = some d) (hg : Region.wanted oi (yielded ops a.tmps) = true)
    (hs : Region.noSelect ops = true) (hf : Region.free .any ops listed i = true) (hr : (Region.ready .any ops listed).contains i = true)
    (hS : S w) (hy : ∀ w, S w → (execOp a.eval oi).run Try.prog w = .ok (.value v) w)
    (h : wpAnyH Try.prog .any ops (NoPanic Q) S fuel (listed.setIfInBounds i true) { a with tmps := a.tmps.setIfInBounds d v } w) :
    wpAnyH Try.prog .any ops (NoPanic Q) S (fuel + 1) listed a w := by
  refine wpAnyH_take hi hs hf hr (fun _ _ _ h => h) (v := v) (Or.inl ⟨hg, hy⟩) hS ?_
  simpa [Act.put, hd] using h

/-- A load of an array or struct. -/
theorem takeH_load (i d b o : Nat) (oi : Oper) (ty : TypeId) (x : Operand) (cs : List Value) (t : TypeDesc) (hi : ops[i]? = some oi) (hd : oi.dst = some d) (hg : Region.wanted oi (yielded ops a.tmps) = true)
    (hs : Region.noSelect ops = true) (hf : Region.free .any ops listed i = true) (hr : (Region.ready .any ops listed).contains i = true)
    (hop : oi.op = .load ty x) (hx : a.eval x = .pointer (some ⟨b, o, none⟩)) (hu : Try.prog.underlying ty = some t) (ht : t.isRow = true) (hsz : (Try.prog.info? ty).map (·.size) = some cs.length)
    (hS : S w) (hc : ∀ w, S w → w.rangeAt b o cs)
    (h : wpAnyH Try.prog .any ops (NoPanic Q) S fuel (listed.setIfInBounds i true) { a with tmps := a.tmps.setIfInBounds d (.agg cs.toArray) } w) :
    wpAnyH Try.prog .any ops (NoPanic Q) S (fuel + 1) listed a w :=
  takeH i d oi _ hi hd hg hs hf hr hS (fun w hw => by
    unfold execOp
    simp only [hop, hx, Instr.loadAt, Instr.sureAddr, Sem.run_bind, Sem.run_pure, Result.andThen_ok, run_loadVar_mid w b o ty cs t (hc w hw) hu ht hsz]) h
end
end Go.Proofs.Ytpfnpinblbfjdaa
