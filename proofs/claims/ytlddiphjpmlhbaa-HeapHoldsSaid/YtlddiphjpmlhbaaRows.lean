/-
  No cell of these rows narrows 'for every input' (looked for: loops, veiled, ifaces, maps, wideKeys, modest, calm, conditions, laid).
  DERIVED. THE GIVEN ROWS OF THIS SEAT. 3 by the template 'for every input the law returns true; each argument reads behind the call as it read before'; 0 by the template 'total and deterministic' (their statements: YtlddiphjpmlhbaaTotals.lean).
  GIVEN WITH THE SEED: the statements are not yours to turn. If you find one false, say at which input.
  Laid BY PROGRAM, IN A SANDBOX (cutbox-rows.mjs): the forced cells as the released guide's own fill.sh prints them over the translation 26461169714f2054… (all of the seat's roots in one cut). By AI agents, Wed Nov 11 2026. No macro, syntax, notation, axiom, sorry.
-/
import Derived.Test.YtlddiphjpmlhbaaChecked
import GoSem.Claim
import GoSem.ClaimJoined
import GoSem.ClaimMapViews
import Derived.JoinedTies
import Derived.KernelRfl
namespace Go.Proofs.Ytlddiphjpmlhbaa
/- THE CELL 'sum', in the pinned program and in every row, IS THE sha256 OF THE DUMP (.gsa) THAT YtlddiphjpmlhbaaProg.lean LOADS. Nothing in Lean hashes anything: it is a label: what it is worth is what the hold of that sum in a sandbox is worth. -/
noncomputable def Try.pinned : Pinned := { name := "ytlddiphjpmlhbaa", sum := "26461169714f20548371f9a1403260d42ebbc93d62a763e680ec6a0767a778e4", checked := Try.checked }
namespace Rows
def none {H : Type} : Left H := { results := [], args := [] }

/-- 'cadastrelaw06.HeapSets': WHATEVER THE INPUT: true; the input reads as it did. -/
def heapSetsSpec : ChangeSpec := { name := "heapSets", fn := fun _ => fun
  | [d1, d2, d3] => { results := [.lit (.bool true)], args := [d1, d2, d3] }
  | _ => none }
def heapSetsRow : OpenClaim := { program := "ytlddiphjpmlhbaa", sum := "26461169714f20548371f9a1403260d42ebbc93d62a763e680ec6a0767a778e4", func := "cadastre/cadastrelaw06.HeapSets", spec := "heapSets", unfollowed := true, recurses := true, apart := false }
def HeapSetsSaid : Prop := heapSetsRow.holds Try.pinned (OpenSpec.ofChange heapSetsSpec)

/-- ITS FALSE NEIGHBOUR: 'it returns false'. Refute it at one input. -/
def heapSetsWrong : ChangeSpec := { name := "heapSets", fn := fun _ => fun
  | [d1, d2, d3] => { results := [.lit (.bool false)], args := [d1, d2, d3] }
  | _ => none }
def HeapSetsWrongFalsely : Prop := heapSetsRow.holds Try.pinned (OpenSpec.ofChange heapSetsWrong)

/-- 'cadastrelaw06.HeapLasts': WHATEVER THE INPUT: true; the input reads as it did. -/
def heapLastsSpec : ChangeSpec := { name := "heapLasts", fn := fun _ => fun
  | [d1, d2] => { results := [.lit (.bool true)], args := [d1, d2] }
  | _ => none }
def heapLastsRow : OpenClaim := { program := "ytlddiphjpmlhbaa", sum := "26461169714f20548371f9a1403260d42ebbc93d62a763e680ec6a0767a778e4", func := "cadastre/cadastrelaw06.HeapLasts", spec := "heapLasts", unfollowed := true, recurses := true, apart := false }
def HeapLastsSaid : Prop := heapLastsRow.holds Try.pinned (OpenSpec.ofChange heapLastsSpec)

/-- ITS FALSE NEIGHBOUR: 'it returns false'. Refute it at one input. -/
def heapLastsWrong : ChangeSpec := { name := "heapLasts", fn := fun _ => fun
  | [d1, d2] => { results := [.lit (.bool false)], args := [d1, d2] }
  | _ => none }
def HeapLastsWrongFalsely : Prop := heapLastsRow.holds Try.pinned (OpenSpec.ofChange heapLastsWrong)

/-- 'cadastrelaw06.HeapHolds': WHATEVER THE INPUT: true; the input reads as it did. -/
def heapHoldsSpec : ChangeSpec := { name := "heapHolds", fn := fun _ => fun
  | [d1, d2] => { results := [.lit (.bool true)], args := [d1, d2] }
  | _ => none }
def heapHoldsRow : OpenClaim := { program := "ytlddiphjpmlhbaa", sum := "26461169714f20548371f9a1403260d42ebbc93d62a763e680ec6a0767a778e4", func := "cadastre/cadastrelaw06.HeapHolds", spec := "heapHolds", unfollowed := true, recurses := true, apart := false }
def HeapHoldsSaid : Prop := heapHoldsRow.holds Try.pinned (OpenSpec.ofChange heapHoldsSpec)

/-- ITS FALSE NEIGHBOUR: 'it returns false'. Refute it at one input. -/
def heapHoldsWrong : ChangeSpec := { name := "heapHolds", fn := fun _ => fun
  | [d1, d2] => { results := [.lit (.bool false)], args := [d1, d2] }
  | _ => none }
def HeapHoldsWrongFalsely : Prop := heapHoldsRow.holds Try.pinned (OpenSpec.ofChange heapHoldsWrong)

/- THE SECOND FORM. 'bulk': how many values and letters a reading holds, each counted each time it is reached (what is shared counts as often as it is met; a slice's spare places count too). A statement '..UptoSaid' is the law's where the arguments, and the package variables that the reading takes, are together of bulk at most 1048576: NARROWER than '..Said'. Prove '..Said' where nothing that the law and all that it calls make is longer than what came in: it says more and counts as full. Else prove '..UptoSaid'. A law counts once. -/
mutual
def uptoBulk {H : Type} : DataW H → Nat
  | .lit (.string bytes) => bytes.length + 1
  | .lit _ => 1
  | .nil => 1
  | .ptr d => uptoBulk d + 1
  | .slice elems spare => uptoBulkAll elems + uptoBulkAll spare + 1
  | .agg parts => uptoBulkAll parts + 1
  | .iface _ d => uptoBulk d + 1
  | .map entries => uptoBulkEntries entries + 1
  | .held _ => 1
def uptoBulkAll {H : Type} : List (DataW H) → Nat
  | [] => 0
  | d :: r => uptoBulk d + uptoBulkAll r
def uptoBulkEntries {H : Type} : List (Lit × DataW H) → Nat
  | [] => 0
  | x :: r => uptoBulkEntry x + uptoBulkEntries r
def uptoBulkEntry {H : Type} : Lit × DataW H → Nat
  | (.string bytes, d) => bytes.length + uptoBulk d + 1
  | (_, d) => uptoBulk d + 1
 end
def uptoSmall : (H : Type) → List (DataW H) → Bool := fun _ ds => decide (uptoBulkAll ds ≤ 1048576)
def OpenSpec.upto (s : _root_.Go.ChangeSpec) : _root_.Go.OpenSpec := { _root_.Go.OpenSpec.ofChange s with cond := some uptoSmall }

/-- 'cadastrelaw06.HeapSets', WHERE WHAT IT READS IS OF BULK AT MOST 1048576: true; the input reads as it did. -/
def heapSetsUptoRow : OpenClaim := { program := "ytlddiphjpmlhbaa", sum := "26461169714f20548371f9a1403260d42ebbc93d62a763e680ec6a0767a778e4", func := "cadastre/cadastrelaw06.HeapSets", spec := "heapSets", unfollowed := true, recurses := true, apart := false, narrowed := true }
def HeapSetsUptoSaid : Prop := heapSetsUptoRow.holds Try.pinned (OpenSpec.upto heapSetsSpec)

/-- 'cadastrelaw06.HeapLasts', WHERE WHAT IT READS IS OF BULK AT MOST 1048576: true; the input reads as it did. -/
def heapLastsUptoRow : OpenClaim := { program := "ytlddiphjpmlhbaa", sum := "26461169714f20548371f9a1403260d42ebbc93d62a763e680ec6a0767a778e4", func := "cadastre/cadastrelaw06.HeapLasts", spec := "heapLasts", unfollowed := true, recurses := true, apart := false, narrowed := true }
def HeapLastsUptoSaid : Prop := heapLastsUptoRow.holds Try.pinned (OpenSpec.upto heapLastsSpec)

/-- 'cadastrelaw06.HeapHolds', WHERE WHAT IT READS IS OF BULK AT MOST 1048576: true; the input reads as it did. -/
def heapHoldsUptoRow : OpenClaim := { program := "ytlddiphjpmlhbaa", sum := "26461169714f20548371f9a1403260d42ebbc93d62a763e680ec6a0767a778e4", func := "cadastre/cadastrelaw06.HeapHolds", spec := "heapHolds", unfollowed := true, recurses := true, apart := false, narrowed := true }
def HeapHoldsUptoSaid : Prop := heapHoldsUptoRow.holds Try.pinned (OpenSpec.upto heapHoldsSpec)

end Rows
end Go.Proofs.Ytlddiphjpmlhbaa
