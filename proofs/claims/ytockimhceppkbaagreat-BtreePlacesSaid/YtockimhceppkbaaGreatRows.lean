/-
  No cell of these rows narrows 'for every input' (looked for: loops, veiled, ifaces, maps, wideKeys, modest, calm, conditions, laid).
  DERIVED. THE GIVEN ROWS OF THIS SEAT. 4 by the template 'for every input the law returns true; each argument reads behind the call as it read before'; 0 by the template 'total and deterministic' (their statements: YtockimhceppkbaaGreatTotals.lean).
  GIVEN WITH THE SEED: the statements are not yours to turn. If you find one false, say at which input.
  Laid BY PROGRAM, IN A SANDBOX (cutbox-rows.mjs): the forced cells as the released guide's own fill.sh prints them over the translation 29a81cdee57f3c05… (all of the seat's roots in one cut). By AI agents, Wed Nov 11 2026. No macro, syntax, notation, axiom, sorry.
-/
import Derived.Test.YtockimhceppkbaaGreatChecked
import GoSem.Claim
import GoSem.ClaimJoined
import GoSem.ClaimMapViews
import Derived.JoinedTies
import Derived.KernelRfl
namespace Go.Proofs.YtockimhceppkbaaGreat
/- THE CELL 'sum', in the pinned program and in every row, IS THE sha256 OF THE DUMP (.gsa) THAT YtockimhceppkbaaGreatProg.lean LOADS. Nothing in Lean hashes anything: it is a label: what it is worth is what the hold of that sum in a sandbox is worth. -/
noncomputable def Tryz.pinned : Pinned := { name := "ytockimhceppkbaagreat", sum := "29a81cdee57f3c05f2a0f6eced9de0ba6771f14834066e0126a808034ad61c09", checked := Tryz.checked }
namespace Rows
def none {H : Type} : Left H := { results := [], args := [] }

/-- 'cadastrelaw07.BtreePages': WHATEVER THE INPUT: true; the input reads as it did. -/
def btreePagesSpec : ChangeSpec := { name := "btreePages", fn := fun _ => fun
  | [d1, d2] => { results := [.lit (.bool true)], args := [d1, d2] }
  | _ => none }
def btreePagesRow : OpenClaim := { program := "ytockimhceppkbaagreat", sum := "29a81cdee57f3c05f2a0f6eced9de0ba6771f14834066e0126a808034ad61c09", func := "cadastre/cadastrelaw07.BtreePages", spec := "btreePages", inPlace := ["internal/bytealg.Compare", "slices.overlaps[cadastre/btree.item]"], unfollowed := true, recurses := true, apart := false }
def BtreePagesSaid : Prop := btreePagesRow.holds Tryz.pinned (OpenSpec.ofChange btreePagesSpec)

/-- ITS FALSE NEIGHBOUR: 'it returns false'. Refute it at one input. -/
def btreePagesWrong : ChangeSpec := { name := "btreePages", fn := fun _ => fun
  | [d1, d2] => { results := [.lit (.bool false)], args := [d1, d2] }
  | _ => none }
def BtreePagesWrongFalsely : Prop := btreePagesRow.holds Tryz.pinned (OpenSpec.ofChange btreePagesWrong)

/-- 'cadastrelaw07.BtreePlaces': WHATEVER THE INPUT: true; the input reads as it did. -/
def btreePlacesSpec : ChangeSpec := { name := "btreePlaces", fn := fun _ => fun
  | [d1, d2, d3] => { results := [.lit (.bool true)], args := [d1, d2, d3] }
  | _ => none }
def btreePlacesRow : OpenClaim := { program := "ytockimhceppkbaagreat", sum := "29a81cdee57f3c05f2a0f6eced9de0ba6771f14834066e0126a808034ad61c09", func := "cadastre/cadastrelaw07.BtreePlaces", spec := "btreePlaces", inPlace := ["internal/bytealg.Compare", "slices.overlaps[cadastre/btree.item]"], unfollowed := true, recurses := true, apart := false }
def BtreePlacesSaid : Prop := btreePlacesRow.holds Tryz.pinned (OpenSpec.ofChange btreePlacesSpec)

/-- ITS FALSE NEIGHBOUR: 'it returns false'. Refute it at one input. -/
def btreePlacesWrong : ChangeSpec := { name := "btreePlaces", fn := fun _ => fun
  | [d1, d2, d3] => { results := [.lit (.bool false)], args := [d1, d2, d3] }
  | _ => none }
def BtreePlacesWrongFalsely : Prop := btreePlacesRow.holds Tryz.pinned (OpenSpec.ofChange btreePlacesWrong)

/-- 'cadastrelaw07.BtreeOrder': WHATEVER THE INPUT: true; the input reads as it did. -/
def btreeOrderSpec : ChangeSpec := { name := "btreeOrder", fn := fun _ => fun
  | [d1, d2] => { results := [.lit (.bool true)], args := [d1, d2] }
  | _ => none }
def btreeOrderRow : OpenClaim := { program := "ytockimhceppkbaagreat", sum := "29a81cdee57f3c05f2a0f6eced9de0ba6771f14834066e0126a808034ad61c09", func := "cadastre/cadastrelaw07.BtreeOrder", spec := "btreeOrder", inPlace := ["internal/bytealg.Compare", "slices.overlaps[cadastre/btree.item]"], unfollowed := true, recurses := true, apart := false }
def BtreeOrderSaid : Prop := btreeOrderRow.holds Tryz.pinned (OpenSpec.ofChange btreeOrderSpec)

/-- ITS FALSE NEIGHBOUR: 'it returns false'. Refute it at one input. -/
def btreeOrderWrong : ChangeSpec := { name := "btreeOrder", fn := fun _ => fun
  | [d1, d2] => { results := [.lit (.bool false)], args := [d1, d2] }
  | _ => none }
def BtreeOrderWrongFalsely : Prop := btreeOrderRow.holds Tryz.pinned (OpenSpec.ofChange btreeOrderWrong)

/-- 'cadastrelaw07.BtreeSorts': WHATEVER THE INPUT: true; the input reads as it did. -/
def btreeSortsSpec : ChangeSpec := { name := "btreeSorts", fn := fun _ => fun
  | [d1, d2] => { results := [.lit (.bool true)], args := [d1, d2] }
  | _ => none }
def btreeSortsRow : OpenClaim := { program := "ytockimhceppkbaagreat", sum := "29a81cdee57f3c05f2a0f6eced9de0ba6771f14834066e0126a808034ad61c09", func := "cadastre/cadastrelaw07.BtreeSorts", spec := "btreeSorts", inPlace := ["internal/bytealg.Compare", "slices.overlaps[cadastre/btree.item]"], unfollowed := true, recurses := true, apart := false }
def BtreeSortsSaid : Prop := btreeSortsRow.holds Tryz.pinned (OpenSpec.ofChange btreeSortsSpec)

/-- ITS FALSE NEIGHBOUR: 'it returns false'. Refute it at one input. -/
def btreeSortsWrong : ChangeSpec := { name := "btreeSorts", fn := fun _ => fun
  | [d1, d2] => { results := [.lit (.bool false)], args := [d1, d2] }
  | _ => none }
def BtreeSortsWrongFalsely : Prop := btreeSortsRow.holds Tryz.pinned (OpenSpec.ofChange btreeSortsWrong)

/- THE SECOND FORM. 'bulk': how many values and letters a reading holds, each counted each time it is reached (what is shared counts as often as it is met; a slice's spare places count too). A statement '..UptoSaid' is the law's where the arguments, and the package variables that the reading takes, are together of bulk at most 1048576: NARROWER than '..Said'. Prove '..Said' where nothing that the law and all that it calls make is longer than what came in: it says more and counts as full. Else prove '..UptoSaid'. A law counts once. -/
mutual
def uptoBulk {H : Type} : DataW H → Nat
  | .lit (.string bytes) => bytes.length + 1
  | .lit _ => 1
  | .nil => 1
  | .ptr d => uptoBulk d + 1
  | .slice elems spare => uptoBulkAll elems + uptoBulkAll spare + 1
  | .agg parts => uptoBulkAll parts + 1
  | .iface _ d => uptoBulk d + 1
  | .map entries => uptoBulkEntries entries + 1
  | .held _ => 1
def uptoBulkAll {H : Type} : List (DataW H) → Nat
  | [] => 0
  | d :: r => uptoBulk d + uptoBulkAll r
def uptoBulkEntries {H : Type} : List (Lit × DataW H) → Nat
  | [] => 0
  | x :: r => uptoBulkEntry x + uptoBulkEntries r
def uptoBulkEntry {H : Type} : Lit × DataW H → Nat
  | (.string bytes, d) => bytes.length + uptoBulk d + 1
  | (_, d) => uptoBulk d + 1
 end
def uptoSmall : (H : Type) → List (DataW H) → Bool := fun _ ds => decide (uptoBulkAll ds ≤ 1048576)
def OpenSpec.upto (s : _root_.Go.ChangeSpec) : _root_.Go.OpenSpec := { _root_.Go.OpenSpec.ofChange s with cond := some uptoSmall }

/-- 'cadastrelaw07.BtreePages', WHERE WHAT IT READS IS OF BULK AT MOST 1048576: true; the input reads as it did. -/
def btreePagesUptoRow : OpenClaim := { program := "ytockimhceppkbaagreat", sum := "29a81cdee57f3c05f2a0f6eced9de0ba6771f14834066e0126a808034ad61c09", func := "cadastre/cadastrelaw07.BtreePages", spec := "btreePages", inPlace := ["internal/bytealg.Compare", "slices.overlaps[cadastre/btree.item]"], unfollowed := true, recurses := true, apart := false, narrowed := true }
def BtreePagesUptoSaid : Prop := btreePagesUptoRow.holds Tryz.pinned (OpenSpec.upto btreePagesSpec)

/-- 'cadastrelaw07.BtreePlaces', WHERE WHAT IT READS IS OF BULK AT MOST 1048576: true; the input reads as it did. -/
def btreePlacesUptoRow : OpenClaim := { program := "ytockimhceppkbaagreat", sum := "29a81cdee57f3c05f2a0f6eced9de0ba6771f14834066e0126a808034ad61c09", func := "cadastre/cadastrelaw07.BtreePlaces", spec := "btreePlaces", inPlace := ["internal/bytealg.Compare", "slices.overlaps[cadastre/btree.item]"], unfollowed := true, recurses := true, apart := false, narrowed := true }
def BtreePlacesUptoSaid : Prop := btreePlacesUptoRow.holds Tryz.pinned (OpenSpec.upto btreePlacesSpec)

/-- 'cadastrelaw07.BtreeOrder', WHERE WHAT IT READS IS OF BULK AT MOST 1048576: true; the input reads as it did. -/
def btreeOrderUptoRow : OpenClaim := { program := "ytockimhceppkbaagreat", sum := "29a81cdee57f3c05f2a0f6eced9de0ba6771f14834066e0126a808034ad61c09", func := "cadastre/cadastrelaw07.BtreeOrder", spec := "btreeOrder", inPlace := ["internal/bytealg.Compare", "slices.overlaps[cadastre/btree.item]"], unfollowed := true, recurses := true, apart := false, narrowed := true }
def BtreeOrderUptoSaid : Prop := btreeOrderUptoRow.holds Tryz.pinned (OpenSpec.upto btreeOrderSpec)

/-- 'cadastrelaw07.BtreeSorts', WHERE WHAT IT READS IS OF BULK AT MOST 1048576: true; the input reads as it did. -/
def btreeSortsUptoRow : OpenClaim := { program := "ytockimhceppkbaagreat", sum := "29a81cdee57f3c05f2a0f6eced9de0ba6771f14834066e0126a808034ad61c09", func := "cadastre/cadastrelaw07.BtreeSorts", spec := "btreeSorts", inPlace := ["internal/bytealg.Compare", "slices.overlaps[cadastre/btree.item]"], unfollowed := true, recurses := true, apart := false, narrowed := true }
def BtreeSortsUptoSaid : Prop := btreeSortsUptoRow.holds Tryz.pinned (OpenSpec.upto btreeSortsSpec)

end Rows
end Go.Proofs.YtockimhceppkbaaGreat
