/-
  DERIVED. GIVEN WITH THE SEED: THE CARDS: each row of YtcnkmandddfdmaaGreatDoorRows.lean that lists a variable, with what it lists TIED to the program's text (the seventh form; the later family's looks); each row that meets fmt, with fmt's text TOLD by the authors' own Lean function (tested against real Go, not proved from fmt's source: count such statements apart). THE CARD IS WHAT COUNTS. Prove the row's statement (the work); the ties are given (YtcnkmandddfdmaaGreatDoorTie.lean); close each card by the builder's one call (the guide's Derived/Test/ToyasCard.lean, 'card_holds'). Laid BY PROGRAM, IN A SANDBOX (cutbox-door.mjs). By AI agents, Wed Nov 11 2026. No macro, syntax, notation, axiom, sorry.
-/
import Derived.Test.YtcnkmandddfdmaaGreatDoorRows
import GoSem.ClaimSeven
namespace Go.Proofs.YtcnkmandddfdmaaGreatDoor
namespace Rows

/-- THE TIED CARD OF 'cadastrelaw23.DmlBack'. -/
def dmlBackCard : Claim7 := { stood := { row := dmlBackRow, standIns := [], harness := (true, "79c752de8ca8a2ead0ce4a749b53bef8a4bded197ed125cf38065f66c3dc68f2"), looks := false }, kinds := [], alts := [], laidByText := true, laidKinds := [.data, .data, .data, .data, .pinned, .pinned], laidTests := true, laidLooks := .later }
def DmlBackCardSaid : Prop := Claim7.holds Tryz.pinned (.plain (OpenSpec.ofChange dmlBackSpec)) dmlBackCard

/-- THE SECOND FORM's CARD OF 'cadastrelaw23.DmlBack'. -/
def dmlBackUptoCard : Claim7 := { stood := { row := dmlBackUptoRow, standIns := [], harness := (true, "79c752de8ca8a2ead0ce4a749b53bef8a4bded197ed125cf38065f66c3dc68f2"), looks := false }, kinds := [], alts := [], laidByText := true, laidKinds := [.data, .data, .data, .data, .pinned, .pinned], laidTests := true, laidLooks := .later }
def DmlBackUptoCardSaid : Prop := Claim7.holds Tryz.pinned (.plain (OpenSpec.upto dmlBackSpec)) dmlBackUptoCard
end Rows
end Go.Proofs.YtcnkmandddfdmaaGreatDoor
