/-
  DERIVED. GIVEN WITH THE SEED: THE CARDS: each row of YtpcblbbddccgpaaGreatDoorRows.lean that lists a variable, with what it lists TIED to the program's text (the seventh form; the later family's looks); each row that meets fmt, with fmt's text TOLD by the authors' own Lean function (tested against real Go, not proved from fmt's source: count such statements apart). THE CARD IS WHAT COUNTS. Prove the row's statement (the work); the ties are given (YtpcblbbddccgpaaGreatDoorTie.lean); close each card by the builder's one call (the guide's Derived/Test/ToyasCard.lean, 'card_holds'). Laid BY PROGRAM, IN A SANDBOX (cutbox-door.mjs). By AI agents, Wed Nov 11 2026. No macro, syntax, notation, axiom, sorry.
-/
import Derived.Test.YtpcblbbddccgpaaGreatDoorRows
import GoSem.ClaimSeven
namespace Go.Proofs.YtpcblbbddccgpaaGreatDoor
namespace Rows

/-- THE TIED CARD OF 'cadastrelaw17.RelJoins'. -/
def relJoinsCard : Claim7 := { stood := { row := relJoinsRow, standIns := [], harness := (true, "7f703fb762ea963d0f45907be10ee969480b2803bc62625fe4b76d964ee9aec2"), looks := false }, kinds := [], alts := [], laidByText := true, laidKinds := [.data, .data, .data, .data, .pinned, .pinned], laidTests := true, laidLooks := .later }
def RelJoinsCardSaid : Prop := Claim7.holds Tryz.pinned (.plain (OpenSpec.ofChange relJoinsSpec)) relJoinsCard

/-- THE TIED CARD OF 'cadastrelaw17.RelTells'. -/
def relTellsCard : Claim7 := { stood := { row := relTellsRow, standIns := [], harness := (true, "7f703fb762ea963d0f45907be10ee969480b2803bc62625fe4b76d964ee9aec2"), looks := false }, kinds := [], alts := [], laidByText := true, laidKinds := [.data, .data, .data, .data, .pinned, .pinned], laidTests := true, laidLooks := .later }
def RelTellsCardSaid : Prop := Claim7.holds Tryz.pinned (.plain (OpenSpec.ofChange relTellsSpec)) relTellsCard

/-- THE SECOND FORM's CARD OF 'cadastrelaw17.RelJoins'. -/
def relJoinsUptoCard : Claim7 := { stood := { row := relJoinsUptoRow, standIns := [], harness := (true, "7f703fb762ea963d0f45907be10ee969480b2803bc62625fe4b76d964ee9aec2"), looks := false }, kinds := [], alts := [], laidByText := true, laidKinds := [.data, .data, .data, .data, .pinned, .pinned], laidTests := true, laidLooks := .later }
def RelJoinsUptoCardSaid : Prop := Claim7.holds Tryz.pinned (.plain (OpenSpec.upto relJoinsSpec)) relJoinsUptoCard

/-- THE SECOND FORM's CARD OF 'cadastrelaw17.RelTells'. -/
def relTellsUptoCard : Claim7 := { stood := { row := relTellsUptoRow, standIns := [], harness := (true, "7f703fb762ea963d0f45907be10ee969480b2803bc62625fe4b76d964ee9aec2"), looks := false }, kinds := [], alts := [], laidByText := true, laidKinds := [.data, .data, .data, .data, .pinned, .pinned], laidTests := true, laidLooks := .later }
def RelTellsUptoCardSaid : Prop := Claim7.holds Tryz.pinned (.plain (OpenSpec.upto relTellsSpec)) relTellsUptoCard
end Rows
end Go.Proofs.YtpcblbbddccgpaaGreatDoor
