/-
  DERIVED. GIVEN WITH THE SEED: THE CARDS: each row of YtpoigihfeehehaaGreatDoorRows.lean that lists a variable, with what it lists TIED to the program's text (the seventh form; the later family's looks); each row that meets fmt, with fmt's text TOLD by the authors' own Lean function (tested against real Go, not proved from fmt's source: count such statements apart). THE CARD IS WHAT COUNTS. Prove the row's statement (the work); the ties are given (YtpoigihfeehehaaGreatDoorTie.lean); close each card by the builder's one call (the guide's Derived/Test/ToyasCard.lean, 'card_holds'). Laid BY PROGRAM, IN A SANDBOX (cutbox-door.mjs). By AI agents, Wed Nov 11 2026. No macro, syntax, notation, axiom, sorry.
-/
import Derived.Test.YtpoigihfeehehaaGreatDoorRows
import GoSem.ClaimSeven
namespace Go.Proofs.YtpoigihfeehehaaGreatDoor
namespace Rows

/-- THE TIED CARD OF 'cadastrelaw21.TableFinds'. -/
def tableFindsCard : Claim7 := { stood := { row := tableFindsRow, standIns := [], harness := (true, "f35a3e05e5124a28fb7d12523efbb6267046a117dc3f0f6c78b83394b7c6e730"), looks := true }, kinds := [], alts := [], laidByText := true, laidKinds := [.data, .pinned], laidTests := true, laidLooks := .later }
def TableFindsCardSaid : Prop := Claim7.holds Tryz.pinned (.plain (OpenSpec.ofChange tableFindsSpec)) tableFindsCard

/-- THE TIED CARD OF 'cadastrelaw21.TableMarks'. -/
def tableMarksCard : Claim7 := { stood := { row := tableMarksRow, standIns := [], harness := (true, "f35a3e05e5124a28fb7d12523efbb6267046a117dc3f0f6c78b83394b7c6e730"), looks := true }, kinds := [], alts := [], laidByText := true, laidKinds := [.data, .pinned], laidTests := true, laidLooks := .later }
def TableMarksCardSaid : Prop := Claim7.holds Tryz.pinned (.plain (OpenSpec.ofChange tableMarksSpec)) tableMarksCard

/-- THE TIED CARD OF 'cadastrelaw21.TableFits'. -/
def tableFitsCard : Claim7 := { stood := { row := tableFitsRow, standIns := [], harness := (true, "f35a3e05e5124a28fb7d12523efbb6267046a117dc3f0f6c78b83394b7c6e730"), looks := true }, kinds := [], alts := [], laidByText := true, laidKinds := [.data, .pinned], laidTests := true, laidLooks := .later }
def TableFitsCardSaid : Prop := Claim7.holds Tryz.pinned (.plain (OpenSpec.ofChange tableFitsSpec)) tableFitsCard

/-- THE TIED CARD OF 'cadastrelaw21.TableLasts'. -/
def tableLastsCard : Claim7 := { stood := { row := tableLastsRow, standIns := [], harness := (true, "f35a3e05e5124a28fb7d12523efbb6267046a117dc3f0f6c78b83394b7c6e730"), looks := true }, kinds := [], alts := [], laidByText := true, laidKinds := [.data, .pinned], laidTests := true, laidLooks := .later }
def TableLastsCardSaid : Prop := Claim7.holds Tryz.pinned (.plain (OpenSpec.ofChange tableLastsSpec)) tableLastsCard

/-- THE SECOND FORM's CARD OF 'cadastrelaw21.TableFinds'. -/
def tableFindsUptoCard : Claim7 := { stood := { row := tableFindsUptoRow, standIns := [], harness := (true, "f35a3e05e5124a28fb7d12523efbb6267046a117dc3f0f6c78b83394b7c6e730"), looks := true }, kinds := [], alts := [], laidByText := true, laidKinds := [.data, .pinned], laidTests := true, laidLooks := .later }
def TableFindsUptoCardSaid : Prop := Claim7.holds Tryz.pinned (.plain (OpenSpec.upto tableFindsSpec)) tableFindsUptoCard

/-- THE SECOND FORM's CARD OF 'cadastrelaw21.TableMarks'. -/
def tableMarksUptoCard : Claim7 := { stood := { row := tableMarksUptoRow, standIns := [], harness := (true, "f35a3e05e5124a28fb7d12523efbb6267046a117dc3f0f6c78b83394b7c6e730"), looks := true }, kinds := [], alts := [], laidByText := true, laidKinds := [.data, .pinned], laidTests := true, laidLooks := .later }
def TableMarksUptoCardSaid : Prop := Claim7.holds Tryz.pinned (.plain (OpenSpec.upto tableMarksSpec)) tableMarksUptoCard

/-- THE SECOND FORM's CARD OF 'cadastrelaw21.TableFits'. -/
def tableFitsUptoCard : Claim7 := { stood := { row := tableFitsUptoRow, standIns := [], harness := (true, "f35a3e05e5124a28fb7d12523efbb6267046a117dc3f0f6c78b83394b7c6e730"), looks := true }, kinds := [], alts := [], laidByText := true, laidKinds := [.data, .pinned], laidTests := true, laidLooks := .later }
def TableFitsUptoCardSaid : Prop := Claim7.holds Tryz.pinned (.plain (OpenSpec.upto tableFitsSpec)) tableFitsUptoCard

/-- THE SECOND FORM's CARD OF 'cadastrelaw21.TableLasts'. -/
def tableLastsUptoCard : Claim7 := { stood := { row := tableLastsUptoRow, standIns := [], harness := (true, "f35a3e05e5124a28fb7d12523efbb6267046a117dc3f0f6c78b83394b7c6e730"), looks := true }, kinds := [], alts := [], laidByText := true, laidKinds := [.data, .pinned], laidTests := true, laidLooks := .later }
def TableLastsUptoCardSaid : Prop := Claim7.holds Tryz.pinned (.plain (OpenSpec.upto tableLastsSpec)) tableLastsUptoCard
end Rows
end Go.Proofs.YtpoigihfeehehaaGreatDoor
