/-
  DERIVED. GIVEN WITH THE SEED: THE CARDS: each row of YtpcblbbddccgpaaDoorRows.lean that lists a variable, with what it lists TIED to the program's text (the seventh form; the later family's looks); each row that meets fmt, with fmt's text TOLD by the authors' own Lean function (tested against real Go, not proved from fmt's source: count such statements apart). THE CARD IS WHAT COUNTS. Prove the row's statement (the work); the ties are given (YtpcblbbddccgpaaDoorTie.lean); close each card by the builder's one call (the guide's Derived/Test/ToyasCard.lean, 'card_holds'). Laid BY PROGRAM, IN A SANDBOX (cutbox-door.mjs). By AI agents, Wed Nov 11 2026. No macro, syntax, notation, axiom, sorry.
-/
import Derived.Test.YtpcblbbddccgpaaDoorRows
import GoSem.ClaimSeven
namespace Go.Proofs.YtpcblbbddccgpaaDoor
namespace Rows

/-- THE TIED CARD OF 'cadastrelaw17.RelParts'. -/
def relPartsCard : Claim7 := { stood := { row := relPartsRow, standIns := [], harness := (true, "af795ef55e12f04f492f1ce14a3d402d6dbcf1122759cf1d4338687b618af88e"), looks := false }, kinds := [], alts := [], laidByText := true, laidKinds := [.data, .data, .data, .data, .pinned, .pinned], laidTests := true, laidLooks := .later }
def RelPartsCardSaid : Prop := Claim7.holds Tryd.pinned (.plain (OpenSpec.ofChange relPartsSpec)) relPartsCard

/-- THE TIED CARD OF 'cadastrelaw17.RelTwice'. -/
def relTwiceCard : Claim7 := { stood := { row := relTwiceRow, standIns := [], harness := (true, "af795ef55e12f04f492f1ce14a3d402d6dbcf1122759cf1d4338687b618af88e"), looks := false }, kinds := [], alts := [], laidByText := true, laidKinds := [.data, .data, .data, .data, .pinned, .pinned], laidTests := true, laidLooks := .later }
def RelTwiceCardSaid : Prop := Claim7.holds Tryd.pinned (.plain (OpenSpec.ofChange relTwiceSpec)) relTwiceCard

/-- THE TIED CARD OF 'cadastrelaw17.RelTurns'. -/
def relTurnsCard : Claim7 := { stood := { row := relTurnsRow, standIns := [], harness := (true, "af795ef55e12f04f492f1ce14a3d402d6dbcf1122759cf1d4338687b618af88e"), looks := false }, kinds := [], alts := [], laidByText := true, laidKinds := [.data, .data, .data, .data, .pinned, .pinned], laidTests := true, laidLooks := .later }
def RelTurnsCardSaid : Prop := Claim7.holds Tryd.pinned (.plain (OpenSpec.ofChange relTurnsSpec)) relTurnsCard

/-- THE TIED CARD OF 'cadastrelaw17.RelLimit'. -/
def relLimitCard : Claim7 := { stood := { row := relLimitRow, standIns := [], harness := (true, "af795ef55e12f04f492f1ce14a3d402d6dbcf1122759cf1d4338687b618af88e"), looks := false }, kinds := [], alts := [], laidByText := true, laidKinds := [.data, .data, .data, .data, .pinned, .pinned], laidTests := true, laidLooks := .later }
def RelLimitCardSaid : Prop := Claim7.holds Tryd.pinned (.plain (OpenSpec.ofChange relLimitSpec)) relLimitCard

/-- THE SECOND FORM's CARD OF 'cadastrelaw17.RelParts'. -/
def relPartsUptoCard : Claim7 := { stood := { row := relPartsUptoRow, standIns := [], harness := (true, "af795ef55e12f04f492f1ce14a3d402d6dbcf1122759cf1d4338687b618af88e"), looks := false }, kinds := [], alts := [], laidByText := true, laidKinds := [.data, .data, .data, .data, .pinned, .pinned], laidTests := true, laidLooks := .later }
def RelPartsUptoCardSaid : Prop := Claim7.holds Tryd.pinned (.plain (OpenSpec.upto relPartsSpec)) relPartsUptoCard

/-- THE SECOND FORM's CARD OF 'cadastrelaw17.RelTwice'. -/
def relTwiceUptoCard : Claim7 := { stood := { row := relTwiceUptoRow, standIns := [], harness := (true, "af795ef55e12f04f492f1ce14a3d402d6dbcf1122759cf1d4338687b618af88e"), looks := false }, kinds := [], alts := [], laidByText := true, laidKinds := [.data, .data, .data, .data, .pinned, .pinned], laidTests := true, laidLooks := .later }
def RelTwiceUptoCardSaid : Prop := Claim7.holds Tryd.pinned (.plain (OpenSpec.upto relTwiceSpec)) relTwiceUptoCard

/-- THE SECOND FORM's CARD OF 'cadastrelaw17.RelTurns'. -/
def relTurnsUptoCard : Claim7 := { stood := { row := relTurnsUptoRow, standIns := [], harness := (true, "af795ef55e12f04f492f1ce14a3d402d6dbcf1122759cf1d4338687b618af88e"), looks := false }, kinds := [], alts := [], laidByText := true, laidKinds := [.data, .data, .data, .data, .pinned, .pinned], laidTests := true, laidLooks := .later }
def RelTurnsUptoCardSaid : Prop := Claim7.holds Tryd.pinned (.plain (OpenSpec.upto relTurnsSpec)) relTurnsUptoCard

/-- THE SECOND FORM's CARD OF 'cadastrelaw17.RelLimit'. -/
def relLimitUptoCard : Claim7 := { stood := { row := relLimitUptoRow, standIns := [], harness := (true, "af795ef55e12f04f492f1ce14a3d402d6dbcf1122759cf1d4338687b618af88e"), looks := false }, kinds := [], alts := [], laidByText := true, laidKinds := [.data, .data, .data, .data, .pinned, .pinned], laidTests := true, laidLooks := .later }
def RelLimitUptoCardSaid : Prop := Claim7.holds Tryd.pinned (.plain (OpenSpec.upto relLimitSpec)) relLimitUptoCard
end Rows
end Go.Proofs.YtpcblbbddccgpaaDoor
