/-
  NARROWER THAN 'FOR EVERY INPUT', by the rows' own cells (each row's printed sentence says how): TableFinds: laid · TableMarks: laid · TableFits: laid · TableLasts: laid.
  DERIVED. THE GIVEN ROWS OF THIS SEAT. 4 by the template 'for every input the law returns true; each argument reads behind the call as it read before'; 0 by the template 'total and deterministic' (their statements: YtpoigihfeehehaaGreatDoorTotals.lean).
  GIVEN WITH THE SEED: the statements are not yours to turn. If you find one false, say at which input.
  Laid BY PROGRAM, IN A SANDBOX (cutbox-rows.mjs): the forced cells as the released guide's own fill.sh prints them over the translation c877e21b41fadc4b… (all of the seat's roots in one cut). By AI agents, Wed Nov 11 2026. No macro, syntax, notation, axiom, sorry.
-/
import Derived.Test.YtpoigihfeehehaaGreatDoorChecked
import GoSem.PinnedTables
import GoSem.Claim
import GoSem.ClaimJoined
import GoSem.ClaimMapViews
import Derived.JoinedTies
import Derived.KernelRfl
namespace Go.Proofs.YtpoigihfeehehaaGreatDoor
/- THE CELL 'sum', in the pinned program and in every row, IS THE sha256 OF THE DUMP (.gsa) THAT YtpoigihfeehehaaGreatDoorProg.lean LOADS. Nothing in Lean hashes anything: it is a label: what it is worth is what the hold of that sum in a sandbox is worth. -/
noncomputable def Tryz.pinned : Pinned := { name := "ytpoigihfeehehaagreatdoor", sum := "c877e21b41fadc4b2f926c8f45047cec880c197f3316c8dfefe4f29210a7f0da", checked := Tryz.checked }
namespace Rows
def none {H : Type} : Left H := { results := [], args := [] }

/- WHAT THE LISTED PACKAGE-LEVEL VARIABLES READ AS WHEN THE CALL BEGINS. Each datum BY PROGRAM (the guide's laid-datum.mjs) off the statement by which the dump's own 'gosem.cut.vars' lays the variable. In a bare row this is a premise. The card (YtpoigihfeehehaaGreatDoorCards.lean) ties it to the program's text. -/
def laid_unicode_utf8_acceptRanges {H : Type} : DataW H := .agg [.agg [.lit (.int .u8 128), .lit (.int .u8 191)], .agg [.lit (.int .u8 160), .lit (.int .u8 191)], .agg [.lit (.int .u8 128), .lit (.int .u8 159)], .agg [.lit (.int .u8 144), .lit (.int .u8 191)], .agg [.lit (.int .u8 128), .lit (.int .u8 143)], .agg [.lit (.int .u8 0), .lit (.int .u8 0)], .agg [.lit (.int .u8 0), .lit (.int .u8 0)], .agg [.lit (.int .u8 0), .lit (.int .u8 0)], .agg [.lit (.int .u8 0), .lit (.int .u8 0)], .agg [.lit (.int .u8 0), .lit (.int .u8 0)], .agg [.lit (.int .u8 0), .lit (.int .u8 0)], .agg [.lit (.int .u8 0), .lit (.int .u8 0)], .agg [.lit (.int .u8 0), .lit (.int .u8 0)], .agg [.lit (.int .u8 0), .lit (.int .u8 0)], .agg [.lit (.int .u8 0), .lit (.int .u8 0)], .agg [.lit (.int .u8 0), .lit (.int .u8 0)]]
/-- One of Go's own tables, pinned by name: the form's constant. -/
def laid_unicode_utf8_first : DataW Unit := Go.Pinned.utf8First

/-- 'cadastrelaw21.TableFinds': WHATEVER THE INPUT: true; the input reads as it did. -/
def tableFindsSpec : ChangeSpec := { name := "tableFinds", fn := fun _ => fun
  | [d1, d2, d3] => { results := [.lit (.bool true)], args := [d1, d2, d3] }
  | _ => none }
def tableFindsRow : OpenClaim := { program := "ytpoigihfeehehaagreatdoor", sum := "c877e21b41fadc4b2f926c8f45047cec880c197f3316c8dfefe4f29210a7f0da", func := "cadastre/cadastrelaw21.TableFinds", spec := "tableFinds", inPlace := ["internal/bytealg.Compare", "slices.overlaps[cadastre/btree.item]", "internal/bytealg.CountString", "internal/bytealg.IndexByteString", "internal/bytealg.IndexString", "internal/abi.NoEscape", "internal/bytealg.MakeNoZero"], unfollowed := true, recurses := true, named := ["internal/bytealg.MaxLen", "unicode/utf8.first", "unicode/utf8.acceptRanges"], apart := false, laid := [("unicode/utf8.acceptRanges", laid_unicode_utf8_acceptRanges), ("unicode/utf8.first", laid_unicode_utf8_first)] }
def TableFindsSaid : Prop := tableFindsRow.holds Tryz.pinned (OpenSpec.ofChange tableFindsSpec)

/-- ITS FALSE NEIGHBOUR: 'it returns false'. Refute it at one input. -/
def tableFindsWrong : ChangeSpec := { name := "tableFinds", fn := fun _ => fun
  | [d1, d2, d3] => { results := [.lit (.bool false)], args := [d1, d2, d3] }
  | _ => none }
def TableFindsWrongFalsely : Prop := tableFindsRow.holds Tryz.pinned (OpenSpec.ofChange tableFindsWrong)

/-- 'cadastrelaw21.TableMarks': WHATEVER THE INPUT: true; the input reads as it did. -/
def tableMarksSpec : ChangeSpec := { name := "tableMarks", fn := fun _ => fun
  | [d] => { results := [.lit (.bool true)], args := [d] }
  | _ => none }
def tableMarksRow : OpenClaim := { program := "ytpoigihfeehehaagreatdoor", sum := "c877e21b41fadc4b2f926c8f45047cec880c197f3316c8dfefe4f29210a7f0da", func := "cadastre/cadastrelaw21.TableMarks", spec := "tableMarks", inPlace := ["internal/bytealg.Compare", "slices.overlaps[cadastre/btree.item]", "internal/bytealg.CountString", "internal/bytealg.IndexByteString", "internal/bytealg.IndexString", "internal/abi.NoEscape", "internal/bytealg.MakeNoZero"], unfollowed := true, recurses := true, named := ["internal/bytealg.MaxLen", "unicode/utf8.first", "unicode/utf8.acceptRanges"], apart := false, laid := [("unicode/utf8.acceptRanges", laid_unicode_utf8_acceptRanges), ("unicode/utf8.first", laid_unicode_utf8_first)] }
def TableMarksSaid : Prop := tableMarksRow.holds Tryz.pinned (OpenSpec.ofChange tableMarksSpec)

/-- ITS FALSE NEIGHBOUR: 'it returns false'. Refute it at one input. -/
def tableMarksWrong : ChangeSpec := { name := "tableMarks", fn := fun _ => fun
  | [d] => { results := [.lit (.bool false)], args := [d] }
  | _ => none }
def TableMarksWrongFalsely : Prop := tableMarksRow.holds Tryz.pinned (OpenSpec.ofChange tableMarksWrong)

/-- 'cadastrelaw21.TableFits': WHATEVER THE INPUT: true; the input reads as it did. -/
def tableFitsSpec : ChangeSpec := { name := "tableFits", fn := fun _ => fun
  | [d] => { results := [.lit (.bool true)], args := [d] }
  | _ => none }
def tableFitsRow : OpenClaim := { program := "ytpoigihfeehehaagreatdoor", sum := "c877e21b41fadc4b2f926c8f45047cec880c197f3316c8dfefe4f29210a7f0da", func := "cadastre/cadastrelaw21.TableFits", spec := "tableFits", inPlace := ["internal/bytealg.Compare", "slices.overlaps[cadastre/btree.item]", "internal/bytealg.CountString", "internal/bytealg.IndexByteString", "internal/bytealg.IndexString", "internal/abi.NoEscape", "internal/bytealg.MakeNoZero"], unfollowed := true, recurses := true, named := ["internal/bytealg.MaxLen", "unicode/utf8.first", "unicode/utf8.acceptRanges"], apart := false, laid := [("unicode/utf8.acceptRanges", laid_unicode_utf8_acceptRanges), ("unicode/utf8.first", laid_unicode_utf8_first)] }
def TableFitsSaid : Prop := tableFitsRow.holds Tryz.pinned (OpenSpec.ofChange tableFitsSpec)

/-- ITS FALSE NEIGHBOUR: 'it returns false'. Refute it at one input. -/
def tableFitsWrong : ChangeSpec := { name := "tableFits", fn := fun _ => fun
  | [d] => { results := [.lit (.bool false)], args := [d] }
  | _ => none }
def TableFitsWrongFalsely : Prop := tableFitsRow.holds Tryz.pinned (OpenSpec.ofChange tableFitsWrong)

/-- 'cadastrelaw21.TableLasts': WHATEVER THE INPUT: true; the input reads as it did. -/
def tableLastsSpec : ChangeSpec := { name := "tableLasts", fn := fun _ => fun
  | [d1, d2] => { results := [.lit (.bool true)], args := [d1, d2] }
  | _ => none }
def tableLastsRow : OpenClaim := { program := "ytpoigihfeehehaagreatdoor", sum := "c877e21b41fadc4b2f926c8f45047cec880c197f3316c8dfefe4f29210a7f0da", func := "cadastre/cadastrelaw21.TableLasts", spec := "tableLasts", inPlace := ["internal/bytealg.Compare", "slices.overlaps[cadastre/btree.item]", "internal/bytealg.CountString", "internal/bytealg.IndexByteString", "internal/bytealg.IndexString", "internal/abi.NoEscape", "internal/bytealg.MakeNoZero"], unfollowed := true, recurses := true, named := ["internal/bytealg.MaxLen", "unicode/utf8.first", "unicode/utf8.acceptRanges"], apart := false, laid := [("unicode/utf8.acceptRanges", laid_unicode_utf8_acceptRanges), ("unicode/utf8.first", laid_unicode_utf8_first)] }
def TableLastsSaid : Prop := tableLastsRow.holds Tryz.pinned (OpenSpec.ofChange tableLastsSpec)

/-- ITS FALSE NEIGHBOUR: 'it returns false'. Refute it at one input. -/
def tableLastsWrong : ChangeSpec := { name := "tableLasts", fn := fun _ => fun
  | [d1, d2] => { results := [.lit (.bool false)], args := [d1, d2] }
  | _ => none }
def TableLastsWrongFalsely : Prop := tableLastsRow.holds Tryz.pinned (OpenSpec.ofChange tableLastsWrong)

/- THE SECOND FORM. 'bulk': how many values and letters a reading holds, each counted each time it is reached (what is shared counts as often as it is met; a slice's spare places count too). A statement '..UptoSaid' is the law's where the arguments, and the package variables that the reading takes, are together of bulk at most 1048576: NARROWER than '..Said'. Prove '..Said' where nothing that the law and all that it calls make is longer than what came in: it says more and counts as full. Else prove '..UptoSaid'. A law counts once. -/
mutual
def uptoBulk {H : Type} : DataW H → Nat
  | .lit (.string bytes) => bytes.length + 1
  | .lit _ => 1
  | .nil => 1
  | .ptr d => uptoBulk d + 1
  | .slice elems spare => uptoBulkAll elems + uptoBulkAll spare + 1
  | .agg parts => uptoBulkAll parts + 1
  | .iface _ d => uptoBulk d + 1
  | .map entries => uptoBulkEntries entries + 1
  | .held _ => 1
def uptoBulkAll {H : Type} : List (DataW H) → Nat
  | [] => 0
  | d :: r => uptoBulk d + uptoBulkAll r
def uptoBulkEntries {H : Type} : List (Lit × DataW H) → Nat
  | [] => 0
  | x :: r => uptoBulkEntry x + uptoBulkEntries r
def uptoBulkEntry {H : Type} : Lit × DataW H → Nat
  | (.string bytes, d) => bytes.length + uptoBulk d + 1
  | (_, d) => uptoBulk d + 1
 end
def uptoSmall : (H : Type) → List (DataW H) → Bool := fun _ ds => decide (uptoBulkAll ds ≤ 1048576)
def OpenSpec.upto (s : _root_.Go.ChangeSpec) : _root_.Go.OpenSpec := { _root_.Go.OpenSpec.ofChange s with cond := some uptoSmall }

/-- 'cadastrelaw21.TableFinds', WHERE WHAT IT READS IS OF BULK AT MOST 1048576: true; the input reads as it did. -/
def tableFindsUptoRow : OpenClaim := { program := "ytpoigihfeehehaagreatdoor", sum := "c877e21b41fadc4b2f926c8f45047cec880c197f3316c8dfefe4f29210a7f0da", func := "cadastre/cadastrelaw21.TableFinds", spec := "tableFinds", inPlace := ["internal/bytealg.Compare", "slices.overlaps[cadastre/btree.item]", "internal/bytealg.CountString", "internal/bytealg.IndexByteString", "internal/bytealg.IndexString", "internal/abi.NoEscape", "internal/bytealg.MakeNoZero"], unfollowed := true, recurses := true, named := ["internal/bytealg.MaxLen", "unicode/utf8.first", "unicode/utf8.acceptRanges"], apart := false, laid := [("unicode/utf8.acceptRanges", laid_unicode_utf8_acceptRanges), ("unicode/utf8.first", laid_unicode_utf8_first)], narrowed := true }
def TableFindsUptoSaid : Prop := tableFindsUptoRow.holds Tryz.pinned (OpenSpec.upto tableFindsSpec)

/-- 'cadastrelaw21.TableMarks', WHERE WHAT IT READS IS OF BULK AT MOST 1048576: true; the input reads as it did. -/
def tableMarksUptoRow : OpenClaim := { program := "ytpoigihfeehehaagreatdoor", sum := "c877e21b41fadc4b2f926c8f45047cec880c197f3316c8dfefe4f29210a7f0da", func := "cadastre/cadastrelaw21.TableMarks", spec := "tableMarks", inPlace := ["internal/bytealg.Compare", "slices.overlaps[cadastre/btree.item]", "internal/bytealg.CountString", "internal/bytealg.IndexByteString", "internal/bytealg.IndexString", "internal/abi.NoEscape", "internal/bytealg.MakeNoZero"], unfollowed := true, recurses := true, named := ["internal/bytealg.MaxLen", "unicode/utf8.first", "unicode/utf8.acceptRanges"], apart := false, laid := [("unicode/utf8.acceptRanges", laid_unicode_utf8_acceptRanges), ("unicode/utf8.first", laid_unicode_utf8_first)], narrowed := true }
def TableMarksUptoSaid : Prop := tableMarksUptoRow.holds Tryz.pinned (OpenSpec.upto tableMarksSpec)

/-- 'cadastrelaw21.TableFits', WHERE WHAT IT READS IS OF BULK AT MOST 1048576: true; the input reads as it did. -/
def tableFitsUptoRow : OpenClaim := { program := "ytpoigihfeehehaagreatdoor", sum := "c877e21b41fadc4b2f926c8f45047cec880c197f3316c8dfefe4f29210a7f0da", func := "cadastre/cadastrelaw21.TableFits", spec := "tableFits", inPlace := ["internal/bytealg.Compare", "slices.overlaps[cadastre/btree.item]", "internal/bytealg.CountString", "internal/bytealg.IndexByteString", "internal/bytealg.IndexString", "internal/abi.NoEscape", "internal/bytealg.MakeNoZero"], unfollowed := true, recurses := true, named := ["internal/bytealg.MaxLen", "unicode/utf8.first", "unicode/utf8.acceptRanges"], apart := false, laid := [("unicode/utf8.acceptRanges", laid_unicode_utf8_acceptRanges), ("unicode/utf8.first", laid_unicode_utf8_first)], narrowed := true }
def TableFitsUptoSaid : Prop := tableFitsUptoRow.holds Tryz.pinned (OpenSpec.upto tableFitsSpec)

/-- 'cadastrelaw21.TableLasts', WHERE WHAT IT READS IS OF BULK AT MOST 1048576: true; the input reads as it did. -/
def tableLastsUptoRow : OpenClaim := { program := "ytpoigihfeehehaagreatdoor", sum := "c877e21b41fadc4b2f926c8f45047cec880c197f3316c8dfefe4f29210a7f0da", func := "cadastre/cadastrelaw21.TableLasts", spec := "tableLasts", inPlace := ["internal/bytealg.Compare", "slices.overlaps[cadastre/btree.item]", "internal/bytealg.CountString", "internal/bytealg.IndexByteString", "internal/bytealg.IndexString", "internal/abi.NoEscape", "internal/bytealg.MakeNoZero"], unfollowed := true, recurses := true, named := ["internal/bytealg.MaxLen", "unicode/utf8.first", "unicode/utf8.acceptRanges"], apart := false, laid := [("unicode/utf8.acceptRanges", laid_unicode_utf8_acceptRanges), ("unicode/utf8.first", laid_unicode_utf8_first)], narrowed := true }
def TableLastsUptoSaid : Prop := tableLastsUptoRow.holds Tryz.pinned (OpenSpec.upto tableLastsSpec)

end Rows
end Go.Proofs.YtpoigihfeehehaaGreatDoor
