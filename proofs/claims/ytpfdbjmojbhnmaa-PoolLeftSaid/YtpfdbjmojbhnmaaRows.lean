/-
  No cell of these rows narrows 'for every input' (looked for: loops, veiled, ifaces, maps, wideKeys, modest, calm, conditions, laid).
  DERIVED. THE GIVEN ROWS OF THIS SEAT. 4 by the template 'for every input the law returns true; each argument reads behind the call as it read before'; 0 by the template 'total and deterministic' (their statements: YtpfdbjmojbhnmaaTotals.lean).
  GIVEN WITH THE SEED: the statements are not yours to turn. If you find one false, say at which input.
  Laid BY PROGRAM, IN A SANDBOX (cutbox-rows.mjs): the forced cells as the released guide's own fill.sh prints them over the translation 12f05bb17d2eae48… (all of the seat's roots in one cut). By AI agents, Wed Nov 11 2026. No macro, syntax, notation, axiom, sorry.
-/
import Derived.Test.YtpfdbjmojbhnmaaChecked
import GoSem.Claim
import GoSem.ClaimJoined
import GoSem.ClaimMapViews
import Derived.JoinedTies
import Derived.KernelRfl
namespace Go.Proofs.Ytpfdbjmojbhnmaa
/- THE CELL 'sum', in the pinned program and in every row, IS THE sha256 OF THE DUMP (.gsa) THAT YtpfdbjmojbhnmaaProg.lean LOADS. Nothing in Lean hashes anything: it is a label: what it is worth is what the hold of that sum in a sandbox is worth. -/
noncomputable def Try.pinned : Pinned := { name := "ytpfdbjmojbhnmaa", sum := "12f05bb17d2eae48a6915a5ab4b8e73b2774b5eaf31cb5097410591bd5da0d00", checked := Try.checked }
namespace Rows
def none {H : Type} : Left H := { results := [], args := [] }

/-- 'cadastrelaw05.PoolLeft': WHATEVER THE INPUT: true; the input reads as it did. -/
def poolLeftSpec : ChangeSpec := { name := "poolLeft", fn := fun _ => fun
  | [d1, d2] => { results := [.lit (.bool true)], args := [d1, d2] }
  | _ => none }
def poolLeftRow : OpenClaim := { program := "ytpfdbjmojbhnmaa", sum := "12f05bb17d2eae48a6915a5ab4b8e73b2774b5eaf31cb5097410591bd5da0d00", func := "cadastre/cadastrelaw05.PoolLeft", spec := "poolLeft", unfollowed := true, recurses := true, apart := false }
def PoolLeftSaid : Prop := poolLeftRow.holds Try.pinned (OpenSpec.ofChange poolLeftSpec)

/-- ITS FALSE NEIGHBOUR: 'it returns false'. Refute it at one input. -/
def poolLeftWrong : ChangeSpec := { name := "poolLeft", fn := fun _ => fun
  | [d1, d2] => { results := [.lit (.bool false)], args := [d1, d2] }
  | _ => none }
def PoolLeftWrongFalsely : Prop := poolLeftRow.holds Try.pinned (OpenSpec.ofChange poolLeftWrong)

/-- 'cadastrelaw05.PoolRooms': WHATEVER THE INPUT: true; the input reads as it did. -/
def poolRoomsSpec : ChangeSpec := { name := "poolRooms", fn := fun _ => fun
  | [d1, d2] => { results := [.lit (.bool true)], args := [d1, d2] }
  | _ => none }
def poolRoomsRow : OpenClaim := { program := "ytpfdbjmojbhnmaa", sum := "12f05bb17d2eae48a6915a5ab4b8e73b2774b5eaf31cb5097410591bd5da0d00", func := "cadastre/cadastrelaw05.PoolRooms", spec := "poolRooms", unfollowed := true, recurses := true, apart := false }
def PoolRoomsSaid : Prop := poolRoomsRow.holds Try.pinned (OpenSpec.ofChange poolRoomsSpec)

/-- ITS FALSE NEIGHBOUR: 'it returns false'. Refute it at one input. -/
def poolRoomsWrong : ChangeSpec := { name := "poolRooms", fn := fun _ => fun
  | [d1, d2] => { results := [.lit (.bool false)], args := [d1, d2] }
  | _ => none }
def PoolRoomsWrongFalsely : Prop := poolRoomsRow.holds Try.pinned (OpenSpec.ofChange poolRoomsWrong)

/-- 'cadastrelaw05.PoolPoints': WHATEVER THE INPUT: true; the input reads as it did. -/
def poolPointsSpec : ChangeSpec := { name := "poolPoints", fn := fun _ => fun
  | [d1, d2] => { results := [.lit (.bool true)], args := [d1, d2] }
  | _ => none }
def poolPointsRow : OpenClaim := { program := "ytpfdbjmojbhnmaa", sum := "12f05bb17d2eae48a6915a5ab4b8e73b2774b5eaf31cb5097410591bd5da0d00", func := "cadastre/cadastrelaw05.PoolPoints", spec := "poolPoints", unfollowed := true, recurses := true, apart := false }
def PoolPointsSaid : Prop := poolPointsRow.holds Try.pinned (OpenSpec.ofChange poolPointsSpec)

/-- ITS FALSE NEIGHBOUR: 'it returns false'. Refute it at one input. -/
def poolPointsWrong : ChangeSpec := { name := "poolPoints", fn := fun _ => fun
  | [d1, d2] => { results := [.lit (.bool false)], args := [d1, d2] }
  | _ => none }
def PoolPointsWrongFalsely : Prop := poolPointsRow.holds Try.pinned (OpenSpec.ofChange poolPointsWrong)

/-- 'cadastrelaw05.PoolArgs': WHATEVER THE INPUT: true; the input reads as it did. -/
def poolArgsSpec : ChangeSpec := { name := "poolArgs", fn := fun _ => fun
  | [d1, d2] => { results := [.lit (.bool true)], args := [d1, d2] }
  | _ => none }
def poolArgsRow : OpenClaim := { program := "ytpfdbjmojbhnmaa", sum := "12f05bb17d2eae48a6915a5ab4b8e73b2774b5eaf31cb5097410591bd5da0d00", func := "cadastre/cadastrelaw05.PoolArgs", spec := "poolArgs", unfollowed := true, recurses := true, apart := false }
def PoolArgsSaid : Prop := poolArgsRow.holds Try.pinned (OpenSpec.ofChange poolArgsSpec)

/-- ITS FALSE NEIGHBOUR: 'it returns false'. Refute it at one input. -/
def poolArgsWrong : ChangeSpec := { name := "poolArgs", fn := fun _ => fun
  | [d1, d2] => { results := [.lit (.bool false)], args := [d1, d2] }
  | _ => none }
def PoolArgsWrongFalsely : Prop := poolArgsRow.holds Try.pinned (OpenSpec.ofChange poolArgsWrong)

/- THE SECOND FORM. 'bulk': how many values and letters a reading holds, each counted each time it is reached (what is shared counts as often as it is met; a slice's spare places count too). A statement '..UptoSaid' is the law's where the arguments, and the package variables that the reading takes, are together of bulk at most 1048576: NARROWER than '..Said'. Prove '..Said' where nothing that the law and all that it calls make is longer than what came in: it says more and counts as full. Else prove '..UptoSaid'. A law counts once. -/
mutual
def uptoBulk {H : Type} : DataW H → Nat
  | .lit (.string bytes) => bytes.length + 1
  | .lit _ => 1
  | .nil => 1
  | .ptr d => uptoBulk d + 1
  | .slice elems spare => uptoBulkAll elems + uptoBulkAll spare + 1
  | .agg parts => uptoBulkAll parts + 1
  | .iface _ d => uptoBulk d + 1
  | .map entries => uptoBulkEntries entries + 1
  | .held _ => 1
def uptoBulkAll {H : Type} : List (DataW H) → Nat
  | [] => 0
  | d :: r => uptoBulk d + uptoBulkAll r
def uptoBulkEntries {H : Type} : List (Lit × DataW H) → Nat
  | [] => 0
  | x :: r => uptoBulkEntry x + uptoBulkEntries r
def uptoBulkEntry {H : Type} : Lit × DataW H → Nat
  | (.string bytes, d) => bytes.length + uptoBulk d + 1
  | (_, d) => uptoBulk d + 1
 end
def uptoSmall : (H : Type) → List (DataW H) → Bool := fun _ ds => decide (uptoBulkAll ds ≤ 1048576)
def OpenSpec.upto (s : _root_.Go.ChangeSpec) : _root_.Go.OpenSpec := { _root_.Go.OpenSpec.ofChange s with cond := some uptoSmall }

/-- 'cadastrelaw05.PoolLeft', WHERE WHAT IT READS IS OF BULK AT MOST 1048576: true; the input reads as it did. -/
def poolLeftUptoRow : OpenClaim := { program := "ytpfdbjmojbhnmaa", sum := "12f05bb17d2eae48a6915a5ab4b8e73b2774b5eaf31cb5097410591bd5da0d00", func := "cadastre/cadastrelaw05.PoolLeft", spec := "poolLeft", unfollowed := true, recurses := true, apart := false, narrowed := true }
def PoolLeftUptoSaid : Prop := poolLeftUptoRow.holds Try.pinned (OpenSpec.upto poolLeftSpec)

/-- 'cadastrelaw05.PoolRooms', WHERE WHAT IT READS IS OF BULK AT MOST 1048576: true; the input reads as it did. -/
def poolRoomsUptoRow : OpenClaim := { program := "ytpfdbjmojbhnmaa", sum := "12f05bb17d2eae48a6915a5ab4b8e73b2774b5eaf31cb5097410591bd5da0d00", func := "cadastre/cadastrelaw05.PoolRooms", spec := "poolRooms", unfollowed := true, recurses := true, apart := false, narrowed := true }
def PoolRoomsUptoSaid : Prop := poolRoomsUptoRow.holds Try.pinned (OpenSpec.upto poolRoomsSpec)

/-- 'cadastrelaw05.PoolPoints', WHERE WHAT IT READS IS OF BULK AT MOST 1048576: true; the input reads as it did. -/
def poolPointsUptoRow : OpenClaim := { program := "ytpfdbjmojbhnmaa", sum := "12f05bb17d2eae48a6915a5ab4b8e73b2774b5eaf31cb5097410591bd5da0d00", func := "cadastre/cadastrelaw05.PoolPoints", spec := "poolPoints", unfollowed := true, recurses := true, apart := false, narrowed := true }
def PoolPointsUptoSaid : Prop := poolPointsUptoRow.holds Try.pinned (OpenSpec.upto poolPointsSpec)

/-- 'cadastrelaw05.PoolArgs', WHERE WHAT IT READS IS OF BULK AT MOST 1048576: true; the input reads as it did. -/
def poolArgsUptoRow : OpenClaim := { program := "ytpfdbjmojbhnmaa", sum := "12f05bb17d2eae48a6915a5ab4b8e73b2774b5eaf31cb5097410591bd5da0d00", func := "cadastre/cadastrelaw05.PoolArgs", spec := "poolArgs", unfollowed := true, recurses := true, apart := false, narrowed := true }
def PoolArgsUptoSaid : Prop := poolArgsUptoRow.holds Try.pinned (OpenSpec.upto poolArgsSpec)

end Rows
end Go.Proofs.Ytpfdbjmojbhnmaa
