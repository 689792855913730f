/-
  NARROWER THAN 'FOR EVERY INPUT', by the rows' own cells (each row's printed sentence says how): MoveChunks: laid · ViewCollects: laid · MoveFull: laid · MoveCopies: laid.
  DERIVED. THE GIVEN ROWS OF THIS SEAT. 4 by the template 'for every input the law returns true; each argument reads behind the call as it read before'; 0 by the template 'total and deterministic' (their statements: YthnlcbamjehpdaaGreatDoorTotals.lean).
  GIVEN WITH THE SEED: the statements are not yours to turn. If you find one false, say at which input.
  Laid BY PROGRAM, IN A SANDBOX (cutbox-rows.mjs): the forced cells as the released guide's own fill.sh prints them over the translation 0973c0cfe3568718… (all of the seat's roots in one cut). By AI agents, Wed Nov 11 2026. No macro, syntax, notation, axiom, sorry.
-/
import Derived.Test.YthnlcbamjehpdaaGreatDoorChecked
import GoSem.Claim
import GoSem.ClaimJoined
import GoSem.ClaimMapViews
import Derived.JoinedTies
import Derived.KernelRfl
namespace Go.Proofs.YthnlcbamjehpdaaGreatDoor
/- THE CELL 'sum', in the pinned program and in every row, IS THE sha256 OF THE DUMP (.gsa) THAT YthnlcbamjehpdaaGreatDoorProg.lean LOADS. Nothing in Lean hashes anything: it is a label: what it is worth is what the hold of that sum in a sandbox is worth. -/
noncomputable def Tryz.pinned : Pinned := { name := "ythnlcbamjehpdaagreatdoor", sum := "0973c0cfe356871827d5ec8548087fc44175f331ad0932af7e674fc97b5c6be1", checked := Tryz.checked }
namespace Rows
def none {H : Type} : Left H := { results := [], args := [] }

/- WHAT THE LISTED PACKAGE-LEVEL VARIABLES READ AS WHEN THE CALL BEGINS. Each datum BY PROGRAM (the guide's laid-datum.mjs) off the statement by which the dump's own 'gosem.cut.vars' lays the variable. In a bare row this is a premise. The card (YthnlcbamjehpdaaGreatDoorCards.lean) ties it to the program's text. -/
def laid_lapstone_num_bits {H : Type} : DataW H := .agg [.lit (.int .u64 0), .lit (.int .u64 8), .lit (.int .u64 16), .lit (.int .u64 24), .lit (.int .u64 32), .lit (.int .u64 40), .lit (.int .u64 48), .lit (.int .u64 56), .lit (.int .u64 64)]

/-- 'lapstonelaw28.MoveChunks': WHATEVER THE INPUT: true; the input reads as it did. -/
def moveChunksSpec : ChangeSpec := { name := "moveChunks", fn := fun _ => fun
  | [d1, d2, d3] => { results := [.lit (.bool true)], args := [d1, d2, d3] }
  | _ => none }
def moveChunksRow : OpenClaim := { program := "ythnlcbamjehpdaagreatdoor", sum := "0973c0cfe356871827d5ec8548087fc44175f331ad0932af7e674fc97b5c6be1", func := "lapstone/lapstonelaw28.MoveChunks", spec := "moveChunks", inPlace := ["slices.overlaps[lapstone/api.Cell]"], unfollowed := true, recurses := true, named := ["lapstone/num.bits"], apart := false, laid := [("lapstone/num.bits", laid_lapstone_num_bits)] }
def MoveChunksSaid : Prop := moveChunksRow.holds Tryz.pinned (OpenSpec.ofChange moveChunksSpec)

/-- ITS FALSE NEIGHBOUR: 'it returns false'. Refute it at one input. -/
def moveChunksWrong : ChangeSpec := { name := "moveChunks", fn := fun _ => fun
  | [d1, d2, d3] => { results := [.lit (.bool false)], args := [d1, d2, d3] }
  | _ => none }
def MoveChunksWrongFalsely : Prop := moveChunksRow.holds Tryz.pinned (OpenSpec.ofChange moveChunksWrong)

/-- 'lapstonelaw17.ViewCollects': WHATEVER THE INPUT: true; the input reads as it did. -/
def viewCollectsSpec : ChangeSpec := { name := "viewCollects", fn := fun _ => fun
  | [d1, d2, d3] => { results := [.lit (.bool true)], args := [d1, d2, d3] }
  | _ => none }
def viewCollectsRow : OpenClaim := { program := "ythnlcbamjehpdaagreatdoor", sum := "0973c0cfe356871827d5ec8548087fc44175f331ad0932af7e674fc97b5c6be1", func := "lapstone/lapstonelaw17.ViewCollects", spec := "viewCollects", inPlace := ["slices.overlaps[lapstone/api.Cell]"], unfollowed := true, recurses := true, named := ["lapstone/num.bits"], apart := false, laid := [("lapstone/num.bits", laid_lapstone_num_bits)] }
def ViewCollectsSaid : Prop := viewCollectsRow.holds Tryz.pinned (OpenSpec.ofChange viewCollectsSpec)

/-- ITS FALSE NEIGHBOUR: 'it returns false'. Refute it at one input. -/
def viewCollectsWrong : ChangeSpec := { name := "viewCollects", fn := fun _ => fun
  | [d1, d2, d3] => { results := [.lit (.bool false)], args := [d1, d2, d3] }
  | _ => none }
def ViewCollectsWrongFalsely : Prop := viewCollectsRow.holds Tryz.pinned (OpenSpec.ofChange viewCollectsWrong)

/-- 'lapstonelaw28.MoveFull': WHATEVER THE INPUT: true; the input reads as it did. -/
def moveFullSpec : ChangeSpec := { name := "moveFull", fn := fun _ => fun
  | [d1, d2] => { results := [.lit (.bool true)], args := [d1, d2] }
  | _ => none }
def moveFullRow : OpenClaim := { program := "ythnlcbamjehpdaagreatdoor", sum := "0973c0cfe356871827d5ec8548087fc44175f331ad0932af7e674fc97b5c6be1", func := "lapstone/lapstonelaw28.MoveFull", spec := "moveFull", inPlace := ["slices.overlaps[lapstone/api.Cell]"], unfollowed := true, recurses := true, named := ["lapstone/num.bits"], apart := false, laid := [("lapstone/num.bits", laid_lapstone_num_bits)] }
def MoveFullSaid : Prop := moveFullRow.holds Tryz.pinned (OpenSpec.ofChange moveFullSpec)

/-- ITS FALSE NEIGHBOUR: 'it returns false'. Refute it at one input. -/
def moveFullWrong : ChangeSpec := { name := "moveFull", fn := fun _ => fun
  | [d1, d2] => { results := [.lit (.bool false)], args := [d1, d2] }
  | _ => none }
def MoveFullWrongFalsely : Prop := moveFullRow.holds Tryz.pinned (OpenSpec.ofChange moveFullWrong)

/-- 'lapstonelaw28.MoveCopies': WHATEVER THE INPUT: true; the input reads as it did. -/
def moveCopiesSpec : ChangeSpec := { name := "moveCopies", fn := fun _ => fun
  | [d1, d2, d3] => { results := [.lit (.bool true)], args := [d1, d2, d3] }
  | _ => none }
def moveCopiesRow : OpenClaim := { program := "ythnlcbamjehpdaagreatdoor", sum := "0973c0cfe356871827d5ec8548087fc44175f331ad0932af7e674fc97b5c6be1", func := "lapstone/lapstonelaw28.MoveCopies", spec := "moveCopies", inPlace := ["slices.overlaps[lapstone/api.Cell]"], unfollowed := true, recurses := true, named := ["lapstone/num.bits"], apart := false, laid := [("lapstone/num.bits", laid_lapstone_num_bits)] }
def MoveCopiesSaid : Prop := moveCopiesRow.holds Tryz.pinned (OpenSpec.ofChange moveCopiesSpec)

/-- ITS FALSE NEIGHBOUR: 'it returns false'. Refute it at one input. -/
def moveCopiesWrong : ChangeSpec := { name := "moveCopies", fn := fun _ => fun
  | [d1, d2, d3] => { results := [.lit (.bool false)], args := [d1, d2, d3] }
  | _ => none }
def MoveCopiesWrongFalsely : Prop := moveCopiesRow.holds Tryz.pinned (OpenSpec.ofChange moveCopiesWrong)

/- THE SECOND FORM. 'bulk': how many values and letters a reading holds, each counted each time it is reached (what is shared counts as often as it is met; a slice's spare places count too). A statement '..UptoSaid' is the law's where the arguments, and the package variables that the reading takes, are together of bulk at most 1048576: NARROWER than '..Said'. Prove '..Said' where nothing that the law and all that it calls make is longer than what came in: it says more and counts as full. Else prove '..UptoSaid'. A law counts once. -/
mutual
def uptoBulk {H : Type} : DataW H → Nat
  | .lit (.string bytes) => bytes.length + 1
  | .lit _ => 1
  | .nil => 1
  | .ptr d => uptoBulk d + 1
  | .slice elems spare => uptoBulkAll elems + uptoBulkAll spare + 1
  | .agg parts => uptoBulkAll parts + 1
  | .iface _ d => uptoBulk d + 1
  | .map entries => uptoBulkEntries entries + 1
  | .held _ => 1
def uptoBulkAll {H : Type} : List (DataW H) → Nat
  | [] => 0
  | d :: r => uptoBulk d + uptoBulkAll r
def uptoBulkEntries {H : Type} : List (Lit × DataW H) → Nat
  | [] => 0
  | x :: r => uptoBulkEntry x + uptoBulkEntries r
def uptoBulkEntry {H : Type} : Lit × DataW H → Nat
  | (.string bytes, d) => bytes.length + uptoBulk d + 1
  | (_, d) => uptoBulk d + 1
 end
def uptoSmall : (H : Type) → List (DataW H) → Bool := fun _ ds => decide (uptoBulkAll ds ≤ 1048576)
def OpenSpec.upto (s : _root_.Go.ChangeSpec) : _root_.Go.OpenSpec := { _root_.Go.OpenSpec.ofChange s with cond := some uptoSmall }

/-- 'lapstonelaw28.MoveChunks', WHERE WHAT IT READS IS OF BULK AT MOST 1048576: true; the input reads as it did. -/
def moveChunksUptoRow : OpenClaim := { program := "ythnlcbamjehpdaagreatdoor", sum := "0973c0cfe356871827d5ec8548087fc44175f331ad0932af7e674fc97b5c6be1", func := "lapstone/lapstonelaw28.MoveChunks", spec := "moveChunks", inPlace := ["slices.overlaps[lapstone/api.Cell]"], unfollowed := true, recurses := true, named := ["lapstone/num.bits"], apart := false, laid := [("lapstone/num.bits", laid_lapstone_num_bits)], narrowed := true }
def MoveChunksUptoSaid : Prop := moveChunksUptoRow.holds Tryz.pinned (OpenSpec.upto moveChunksSpec)

/-- 'lapstonelaw17.ViewCollects', WHERE WHAT IT READS IS OF BULK AT MOST 1048576: true; the input reads as it did. -/
def viewCollectsUptoRow : OpenClaim := { program := "ythnlcbamjehpdaagreatdoor", sum := "0973c0cfe356871827d5ec8548087fc44175f331ad0932af7e674fc97b5c6be1", func := "lapstone/lapstonelaw17.ViewCollects", spec := "viewCollects", inPlace := ["slices.overlaps[lapstone/api.Cell]"], unfollowed := true, recurses := true, named := ["lapstone/num.bits"], apart := false, laid := [("lapstone/num.bits", laid_lapstone_num_bits)], narrowed := true }
def ViewCollectsUptoSaid : Prop := viewCollectsUptoRow.holds Tryz.pinned (OpenSpec.upto viewCollectsSpec)

/-- 'lapstonelaw28.MoveFull', WHERE WHAT IT READS IS OF BULK AT MOST 1048576: true; the input reads as it did. -/
def moveFullUptoRow : OpenClaim := { program := "ythnlcbamjehpdaagreatdoor", sum := "0973c0cfe356871827d5ec8548087fc44175f331ad0932af7e674fc97b5c6be1", func := "lapstone/lapstonelaw28.MoveFull", spec := "moveFull", inPlace := ["slices.overlaps[lapstone/api.Cell]"], unfollowed := true, recurses := true, named := ["lapstone/num.bits"], apart := false, laid := [("lapstone/num.bits", laid_lapstone_num_bits)], narrowed := true }
def MoveFullUptoSaid : Prop := moveFullUptoRow.holds Tryz.pinned (OpenSpec.upto moveFullSpec)

/-- 'lapstonelaw28.MoveCopies', WHERE WHAT IT READS IS OF BULK AT MOST 1048576: true; the input reads as it did. -/
def moveCopiesUptoRow : OpenClaim := { program := "ythnlcbamjehpdaagreatdoor", sum := "0973c0cfe356871827d5ec8548087fc44175f331ad0932af7e674fc97b5c6be1", func := "lapstone/lapstonelaw28.MoveCopies", spec := "moveCopies", inPlace := ["slices.overlaps[lapstone/api.Cell]"], unfollowed := true, recurses := true, named := ["lapstone/num.bits"], apart := false, laid := [("lapstone/num.bits", laid_lapstone_num_bits)], narrowed := true }
def MoveCopiesUptoSaid : Prop := moveCopiesUptoRow.holds Tryz.pinned (OpenSpec.upto moveCopiesSpec)

end Rows
end Go.Proofs.YthnlcbamjehpdaaGreatDoor
