/-
  NARROWER THAN 'FOR EVERY INPUT', by the rows' own cells (each row's printed sentence says how): MovePuts: laid · MoveGets: laid · MoveChunks: laid · MoveFull: laid · MoveCopies: laid.
  DERIVED. THE GIVEN ROWS OF THIS SEAT. 5 by the template 'for every input the law returns true; each argument reads behind the call as it read before'; 0 by the template 'total and deterministic' (their statements: YtdkobefpnjbgnaaGreatDoorTotals.lean).
  GIVEN WITH THE SEED: the statements are not yours to turn. If you find one false, say at which input.
  Laid BY PROGRAM, IN A SANDBOX (cutbox-rows.mjs): the forced cells as the released guide's own fill.sh prints them over the translation d673d6abf0dec7ec… (all of the seat's roots in one cut). By AI agents, Wed Nov 11 2026. No macro, syntax, notation, axiom, sorry.
-/
import Derived.Test.YtdkobefpnjbgnaaGreatDoorChecked
import GoSem.Claim
import GoSem.ClaimJoined
import GoSem.ClaimMapViews
import Derived.JoinedTies
import Derived.KernelRfl
namespace Go.Proofs.YtdkobefpnjbgnaaGreatDoor
/- THE CELL 'sum', in the pinned program and in every row, IS THE sha256 OF THE DUMP (.gsa) THAT YtdkobefpnjbgnaaGreatDoorProg.lean LOADS. Nothing in Lean hashes anything: it is a label: what it is worth is what the hold of that sum in a sandbox is worth. -/
noncomputable def Tryz.pinned : Pinned := { name := "ytdkobefpnjbgnaagreatdoor", sum := "d673d6abf0dec7ec27032b9cc23e2bf7485517a87fd6dfa082692246c3856d3e", checked := Tryz.checked }
namespace Rows
def none {H : Type} : Left H := { results := [], args := [] }

/- WHAT THE LISTED PACKAGE-LEVEL VARIABLES READ AS WHEN THE CALL BEGINS. Each datum BY PROGRAM (the guide's laid-datum.mjs) off the statement by which the dump's own 'gosem.cut.vars' lays the variable. In a bare row this is a premise. The card (YtdkobefpnjbgnaaGreatDoorCards.lean) ties it to the program's text. -/
def laid_lapstone_num_bits {H : Type} : DataW H := .agg [.lit (.int .u64 0), .lit (.int .u64 8), .lit (.int .u64 16), .lit (.int .u64 24), .lit (.int .u64 32), .lit (.int .u64 40), .lit (.int .u64 48), .lit (.int .u64 56), .lit (.int .u64 64)]

/-- 'lapstonelaw28.MovePuts': WHATEVER THE INPUT: true; the input reads as it did. -/
def movePutsSpec : ChangeSpec := { name := "movePuts", fn := fun _ => fun
  | [d] => { results := [.lit (.bool true)], args := [d] }
  | _ => none }
def movePutsRow : OpenClaim := { program := "ytdkobefpnjbgnaagreatdoor", sum := "d673d6abf0dec7ec27032b9cc23e2bf7485517a87fd6dfa082692246c3856d3e", func := "lapstone/lapstonelaw28.MovePuts", spec := "movePuts", inPlace := ["slices.overlaps[lapstone/api.Cell]"], unfollowed := true, recurses := true, named := ["lapstone/num.bits"], apart := false, laid := [("lapstone/num.bits", laid_lapstone_num_bits)] }
def MovePutsSaid : Prop := movePutsRow.holds Tryz.pinned (OpenSpec.ofChange movePutsSpec)

/-- ITS FALSE NEIGHBOUR: 'it returns false'. Refute it at one input. -/
def movePutsWrong : ChangeSpec := { name := "movePuts", fn := fun _ => fun
  | [d] => { results := [.lit (.bool false)], args := [d] }
  | _ => none }
def MovePutsWrongFalsely : Prop := movePutsRow.holds Tryz.pinned (OpenSpec.ofChange movePutsWrong)

/-- 'lapstonelaw28.MoveGets': WHATEVER THE INPUT: true; the input reads as it did. -/
def moveGetsSpec : ChangeSpec := { name := "moveGets", fn := fun _ => fun
  | [d] => { results := [.lit (.bool true)], args := [d] }
  | _ => none }
def moveGetsRow : OpenClaim := { program := "ytdkobefpnjbgnaagreatdoor", sum := "d673d6abf0dec7ec27032b9cc23e2bf7485517a87fd6dfa082692246c3856d3e", func := "lapstone/lapstonelaw28.MoveGets", spec := "moveGets", inPlace := ["slices.overlaps[lapstone/api.Cell]"], unfollowed := true, recurses := true, named := ["lapstone/num.bits"], apart := false, laid := [("lapstone/num.bits", laid_lapstone_num_bits)] }
def MoveGetsSaid : Prop := moveGetsRow.holds Tryz.pinned (OpenSpec.ofChange moveGetsSpec)

/-- ITS FALSE NEIGHBOUR: 'it returns false'. Refute it at one input. -/
def moveGetsWrong : ChangeSpec := { name := "moveGets", fn := fun _ => fun
  | [d] => { results := [.lit (.bool false)], args := [d] }
  | _ => none }
def MoveGetsWrongFalsely : Prop := moveGetsRow.holds Tryz.pinned (OpenSpec.ofChange moveGetsWrong)

/-- 'lapstonelaw28.MoveChunks': WHATEVER THE INPUT: true; the input reads as it did. -/
def moveChunksSpec : ChangeSpec := { name := "moveChunks", fn := fun _ => fun
  | [d1, d2, d3] => { results := [.lit (.bool true)], args := [d1, d2, d3] }
  | _ => none }
def moveChunksRow : OpenClaim := { program := "ytdkobefpnjbgnaagreatdoor", sum := "d673d6abf0dec7ec27032b9cc23e2bf7485517a87fd6dfa082692246c3856d3e", func := "lapstone/lapstonelaw28.MoveChunks", spec := "moveChunks", inPlace := ["slices.overlaps[lapstone/api.Cell]"], unfollowed := true, recurses := true, named := ["lapstone/num.bits"], apart := false, laid := [("lapstone/num.bits", laid_lapstone_num_bits)] }
def MoveChunksSaid : Prop := moveChunksRow.holds Tryz.pinned (OpenSpec.ofChange moveChunksSpec)

/-- ITS FALSE NEIGHBOUR: 'it returns false'. Refute it at one input. -/
def moveChunksWrong : ChangeSpec := { name := "moveChunks", fn := fun _ => fun
  | [d1, d2, d3] => { results := [.lit (.bool false)], args := [d1, d2, d3] }
  | _ => none }
def MoveChunksWrongFalsely : Prop := moveChunksRow.holds Tryz.pinned (OpenSpec.ofChange moveChunksWrong)

/-- 'lapstonelaw28.MoveFull': WHATEVER THE INPUT: true; the input reads as it did. -/
def moveFullSpec : ChangeSpec := { name := "moveFull", fn := fun _ => fun
  | [d1, d2] => { results := [.lit (.bool true)], args := [d1, d2] }
  | _ => none }
def moveFullRow : OpenClaim := { program := "ytdkobefpnjbgnaagreatdoor", sum := "d673d6abf0dec7ec27032b9cc23e2bf7485517a87fd6dfa082692246c3856d3e", func := "lapstone/lapstonelaw28.MoveFull", spec := "moveFull", inPlace := ["slices.overlaps[lapstone/api.Cell]"], unfollowed := true, recurses := true, named := ["lapstone/num.bits"], apart := false, laid := [("lapstone/num.bits", laid_lapstone_num_bits)] }
def MoveFullSaid : Prop := moveFullRow.holds Tryz.pinned (OpenSpec.ofChange moveFullSpec)

/-- ITS FALSE NEIGHBOUR: 'it returns false'. Refute it at one input. -/
def moveFullWrong : ChangeSpec := { name := "moveFull", fn := fun _ => fun
  | [d1, d2] => { results := [.lit (.bool false)], args := [d1, d2] }
  | _ => none }
def MoveFullWrongFalsely : Prop := moveFullRow.holds Tryz.pinned (OpenSpec.ofChange moveFullWrong)

/-- 'lapstonelaw28.MoveCopies': WHATEVER THE INPUT: true; the input reads as it did. -/
def moveCopiesSpec : ChangeSpec := { name := "moveCopies", fn := fun _ => fun
  | [d1, d2, d3] => { results := [.lit (.bool true)], args := [d1, d2, d3] }
  | _ => none }
def moveCopiesRow : OpenClaim := { program := "ytdkobefpnjbgnaagreatdoor", sum := "d673d6abf0dec7ec27032b9cc23e2bf7485517a87fd6dfa082692246c3856d3e", func := "lapstone/lapstonelaw28.MoveCopies", spec := "moveCopies", inPlace := ["slices.overlaps[lapstone/api.Cell]"], unfollowed := true, recurses := true, named := ["lapstone/num.bits"], apart := false, laid := [("lapstone/num.bits", laid_lapstone_num_bits)] }
def MoveCopiesSaid : Prop := moveCopiesRow.holds Tryz.pinned (OpenSpec.ofChange moveCopiesSpec)

/-- ITS FALSE NEIGHBOUR: 'it returns false'. Refute it at one input. -/
def moveCopiesWrong : ChangeSpec := { name := "moveCopies", fn := fun _ => fun
  | [d1, d2, d3] => { results := [.lit (.bool false)], args := [d1, d2, d3] }
  | _ => none }
def MoveCopiesWrongFalsely : Prop := moveCopiesRow.holds Tryz.pinned (OpenSpec.ofChange moveCopiesWrong)

/- THE SECOND FORM. 'bulk': how many values and letters a reading holds, each counted each time it is reached (what is shared counts as often as it is met; a slice's spare places count too). A statement '..UptoSaid' is the law's where the arguments, and the package variables that the reading takes, are together of bulk at most 1048576: NARROWER than '..Said'. Prove '..Said' where nothing that the law and all that it calls make is longer than what came in: it says more and counts as full. Else prove '..UptoSaid'. A law counts once. -/
mutual
def uptoBulk {H : Type} : DataW H → Nat
  | .lit (.string bytes) => bytes.length + 1
  | .lit _ => 1
  | .nil => 1
  | .ptr d => uptoBulk d + 1
  | .slice elems spare => uptoBulkAll elems + uptoBulkAll spare + 1
  | .agg parts => uptoBulkAll parts + 1
  | .iface _ d => uptoBulk d + 1
  | .map entries => uptoBulkEntries entries + 1
  | .held _ => 1
def uptoBulkAll {H : Type} : List (DataW H) → Nat
  | [] => 0
  | d :: r => uptoBulk d + uptoBulkAll r
def uptoBulkEntries {H : Type} : List (Lit × DataW H) → Nat
  | [] => 0
  | x :: r => uptoBulkEntry x + uptoBulkEntries r
def uptoBulkEntry {H : Type} : Lit × DataW H → Nat
  | (.string bytes, d) => bytes.length + uptoBulk d + 1
  | (_, d) => uptoBulk d + 1
 end
def uptoSmall : (H : Type) → List (DataW H) → Bool := fun _ ds => decide (uptoBulkAll ds ≤ 1048576)
def OpenSpec.upto (s : _root_.Go.ChangeSpec) : _root_.Go.OpenSpec := { _root_.Go.OpenSpec.ofChange s with cond := some uptoSmall }

/-- 'lapstonelaw28.MovePuts', WHERE WHAT IT READS IS OF BULK AT MOST 1048576: true; the input reads as it did. -/
def movePutsUptoRow : OpenClaim := { program := "ytdkobefpnjbgnaagreatdoor", sum := "d673d6abf0dec7ec27032b9cc23e2bf7485517a87fd6dfa082692246c3856d3e", func := "lapstone/lapstonelaw28.MovePuts", spec := "movePuts", inPlace := ["slices.overlaps[lapstone/api.Cell]"], unfollowed := true, recurses := true, named := ["lapstone/num.bits"], apart := false, laid := [("lapstone/num.bits", laid_lapstone_num_bits)], narrowed := true }
def MovePutsUptoSaid : Prop := movePutsUptoRow.holds Tryz.pinned (OpenSpec.upto movePutsSpec)

/-- 'lapstonelaw28.MoveGets', WHERE WHAT IT READS IS OF BULK AT MOST 1048576: true; the input reads as it did. -/
def moveGetsUptoRow : OpenClaim := { program := "ytdkobefpnjbgnaagreatdoor", sum := "d673d6abf0dec7ec27032b9cc23e2bf7485517a87fd6dfa082692246c3856d3e", func := "lapstone/lapstonelaw28.MoveGets", spec := "moveGets", inPlace := ["slices.overlaps[lapstone/api.Cell]"], unfollowed := true, recurses := true, named := ["lapstone/num.bits"], apart := false, laid := [("lapstone/num.bits", laid_lapstone_num_bits)], narrowed := true }
def MoveGetsUptoSaid : Prop := moveGetsUptoRow.holds Tryz.pinned (OpenSpec.upto moveGetsSpec)

/-- 'lapstonelaw28.MoveChunks', WHERE WHAT IT READS IS OF BULK AT MOST 1048576: true; the input reads as it did. -/
def moveChunksUptoRow : OpenClaim := { program := "ytdkobefpnjbgnaagreatdoor", sum := "d673d6abf0dec7ec27032b9cc23e2bf7485517a87fd6dfa082692246c3856d3e", func := "lapstone/lapstonelaw28.MoveChunks", spec := "moveChunks", inPlace := ["slices.overlaps[lapstone/api.Cell]"], unfollowed := true, recurses := true, named := ["lapstone/num.bits"], apart := false, laid := [("lapstone/num.bits", laid_lapstone_num_bits)], narrowed := true }
def MoveChunksUptoSaid : Prop := moveChunksUptoRow.holds Tryz.pinned (OpenSpec.upto moveChunksSpec)

/-- 'lapstonelaw28.MoveFull', WHERE WHAT IT READS IS OF BULK AT MOST 1048576: true; the input reads as it did. -/
def moveFullUptoRow : OpenClaim := { program := "ytdkobefpnjbgnaagreatdoor", sum := "d673d6abf0dec7ec27032b9cc23e2bf7485517a87fd6dfa082692246c3856d3e", func := "lapstone/lapstonelaw28.MoveFull", spec := "moveFull", inPlace := ["slices.overlaps[lapstone/api.Cell]"], unfollowed := true, recurses := true, named := ["lapstone/num.bits"], apart := false, laid := [("lapstone/num.bits", laid_lapstone_num_bits)], narrowed := true }
def MoveFullUptoSaid : Prop := moveFullUptoRow.holds Tryz.pinned (OpenSpec.upto moveFullSpec)

/-- 'lapstonelaw28.MoveCopies', WHERE WHAT IT READS IS OF BULK AT MOST 1048576: true; the input reads as it did. -/
def moveCopiesUptoRow : OpenClaim := { program := "ytdkobefpnjbgnaagreatdoor", sum := "d673d6abf0dec7ec27032b9cc23e2bf7485517a87fd6dfa082692246c3856d3e", func := "lapstone/lapstonelaw28.MoveCopies", spec := "moveCopies", inPlace := ["slices.overlaps[lapstone/api.Cell]"], unfollowed := true, recurses := true, named := ["lapstone/num.bits"], apart := false, laid := [("lapstone/num.bits", laid_lapstone_num_bits)], narrowed := true }
def MoveCopiesUptoSaid : Prop := moveCopiesUptoRow.holds Tryz.pinned (OpenSpec.upto moveCopiesSpec)

end Rows
end Go.Proofs.YtdkobefpnjbgnaaGreatDoor
