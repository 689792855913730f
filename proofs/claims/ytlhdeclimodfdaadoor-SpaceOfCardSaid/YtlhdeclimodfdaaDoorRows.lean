/-
  NARROWER THAN 'FOR EVERY INPUT', by the rows' own cells (each row's printed sentence says how): SpaceOnce: laid · SpaceLeast: laid · SpacePlays: laid · SpaceBack: laid · SpaceOf: laid.
  DERIVED. THE GIVEN ROWS OF THIS SEAT. 5 by the template 'for every input the law returns true; each argument reads behind the call as it read before'; 0 by the template 'total and deterministic' (their statements: YtlhdeclimodfdaaDoorTotals.lean).
  GIVEN WITH THE SEED: the statements are not yours to turn. If you find one false, say at which input.
  Laid BY PROGRAM, IN A SANDBOX (cutbox-rows.mjs): the forced cells as the released guide's own fill.sh prints them over the translation 9c05938465285b76… (all of the seat's roots in one cut). By AI agents, Wed Nov 11 2026. No macro, syntax, notation, axiom, sorry.
-/
import Derived.Test.YtlhdeclimodfdaaDoorChecked
import GoSem.Claim
import GoSem.ClaimJoined
import GoSem.ClaimMapViews
import Derived.JoinedTies
import Derived.KernelRfl
namespace Go.Proofs.YtlhdeclimodfdaaDoor
/- THE CELL 'sum', in the pinned program and in every row, IS THE sha256 OF THE DUMP (.gsa) THAT YtlhdeclimodfdaaDoorProg.lean LOADS. Nothing in Lean hashes anything: it is a label: what it is worth is what the hold of that sum in a sandbox is worth. -/
noncomputable def Tryd.pinned : Pinned := { name := "ytlhdeclimodfdaadoor", sum := "9c05938465285b76d839d35ce842694c3d72122f0b3dead3b6e8897f493ec63c", checked := Tryd.checked }
namespace Rows
def none {H : Type} : Left H := { results := [], args := [] }

/- WHAT THE LISTED PACKAGE-LEVEL VARIABLES READ AS WHEN THE CALL BEGINS. Each datum BY PROGRAM (the guide's laid-datum.mjs) off the statement by which the dump's own 'gosem.cut.vars' lays the variable. In a bare row this is a premise. The card (YtlhdeclimodfdaaDoorCards.lean) ties it to the program's text. -/
def laid_math_bits_deBruijn64tab {H : Type} : DataW H := .agg [.lit (.int .u8 0), .lit (.int .u8 1), .lit (.int .u8 56), .lit (.int .u8 2), .lit (.int .u8 57), .lit (.int .u8 49), .lit (.int .u8 28), .lit (.int .u8 3), .lit (.int .u8 61), .lit (.int .u8 58), .lit (.int .u8 42), .lit (.int .u8 50), .lit (.int .u8 38), .lit (.int .u8 29), .lit (.int .u8 17), .lit (.int .u8 4), .lit (.int .u8 62), .lit (.int .u8 47), .lit (.int .u8 59), .lit (.int .u8 36), .lit (.int .u8 45), .lit (.int .u8 43), .lit (.int .u8 51), .lit (.int .u8 22), .lit (.int .u8 53), .lit (.int .u8 39), .lit (.int .u8 33), .lit (.int .u8 30), .lit (.int .u8 24), .lit (.int .u8 18), .lit (.int .u8 12), .lit (.int .u8 5), .lit (.int .u8 63), .lit (.int .u8 55), .lit (.int .u8 48), .lit (.int .u8 27), .lit (.int .u8 60), .lit (.int .u8 41), .lit (.int .u8 37), .lit (.int .u8 16), .lit (.int .u8 46), .lit (.int .u8 35), .lit (.int .u8 44), .lit (.int .u8 21), .lit (.int .u8 52), .lit (.int .u8 32), .lit (.int .u8 23), .lit (.int .u8 11), .lit (.int .u8 54), .lit (.int .u8 26), .lit (.int .u8 40), .lit (.int .u8 15), .lit (.int .u8 34), .lit (.int .u8 20), .lit (.int .u8 31), .lit (.int .u8 10), .lit (.int .u8 25), .lit (.int .u8 14), .lit (.int .u8 19), .lit (.int .u8 9), .lit (.int .u8 13), .lit (.int .u8 8), .lit (.int .u8 7), .lit (.int .u8 6)]

/-- 'lapstonelaw09.SpaceOnce': WHATEVER THE INPUT: true; the input reads as it did. -/
def spaceOnceSpec : ChangeSpec := { name := "spaceOnce", fn := fun _ => fun
  | [d1, d2] => { results := [.lit (.bool true)], args := [d1, d2] }
  | _ => none }
def spaceOnceRow : OpenClaim := { program := "ytlhdeclimodfdaadoor", sum := "9c05938465285b76d839d35ce842694c3d72122f0b3dead3b6e8897f493ec63c", func := "lapstone/lapstonelaw09.SpaceOnce", spec := "spaceOnce", unfollowed := true, recurses := true, named := ["math/bits.deBruijn64tab"], apart := false, laid := [("math/bits.deBruijn64tab", laid_math_bits_deBruijn64tab)] }
def SpaceOnceSaid : Prop := spaceOnceRow.holds Tryd.pinned (OpenSpec.ofChange spaceOnceSpec)

/-- ITS FALSE NEIGHBOUR: 'it returns false'. Refute it at one input. -/
def spaceOnceWrong : ChangeSpec := { name := "spaceOnce", fn := fun _ => fun
  | [d1, d2] => { results := [.lit (.bool false)], args := [d1, d2] }
  | _ => none }
def SpaceOnceWrongFalsely : Prop := spaceOnceRow.holds Tryd.pinned (OpenSpec.ofChange spaceOnceWrong)

/-- 'lapstonelaw09.SpaceLeast': WHATEVER THE INPUT: true; the input reads as it did. -/
def spaceLeastSpec : ChangeSpec := { name := "spaceLeast", fn := fun _ => fun
  | [d1, d2] => { results := [.lit (.bool true)], args := [d1, d2] }
  | _ => none }
def spaceLeastRow : OpenClaim := { program := "ytlhdeclimodfdaadoor", sum := "9c05938465285b76d839d35ce842694c3d72122f0b3dead3b6e8897f493ec63c", func := "lapstone/lapstonelaw09.SpaceLeast", spec := "spaceLeast", unfollowed := true, recurses := true, named := ["math/bits.deBruijn64tab"], apart := false, laid := [("math/bits.deBruijn64tab", laid_math_bits_deBruijn64tab)] }
def SpaceLeastSaid : Prop := spaceLeastRow.holds Tryd.pinned (OpenSpec.ofChange spaceLeastSpec)

/-- ITS FALSE NEIGHBOUR: 'it returns false'. Refute it at one input. -/
def spaceLeastWrong : ChangeSpec := { name := "spaceLeast", fn := fun _ => fun
  | [d1, d2] => { results := [.lit (.bool false)], args := [d1, d2] }
  | _ => none }
def SpaceLeastWrongFalsely : Prop := spaceLeastRow.holds Tryd.pinned (OpenSpec.ofChange spaceLeastWrong)

/-- 'lapstonelaw09.SpacePlays': WHATEVER THE INPUT: true; the input reads as it did. -/
def spacePlaysSpec : ChangeSpec := { name := "spacePlays", fn := fun _ => fun
  | [d1, d2] => { results := [.lit (.bool true)], args := [d1, d2] }
  | _ => none }
def spacePlaysRow : OpenClaim := { program := "ytlhdeclimodfdaadoor", sum := "9c05938465285b76d839d35ce842694c3d72122f0b3dead3b6e8897f493ec63c", func := "lapstone/lapstonelaw09.SpacePlays", spec := "spacePlays", unfollowed := true, recurses := true, named := ["math/bits.deBruijn64tab"], apart := false, laid := [("math/bits.deBruijn64tab", laid_math_bits_deBruijn64tab)] }
def SpacePlaysSaid : Prop := spacePlaysRow.holds Tryd.pinned (OpenSpec.ofChange spacePlaysSpec)

/-- ITS FALSE NEIGHBOUR: 'it returns false'. Refute it at one input. -/
def spacePlaysWrong : ChangeSpec := { name := "spacePlays", fn := fun _ => fun
  | [d1, d2] => { results := [.lit (.bool false)], args := [d1, d2] }
  | _ => none }
def SpacePlaysWrongFalsely : Prop := spacePlaysRow.holds Tryd.pinned (OpenSpec.ofChange spacePlaysWrong)

/-- 'lapstonelaw09.SpaceBack': WHATEVER THE INPUT: true; the input reads as it did. -/
def spaceBackSpec : ChangeSpec := { name := "spaceBack", fn := fun _ => fun
  | [d1, d2, d3] => { results := [.lit (.bool true)], args := [d1, d2, d3] }
  | _ => none }
def spaceBackRow : OpenClaim := { program := "ytlhdeclimodfdaadoor", sum := "9c05938465285b76d839d35ce842694c3d72122f0b3dead3b6e8897f493ec63c", func := "lapstone/lapstonelaw09.SpaceBack", spec := "spaceBack", unfollowed := true, recurses := true, named := ["math/bits.deBruijn64tab"], apart := false, laid := [("math/bits.deBruijn64tab", laid_math_bits_deBruijn64tab)] }
def SpaceBackSaid : Prop := spaceBackRow.holds Tryd.pinned (OpenSpec.ofChange spaceBackSpec)

/-- ITS FALSE NEIGHBOUR: 'it returns false'. Refute it at one input. -/
def spaceBackWrong : ChangeSpec := { name := "spaceBack", fn := fun _ => fun
  | [d1, d2, d3] => { results := [.lit (.bool false)], args := [d1, d2, d3] }
  | _ => none }
def SpaceBackWrongFalsely : Prop := spaceBackRow.holds Tryd.pinned (OpenSpec.ofChange spaceBackWrong)

/-- 'lapstonelaw09.SpaceOf': WHATEVER THE INPUT: true; the input reads as it did. -/
def spaceOfSpec : ChangeSpec := { name := "spaceOf", fn := fun _ => fun
  | [d] => { results := [.lit (.bool true)], args := [d] }
  | _ => none }
def spaceOfRow : OpenClaim := { program := "ytlhdeclimodfdaadoor", sum := "9c05938465285b76d839d35ce842694c3d72122f0b3dead3b6e8897f493ec63c", func := "lapstone/lapstonelaw09.SpaceOf", spec := "spaceOf", unfollowed := true, recurses := true, named := ["math/bits.deBruijn64tab"], apart := false, laid := [("math/bits.deBruijn64tab", laid_math_bits_deBruijn64tab)] }
def SpaceOfSaid : Prop := spaceOfRow.holds Tryd.pinned (OpenSpec.ofChange spaceOfSpec)

/-- ITS FALSE NEIGHBOUR: 'it returns false'. Refute it at one input. -/
def spaceOfWrong : ChangeSpec := { name := "spaceOf", fn := fun _ => fun
  | [d] => { results := [.lit (.bool false)], args := [d] }
  | _ => none }
def SpaceOfWrongFalsely : Prop := spaceOfRow.holds Tryd.pinned (OpenSpec.ofChange spaceOfWrong)

/- THE SECOND FORM. 'bulk': how many values and letters a reading holds, each counted each time it is reached (what is shared counts as often as it is met; a slice's spare places count too). A statement '..UptoSaid' is the law's where the arguments, and the package variables that the reading takes, are together of bulk at most 1048576: NARROWER than '..Said'. Prove '..Said' where nothing that the law and all that it calls make is longer than what came in: it says more and counts as full. Else prove '..UptoSaid'. A law counts once. -/
mutual
def uptoBulk {H : Type} : DataW H → Nat
  | .lit (.string bytes) => bytes.length + 1
  | .lit _ => 1
  | .nil => 1
  | .ptr d => uptoBulk d + 1
  | .slice elems spare => uptoBulkAll elems + uptoBulkAll spare + 1
  | .agg parts => uptoBulkAll parts + 1
  | .iface _ d => uptoBulk d + 1
  | .map entries => uptoBulkEntries entries + 1
  | .held _ => 1
def uptoBulkAll {H : Type} : List (DataW H) → Nat
  | [] => 0
  | d :: r => uptoBulk d + uptoBulkAll r
def uptoBulkEntries {H : Type} : List (Lit × DataW H) → Nat
  | [] => 0
  | x :: r => uptoBulkEntry x + uptoBulkEntries r
def uptoBulkEntry {H : Type} : Lit × DataW H → Nat
  | (.string bytes, d) => bytes.length + uptoBulk d + 1
  | (_, d) => uptoBulk d + 1
 end
def uptoSmall : (H : Type) → List (DataW H) → Bool := fun _ ds => decide (uptoBulkAll ds ≤ 1048576)
def OpenSpec.upto (s : _root_.Go.ChangeSpec) : _root_.Go.OpenSpec := { _root_.Go.OpenSpec.ofChange s with cond := some uptoSmall }

/-- 'lapstonelaw09.SpaceOnce', WHERE WHAT IT READS IS OF BULK AT MOST 1048576: true; the input reads as it did. -/
def spaceOnceUptoRow : OpenClaim := { program := "ytlhdeclimodfdaadoor", sum := "9c05938465285b76d839d35ce842694c3d72122f0b3dead3b6e8897f493ec63c", func := "lapstone/lapstonelaw09.SpaceOnce", spec := "spaceOnce", unfollowed := true, recurses := true, named := ["math/bits.deBruijn64tab"], apart := false, laid := [("math/bits.deBruijn64tab", laid_math_bits_deBruijn64tab)], narrowed := true }
def SpaceOnceUptoSaid : Prop := spaceOnceUptoRow.holds Tryd.pinned (OpenSpec.upto spaceOnceSpec)

/-- 'lapstonelaw09.SpaceLeast', WHERE WHAT IT READS IS OF BULK AT MOST 1048576: true; the input reads as it did. -/
def spaceLeastUptoRow : OpenClaim := { program := "ytlhdeclimodfdaadoor", sum := "9c05938465285b76d839d35ce842694c3d72122f0b3dead3b6e8897f493ec63c", func := "lapstone/lapstonelaw09.SpaceLeast", spec := "spaceLeast", unfollowed := true, recurses := true, named := ["math/bits.deBruijn64tab"], apart := false, laid := [("math/bits.deBruijn64tab", laid_math_bits_deBruijn64tab)], narrowed := true }
def SpaceLeastUptoSaid : Prop := spaceLeastUptoRow.holds Tryd.pinned (OpenSpec.upto spaceLeastSpec)

/-- 'lapstonelaw09.SpacePlays', WHERE WHAT IT READS IS OF BULK AT MOST 1048576: true; the input reads as it did. -/
def spacePlaysUptoRow : OpenClaim := { program := "ytlhdeclimodfdaadoor", sum := "9c05938465285b76d839d35ce842694c3d72122f0b3dead3b6e8897f493ec63c", func := "lapstone/lapstonelaw09.SpacePlays", spec := "spacePlays", unfollowed := true, recurses := true, named := ["math/bits.deBruijn64tab"], apart := false, laid := [("math/bits.deBruijn64tab", laid_math_bits_deBruijn64tab)], narrowed := true }
def SpacePlaysUptoSaid : Prop := spacePlaysUptoRow.holds Tryd.pinned (OpenSpec.upto spacePlaysSpec)

/-- 'lapstonelaw09.SpaceBack', WHERE WHAT IT READS IS OF BULK AT MOST 1048576: true; the input reads as it did. -/
def spaceBackUptoRow : OpenClaim := { program := "ytlhdeclimodfdaadoor", sum := "9c05938465285b76d839d35ce842694c3d72122f0b3dead3b6e8897f493ec63c", func := "lapstone/lapstonelaw09.SpaceBack", spec := "spaceBack", unfollowed := true, recurses := true, named := ["math/bits.deBruijn64tab"], apart := false, laid := [("math/bits.deBruijn64tab", laid_math_bits_deBruijn64tab)], narrowed := true }
def SpaceBackUptoSaid : Prop := spaceBackUptoRow.holds Tryd.pinned (OpenSpec.upto spaceBackSpec)

/-- 'lapstonelaw09.SpaceOf', WHERE WHAT IT READS IS OF BULK AT MOST 1048576: true; the input reads as it did. -/
def spaceOfUptoRow : OpenClaim := { program := "ytlhdeclimodfdaadoor", sum := "9c05938465285b76d839d35ce842694c3d72122f0b3dead3b6e8897f493ec63c", func := "lapstone/lapstonelaw09.SpaceOf", spec := "spaceOf", unfollowed := true, recurses := true, named := ["math/bits.deBruijn64tab"], apart := false, laid := [("math/bits.deBruijn64tab", laid_math_bits_deBruijn64tab)], narrowed := true }
def SpaceOfUptoSaid : Prop := spaceOfUptoRow.holds Tryd.pinned (OpenSpec.upto spaceOfSpec)

end Rows
end Go.Proofs.YtlhdeclimodfdaaDoor
