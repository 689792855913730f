/-
  NARROWER THAN 'FOR EVERY INPUT', by the rows' own cells (each row's printed sentence says how): SumBursts: laid · SumSteps: laid.
  DERIVED. THE GIVEN ROWS OF THIS SEAT. 2 by the template 'for every input the law returns true; each argument reads behind the call as it read before'; 0 by the template 'total and deterministic' (their statements: YtgoemlcbpnnciabDoorTotals.lean).
  GIVEN WITH THE SEED: the statements are not yours to turn. If you find one false, say at which input.
  Laid BY PROGRAM, IN A SANDBOX (cutbox-rows.mjs): the forced cells as the released guide's own fill.sh prints them over the translation 6e1711fe41feff36… (all of the seat's roots in one cut). By AI agents, Wed Nov 11 2026. No macro, syntax, notation, axiom, sorry.
-/
import Derived.Test.YtgoemlcbpnnciabDoorChecked
import GoSem.Claim
import GoSem.ClaimJoined
import GoSem.ClaimMapViews
import Derived.JoinedTies
import Derived.KernelRfl
namespace Go.Proofs.YtgoemlcbpnnciabDoor
/- THE CELL 'sum', in the pinned program and in every row, IS THE sha256 OF THE DUMP (.gsa) THAT YtgoemlcbpnnciabDoorProg.lean LOADS. Nothing in Lean hashes anything: it is a label: what it is worth is what the hold of that sum in a sandbox is worth. -/
noncomputable def Tryd.pinned : Pinned := { name := "ytgoemlcbpnnciabdoor", sum := "6e1711fe41feff361b042d2b811e6af63ed5a0495dda5da0be514a34d5290c37", checked := Tryd.checked }
namespace Rows
def none {H : Type} : Left H := { results := [], args := [] }

/- WHAT THE LISTED PACKAGE-LEVEL VARIABLES READ AS WHEN THE CALL BEGINS. Each datum BY PROGRAM (the guide's laid-datum.mjs) off the statement by which the dump's own 'gosem.cut.vars' lays the variable. In a bare row this is a premise. The card (YtgoemlcbpnnciabDoorCards.lean) ties it to the program's text. -/
def laid_lapstone_num_bits {H : Type} : DataW H := .agg [.lit (.int .u64 0), .lit (.int .u64 8), .lit (.int .u64 16), .lit (.int .u64 24), .lit (.int .u64 32), .lit (.int .u64 40), .lit (.int .u64 48), .lit (.int .u64 56), .lit (.int .u64 64)]

/-- 'lapstonelaw02.SumBursts': WHATEVER THE INPUT: true; the input reads as it did. -/
def sumBurstsSpec : ChangeSpec := { name := "sumBursts", fn := fun _ => fun
  | [d1, d2, d3] => { results := [.lit (.bool true)], args := [d1, d2, d3] }
  | _ => none }
def sumBurstsRow : OpenClaim := { program := "ytgoemlcbpnnciabdoor", sum := "6e1711fe41feff361b042d2b811e6af63ed5a0495dda5da0be514a34d5290c37", func := "lapstone/lapstonelaw02.SumBursts", spec := "sumBursts", unfollowed := true, recurses := true, named := ["lapstone/num.bits"], apart := false, laid := [("lapstone/num.bits", laid_lapstone_num_bits)] }
def SumBurstsSaid : Prop := sumBurstsRow.holds Tryd.pinned (OpenSpec.ofChange sumBurstsSpec)

/-- ITS FALSE NEIGHBOUR: 'it returns false'. Refute it at one input. -/
def sumBurstsWrong : ChangeSpec := { name := "sumBursts", fn := fun _ => fun
  | [d1, d2, d3] => { results := [.lit (.bool false)], args := [d1, d2, d3] }
  | _ => none }
def SumBurstsWrongFalsely : Prop := sumBurstsRow.holds Tryd.pinned (OpenSpec.ofChange sumBurstsWrong)

/-- 'lapstonelaw02.SumSteps': WHATEVER THE INPUT: true; the input reads as it did. -/
def sumStepsSpec : ChangeSpec := { name := "sumSteps", fn := fun _ => fun
  | [d1, d2] => { results := [.lit (.bool true)], args := [d1, d2] }
  | _ => none }
def sumStepsRow : OpenClaim := { program := "ytgoemlcbpnnciabdoor", sum := "6e1711fe41feff361b042d2b811e6af63ed5a0495dda5da0be514a34d5290c37", func := "lapstone/lapstonelaw02.SumSteps", spec := "sumSteps", unfollowed := true, recurses := true, named := ["lapstone/num.bits"], apart := false, laid := [("lapstone/num.bits", laid_lapstone_num_bits)] }
def SumStepsSaid : Prop := sumStepsRow.holds Tryd.pinned (OpenSpec.ofChange sumStepsSpec)

/-- ITS FALSE NEIGHBOUR: 'it returns false'. Refute it at one input. -/
def sumStepsWrong : ChangeSpec := { name := "sumSteps", fn := fun _ => fun
  | [d1, d2] => { results := [.lit (.bool false)], args := [d1, d2] }
  | _ => none }
def SumStepsWrongFalsely : Prop := sumStepsRow.holds Tryd.pinned (OpenSpec.ofChange sumStepsWrong)

/- THE SECOND FORM. 'bulk': how many values and letters a reading holds, each counted each time it is reached (what is shared counts as often as it is met; a slice's spare places count too). A statement '..UptoSaid' is the law's where the arguments, and the package variables that the reading takes, are together of bulk at most 1048576: NARROWER than '..Said'. Prove '..Said' where nothing that the law and all that it calls make is longer than what came in: it says more and counts as full. Else prove '..UptoSaid'. A law counts once. -/
mutual
def uptoBulk {H : Type} : DataW H → Nat
  | .lit (.string bytes) => bytes.length + 1
  | .lit _ => 1
  | .nil => 1
  | .ptr d => uptoBulk d + 1
  | .slice elems spare => uptoBulkAll elems + uptoBulkAll spare + 1
  | .agg parts => uptoBulkAll parts + 1
  | .iface _ d => uptoBulk d + 1
  | .map entries => uptoBulkEntries entries + 1
  | .held _ => 1
def uptoBulkAll {H : Type} : List (DataW H) → Nat
  | [] => 0
  | d :: r => uptoBulk d + uptoBulkAll r
def uptoBulkEntries {H : Type} : List (Lit × DataW H) → Nat
  | [] => 0
  | x :: r => uptoBulkEntry x + uptoBulkEntries r
def uptoBulkEntry {H : Type} : Lit × DataW H → Nat
  | (.string bytes, d) => bytes.length + uptoBulk d + 1
  | (_, d) => uptoBulk d + 1
 end
def uptoSmall : (H : Type) → List (DataW H) → Bool := fun _ ds => decide (uptoBulkAll ds ≤ 1048576)
def OpenSpec.upto (s : _root_.Go.ChangeSpec) : _root_.Go.OpenSpec := { _root_.Go.OpenSpec.ofChange s with cond := some uptoSmall }

/-- 'lapstonelaw02.SumBursts', WHERE WHAT IT READS IS OF BULK AT MOST 1048576: true; the input reads as it did. -/
def sumBurstsUptoRow : OpenClaim := { program := "ytgoemlcbpnnciabdoor", sum := "6e1711fe41feff361b042d2b811e6af63ed5a0495dda5da0be514a34d5290c37", func := "lapstone/lapstonelaw02.SumBursts", spec := "sumBursts", unfollowed := true, recurses := true, named := ["lapstone/num.bits"], apart := false, laid := [("lapstone/num.bits", laid_lapstone_num_bits)], narrowed := true }
def SumBurstsUptoSaid : Prop := sumBurstsUptoRow.holds Tryd.pinned (OpenSpec.upto sumBurstsSpec)

/-- 'lapstonelaw02.SumSteps', WHERE WHAT IT READS IS OF BULK AT MOST 1048576: true; the input reads as it did. -/
def sumStepsUptoRow : OpenClaim := { program := "ytgoemlcbpnnciabdoor", sum := "6e1711fe41feff361b042d2b811e6af63ed5a0495dda5da0be514a34d5290c37", func := "lapstone/lapstonelaw02.SumSteps", spec := "sumSteps", unfollowed := true, recurses := true, named := ["lapstone/num.bits"], apart := false, laid := [("lapstone/num.bits", laid_lapstone_num_bits)], narrowed := true }
def SumStepsUptoSaid : Prop := sumStepsUptoRow.holds Tryd.pinned (OpenSpec.upto sumStepsSpec)

end Rows
end Go.Proofs.YtgoemlcbpnnciabDoor
