/-
  NARROWER THAN 'FOR EVERY INPUT', by the rows' own cells (each row's printed sentence says how): NumPuts: laid · NumVars: laid · NumReads: laid · NumOnly: laid · NumOrder: laid · NumCmps: laid · NumGets: laid · NumBack: laid · SumOf: laid · SumMore: laid · SumOpens: laid · SumSeals: laid.
  DERIVED. THE GIVEN ROWS OF THIS SEAT. 12 by the template 'for every input the law returns true; each argument reads behind the call as it read before'; 0 by the template 'total and deterministic' (their statements: YtgoemlcbpnnciaaDoorTotals.lean).
  GIVEN WITH THE SEED: the statements are not yours to turn. If you find one false, say at which input.
  Laid BY PROGRAM, IN A SANDBOX (cutbox-rows.mjs): the forced cells as the released guide's own fill.sh prints them over the translation a5fba17766cd75be… (all of the seat's roots in one cut). By AI agents, Wed Nov 11 2026. No macro, syntax, notation, axiom, sorry.
-/
import Derived.Test.YtgoemlcbpnnciaaDoorChecked
import GoSem.Claim
import GoSem.ClaimJoined
import GoSem.ClaimMapViews
import Derived.JoinedTies
import Derived.KernelRfl
namespace Go.Proofs.YtgoemlcbpnnciaaDoor
/- THE CELL 'sum', in the pinned program and in every row, IS THE sha256 OF THE DUMP (.gsa) THAT YtgoemlcbpnnciaaDoorProg.lean LOADS. Nothing in Lean hashes anything: it is a label: what it is worth is what the hold of that sum in a sandbox is worth. -/
noncomputable def Tryd.pinned : Pinned := { name := "ytgoemlcbpnnciaadoor", sum := "a5fba17766cd75be0870718fd439dbaef54871022db45dcc65df06e3c6062d46", checked := Tryd.checked }
namespace Rows
def none {H : Type} : Left H := { results := [], args := [] }

/- WHAT THE LISTED PACKAGE-LEVEL VARIABLES READ AS WHEN THE CALL BEGINS. Each datum BY PROGRAM (the guide's laid-datum.mjs) off the statement by which the dump's own 'gosem.cut.vars' lays the variable. In a bare row this is a premise. The card (YtgoemlcbpnnciaaDoorCards.lean) ties it to the program's text. -/
def laid_lapstone_num_bits {H : Type} : DataW H := .agg [.lit (.int .u64 0), .lit (.int .u64 8), .lit (.int .u64 16), .lit (.int .u64 24), .lit (.int .u64 32), .lit (.int .u64 40), .lit (.int .u64 48), .lit (.int .u64 56), .lit (.int .u64 64)]

/-- 'lapstonelaw01.NumPuts': WHATEVER THE INPUT: true; the input reads as it did. -/
def numPutsSpec : ChangeSpec := { name := "numPuts", fn := fun _ => fun
  | [d1, d2, d3] => { results := [.lit (.bool true)], args := [d1, d2, d3] }
  | _ => none }
def numPutsRow : OpenClaim := { program := "ytgoemlcbpnnciaadoor", sum := "a5fba17766cd75be0870718fd439dbaef54871022db45dcc65df06e3c6062d46", func := "lapstone/lapstonelaw01.NumPuts", spec := "numPuts", unfollowed := true, recurses := true, named := ["lapstone/num.bits"], apart := false, laid := [("lapstone/num.bits", laid_lapstone_num_bits)] }
def NumPutsSaid : Prop := numPutsRow.holds Tryd.pinned (OpenSpec.ofChange numPutsSpec)

/-- ITS FALSE NEIGHBOUR: 'it returns false'. Refute it at one input. -/
def numPutsWrong : ChangeSpec := { name := "numPuts", fn := fun _ => fun
  | [d1, d2, d3] => { results := [.lit (.bool false)], args := [d1, d2, d3] }
  | _ => none }
def NumPutsWrongFalsely : Prop := numPutsRow.holds Tryd.pinned (OpenSpec.ofChange numPutsWrong)

/-- 'lapstonelaw01.NumVars': WHATEVER THE INPUT: true; the input reads as it did. -/
def numVarsSpec : ChangeSpec := { name := "numVars", fn := fun _ => fun
  | [d1, d2] => { results := [.lit (.bool true)], args := [d1, d2] }
  | _ => none }
def numVarsRow : OpenClaim := { program := "ytgoemlcbpnnciaadoor", sum := "a5fba17766cd75be0870718fd439dbaef54871022db45dcc65df06e3c6062d46", func := "lapstone/lapstonelaw01.NumVars", spec := "numVars", unfollowed := true, recurses := true, named := ["lapstone/num.bits"], apart := false, laid := [("lapstone/num.bits", laid_lapstone_num_bits)] }
def NumVarsSaid : Prop := numVarsRow.holds Tryd.pinned (OpenSpec.ofChange numVarsSpec)

/-- ITS FALSE NEIGHBOUR: 'it returns false'. Refute it at one input. -/
def numVarsWrong : ChangeSpec := { name := "numVars", fn := fun _ => fun
  | [d1, d2] => { results := [.lit (.bool false)], args := [d1, d2] }
  | _ => none }
def NumVarsWrongFalsely : Prop := numVarsRow.holds Tryd.pinned (OpenSpec.ofChange numVarsWrong)

/-- 'lapstonelaw01.NumReads': WHATEVER THE INPUT: true; the input reads as it did. -/
def numReadsSpec : ChangeSpec := { name := "numReads", fn := fun _ => fun
  | [d] => { results := [.lit (.bool true)], args := [d] }
  | _ => none }
def numReadsRow : OpenClaim := { program := "ytgoemlcbpnnciaadoor", sum := "a5fba17766cd75be0870718fd439dbaef54871022db45dcc65df06e3c6062d46", func := "lapstone/lapstonelaw01.NumReads", spec := "numReads", unfollowed := true, recurses := true, named := ["lapstone/num.bits"], apart := false, laid := [("lapstone/num.bits", laid_lapstone_num_bits)] }
def NumReadsSaid : Prop := numReadsRow.holds Tryd.pinned (OpenSpec.ofChange numReadsSpec)

/-- ITS FALSE NEIGHBOUR: 'it returns false'. Refute it at one input. -/
def numReadsWrong : ChangeSpec := { name := "numReads", fn := fun _ => fun
  | [d] => { results := [.lit (.bool false)], args := [d] }
  | _ => none }
def NumReadsWrongFalsely : Prop := numReadsRow.holds Tryd.pinned (OpenSpec.ofChange numReadsWrong)

/-- 'lapstonelaw01.NumOnly': WHATEVER THE INPUT: true; the input reads as it did. -/
def numOnlySpec : ChangeSpec := { name := "numOnly", fn := fun _ => fun
  | [d] => { results := [.lit (.bool true)], args := [d] }
  | _ => none }
def numOnlyRow : OpenClaim := { program := "ytgoemlcbpnnciaadoor", sum := "a5fba17766cd75be0870718fd439dbaef54871022db45dcc65df06e3c6062d46", func := "lapstone/lapstonelaw01.NumOnly", spec := "numOnly", unfollowed := true, recurses := true, named := ["lapstone/num.bits"], apart := false, laid := [("lapstone/num.bits", laid_lapstone_num_bits)] }
def NumOnlySaid : Prop := numOnlyRow.holds Tryd.pinned (OpenSpec.ofChange numOnlySpec)

/-- ITS FALSE NEIGHBOUR: 'it returns false'. Refute it at one input. -/
def numOnlyWrong : ChangeSpec := { name := "numOnly", fn := fun _ => fun
  | [d] => { results := [.lit (.bool false)], args := [d] }
  | _ => none }
def NumOnlyWrongFalsely : Prop := numOnlyRow.holds Tryd.pinned (OpenSpec.ofChange numOnlyWrong)

/-- 'lapstonelaw01.NumOrder': WHATEVER THE INPUT: true; the input reads as it did. -/
def numOrderSpec : ChangeSpec := { name := "numOrder", fn := fun _ => fun
  | [d1, d2, d3] => { results := [.lit (.bool true)], args := [d1, d2, d3] }
  | _ => none }
def numOrderRow : OpenClaim := { program := "ytgoemlcbpnnciaadoor", sum := "a5fba17766cd75be0870718fd439dbaef54871022db45dcc65df06e3c6062d46", func := "lapstone/lapstonelaw01.NumOrder", spec := "numOrder", unfollowed := true, recurses := true, named := ["lapstone/num.bits"], apart := false, laid := [("lapstone/num.bits", laid_lapstone_num_bits)] }
def NumOrderSaid : Prop := numOrderRow.holds Tryd.pinned (OpenSpec.ofChange numOrderSpec)

/-- ITS FALSE NEIGHBOUR: 'it returns false'. Refute it at one input. -/
def numOrderWrong : ChangeSpec := { name := "numOrder", fn := fun _ => fun
  | [d1, d2, d3] => { results := [.lit (.bool false)], args := [d1, d2, d3] }
  | _ => none }
def NumOrderWrongFalsely : Prop := numOrderRow.holds Tryd.pinned (OpenSpec.ofChange numOrderWrong)

/-- 'lapstonelaw01.NumCmps': WHATEVER THE INPUT: true; the input reads as it did. -/
def numCmpsSpec : ChangeSpec := { name := "numCmps", fn := fun _ => fun
  | [d1, d2, d3] => { results := [.lit (.bool true)], args := [d1, d2, d3] }
  | _ => none }
def numCmpsRow : OpenClaim := { program := "ytgoemlcbpnnciaadoor", sum := "a5fba17766cd75be0870718fd439dbaef54871022db45dcc65df06e3c6062d46", func := "lapstone/lapstonelaw01.NumCmps", spec := "numCmps", unfollowed := true, recurses := true, named := ["lapstone/num.bits"], apart := false, laid := [("lapstone/num.bits", laid_lapstone_num_bits)] }
def NumCmpsSaid : Prop := numCmpsRow.holds Tryd.pinned (OpenSpec.ofChange numCmpsSpec)

/-- ITS FALSE NEIGHBOUR: 'it returns false'. Refute it at one input. -/
def numCmpsWrong : ChangeSpec := { name := "numCmps", fn := fun _ => fun
  | [d1, d2, d3] => { results := [.lit (.bool false)], args := [d1, d2, d3] }
  | _ => none }
def NumCmpsWrongFalsely : Prop := numCmpsRow.holds Tryd.pinned (OpenSpec.ofChange numCmpsWrong)

/-- 'lapstonelaw01.NumGets': WHATEVER THE INPUT: true; the input reads as it did. -/
def numGetsSpec : ChangeSpec := { name := "numGets", fn := fun _ => fun
  | [d1, d2] => { results := [.lit (.bool true)], args := [d1, d2] }
  | _ => none }
def numGetsRow : OpenClaim := { program := "ytgoemlcbpnnciaadoor", sum := "a5fba17766cd75be0870718fd439dbaef54871022db45dcc65df06e3c6062d46", func := "lapstone/lapstonelaw01.NumGets", spec := "numGets", unfollowed := true, recurses := true, named := ["lapstone/num.bits"], apart := false, laid := [("lapstone/num.bits", laid_lapstone_num_bits)] }
def NumGetsSaid : Prop := numGetsRow.holds Tryd.pinned (OpenSpec.ofChange numGetsSpec)

/-- ITS FALSE NEIGHBOUR: 'it returns false'. Refute it at one input. -/
def numGetsWrong : ChangeSpec := { name := "numGets", fn := fun _ => fun
  | [d1, d2] => { results := [.lit (.bool false)], args := [d1, d2] }
  | _ => none }
def NumGetsWrongFalsely : Prop := numGetsRow.holds Tryd.pinned (OpenSpec.ofChange numGetsWrong)

/-- 'lapstonelaw01.NumBack': WHATEVER THE INPUT: true; the input reads as it did. -/
def numBackSpec : ChangeSpec := { name := "numBack", fn := fun _ => fun
  | [d1, d2, d3] => { results := [.lit (.bool true)], args := [d1, d2, d3] }
  | _ => none }
def numBackRow : OpenClaim := { program := "ytgoemlcbpnnciaadoor", sum := "a5fba17766cd75be0870718fd439dbaef54871022db45dcc65df06e3c6062d46", func := "lapstone/lapstonelaw01.NumBack", spec := "numBack", unfollowed := true, recurses := true, named := ["lapstone/num.bits"], apart := false, laid := [("lapstone/num.bits", laid_lapstone_num_bits)] }
def NumBackSaid : Prop := numBackRow.holds Tryd.pinned (OpenSpec.ofChange numBackSpec)

/-- ITS FALSE NEIGHBOUR: 'it returns false'. Refute it at one input. -/
def numBackWrong : ChangeSpec := { name := "numBack", fn := fun _ => fun
  | [d1, d2, d3] => { results := [.lit (.bool false)], args := [d1, d2, d3] }
  | _ => none }
def NumBackWrongFalsely : Prop := numBackRow.holds Tryd.pinned (OpenSpec.ofChange numBackWrong)

/-- 'lapstonelaw02.SumOf': WHATEVER THE INPUT: true; the input reads as it did. -/
def sumOfSpec : ChangeSpec := { name := "sumOf", fn := fun _ => fun
  | [d1, d2] => { results := [.lit (.bool true)], args := [d1, d2] }
  | _ => none }
def sumOfRow : OpenClaim := { program := "ytgoemlcbpnnciaadoor", sum := "a5fba17766cd75be0870718fd439dbaef54871022db45dcc65df06e3c6062d46", func := "lapstone/lapstonelaw02.SumOf", spec := "sumOf", unfollowed := true, recurses := true, named := ["lapstone/num.bits"], apart := false, laid := [("lapstone/num.bits", laid_lapstone_num_bits)] }
def SumOfSaid : Prop := sumOfRow.holds Tryd.pinned (OpenSpec.ofChange sumOfSpec)

/-- ITS FALSE NEIGHBOUR: 'it returns false'. Refute it at one input. -/
def sumOfWrong : ChangeSpec := { name := "sumOf", fn := fun _ => fun
  | [d1, d2] => { results := [.lit (.bool false)], args := [d1, d2] }
  | _ => none }
def SumOfWrongFalsely : Prop := sumOfRow.holds Tryd.pinned (OpenSpec.ofChange sumOfWrong)

/-- 'lapstonelaw02.SumMore': WHATEVER THE INPUT: true; the input reads as it did. -/
def sumMoreSpec : ChangeSpec := { name := "sumMore", fn := fun _ => fun
  | [d1, d2] => { results := [.lit (.bool true)], args := [d1, d2] }
  | _ => none }
def sumMoreRow : OpenClaim := { program := "ytgoemlcbpnnciaadoor", sum := "a5fba17766cd75be0870718fd439dbaef54871022db45dcc65df06e3c6062d46", func := "lapstone/lapstonelaw02.SumMore", spec := "sumMore", unfollowed := true, recurses := true, named := ["lapstone/num.bits"], apart := false, laid := [("lapstone/num.bits", laid_lapstone_num_bits)] }
def SumMoreSaid : Prop := sumMoreRow.holds Tryd.pinned (OpenSpec.ofChange sumMoreSpec)

/-- ITS FALSE NEIGHBOUR: 'it returns false'. Refute it at one input. -/
def sumMoreWrong : ChangeSpec := { name := "sumMore", fn := fun _ => fun
  | [d1, d2] => { results := [.lit (.bool false)], args := [d1, d2] }
  | _ => none }
def SumMoreWrongFalsely : Prop := sumMoreRow.holds Tryd.pinned (OpenSpec.ofChange sumMoreWrong)

/-- 'lapstonelaw02.SumOpens': WHATEVER THE INPUT: true; the input reads as it did. -/
def sumOpensSpec : ChangeSpec := { name := "sumOpens", fn := fun _ => fun
  | [d] => { results := [.lit (.bool true)], args := [d] }
  | _ => none }
def sumOpensRow : OpenClaim := { program := "ytgoemlcbpnnciaadoor", sum := "a5fba17766cd75be0870718fd439dbaef54871022db45dcc65df06e3c6062d46", func := "lapstone/lapstonelaw02.SumOpens", spec := "sumOpens", unfollowed := true, recurses := true, named := ["lapstone/num.bits"], apart := false, laid := [("lapstone/num.bits", laid_lapstone_num_bits)] }
def SumOpensSaid : Prop := sumOpensRow.holds Tryd.pinned (OpenSpec.ofChange sumOpensSpec)

/-- ITS FALSE NEIGHBOUR: 'it returns false'. Refute it at one input. -/
def sumOpensWrong : ChangeSpec := { name := "sumOpens", fn := fun _ => fun
  | [d] => { results := [.lit (.bool false)], args := [d] }
  | _ => none }
def SumOpensWrongFalsely : Prop := sumOpensRow.holds Tryd.pinned (OpenSpec.ofChange sumOpensWrong)

/-- 'lapstonelaw02.SumSeals': WHATEVER THE INPUT: true; the input reads as it did. -/
def sumSealsSpec : ChangeSpec := { name := "sumSeals", fn := fun _ => fun
  | [d] => { results := [.lit (.bool true)], args := [d] }
  | _ => none }
def sumSealsRow : OpenClaim := { program := "ytgoemlcbpnnciaadoor", sum := "a5fba17766cd75be0870718fd439dbaef54871022db45dcc65df06e3c6062d46", func := "lapstone/lapstonelaw02.SumSeals", spec := "sumSeals", unfollowed := true, recurses := true, named := ["lapstone/num.bits"], apart := false, laid := [("lapstone/num.bits", laid_lapstone_num_bits)] }
def SumSealsSaid : Prop := sumSealsRow.holds Tryd.pinned (OpenSpec.ofChange sumSealsSpec)

/-- ITS FALSE NEIGHBOUR: 'it returns false'. Refute it at one input. -/
def sumSealsWrong : ChangeSpec := { name := "sumSeals", fn := fun _ => fun
  | [d] => { results := [.lit (.bool false)], args := [d] }
  | _ => none }
def SumSealsWrongFalsely : Prop := sumSealsRow.holds Tryd.pinned (OpenSpec.ofChange sumSealsWrong)

/- THE SECOND FORM. 'bulk': how many values and letters a reading holds, each counted each time it is reached (what is shared counts as often as it is met; a slice's spare places count too). A statement '..UptoSaid' is the law's where the arguments, and the package variables that the reading takes, are together of bulk at most 1048576: NARROWER than '..Said'. Prove '..Said' where nothing that the law and all that it calls make is longer than what came in: it says more and counts as full. Else prove '..UptoSaid'. A law counts once. -/
mutual
def uptoBulk {H : Type} : DataW H → Nat
  | .lit (.string bytes) => bytes.length + 1
  | .lit _ => 1
  | .nil => 1
  | .ptr d => uptoBulk d + 1
  | .slice elems spare => uptoBulkAll elems + uptoBulkAll spare + 1
  | .agg parts => uptoBulkAll parts + 1
  | .iface _ d => uptoBulk d + 1
  | .map entries => uptoBulkEntries entries + 1
  | .held _ => 1
def uptoBulkAll {H : Type} : List (DataW H) → Nat
  | [] => 0
  | d :: r => uptoBulk d + uptoBulkAll r
def uptoBulkEntries {H : Type} : List (Lit × DataW H) → Nat
  | [] => 0
  | x :: r => uptoBulkEntry x + uptoBulkEntries r
def uptoBulkEntry {H : Type} : Lit × DataW H → Nat
  | (.string bytes, d) => bytes.length + uptoBulk d + 1
  | (_, d) => uptoBulk d + 1
 end
def uptoSmall : (H : Type) → List (DataW H) → Bool := fun _ ds => decide (uptoBulkAll ds ≤ 1048576)
def OpenSpec.upto (s : _root_.Go.ChangeSpec) : _root_.Go.OpenSpec := { _root_.Go.OpenSpec.ofChange s with cond := some uptoSmall }

/-- 'lapstonelaw01.NumPuts', WHERE WHAT IT READS IS OF BULK AT MOST 1048576: true; the input reads as it did. -/
def numPutsUptoRow : OpenClaim := { program := "ytgoemlcbpnnciaadoor", sum := "a5fba17766cd75be0870718fd439dbaef54871022db45dcc65df06e3c6062d46", func := "lapstone/lapstonelaw01.NumPuts", spec := "numPuts", unfollowed := true, recurses := true, named := ["lapstone/num.bits"], apart := false, laid := [("lapstone/num.bits", laid_lapstone_num_bits)], narrowed := true }
def NumPutsUptoSaid : Prop := numPutsUptoRow.holds Tryd.pinned (OpenSpec.upto numPutsSpec)

/-- 'lapstonelaw01.NumVars', WHERE WHAT IT READS IS OF BULK AT MOST 1048576: true; the input reads as it did. -/
def numVarsUptoRow : OpenClaim := { program := "ytgoemlcbpnnciaadoor", sum := "a5fba17766cd75be0870718fd439dbaef54871022db45dcc65df06e3c6062d46", func := "lapstone/lapstonelaw01.NumVars", spec := "numVars", unfollowed := true, recurses := true, named := ["lapstone/num.bits"], apart := false, laid := [("lapstone/num.bits", laid_lapstone_num_bits)], narrowed := true }
def NumVarsUptoSaid : Prop := numVarsUptoRow.holds Tryd.pinned (OpenSpec.upto numVarsSpec)

/-- 'lapstonelaw01.NumReads', WHERE WHAT IT READS IS OF BULK AT MOST 1048576: true; the input reads as it did. -/
def numReadsUptoRow : OpenClaim := { program := "ytgoemlcbpnnciaadoor", sum := "a5fba17766cd75be0870718fd439dbaef54871022db45dcc65df06e3c6062d46", func := "lapstone/lapstonelaw01.NumReads", spec := "numReads", unfollowed := true, recurses := true, named := ["lapstone/num.bits"], apart := false, laid := [("lapstone/num.bits", laid_lapstone_num_bits)], narrowed := true }
def NumReadsUptoSaid : Prop := numReadsUptoRow.holds Tryd.pinned (OpenSpec.upto numReadsSpec)

/-- 'lapstonelaw01.NumOnly', WHERE WHAT IT READS IS OF BULK AT MOST 1048576: true; the input reads as it did. -/
def numOnlyUptoRow : OpenClaim := { program := "ytgoemlcbpnnciaadoor", sum := "a5fba17766cd75be0870718fd439dbaef54871022db45dcc65df06e3c6062d46", func := "lapstone/lapstonelaw01.NumOnly", spec := "numOnly", unfollowed := true, recurses := true, named := ["lapstone/num.bits"], apart := false, laid := [("lapstone/num.bits", laid_lapstone_num_bits)], narrowed := true }
def NumOnlyUptoSaid : Prop := numOnlyUptoRow.holds Tryd.pinned (OpenSpec.upto numOnlySpec)

/-- 'lapstonelaw01.NumOrder', WHERE WHAT IT READS IS OF BULK AT MOST 1048576: true; the input reads as it did. -/
def numOrderUptoRow : OpenClaim := { program := "ytgoemlcbpnnciaadoor", sum := "a5fba17766cd75be0870718fd439dbaef54871022db45dcc65df06e3c6062d46", func := "lapstone/lapstonelaw01.NumOrder", spec := "numOrder", unfollowed := true, recurses := true, named := ["lapstone/num.bits"], apart := false, laid := [("lapstone/num.bits", laid_lapstone_num_bits)], narrowed := true }
def NumOrderUptoSaid : Prop := numOrderUptoRow.holds Tryd.pinned (OpenSpec.upto numOrderSpec)

/-- 'lapstonelaw01.NumCmps', WHERE WHAT IT READS IS OF BULK AT MOST 1048576: true; the input reads as it did. -/
def numCmpsUptoRow : OpenClaim := { program := "ytgoemlcbpnnciaadoor", sum := "a5fba17766cd75be0870718fd439dbaef54871022db45dcc65df06e3c6062d46", func := "lapstone/lapstonelaw01.NumCmps", spec := "numCmps", unfollowed := true, recurses := true, named := ["lapstone/num.bits"], apart := false, laid := [("lapstone/num.bits", laid_lapstone_num_bits)], narrowed := true }
def NumCmpsUptoSaid : Prop := numCmpsUptoRow.holds Tryd.pinned (OpenSpec.upto numCmpsSpec)

/-- 'lapstonelaw01.NumGets', WHERE WHAT IT READS IS OF BULK AT MOST 1048576: true; the input reads as it did. -/
def numGetsUptoRow : OpenClaim := { program := "ytgoemlcbpnnciaadoor", sum := "a5fba17766cd75be0870718fd439dbaef54871022db45dcc65df06e3c6062d46", func := "lapstone/lapstonelaw01.NumGets", spec := "numGets", unfollowed := true, recurses := true, named := ["lapstone/num.bits"], apart := false, laid := [("lapstone/num.bits", laid_lapstone_num_bits)], narrowed := true }
def NumGetsUptoSaid : Prop := numGetsUptoRow.holds Tryd.pinned (OpenSpec.upto numGetsSpec)

/-- 'lapstonelaw01.NumBack', WHERE WHAT IT READS IS OF BULK AT MOST 1048576: true; the input reads as it did. -/
def numBackUptoRow : OpenClaim := { program := "ytgoemlcbpnnciaadoor", sum := "a5fba17766cd75be0870718fd439dbaef54871022db45dcc65df06e3c6062d46", func := "lapstone/lapstonelaw01.NumBack", spec := "numBack", unfollowed := true, recurses := true, named := ["lapstone/num.bits"], apart := false, laid := [("lapstone/num.bits", laid_lapstone_num_bits)], narrowed := true }
def NumBackUptoSaid : Prop := numBackUptoRow.holds Tryd.pinned (OpenSpec.upto numBackSpec)

/-- 'lapstonelaw02.SumOf', WHERE WHAT IT READS IS OF BULK AT MOST 1048576: true; the input reads as it did. -/
def sumOfUptoRow : OpenClaim := { program := "ytgoemlcbpnnciaadoor", sum := "a5fba17766cd75be0870718fd439dbaef54871022db45dcc65df06e3c6062d46", func := "lapstone/lapstonelaw02.SumOf", spec := "sumOf", unfollowed := true, recurses := true, named := ["lapstone/num.bits"], apart := false, laid := [("lapstone/num.bits", laid_lapstone_num_bits)], narrowed := true }
def SumOfUptoSaid : Prop := sumOfUptoRow.holds Tryd.pinned (OpenSpec.upto sumOfSpec)

/-- 'lapstonelaw02.SumMore', WHERE WHAT IT READS IS OF BULK AT MOST 1048576: true; the input reads as it did. -/
def sumMoreUptoRow : OpenClaim := { program := "ytgoemlcbpnnciaadoor", sum := "a5fba17766cd75be0870718fd439dbaef54871022db45dcc65df06e3c6062d46", func := "lapstone/lapstonelaw02.SumMore", spec := "sumMore", unfollowed := true, recurses := true, named := ["lapstone/num.bits"], apart := false, laid := [("lapstone/num.bits", laid_lapstone_num_bits)], narrowed := true }
def SumMoreUptoSaid : Prop := sumMoreUptoRow.holds Tryd.pinned (OpenSpec.upto sumMoreSpec)

/-- 'lapstonelaw02.SumOpens', WHERE WHAT IT READS IS OF BULK AT MOST 1048576: true; the input reads as it did. -/
def sumOpensUptoRow : OpenClaim := { program := "ytgoemlcbpnnciaadoor", sum := "a5fba17766cd75be0870718fd439dbaef54871022db45dcc65df06e3c6062d46", func := "lapstone/lapstonelaw02.SumOpens", spec := "sumOpens", unfollowed := true, recurses := true, named := ["lapstone/num.bits"], apart := false, laid := [("lapstone/num.bits", laid_lapstone_num_bits)], narrowed := true }
def SumOpensUptoSaid : Prop := sumOpensUptoRow.holds Tryd.pinned (OpenSpec.upto sumOpensSpec)

/-- 'lapstonelaw02.SumSeals', WHERE WHAT IT READS IS OF BULK AT MOST 1048576: true; the input reads as it did. -/
def sumSealsUptoRow : OpenClaim := { program := "ytgoemlcbpnnciaadoor", sum := "a5fba17766cd75be0870718fd439dbaef54871022db45dcc65df06e3c6062d46", func := "lapstone/lapstonelaw02.SumSeals", spec := "sumSeals", unfollowed := true, recurses := true, named := ["lapstone/num.bits"], apart := false, laid := [("lapstone/num.bits", laid_lapstone_num_bits)], narrowed := true }
def SumSealsUptoSaid : Prop := sumSealsUptoRow.holds Tryd.pinned (OpenSpec.upto sumSealsSpec)

end Rows
end Go.Proofs.YtgoemlcbpnnciaaDoor
