/-
  NARROWER THAN 'FOR EVERY INPUT', by the rows' own cells (each row's printed sentence says how): PageBytes: laid · PageOf: laid · PageFinds: laid · PageSplits: laid · PageHalves: laid · PageSame: laid · PagePuts: laid.
  DERIVED. THE GIVEN ROWS OF THIS SEAT. 7 by the template 'for every input the law returns true; each argument reads behind the call as it read before'; 0 by the template 'total and deterministic' (their statements: YtlidbgidbpaenaaDoorTotals.lean).
  GIVEN WITH THE SEED: the statements are not yours to turn. If you find one false, say at which input.
  Laid BY PROGRAM, IN A SANDBOX (cutbox-rows.mjs): the forced cells as the released guide's own fill.sh prints them over the translation 340c6be4c72a6647… (all of the seat's roots in one cut). By AI agents, Wed Nov 11 2026. No macro, syntax, notation, axiom, sorry.
-/
import Derived.Test.YtlidbgidbpaenaaDoorChecked
import GoSem.Claim
import GoSem.ClaimJoined
import GoSem.ClaimMapViews
import Derived.JoinedTies
import Derived.KernelRfl
namespace Go.Proofs.YtlidbgidbpaenaaDoor
/- THE CELL 'sum', in the pinned program and in every row, IS THE sha256 OF THE DUMP (.gsa) THAT YtlidbgidbpaenaaDoorProg.lean LOADS. Nothing in Lean hashes anything: it is a label: what it is worth is what the hold of that sum in a sandbox is worth. -/
noncomputable def Tryd.pinned : Pinned := { name := "ytlidbgidbpaenaadoor", sum := "340c6be4c72a6647ba47aebda1b7fa7149394b1c6f340e6b1fbb94729736fca6", checked := Tryd.checked }
namespace Rows
def none {H : Type} : Left H := { results := [], args := [] }

/- WHAT THE LISTED PACKAGE-LEVEL VARIABLES READ AS WHEN THE CALL BEGINS. Each datum BY PROGRAM (the guide's laid-datum.mjs) off the statement by which the dump's own 'gosem.cut.vars' lays the variable. In a bare row this is a premise. The card (YtlidbgidbpaenaaDoorCards.lean) ties it to the program's text. -/
def laid_lapstone_num_bits {H : Type} : DataW H := .agg [.lit (.int .u64 0), .lit (.int .u64 8), .lit (.int .u64 16), .lit (.int .u64 24), .lit (.int .u64 32), .lit (.int .u64 40), .lit (.int .u64 48), .lit (.int .u64 56), .lit (.int .u64 64)]

/-- 'lapstonelaw10.PageBytes': WHATEVER THE INPUT: true; the input reads as it did. -/
def pageBytesSpec : ChangeSpec := { name := "pageBytes", fn := fun _ => fun
  | [d] => { results := [.lit (.bool true)], args := [d] }
  | _ => none }
def pageBytesRow : OpenClaim := { program := "ytlidbgidbpaenaadoor", sum := "340c6be4c72a6647ba47aebda1b7fa7149394b1c6f340e6b1fbb94729736fca6", func := "lapstone/lapstonelaw10.PageBytes", spec := "pageBytes", unfollowed := true, recurses := true, named := ["lapstone/num.bits"], apart := false, laid := [("lapstone/num.bits", laid_lapstone_num_bits)] }
def PageBytesSaid : Prop := pageBytesRow.holds Tryd.pinned (OpenSpec.ofChange pageBytesSpec)

/-- ITS FALSE NEIGHBOUR: 'it returns false'. Refute it at one input. -/
def pageBytesWrong : ChangeSpec := { name := "pageBytes", fn := fun _ => fun
  | [d] => { results := [.lit (.bool false)], args := [d] }
  | _ => none }
def PageBytesWrongFalsely : Prop := pageBytesRow.holds Tryd.pinned (OpenSpec.ofChange pageBytesWrong)

/-- 'lapstonelaw10.PageOf': WHATEVER THE INPUT: true; the input reads as it did. -/
def pageOfSpec : ChangeSpec := { name := "pageOf", fn := fun _ => fun
  | [d] => { results := [.lit (.bool true)], args := [d] }
  | _ => none }
def pageOfRow : OpenClaim := { program := "ytlidbgidbpaenaadoor", sum := "340c6be4c72a6647ba47aebda1b7fa7149394b1c6f340e6b1fbb94729736fca6", func := "lapstone/lapstonelaw10.PageOf", spec := "pageOf", unfollowed := true, recurses := true, named := ["lapstone/num.bits"], apart := false, laid := [("lapstone/num.bits", laid_lapstone_num_bits)] }
def PageOfSaid : Prop := pageOfRow.holds Tryd.pinned (OpenSpec.ofChange pageOfSpec)

/-- ITS FALSE NEIGHBOUR: 'it returns false'. Refute it at one input. -/
def pageOfWrong : ChangeSpec := { name := "pageOf", fn := fun _ => fun
  | [d] => { results := [.lit (.bool false)], args := [d] }
  | _ => none }
def PageOfWrongFalsely : Prop := pageOfRow.holds Tryd.pinned (OpenSpec.ofChange pageOfWrong)

/-- 'lapstonelaw10.PageFinds': WHATEVER THE INPUT: true; the input reads as it did. -/
def pageFindsSpec : ChangeSpec := { name := "pageFinds", fn := fun _ => fun
  | [d1, d2] => { results := [.lit (.bool true)], args := [d1, d2] }
  | _ => none }
def pageFindsRow : OpenClaim := { program := "ytlidbgidbpaenaadoor", sum := "340c6be4c72a6647ba47aebda1b7fa7149394b1c6f340e6b1fbb94729736fca6", func := "lapstone/lapstonelaw10.PageFinds", spec := "pageFinds", unfollowed := true, recurses := true, named := ["lapstone/num.bits"], apart := false, laid := [("lapstone/num.bits", laid_lapstone_num_bits)] }
def PageFindsSaid : Prop := pageFindsRow.holds Tryd.pinned (OpenSpec.ofChange pageFindsSpec)

/-- ITS FALSE NEIGHBOUR: 'it returns false'. Refute it at one input. -/
def pageFindsWrong : ChangeSpec := { name := "pageFinds", fn := fun _ => fun
  | [d1, d2] => { results := [.lit (.bool false)], args := [d1, d2] }
  | _ => none }
def PageFindsWrongFalsely : Prop := pageFindsRow.holds Tryd.pinned (OpenSpec.ofChange pageFindsWrong)

/-- 'lapstonelaw10.PageSplits': WHATEVER THE INPUT: true; the input reads as it did. -/
def pageSplitsSpec : ChangeSpec := { name := "pageSplits", fn := fun _ => fun
  | [d] => { results := [.lit (.bool true)], args := [d] }
  | _ => none }
def pageSplitsRow : OpenClaim := { program := "ytlidbgidbpaenaadoor", sum := "340c6be4c72a6647ba47aebda1b7fa7149394b1c6f340e6b1fbb94729736fca6", func := "lapstone/lapstonelaw10.PageSplits", spec := "pageSplits", unfollowed := true, recurses := true, named := ["lapstone/num.bits"], apart := false, laid := [("lapstone/num.bits", laid_lapstone_num_bits)] }
def PageSplitsSaid : Prop := pageSplitsRow.holds Tryd.pinned (OpenSpec.ofChange pageSplitsSpec)

/-- ITS FALSE NEIGHBOUR: 'it returns false'. Refute it at one input. -/
def pageSplitsWrong : ChangeSpec := { name := "pageSplits", fn := fun _ => fun
  | [d] => { results := [.lit (.bool false)], args := [d] }
  | _ => none }
def PageSplitsWrongFalsely : Prop := pageSplitsRow.holds Tryd.pinned (OpenSpec.ofChange pageSplitsWrong)

/-- 'lapstonelaw10.PageHalves': WHATEVER THE INPUT: true; the input reads as it did. -/
def pageHalvesSpec : ChangeSpec := { name := "pageHalves", fn := fun _ => fun
  | [d] => { results := [.lit (.bool true)], args := [d] }
  | _ => none }
def pageHalvesRow : OpenClaim := { program := "ytlidbgidbpaenaadoor", sum := "340c6be4c72a6647ba47aebda1b7fa7149394b1c6f340e6b1fbb94729736fca6", func := "lapstone/lapstonelaw10.PageHalves", spec := "pageHalves", unfollowed := true, recurses := true, named := ["lapstone/num.bits"], apart := false, laid := [("lapstone/num.bits", laid_lapstone_num_bits)] }
def PageHalvesSaid : Prop := pageHalvesRow.holds Tryd.pinned (OpenSpec.ofChange pageHalvesSpec)

/-- ITS FALSE NEIGHBOUR: 'it returns false'. Refute it at one input. -/
def pageHalvesWrong : ChangeSpec := { name := "pageHalves", fn := fun _ => fun
  | [d] => { results := [.lit (.bool false)], args := [d] }
  | _ => none }
def PageHalvesWrongFalsely : Prop := pageHalvesRow.holds Tryd.pinned (OpenSpec.ofChange pageHalvesWrong)

/-- 'lapstonelaw10.PageSame': WHATEVER THE INPUT: true; the input reads as it did. -/
def pageSameSpec : ChangeSpec := { name := "pageSame", fn := fun _ => fun
  | [d1, d2] => { results := [.lit (.bool true)], args := [d1, d2] }
  | _ => none }
def pageSameRow : OpenClaim := { program := "ytlidbgidbpaenaadoor", sum := "340c6be4c72a6647ba47aebda1b7fa7149394b1c6f340e6b1fbb94729736fca6", func := "lapstone/lapstonelaw10.PageSame", spec := "pageSame", unfollowed := true, recurses := true, named := ["lapstone/num.bits"], apart := false, laid := [("lapstone/num.bits", laid_lapstone_num_bits)] }
def PageSameSaid : Prop := pageSameRow.holds Tryd.pinned (OpenSpec.ofChange pageSameSpec)

/-- ITS FALSE NEIGHBOUR: 'it returns false'. Refute it at one input. -/
def pageSameWrong : ChangeSpec := { name := "pageSame", fn := fun _ => fun
  | [d1, d2] => { results := [.lit (.bool false)], args := [d1, d2] }
  | _ => none }
def PageSameWrongFalsely : Prop := pageSameRow.holds Tryd.pinned (OpenSpec.ofChange pageSameWrong)

/-- 'lapstonelaw10.PagePuts': WHATEVER THE INPUT: true; the input reads as it did. -/
def pagePutsSpec : ChangeSpec := { name := "pagePuts", fn := fun _ => fun
  | [d1, d2] => { results := [.lit (.bool true)], args := [d1, d2] }
  | _ => none }
def pagePutsRow : OpenClaim := { program := "ytlidbgidbpaenaadoor", sum := "340c6be4c72a6647ba47aebda1b7fa7149394b1c6f340e6b1fbb94729736fca6", func := "lapstone/lapstonelaw10.PagePuts", spec := "pagePuts", inPlace := ["slices.overlaps[lapstone/api.Cell]"], unfollowed := true, recurses := true, named := ["lapstone/num.bits"], apart := false, laid := [("lapstone/num.bits", laid_lapstone_num_bits)] }
def PagePutsSaid : Prop := pagePutsRow.holds Tryd.pinned (OpenSpec.ofChange pagePutsSpec)

/-- ITS FALSE NEIGHBOUR: 'it returns false'. Refute it at one input. -/
def pagePutsWrong : ChangeSpec := { name := "pagePuts", fn := fun _ => fun
  | [d1, d2] => { results := [.lit (.bool false)], args := [d1, d2] }
  | _ => none }
def PagePutsWrongFalsely : Prop := pagePutsRow.holds Tryd.pinned (OpenSpec.ofChange pagePutsWrong)

/- THE SECOND FORM. 'bulk': how many values and letters a reading holds, each counted each time it is reached (what is shared counts as often as it is met; a slice's spare places count too). A statement '..UptoSaid' is the law's where the arguments, and the package variables that the reading takes, are together of bulk at most 1048576: NARROWER than '..Said'. Prove '..Said' where nothing that the law and all that it calls make is longer than what came in: it says more and counts as full. Else prove '..UptoSaid'. A law counts once. -/
mutual
def uptoBulk {H : Type} : DataW H → Nat
  | .lit (.string bytes) => bytes.length + 1
  | .lit _ => 1
  | .nil => 1
  | .ptr d => uptoBulk d + 1
  | .slice elems spare => uptoBulkAll elems + uptoBulkAll spare + 1
  | .agg parts => uptoBulkAll parts + 1
  | .iface _ d => uptoBulk d + 1
  | .map entries => uptoBulkEntries entries + 1
  | .held _ => 1
def uptoBulkAll {H : Type} : List (DataW H) → Nat
  | [] => 0
  | d :: r => uptoBulk d + uptoBulkAll r
def uptoBulkEntries {H : Type} : List (Lit × DataW H) → Nat
  | [] => 0
  | x :: r => uptoBulkEntry x + uptoBulkEntries r
def uptoBulkEntry {H : Type} : Lit × DataW H → Nat
  | (.string bytes, d) => bytes.length + uptoBulk d + 1
  | (_, d) => uptoBulk d + 1
 end
def uptoSmall : (H : Type) → List (DataW H) → Bool := fun _ ds => decide (uptoBulkAll ds ≤ 1048576)
def OpenSpec.upto (s : _root_.Go.ChangeSpec) : _root_.Go.OpenSpec := { _root_.Go.OpenSpec.ofChange s with cond := some uptoSmall }

/-- 'lapstonelaw10.PageBytes', WHERE WHAT IT READS IS OF BULK AT MOST 1048576: true; the input reads as it did. -/
def pageBytesUptoRow : OpenClaim := { program := "ytlidbgidbpaenaadoor", sum := "340c6be4c72a6647ba47aebda1b7fa7149394b1c6f340e6b1fbb94729736fca6", func := "lapstone/lapstonelaw10.PageBytes", spec := "pageBytes", unfollowed := true, recurses := true, named := ["lapstone/num.bits"], apart := false, laid := [("lapstone/num.bits", laid_lapstone_num_bits)], narrowed := true }
def PageBytesUptoSaid : Prop := pageBytesUptoRow.holds Tryd.pinned (OpenSpec.upto pageBytesSpec)

/-- 'lapstonelaw10.PageOf', WHERE WHAT IT READS IS OF BULK AT MOST 1048576: true; the input reads as it did. -/
def pageOfUptoRow : OpenClaim := { program := "ytlidbgidbpaenaadoor", sum := "340c6be4c72a6647ba47aebda1b7fa7149394b1c6f340e6b1fbb94729736fca6", func := "lapstone/lapstonelaw10.PageOf", spec := "pageOf", unfollowed := true, recurses := true, named := ["lapstone/num.bits"], apart := false, laid := [("lapstone/num.bits", laid_lapstone_num_bits)], narrowed := true }
def PageOfUptoSaid : Prop := pageOfUptoRow.holds Tryd.pinned (OpenSpec.upto pageOfSpec)

/-- 'lapstonelaw10.PageFinds', WHERE WHAT IT READS IS OF BULK AT MOST 1048576: true; the input reads as it did. -/
def pageFindsUptoRow : OpenClaim := { program := "ytlidbgidbpaenaadoor", sum := "340c6be4c72a6647ba47aebda1b7fa7149394b1c6f340e6b1fbb94729736fca6", func := "lapstone/lapstonelaw10.PageFinds", spec := "pageFinds", unfollowed := true, recurses := true, named := ["lapstone/num.bits"], apart := false, laid := [("lapstone/num.bits", laid_lapstone_num_bits)], narrowed := true }
def PageFindsUptoSaid : Prop := pageFindsUptoRow.holds Tryd.pinned (OpenSpec.upto pageFindsSpec)

/-- 'lapstonelaw10.PageSplits', WHERE WHAT IT READS IS OF BULK AT MOST 1048576: true; the input reads as it did. -/
def pageSplitsUptoRow : OpenClaim := { program := "ytlidbgidbpaenaadoor", sum := "340c6be4c72a6647ba47aebda1b7fa7149394b1c6f340e6b1fbb94729736fca6", func := "lapstone/lapstonelaw10.PageSplits", spec := "pageSplits", unfollowed := true, recurses := true, named := ["lapstone/num.bits"], apart := false, laid := [("lapstone/num.bits", laid_lapstone_num_bits)], narrowed := true }
def PageSplitsUptoSaid : Prop := pageSplitsUptoRow.holds Tryd.pinned (OpenSpec.upto pageSplitsSpec)

/-- 'lapstonelaw10.PageHalves', WHERE WHAT IT READS IS OF BULK AT MOST 1048576: true; the input reads as it did. -/
def pageHalvesUptoRow : OpenClaim := { program := "ytlidbgidbpaenaadoor", sum := "340c6be4c72a6647ba47aebda1b7fa7149394b1c6f340e6b1fbb94729736fca6", func := "lapstone/lapstonelaw10.PageHalves", spec := "pageHalves", unfollowed := true, recurses := true, named := ["lapstone/num.bits"], apart := false, laid := [("lapstone/num.bits", laid_lapstone_num_bits)], narrowed := true }
def PageHalvesUptoSaid : Prop := pageHalvesUptoRow.holds Tryd.pinned (OpenSpec.upto pageHalvesSpec)

/-- 'lapstonelaw10.PageSame', WHERE WHAT IT READS IS OF BULK AT MOST 1048576: true; the input reads as it did. -/
def pageSameUptoRow : OpenClaim := { program := "ytlidbgidbpaenaadoor", sum := "340c6be4c72a6647ba47aebda1b7fa7149394b1c6f340e6b1fbb94729736fca6", func := "lapstone/lapstonelaw10.PageSame", spec := "pageSame", unfollowed := true, recurses := true, named := ["lapstone/num.bits"], apart := false, laid := [("lapstone/num.bits", laid_lapstone_num_bits)], narrowed := true }
def PageSameUptoSaid : Prop := pageSameUptoRow.holds Tryd.pinned (OpenSpec.upto pageSameSpec)

/-- 'lapstonelaw10.PagePuts', WHERE WHAT IT READS IS OF BULK AT MOST 1048576: true; the input reads as it did. -/
def pagePutsUptoRow : OpenClaim := { program := "ytlidbgidbpaenaadoor", sum := "340c6be4c72a6647ba47aebda1b7fa7149394b1c6f340e6b1fbb94729736fca6", func := "lapstone/lapstonelaw10.PagePuts", spec := "pagePuts", inPlace := ["slices.overlaps[lapstone/api.Cell]"], unfollowed := true, recurses := true, named := ["lapstone/num.bits"], apart := false, laid := [("lapstone/num.bits", laid_lapstone_num_bits)], narrowed := true }
def PagePutsUptoSaid : Prop := pagePutsUptoRow.holds Tryd.pinned (OpenSpec.upto pagePutsSpec)

end Rows
end Go.Proofs.YtlidbgidbpaenaaDoor
