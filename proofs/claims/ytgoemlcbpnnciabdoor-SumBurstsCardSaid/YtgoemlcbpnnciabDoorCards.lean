/-
  DERIVED. GIVEN WITH THE SEED: THE CARDS: each row of YtgoemlcbpnnciabDoorRows.lean that lists a variable, with what it lists TIED to the program's text (the seventh form; the later family's looks); each row that meets fmt, with fmt's text TOLD by the authors' own Lean function (tested against real Go, not proved from fmt's source: count such statements apart). THE CARD IS WHAT COUNTS. Prove the row's statement (the work); the ties are given (YtgoemlcbpnnciabDoorTie.lean); close each card by the builder's one call (the guide's Derived/Test/ToyasCard.lean, 'card_holds'). Laid BY PROGRAM, IN A SANDBOX (cutbox-door.mjs). By AI agents, Wed Nov 11 2026. No macro, syntax, notation, axiom, sorry.
-/
import Derived.Test.YtgoemlcbpnnciabDoorRows
import GoSem.ClaimSeven
namespace Go.Proofs.YtgoemlcbpnnciabDoor
namespace Rows

/-- THE TIED CARD OF 'lapstonelaw02.SumBursts'. -/
def sumBurstsCard : Claim7 := { stood := { row := sumBurstsRow, standIns := [], harness := (true, "e8f77ff4bfc1a2ddacb8654535d3e919ff7a94fd8a0d04ee293fc7619c25c612"), looks := false }, kinds := [], alts := [], laidByText := true, laidKinds := [.data], laidTests := true, laidLooks := .later }
def SumBurstsCardSaid : Prop := Claim7.holds Tryd.pinned (.plain (OpenSpec.ofChange sumBurstsSpec)) sumBurstsCard

/-- THE TIED CARD OF 'lapstonelaw02.SumSteps'. -/
def sumStepsCard : Claim7 := { stood := { row := sumStepsRow, standIns := [], harness := (true, "e8f77ff4bfc1a2ddacb8654535d3e919ff7a94fd8a0d04ee293fc7619c25c612"), looks := false }, kinds := [], alts := [], laidByText := true, laidKinds := [.data], laidTests := true, laidLooks := .later }
def SumStepsCardSaid : Prop := Claim7.holds Tryd.pinned (.plain (OpenSpec.ofChange sumStepsSpec)) sumStepsCard

/-- THE SECOND FORM's CARD OF 'lapstonelaw02.SumBursts'. -/
def sumBurstsUptoCard : Claim7 := { stood := { row := sumBurstsUptoRow, standIns := [], harness := (true, "e8f77ff4bfc1a2ddacb8654535d3e919ff7a94fd8a0d04ee293fc7619c25c612"), looks := false }, kinds := [], alts := [], laidByText := true, laidKinds := [.data], laidTests := true, laidLooks := .later }
def SumBurstsUptoCardSaid : Prop := Claim7.holds Tryd.pinned (.plain (OpenSpec.upto sumBurstsSpec)) sumBurstsUptoCard

/-- THE SECOND FORM's CARD OF 'lapstonelaw02.SumSteps'. -/
def sumStepsUptoCard : Claim7 := { stood := { row := sumStepsUptoRow, standIns := [], harness := (true, "e8f77ff4bfc1a2ddacb8654535d3e919ff7a94fd8a0d04ee293fc7619c25c612"), looks := false }, kinds := [], alts := [], laidByText := true, laidKinds := [.data], laidTests := true, laidLooks := .later }
def SumStepsUptoCardSaid : Prop := Claim7.holds Tryd.pinned (.plain (OpenSpec.upto sumStepsSpec)) sumStepsUptoCard
end Rows
end Go.Proofs.YtgoemlcbpnnciabDoor
