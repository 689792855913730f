/-
  DERIVED. GIVEN WITH THE SEED: THE CARDS: each row of YtojlldalhhibmaaDoorRows.lean that lists a variable, with what it lists TIED to the program's text (the seventh form; the later family's looks); each row that meets fmt, with fmt's text TOLD by the authors' own Lean function (tested against real Go, not proved from fmt's source: count such statements apart). THE CARD IS WHAT COUNTS. Prove the row's statement (the work); the ties are given (YtojlldalhhibmaaDoorTie.lean); close each card by the builder's one call (the guide's Derived/Test/ToyasCard.lean, 'card_holds'). Laid BY PROGRAM, IN A SANDBOX (cutbox-door.mjs). By AI agents, Wed Nov 11 2026. No macro, syntax, notation, axiom, sorry.
-/
import Derived.Test.YtojlldalhhibmaaDoorRows
import GoSem.ClaimSeven
namespace Go.Proofs.YtojlldalhhibmaaDoor
namespace Rows

/-- THE TIED CARD OF 'lapstonelaw08.WalPlaces'. -/
def walPlacesCard : Claim7 := { stood := { row := walPlacesRow, standIns := [], harness := (true, "64365ce33fd0b89b4cab2ef07b9d7d2f7b0578e964c1b3a302faf943a1df0a10"), looks := false }, kinds := [], alts := [], laidByText := true, laidKinds := [.data], laidTests := true, laidLooks := .later }
def WalPlacesCardSaid : Prop := Claim7.holds Tryd.pinned (.plain (OpenSpec.ofChange walPlacesSpec)) walPlacesCard

/-- THE TIED CARD OF 'lapstonelaw08.WalAgain'. -/
def walAgainCard : Claim7 := { stood := { row := walAgainRow, standIns := [], harness := (true, "64365ce33fd0b89b4cab2ef07b9d7d2f7b0578e964c1b3a302faf943a1df0a10"), looks := false }, kinds := [], alts := [], laidByText := true, laidKinds := [.data], laidTests := true, laidLooks := .later }
def WalAgainCardSaid : Prop := Claim7.holds Tryd.pinned (.plain (OpenSpec.ofChange walAgainSpec)) walAgainCard

/-- THE SECOND FORM's CARD OF 'lapstonelaw08.WalPlaces'. -/
def walPlacesUptoCard : Claim7 := { stood := { row := walPlacesUptoRow, standIns := [], harness := (true, "64365ce33fd0b89b4cab2ef07b9d7d2f7b0578e964c1b3a302faf943a1df0a10"), looks := false }, kinds := [], alts := [], laidByText := true, laidKinds := [.data], laidTests := true, laidLooks := .later }
def WalPlacesUptoCardSaid : Prop := Claim7.holds Tryd.pinned (.plain (OpenSpec.upto walPlacesSpec)) walPlacesUptoCard

/-- THE SECOND FORM's CARD OF 'lapstonelaw08.WalAgain'. -/
def walAgainUptoCard : Claim7 := { stood := { row := walAgainUptoRow, standIns := [], harness := (true, "64365ce33fd0b89b4cab2ef07b9d7d2f7b0578e964c1b3a302faf943a1df0a10"), looks := false }, kinds := [], alts := [], laidByText := true, laidKinds := [.data], laidTests := true, laidLooks := .later }
def WalAgainUptoCardSaid : Prop := Claim7.holds Tryd.pinned (.plain (OpenSpec.upto walAgainSpec)) walAgainUptoCard
end Rows
end Go.Proofs.YtojlldalhhibmaaDoor
