/-
  DERIVED. GIVEN WITH THE SEED: THE CARDS: each row of YthnlcbamjehpdaaGreatDoorRows.lean that lists a variable, with what it lists TIED to the program's text (the seventh form; the later family's looks); each row that meets fmt, with fmt's text TOLD by the authors' own Lean function (tested against real Go, not proved from fmt's source: count such statements apart). THE CARD IS WHAT COUNTS. Prove the row's statement (the work); the ties are given (YthnlcbamjehpdaaGreatDoorTie.lean); close each card by the builder's one call (the guide's Derived/Test/ToyasCard.lean, 'card_holds'). Laid BY PROGRAM, IN A SANDBOX (cutbox-door.mjs). By AI agents, Wed Nov 11 2026. No macro, syntax, notation, axiom, sorry.
-/
import Derived.Test.YthnlcbamjehpdaaGreatDoorRows
import GoSem.ClaimSeven
namespace Go.Proofs.YthnlcbamjehpdaaGreatDoor
namespace Rows

/-- THE TIED CARD OF 'lapstonelaw28.MoveChunks'. -/
def moveChunksCard : Claim7 := { stood := { row := moveChunksRow, standIns := [], harness := (true, "9fae4d6b354f0276b66c9ce0419810b170e16c5557b763f231e3be20cb6cf387"), looks := false }, kinds := [], alts := [], laidByText := true, laidKinds := [.data], laidTests := true, laidLooks := .later }
def MoveChunksCardSaid : Prop := Claim7.holds Tryz.pinned (.plain (OpenSpec.ofChange moveChunksSpec)) moveChunksCard

/-- THE TIED CARD OF 'lapstonelaw17.ViewCollects'. -/
def viewCollectsCard : Claim7 := { stood := { row := viewCollectsRow, standIns := [], harness := (true, "9fae4d6b354f0276b66c9ce0419810b170e16c5557b763f231e3be20cb6cf387"), looks := false }, kinds := [], alts := [], laidByText := true, laidKinds := [.data], laidTests := true, laidLooks := .later }
def ViewCollectsCardSaid : Prop := Claim7.holds Tryz.pinned (.plain (OpenSpec.ofChange viewCollectsSpec)) viewCollectsCard

/-- THE TIED CARD OF 'lapstonelaw28.MoveFull'. -/
def moveFullCard : Claim7 := { stood := { row := moveFullRow, standIns := [], harness := (true, "9fae4d6b354f0276b66c9ce0419810b170e16c5557b763f231e3be20cb6cf387"), looks := false }, kinds := [], alts := [], laidByText := true, laidKinds := [.data], laidTests := true, laidLooks := .later }
def MoveFullCardSaid : Prop := Claim7.holds Tryz.pinned (.plain (OpenSpec.ofChange moveFullSpec)) moveFullCard

/-- THE TIED CARD OF 'lapstonelaw28.MoveCopies'. -/
def moveCopiesCard : Claim7 := { stood := { row := moveCopiesRow, standIns := [], harness := (true, "9fae4d6b354f0276b66c9ce0419810b170e16c5557b763f231e3be20cb6cf387"), looks := false }, kinds := [], alts := [], laidByText := true, laidKinds := [.data], laidTests := true, laidLooks := .later }
def MoveCopiesCardSaid : Prop := Claim7.holds Tryz.pinned (.plain (OpenSpec.ofChange moveCopiesSpec)) moveCopiesCard

/-- THE SECOND FORM's CARD OF 'lapstonelaw28.MoveChunks'. -/
def moveChunksUptoCard : Claim7 := { stood := { row := moveChunksUptoRow, standIns := [], harness := (true, "9fae4d6b354f0276b66c9ce0419810b170e16c5557b763f231e3be20cb6cf387"), looks := false }, kinds := [], alts := [], laidByText := true, laidKinds := [.data], laidTests := true, laidLooks := .later }
def MoveChunksUptoCardSaid : Prop := Claim7.holds Tryz.pinned (.plain (OpenSpec.upto moveChunksSpec)) moveChunksUptoCard

/-- THE SECOND FORM's CARD OF 'lapstonelaw17.ViewCollects'. -/
def viewCollectsUptoCard : Claim7 := { stood := { row := viewCollectsUptoRow, standIns := [], harness := (true, "9fae4d6b354f0276b66c9ce0419810b170e16c5557b763f231e3be20cb6cf387"), looks := false }, kinds := [], alts := [], laidByText := true, laidKinds := [.data], laidTests := true, laidLooks := .later }
def ViewCollectsUptoCardSaid : Prop := Claim7.holds Tryz.pinned (.plain (OpenSpec.upto viewCollectsSpec)) viewCollectsUptoCard

/-- THE SECOND FORM's CARD OF 'lapstonelaw28.MoveFull'. -/
def moveFullUptoCard : Claim7 := { stood := { row := moveFullUptoRow, standIns := [], harness := (true, "9fae4d6b354f0276b66c9ce0419810b170e16c5557b763f231e3be20cb6cf387"), looks := false }, kinds := [], alts := [], laidByText := true, laidKinds := [.data], laidTests := true, laidLooks := .later }
def MoveFullUptoCardSaid : Prop := Claim7.holds Tryz.pinned (.plain (OpenSpec.upto moveFullSpec)) moveFullUptoCard

/-- THE SECOND FORM's CARD OF 'lapstonelaw28.MoveCopies'. -/
def moveCopiesUptoCard : Claim7 := { stood := { row := moveCopiesUptoRow, standIns := [], harness := (true, "9fae4d6b354f0276b66c9ce0419810b170e16c5557b763f231e3be20cb6cf387"), looks := false }, kinds := [], alts := [], laidByText := true, laidKinds := [.data], laidTests := true, laidLooks := .later }
def MoveCopiesUptoCardSaid : Prop := Claim7.holds Tryz.pinned (.plain (OpenSpec.upto moveCopiesSpec)) moveCopiesUptoCard
end Rows
end Go.Proofs.YthnlcbamjehpdaaGreatDoor
