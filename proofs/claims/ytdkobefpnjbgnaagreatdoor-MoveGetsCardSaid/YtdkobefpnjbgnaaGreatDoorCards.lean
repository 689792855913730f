/-
  DERIVED. GIVEN WITH THE SEED: THE CARDS: each row of YtdkobefpnjbgnaaGreatDoorRows.lean that lists a variable, with what it lists TIED to the program's text (the seventh form; the later family's looks); each row that meets fmt, with fmt's text TOLD by the authors' own Lean function (tested against real Go, not proved from fmt's source: count such statements apart). THE CARD IS WHAT COUNTS. Prove the row's statement (the work); the ties are given (YtdkobefpnjbgnaaGreatDoorTie.lean); close each card by the builder's one call (the guide's Derived/Test/ToyasCard.lean, 'card_holds'). Laid BY PROGRAM, IN A SANDBOX (cutbox-door.mjs). By AI agents, Wed Nov 11 2026. No macro, syntax, notation, axiom, sorry.
-/
import Derived.Test.YtdkobefpnjbgnaaGreatDoorRows
import GoSem.ClaimSeven
namespace Go.Proofs.YtdkobefpnjbgnaaGreatDoor
namespace Rows

/-- THE TIED CARD OF 'lapstonelaw28.MovePuts'. -/
def movePutsCard : Claim7 := { stood := { row := movePutsRow, standIns := [], harness := (true, "f3aa28c72b4e38637dc1aa14137d094d7dd307b6649b5af9c8e6ddcbb2bc5ec7"), looks := false }, kinds := [], alts := [], laidByText := true, laidKinds := [.data], laidTests := true, laidLooks := .later }
def MovePutsCardSaid : Prop := Claim7.holds Tryz.pinned (.plain (OpenSpec.ofChange movePutsSpec)) movePutsCard

/-- THE TIED CARD OF 'lapstonelaw28.MoveGets'. -/
def moveGetsCard : Claim7 := { stood := { row := moveGetsRow, standIns := [], harness := (true, "f3aa28c72b4e38637dc1aa14137d094d7dd307b6649b5af9c8e6ddcbb2bc5ec7"), looks := false }, kinds := [], alts := [], laidByText := true, laidKinds := [.data], laidTests := true, laidLooks := .later }
def MoveGetsCardSaid : Prop := Claim7.holds Tryz.pinned (.plain (OpenSpec.ofChange moveGetsSpec)) moveGetsCard

/-- THE TIED CARD OF 'lapstonelaw28.MoveChunks'. -/
def moveChunksCard : Claim7 := { stood := { row := moveChunksRow, standIns := [], harness := (true, "f3aa28c72b4e38637dc1aa14137d094d7dd307b6649b5af9c8e6ddcbb2bc5ec7"), looks := false }, kinds := [], alts := [], laidByText := true, laidKinds := [.data], laidTests := true, laidLooks := .later }
def MoveChunksCardSaid : Prop := Claim7.holds Tryz.pinned (.plain (OpenSpec.ofChange moveChunksSpec)) moveChunksCard

/-- THE TIED CARD OF 'lapstonelaw28.MoveFull'. -/
def moveFullCard : Claim7 := { stood := { row := moveFullRow, standIns := [], harness := (true, "f3aa28c72b4e38637dc1aa14137d094d7dd307b6649b5af9c8e6ddcbb2bc5ec7"), looks := false }, kinds := [], alts := [], laidByText := true, laidKinds := [.data], laidTests := true, laidLooks := .later }
def MoveFullCardSaid : Prop := Claim7.holds Tryz.pinned (.plain (OpenSpec.ofChange moveFullSpec)) moveFullCard

/-- THE TIED CARD OF 'lapstonelaw28.MoveCopies'. -/
def moveCopiesCard : Claim7 := { stood := { row := moveCopiesRow, standIns := [], harness := (true, "f3aa28c72b4e38637dc1aa14137d094d7dd307b6649b5af9c8e6ddcbb2bc5ec7"), looks := false }, kinds := [], alts := [], laidByText := true, laidKinds := [.data], laidTests := true, laidLooks := .later }
def MoveCopiesCardSaid : Prop := Claim7.holds Tryz.pinned (.plain (OpenSpec.ofChange moveCopiesSpec)) moveCopiesCard

/-- THE SECOND FORM's CARD OF 'lapstonelaw28.MovePuts'. -/
def movePutsUptoCard : Claim7 := { stood := { row := movePutsUptoRow, standIns := [], harness := (true, "f3aa28c72b4e38637dc1aa14137d094d7dd307b6649b5af9c8e6ddcbb2bc5ec7"), looks := false }, kinds := [], alts := [], laidByText := true, laidKinds := [.data], laidTests := true, laidLooks := .later }
def MovePutsUptoCardSaid : Prop := Claim7.holds Tryz.pinned (.plain (OpenSpec.upto movePutsSpec)) movePutsUptoCard

/-- THE SECOND FORM's CARD OF 'lapstonelaw28.MoveGets'. -/
def moveGetsUptoCard : Claim7 := { stood := { row := moveGetsUptoRow, standIns := [], harness := (true, "f3aa28c72b4e38637dc1aa14137d094d7dd307b6649b5af9c8e6ddcbb2bc5ec7"), looks := false }, kinds := [], alts := [], laidByText := true, laidKinds := [.data], laidTests := true, laidLooks := .later }
def MoveGetsUptoCardSaid : Prop := Claim7.holds Tryz.pinned (.plain (OpenSpec.upto moveGetsSpec)) moveGetsUptoCard

/-- THE SECOND FORM's CARD OF 'lapstonelaw28.MoveChunks'. -/
def moveChunksUptoCard : Claim7 := { stood := { row := moveChunksUptoRow, standIns := [], harness := (true, "f3aa28c72b4e38637dc1aa14137d094d7dd307b6649b5af9c8e6ddcbb2bc5ec7"), looks := false }, kinds := [], alts := [], laidByText := true, laidKinds := [.data], laidTests := true, laidLooks := .later }
def MoveChunksUptoCardSaid : Prop := Claim7.holds Tryz.pinned (.plain (OpenSpec.upto moveChunksSpec)) moveChunksUptoCard

/-- THE SECOND FORM's CARD OF 'lapstonelaw28.MoveFull'. -/
def moveFullUptoCard : Claim7 := { stood := { row := moveFullUptoRow, standIns := [], harness := (true, "f3aa28c72b4e38637dc1aa14137d094d7dd307b6649b5af9c8e6ddcbb2bc5ec7"), looks := false }, kinds := [], alts := [], laidByText := true, laidKinds := [.data], laidTests := true, laidLooks := .later }
def MoveFullUptoCardSaid : Prop := Claim7.holds Tryz.pinned (.plain (OpenSpec.upto moveFullSpec)) moveFullUptoCard

/-- THE SECOND FORM's CARD OF 'lapstonelaw28.MoveCopies'. -/
def moveCopiesUptoCard : Claim7 := { stood := { row := moveCopiesUptoRow, standIns := [], harness := (true, "f3aa28c72b4e38637dc1aa14137d094d7dd307b6649b5af9c8e6ddcbb2bc5ec7"), looks := false }, kinds := [], alts := [], laidByText := true, laidKinds := [.data], laidTests := true, laidLooks := .later }
def MoveCopiesUptoCardSaid : Prop := Claim7.holds Tryz.pinned (.plain (OpenSpec.upto moveCopiesSpec)) moveCopiesUptoCard
end Rows
end Go.Proofs.YtdkobefpnjbgnaaGreatDoor
