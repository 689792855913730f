/-
  DERIVED. GIVEN WITH THE SEED: THE CARDS: each row of YthbhkdhljlganaaGreatDoorRows.lean that lists a variable, with what it lists TIED to the program's text (the seventh form; the later family's looks); each row that meets fmt, with fmt's text TOLD by the authors' own Lean function (tested against real Go, not proved from fmt's source: count such statements apart). THE CARD IS WHAT COUNTS. Prove the row's statement (the work); the ties are given (YthbhkdhljlganaaGreatDoorTie.lean); close each card by the builder's one call (the guide's Derived/Test/ToyasCard.lean, 'card_holds'). Laid BY PROGRAM, IN A SANDBOX (cutbox-door.mjs). By AI agents, Wed Nov 11 2026. No macro, syntax, notation, axiom, sorry.
-/
import Derived.Test.YthbhkdhljlganaaGreatDoorRows
import GoSem.ClaimSeven
namespace Go.Proofs.YthbhkdhljlganaaGreatDoor
namespace Rows

/-- THE TIED CARD OF 'lapstonelaw14.TreeOpens'. -/
def treeOpensCard : Claim7 := { stood := { row := treeOpensRow, standIns := [], harness := (true, "68a52e72e2d11a91cb5ed9e528d43bbc3c20d6d08d6d154d9668de2f58bc2fd1"), looks := false }, kinds := [], alts := [], laidByText := true, laidKinds := [.data], laidTests := true, laidLooks := .later }
def TreeOpensCardSaid : Prop := Claim7.holds Tryz.pinned (.plain (OpenSpec.ofChange treeOpensSpec)) treeOpensCard

/-- THE TIED CARD OF 'lapstonelaw15.StoreWhole'. -/
def storeWholeCard : Claim7 := { stood := { row := storeWholeRow, standIns := [], harness := (true, "68a52e72e2d11a91cb5ed9e528d43bbc3c20d6d08d6d154d9668de2f58bc2fd1"), looks := false }, kinds := [], alts := [], laidByText := true, laidKinds := [.data], laidTests := true, laidLooks := .later }
def StoreWholeCardSaid : Prop := Claim7.holds Tryz.pinned (.plain (OpenSpec.ofChange storeWholeSpec)) storeWholeCard

/-- THE SECOND FORM's CARD OF 'lapstonelaw14.TreeOpens'. -/
def treeOpensUptoCard : Claim7 := { stood := { row := treeOpensUptoRow, standIns := [], harness := (true, "68a52e72e2d11a91cb5ed9e528d43bbc3c20d6d08d6d154d9668de2f58bc2fd1"), looks := false }, kinds := [], alts := [], laidByText := true, laidKinds := [.data], laidTests := true, laidLooks := .later }
def TreeOpensUptoCardSaid : Prop := Claim7.holds Tryz.pinned (.plain (OpenSpec.upto treeOpensSpec)) treeOpensUptoCard

/-- THE SECOND FORM's CARD OF 'lapstonelaw15.StoreWhole'. -/
def storeWholeUptoCard : Claim7 := { stood := { row := storeWholeUptoRow, standIns := [], harness := (true, "68a52e72e2d11a91cb5ed9e528d43bbc3c20d6d08d6d154d9668de2f58bc2fd1"), looks := false }, kinds := [], alts := [], laidByText := true, laidKinds := [.data], laidTests := true, laidLooks := .later }
def StoreWholeUptoCardSaid : Prop := Claim7.holds Tryz.pinned (.plain (OpenSpec.upto storeWholeSpec)) storeWholeUptoCard
end Rows
end Go.Proofs.YthbhkdhljlganaaGreatDoor
