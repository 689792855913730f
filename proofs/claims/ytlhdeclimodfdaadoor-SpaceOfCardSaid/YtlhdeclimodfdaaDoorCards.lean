/-
  DERIVED. GIVEN WITH THE SEED: THE CARDS: each row of YtlhdeclimodfdaaDoorRows.lean that lists a variable, with what it lists TIED to the program's text (the seventh form; the later family's looks); each row that meets fmt, with fmt's text TOLD by the authors' own Lean function (tested against real Go, not proved from fmt's source: count such statements apart). THE CARD IS WHAT COUNTS. Prove the row's statement (the work); the ties are given (YtlhdeclimodfdaaDoorTie.lean); close each card by the builder's one call (the guide's Derived/Test/ToyasCard.lean, 'card_holds'). Laid BY PROGRAM, IN A SANDBOX (cutbox-door.mjs). By AI agents, Wed Nov 11 2026. No macro, syntax, notation, axiom, sorry.
-/
import Derived.Test.YtlhdeclimodfdaaDoorRows
import GoSem.ClaimSeven
namespace Go.Proofs.YtlhdeclimodfdaaDoor
namespace Rows

/-- THE TIED CARD OF 'lapstonelaw09.SpaceOnce'. -/
def spaceOnceCard : Claim7 := { stood := { row := spaceOnceRow, standIns := [], harness := (true, "dcb7e1e8c9bafe2e461f3d9a3e0dc83de631b7ea2df74f447c92fdfbe71e7dcd"), looks := false }, kinds := [], alts := [], laidByText := true, laidKinds := [.data], laidTests := true, laidLooks := .later }
def SpaceOnceCardSaid : Prop := Claim7.holds Tryd.pinned (.plain (OpenSpec.ofChange spaceOnceSpec)) spaceOnceCard

/-- THE TIED CARD OF 'lapstonelaw09.SpaceLeast'. -/
def spaceLeastCard : Claim7 := { stood := { row := spaceLeastRow, standIns := [], harness := (true, "dcb7e1e8c9bafe2e461f3d9a3e0dc83de631b7ea2df74f447c92fdfbe71e7dcd"), looks := false }, kinds := [], alts := [], laidByText := true, laidKinds := [.data], laidTests := true, laidLooks := .later }
def SpaceLeastCardSaid : Prop := Claim7.holds Tryd.pinned (.plain (OpenSpec.ofChange spaceLeastSpec)) spaceLeastCard

/-- THE TIED CARD OF 'lapstonelaw09.SpacePlays'. -/
def spacePlaysCard : Claim7 := { stood := { row := spacePlaysRow, standIns := [], harness := (true, "dcb7e1e8c9bafe2e461f3d9a3e0dc83de631b7ea2df74f447c92fdfbe71e7dcd"), looks := false }, kinds := [], alts := [], laidByText := true, laidKinds := [.data], laidTests := true, laidLooks := .later }
def SpacePlaysCardSaid : Prop := Claim7.holds Tryd.pinned (.plain (OpenSpec.ofChange spacePlaysSpec)) spacePlaysCard

/-- THE TIED CARD OF 'lapstonelaw09.SpaceBack'. -/
def spaceBackCard : Claim7 := { stood := { row := spaceBackRow, standIns := [], harness := (true, "dcb7e1e8c9bafe2e461f3d9a3e0dc83de631b7ea2df74f447c92fdfbe71e7dcd"), looks := false }, kinds := [], alts := [], laidByText := true, laidKinds := [.data], laidTests := true, laidLooks := .later }
def SpaceBackCardSaid : Prop := Claim7.holds Tryd.pinned (.plain (OpenSpec.ofChange spaceBackSpec)) spaceBackCard

/-- THE TIED CARD OF 'lapstonelaw09.SpaceOf'. -/
def spaceOfCard : Claim7 := { stood := { row := spaceOfRow, standIns := [], harness := (true, "dcb7e1e8c9bafe2e461f3d9a3e0dc83de631b7ea2df74f447c92fdfbe71e7dcd"), looks := false }, kinds := [], alts := [], laidByText := true, laidKinds := [.data], laidTests := true, laidLooks := .later }
def SpaceOfCardSaid : Prop := Claim7.holds Tryd.pinned (.plain (OpenSpec.ofChange spaceOfSpec)) spaceOfCard

/-- THE SECOND FORM's CARD OF 'lapstonelaw09.SpaceOnce'. -/
def spaceOnceUptoCard : Claim7 := { stood := { row := spaceOnceUptoRow, standIns := [], harness := (true, "dcb7e1e8c9bafe2e461f3d9a3e0dc83de631b7ea2df74f447c92fdfbe71e7dcd"), looks := false }, kinds := [], alts := [], laidByText := true, laidKinds := [.data], laidTests := true, laidLooks := .later }
def SpaceOnceUptoCardSaid : Prop := Claim7.holds Tryd.pinned (.plain (OpenSpec.upto spaceOnceSpec)) spaceOnceUptoCard

/-- THE SECOND FORM's CARD OF 'lapstonelaw09.SpaceLeast'. -/
def spaceLeastUptoCard : Claim7 := { stood := { row := spaceLeastUptoRow, standIns := [], harness := (true, "dcb7e1e8c9bafe2e461f3d9a3e0dc83de631b7ea2df74f447c92fdfbe71e7dcd"), looks := false }, kinds := [], alts := [], laidByText := true, laidKinds := [.data], laidTests := true, laidLooks := .later }
def SpaceLeastUptoCardSaid : Prop := Claim7.holds Tryd.pinned (.plain (OpenSpec.upto spaceLeastSpec)) spaceLeastUptoCard

/-- THE SECOND FORM's CARD OF 'lapstonelaw09.SpacePlays'. -/
def spacePlaysUptoCard : Claim7 := { stood := { row := spacePlaysUptoRow, standIns := [], harness := (true, "dcb7e1e8c9bafe2e461f3d9a3e0dc83de631b7ea2df74f447c92fdfbe71e7dcd"), looks := false }, kinds := [], alts := [], laidByText := true, laidKinds := [.data], laidTests := true, laidLooks := .later }
def SpacePlaysUptoCardSaid : Prop := Claim7.holds Tryd.pinned (.plain (OpenSpec.upto spacePlaysSpec)) spacePlaysUptoCard

/-- THE SECOND FORM's CARD OF 'lapstonelaw09.SpaceBack'. -/
def spaceBackUptoCard : Claim7 := { stood := { row := spaceBackUptoRow, standIns := [], harness := (true, "dcb7e1e8c9bafe2e461f3d9a3e0dc83de631b7ea2df74f447c92fdfbe71e7dcd"), looks := false }, kinds := [], alts := [], laidByText := true, laidKinds := [.data], laidTests := true, laidLooks := .later }
def SpaceBackUptoCardSaid : Prop := Claim7.holds Tryd.pinned (.plain (OpenSpec.upto spaceBackSpec)) spaceBackUptoCard

/-- THE SECOND FORM's CARD OF 'lapstonelaw09.SpaceOf'. -/
def spaceOfUptoCard : Claim7 := { stood := { row := spaceOfUptoRow, standIns := [], harness := (true, "dcb7e1e8c9bafe2e461f3d9a3e0dc83de631b7ea2df74f447c92fdfbe71e7dcd"), looks := false }, kinds := [], alts := [], laidByText := true, laidKinds := [.data], laidTests := true, laidLooks := .later }
def SpaceOfUptoCardSaid : Prop := Claim7.holds Tryd.pinned (.plain (OpenSpec.upto spaceOfSpec)) spaceOfUptoCard
end Rows
end Go.Proofs.YtlhdeclimodfdaaDoor
