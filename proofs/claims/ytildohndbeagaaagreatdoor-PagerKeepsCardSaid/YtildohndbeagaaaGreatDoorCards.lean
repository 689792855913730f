/-
  DERIVED. GIVEN WITH THE SEED: THE CARDS: each row of YtildohndbeagaaaGreatDoorRows.lean that lists a variable, with what it lists TIED to the program's text (the seventh form; the later family's looks); each row that meets fmt, with fmt's text TOLD by the authors' own Lean function (tested against real Go, not proved from fmt's source: count such statements apart). THE CARD IS WHAT COUNTS. Prove the row's statement (the work); the ties are given (YtildohndbeagaaaGreatDoorTie.lean); close each card by the builder's one call (the guide's Derived/Test/ToyasCard.lean, 'card_holds'). Laid BY PROGRAM, IN A SANDBOX (cutbox-door.mjs). By AI agents, Wed Nov 11 2026. No macro, syntax, notation, axiom, sorry.
-/
import Derived.Test.YtildohndbeagaaaGreatDoorRows
import GoSem.ClaimSeven
namespace Go.Proofs.YtildohndbeagaaaGreatDoor
namespace Rows

/-- THE TIED CARD OF 'lapstonelaw13.PagerPlaces'. -/
def pagerPlacesCard : Claim7 := { stood := { row := pagerPlacesRow, standIns := [], harness := (true, "a2217e7ae46fb816fb3dd726b023c8376b8fc1d22b7a7926ef935e2b4c15781e"), looks := false }, kinds := [], alts := [], laidByText := true, laidKinds := [.data, .data], laidTests := true, laidLooks := .later }
def PagerPlacesCardSaid : Prop := Claim7.holds Tryz.pinned (.plain (OpenSpec.ofChange pagerPlacesSpec)) pagerPlacesCard

/-- THE TIED CARD OF 'lapstonelaw13.PagerForms'. -/
def pagerFormsCard : Claim7 := { stood := { row := pagerFormsRow, standIns := [], harness := (true, "a2217e7ae46fb816fb3dd726b023c8376b8fc1d22b7a7926ef935e2b4c15781e"), looks := false }, kinds := [], alts := [], laidByText := true, laidKinds := [.data, .data], laidTests := true, laidLooks := .later }
def PagerFormsCardSaid : Prop := Claim7.holds Tryz.pinned (.plain (OpenSpec.ofChange pagerFormsSpec)) pagerFormsCard

/-- THE TIED CARD OF 'lapstonelaw13.PagerPlays'. -/
def pagerPlaysCard : Claim7 := { stood := { row := pagerPlaysRow, standIns := [], harness := (true, "a2217e7ae46fb816fb3dd726b023c8376b8fc1d22b7a7926ef935e2b4c15781e"), looks := false }, kinds := [], alts := [], laidByText := true, laidKinds := [.data, .data], laidTests := true, laidLooks := .later }
def PagerPlaysCardSaid : Prop := Claim7.holds Tryz.pinned (.plain (OpenSpec.ofChange pagerPlaysSpec)) pagerPlaysCard

/-- THE TIED CARD OF 'lapstonelaw13.PagerKeeps'. -/
def pagerKeepsCard : Claim7 := { stood := { row := pagerKeepsRow, standIns := [], harness := (true, "a2217e7ae46fb816fb3dd726b023c8376b8fc1d22b7a7926ef935e2b4c15781e"), looks := false }, kinds := [], alts := [], laidByText := true, laidKinds := [.data, .data], laidTests := true, laidLooks := .later }
def PagerKeepsCardSaid : Prop := Claim7.holds Tryz.pinned (.plain (OpenSpec.ofChange pagerKeepsSpec)) pagerKeepsCard

/-- THE TIED CARD OF 'lapstonelaw13.PagerLeast'. -/
def pagerLeastCard : Claim7 := { stood := { row := pagerLeastRow, standIns := [], harness := (true, "a2217e7ae46fb816fb3dd726b023c8376b8fc1d22b7a7926ef935e2b4c15781e"), looks := false }, kinds := [], alts := [], laidByText := true, laidKinds := [.data, .data], laidTests := true, laidLooks := .later }
def PagerLeastCardSaid : Prop := Claim7.holds Tryz.pinned (.plain (OpenSpec.ofChange pagerLeastSpec)) pagerLeastCard

/-- THE SECOND FORM's CARD OF 'lapstonelaw13.PagerPlaces'. -/
def pagerPlacesUptoCard : Claim7 := { stood := { row := pagerPlacesUptoRow, standIns := [], harness := (true, "a2217e7ae46fb816fb3dd726b023c8376b8fc1d22b7a7926ef935e2b4c15781e"), looks := false }, kinds := [], alts := [], laidByText := true, laidKinds := [.data, .data], laidTests := true, laidLooks := .later }
def PagerPlacesUptoCardSaid : Prop := Claim7.holds Tryz.pinned (.plain (OpenSpec.upto pagerPlacesSpec)) pagerPlacesUptoCard

/-- THE SECOND FORM's CARD OF 'lapstonelaw13.PagerForms'. -/
def pagerFormsUptoCard : Claim7 := { stood := { row := pagerFormsUptoRow, standIns := [], harness := (true, "a2217e7ae46fb816fb3dd726b023c8376b8fc1d22b7a7926ef935e2b4c15781e"), looks := false }, kinds := [], alts := [], laidByText := true, laidKinds := [.data, .data], laidTests := true, laidLooks := .later }
def PagerFormsUptoCardSaid : Prop := Claim7.holds Tryz.pinned (.plain (OpenSpec.upto pagerFormsSpec)) pagerFormsUptoCard

/-- THE SECOND FORM's CARD OF 'lapstonelaw13.PagerPlays'. -/
def pagerPlaysUptoCard : Claim7 := { stood := { row := pagerPlaysUptoRow, standIns := [], harness := (true, "a2217e7ae46fb816fb3dd726b023c8376b8fc1d22b7a7926ef935e2b4c15781e"), looks := false }, kinds := [], alts := [], laidByText := true, laidKinds := [.data, .data], laidTests := true, laidLooks := .later }
def PagerPlaysUptoCardSaid : Prop := Claim7.holds Tryz.pinned (.plain (OpenSpec.upto pagerPlaysSpec)) pagerPlaysUptoCard

/-- THE SECOND FORM's CARD OF 'lapstonelaw13.PagerKeeps'. -/
def pagerKeepsUptoCard : Claim7 := { stood := { row := pagerKeepsUptoRow, standIns := [], harness := (true, "a2217e7ae46fb816fb3dd726b023c8376b8fc1d22b7a7926ef935e2b4c15781e"), looks := false }, kinds := [], alts := [], laidByText := true, laidKinds := [.data, .data], laidTests := true, laidLooks := .later }
def PagerKeepsUptoCardSaid : Prop := Claim7.holds Tryz.pinned (.plain (OpenSpec.upto pagerKeepsSpec)) pagerKeepsUptoCard

/-- THE SECOND FORM's CARD OF 'lapstonelaw13.PagerLeast'. -/
def pagerLeastUptoCard : Claim7 := { stood := { row := pagerLeastUptoRow, standIns := [], harness := (true, "a2217e7ae46fb816fb3dd726b023c8376b8fc1d22b7a7926ef935e2b4c15781e"), looks := false }, kinds := [], alts := [], laidByText := true, laidKinds := [.data, .data], laidTests := true, laidLooks := .later }
def PagerLeastUptoCardSaid : Prop := Claim7.holds Tryz.pinned (.plain (OpenSpec.upto pagerLeastSpec)) pagerLeastUptoCard
end Rows
end Go.Proofs.YtildohndbeagaaaGreatDoor
