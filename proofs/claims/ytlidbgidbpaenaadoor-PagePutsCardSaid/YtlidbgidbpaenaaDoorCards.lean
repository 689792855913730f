/-
  DERIVED. GIVEN WITH THE SEED: THE CARDS: each row of YtlidbgidbpaenaaDoorRows.lean that lists a variable, with what it lists TIED to the program's text (the seventh form; the later family's looks); each row that meets fmt, with fmt's text TOLD by the authors' own Lean function (tested against real Go, not proved from fmt's source: count such statements apart). THE CARD IS WHAT COUNTS. Prove the row's statement (the work); the ties are given (YtlidbgidbpaenaaDoorTie.lean); close each card by the builder's one call (the guide's Derived/Test/ToyasCard.lean, 'card_holds'). Laid BY PROGRAM, IN A SANDBOX (cutbox-door.mjs). By AI agents, Wed Nov 11 2026. No macro, syntax, notation, axiom, sorry.
-/
import Derived.Test.YtlidbgidbpaenaaDoorRows
import GoSem.ClaimSeven
namespace Go.Proofs.YtlidbgidbpaenaaDoor
namespace Rows

/-- THE TIED CARD OF 'lapstonelaw10.PageBytes'. -/
def pageBytesCard : Claim7 := { stood := { row := pageBytesRow, standIns := [], harness := (true, "b8241dd7a037f40e378d0b13a339650298ca9d4a4d452563d22eef1a8d074d70"), looks := false }, kinds := [], alts := [], laidByText := true, laidKinds := [.data], laidTests := true, laidLooks := .later }
def PageBytesCardSaid : Prop := Claim7.holds Tryd.pinned (.plain (OpenSpec.ofChange pageBytesSpec)) pageBytesCard

/-- THE TIED CARD OF 'lapstonelaw10.PageOf'. -/
def pageOfCard : Claim7 := { stood := { row := pageOfRow, standIns := [], harness := (true, "b8241dd7a037f40e378d0b13a339650298ca9d4a4d452563d22eef1a8d074d70"), looks := false }, kinds := [], alts := [], laidByText := true, laidKinds := [.data], laidTests := true, laidLooks := .later }
def PageOfCardSaid : Prop := Claim7.holds Tryd.pinned (.plain (OpenSpec.ofChange pageOfSpec)) pageOfCard

/-- THE TIED CARD OF 'lapstonelaw10.PageFinds'. -/
def pageFindsCard : Claim7 := { stood := { row := pageFindsRow, standIns := [], harness := (true, "b8241dd7a037f40e378d0b13a339650298ca9d4a4d452563d22eef1a8d074d70"), looks := false }, kinds := [], alts := [], laidByText := true, laidKinds := [.data], laidTests := true, laidLooks := .later }
def PageFindsCardSaid : Prop := Claim7.holds Tryd.pinned (.plain (OpenSpec.ofChange pageFindsSpec)) pageFindsCard

/-- THE TIED CARD OF 'lapstonelaw10.PageSplits'. -/
def pageSplitsCard : Claim7 := { stood := { row := pageSplitsRow, standIns := [], harness := (true, "b8241dd7a037f40e378d0b13a339650298ca9d4a4d452563d22eef1a8d074d70"), looks := false }, kinds := [], alts := [], laidByText := true, laidKinds := [.data], laidTests := true, laidLooks := .later }
def PageSplitsCardSaid : Prop := Claim7.holds Tryd.pinned (.plain (OpenSpec.ofChange pageSplitsSpec)) pageSplitsCard

/-- THE TIED CARD OF 'lapstonelaw10.PageHalves'. -/
def pageHalvesCard : Claim7 := { stood := { row := pageHalvesRow, standIns := [], harness := (true, "b8241dd7a037f40e378d0b13a339650298ca9d4a4d452563d22eef1a8d074d70"), looks := false }, kinds := [], alts := [], laidByText := true, laidKinds := [.data], laidTests := true, laidLooks := .later }
def PageHalvesCardSaid : Prop := Claim7.holds Tryd.pinned (.plain (OpenSpec.ofChange pageHalvesSpec)) pageHalvesCard

/-- THE TIED CARD OF 'lapstonelaw10.PageSame'. -/
def pageSameCard : Claim7 := { stood := { row := pageSameRow, standIns := [], harness := (true, "b8241dd7a037f40e378d0b13a339650298ca9d4a4d452563d22eef1a8d074d70"), looks := false }, kinds := [], alts := [], laidByText := true, laidKinds := [.data], laidTests := true, laidLooks := .later }
def PageSameCardSaid : Prop := Claim7.holds Tryd.pinned (.plain (OpenSpec.ofChange pageSameSpec)) pageSameCard

/-- THE TIED CARD OF 'lapstonelaw10.PagePuts'. -/
def pagePutsCard : Claim7 := { stood := { row := pagePutsRow, standIns := [], harness := (true, "b8241dd7a037f40e378d0b13a339650298ca9d4a4d452563d22eef1a8d074d70"), looks := false }, kinds := [], alts := [], laidByText := true, laidKinds := [.data], laidTests := true, laidLooks := .later }
def PagePutsCardSaid : Prop := Claim7.holds Tryd.pinned (.plain (OpenSpec.ofChange pagePutsSpec)) pagePutsCard

/-- THE SECOND FORM's CARD OF 'lapstonelaw10.PageBytes'. -/
def pageBytesUptoCard : Claim7 := { stood := { row := pageBytesUptoRow, standIns := [], harness := (true, "b8241dd7a037f40e378d0b13a339650298ca9d4a4d452563d22eef1a8d074d70"), looks := false }, kinds := [], alts := [], laidByText := true, laidKinds := [.data], laidTests := true, laidLooks := .later }
def PageBytesUptoCardSaid : Prop := Claim7.holds Tryd.pinned (.plain (OpenSpec.upto pageBytesSpec)) pageBytesUptoCard

/-- THE SECOND FORM's CARD OF 'lapstonelaw10.PageOf'. -/
def pageOfUptoCard : Claim7 := { stood := { row := pageOfUptoRow, standIns := [], harness := (true, "b8241dd7a037f40e378d0b13a339650298ca9d4a4d452563d22eef1a8d074d70"), looks := false }, kinds := [], alts := [], laidByText := true, laidKinds := [.data], laidTests := true, laidLooks := .later }
def PageOfUptoCardSaid : Prop := Claim7.holds Tryd.pinned (.plain (OpenSpec.upto pageOfSpec)) pageOfUptoCard

/-- THE SECOND FORM's CARD OF 'lapstonelaw10.PageFinds'. -/
def pageFindsUptoCard : Claim7 := { stood := { row := pageFindsUptoRow, standIns := [], harness := (true, "b8241dd7a037f40e378d0b13a339650298ca9d4a4d452563d22eef1a8d074d70"), looks := false }, kinds := [], alts := [], laidByText := true, laidKinds := [.data], laidTests := true, laidLooks := .later }
def PageFindsUptoCardSaid : Prop := Claim7.holds Tryd.pinned (.plain (OpenSpec.upto pageFindsSpec)) pageFindsUptoCard

/-- THE SECOND FORM's CARD OF 'lapstonelaw10.PageSplits'. -/
def pageSplitsUptoCard : Claim7 := { stood := { row := pageSplitsUptoRow, standIns := [], harness := (true, "b8241dd7a037f40e378d0b13a339650298ca9d4a4d452563d22eef1a8d074d70"), looks := false }, kinds := [], alts := [], laidByText := true, laidKinds := [.data], laidTests := true, laidLooks := .later }
def PageSplitsUptoCardSaid : Prop := Claim7.holds Tryd.pinned (.plain (OpenSpec.upto pageSplitsSpec)) pageSplitsUptoCard

/-- THE SECOND FORM's CARD OF 'lapstonelaw10.PageHalves'. -/
def pageHalvesUptoCard : Claim7 := { stood := { row := pageHalvesUptoRow, standIns := [], harness := (true, "b8241dd7a037f40e378d0b13a339650298ca9d4a4d452563d22eef1a8d074d70"), looks := false }, kinds := [], alts := [], laidByText := true, laidKinds := [.data], laidTests := true, laidLooks := .later }
def PageHalvesUptoCardSaid : Prop := Claim7.holds Tryd.pinned (.plain (OpenSpec.upto pageHalvesSpec)) pageHalvesUptoCard

/-- THE SECOND FORM's CARD OF 'lapstonelaw10.PageSame'. -/
def pageSameUptoCard : Claim7 := { stood := { row := pageSameUptoRow, standIns := [], harness := (true, "b8241dd7a037f40e378d0b13a339650298ca9d4a4d452563d22eef1a8d074d70"), looks := false }, kinds := [], alts := [], laidByText := true, laidKinds := [.data], laidTests := true, laidLooks := .later }
def PageSameUptoCardSaid : Prop := Claim7.holds Tryd.pinned (.plain (OpenSpec.upto pageSameSpec)) pageSameUptoCard

/-- THE SECOND FORM's CARD OF 'lapstonelaw10.PagePuts'. -/
def pagePutsUptoCard : Claim7 := { stood := { row := pagePutsUptoRow, standIns := [], harness := (true, "b8241dd7a037f40e378d0b13a339650298ca9d4a4d452563d22eef1a8d074d70"), looks := false }, kinds := [], alts := [], laidByText := true, laidKinds := [.data], laidTests := true, laidLooks := .later }
def PagePutsUptoCardSaid : Prop := Claim7.holds Tryd.pinned (.plain (OpenSpec.upto pagePutsSpec)) pagePutsUptoCard
end Rows
end Go.Proofs.YtlidbgidbpaenaaDoor
