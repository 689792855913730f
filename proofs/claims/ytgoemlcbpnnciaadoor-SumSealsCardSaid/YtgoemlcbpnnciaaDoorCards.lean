/-
  DERIVED. GIVEN WITH THE SEED: THE CARDS: each row of YtgoemlcbpnnciaaDoorRows.lean that lists a variable, with what it lists TIED to the program's text (the seventh form; the later family's looks); each row that meets fmt, with fmt's text TOLD by the authors' own Lean function (tested against real Go, not proved from fmt's source: count such statements apart). THE CARD IS WHAT COUNTS. Prove the row's statement (the work); the ties are given (YtgoemlcbpnnciaaDoorTie.lean); close each card by the builder's one call (the guide's Derived/Test/ToyasCard.lean, 'card_holds'). Laid BY PROGRAM, IN A SANDBOX (cutbox-door.mjs). By AI agents, Wed Nov 11 2026. No macro, syntax, notation, axiom, sorry.
-/
import Derived.Test.YtgoemlcbpnnciaaDoorRows
import GoSem.ClaimSeven
namespace Go.Proofs.YtgoemlcbpnnciaaDoor
namespace Rows

/-- THE TIED CARD OF 'lapstonelaw01.NumPuts'. -/
def numPutsCard : Claim7 := { stood := { row := numPutsRow, standIns := [], harness := (true, "67231969e6bd5e10d2331027d400a059364b006d9eb5a51442993cd683dddf16"), looks := false }, kinds := [], alts := [], laidByText := true, laidKinds := [.data], laidTests := true, laidLooks := .later }
def NumPutsCardSaid : Prop := Claim7.holds Tryd.pinned (.plain (OpenSpec.ofChange numPutsSpec)) numPutsCard

/-- THE TIED CARD OF 'lapstonelaw01.NumVars'. -/
def numVarsCard : Claim7 := { stood := { row := numVarsRow, standIns := [], harness := (true, "67231969e6bd5e10d2331027d400a059364b006d9eb5a51442993cd683dddf16"), looks := false }, kinds := [], alts := [], laidByText := true, laidKinds := [.data], laidTests := true, laidLooks := .later }
def NumVarsCardSaid : Prop := Claim7.holds Tryd.pinned (.plain (OpenSpec.ofChange numVarsSpec)) numVarsCard

/-- THE TIED CARD OF 'lapstonelaw01.NumReads'. -/
def numReadsCard : Claim7 := { stood := { row := numReadsRow, standIns := [], harness := (true, "67231969e6bd5e10d2331027d400a059364b006d9eb5a51442993cd683dddf16"), looks := false }, kinds := [], alts := [], laidByText := true, laidKinds := [.data], laidTests := true, laidLooks := .later }
def NumReadsCardSaid : Prop := Claim7.holds Tryd.pinned (.plain (OpenSpec.ofChange numReadsSpec)) numReadsCard

/-- THE TIED CARD OF 'lapstonelaw01.NumOnly'. -/
def numOnlyCard : Claim7 := { stood := { row := numOnlyRow, standIns := [], harness := (true, "67231969e6bd5e10d2331027d400a059364b006d9eb5a51442993cd683dddf16"), looks := false }, kinds := [], alts := [], laidByText := true, laidKinds := [.data], laidTests := true, laidLooks := .later }
def NumOnlyCardSaid : Prop := Claim7.holds Tryd.pinned (.plain (OpenSpec.ofChange numOnlySpec)) numOnlyCard

/-- THE TIED CARD OF 'lapstonelaw01.NumOrder'. -/
def numOrderCard : Claim7 := { stood := { row := numOrderRow, standIns := [], harness := (true, "67231969e6bd5e10d2331027d400a059364b006d9eb5a51442993cd683dddf16"), looks := false }, kinds := [], alts := [], laidByText := true, laidKinds := [.data], laidTests := true, laidLooks := .later }
def NumOrderCardSaid : Prop := Claim7.holds Tryd.pinned (.plain (OpenSpec.ofChange numOrderSpec)) numOrderCard

/-- THE TIED CARD OF 'lapstonelaw01.NumCmps'. -/
def numCmpsCard : Claim7 := { stood := { row := numCmpsRow, standIns := [], harness := (true, "67231969e6bd5e10d2331027d400a059364b006d9eb5a51442993cd683dddf16"), looks := false }, kinds := [], alts := [], laidByText := true, laidKinds := [.data], laidTests := true, laidLooks := .later }
def NumCmpsCardSaid : Prop := Claim7.holds Tryd.pinned (.plain (OpenSpec.ofChange numCmpsSpec)) numCmpsCard

/-- THE TIED CARD OF 'lapstonelaw01.NumGets'. -/
def numGetsCard : Claim7 := { stood := { row := numGetsRow, standIns := [], harness := (true, "67231969e6bd5e10d2331027d400a059364b006d9eb5a51442993cd683dddf16"), looks := false }, kinds := [], alts := [], laidByText := true, laidKinds := [.data], laidTests := true, laidLooks := .later }
def NumGetsCardSaid : Prop := Claim7.holds Tryd.pinned (.plain (OpenSpec.ofChange numGetsSpec)) numGetsCard

/-- THE TIED CARD OF 'lapstonelaw01.NumBack'. -/
def numBackCard : Claim7 := { stood := { row := numBackRow, standIns := [], harness := (true, "67231969e6bd5e10d2331027d400a059364b006d9eb5a51442993cd683dddf16"), looks := false }, kinds := [], alts := [], laidByText := true, laidKinds := [.data], laidTests := true, laidLooks := .later }
def NumBackCardSaid : Prop := Claim7.holds Tryd.pinned (.plain (OpenSpec.ofChange numBackSpec)) numBackCard

/-- THE TIED CARD OF 'lapstonelaw02.SumOf'. -/
def sumOfCard : Claim7 := { stood := { row := sumOfRow, standIns := [], harness := (true, "67231969e6bd5e10d2331027d400a059364b006d9eb5a51442993cd683dddf16"), looks := false }, kinds := [], alts := [], laidByText := true, laidKinds := [.data], laidTests := true, laidLooks := .later }
def SumOfCardSaid : Prop := Claim7.holds Tryd.pinned (.plain (OpenSpec.ofChange sumOfSpec)) sumOfCard

/-- THE TIED CARD OF 'lapstonelaw02.SumMore'. -/
def sumMoreCard : Claim7 := { stood := { row := sumMoreRow, standIns := [], harness := (true, "67231969e6bd5e10d2331027d400a059364b006d9eb5a51442993cd683dddf16"), looks := false }, kinds := [], alts := [], laidByText := true, laidKinds := [.data], laidTests := true, laidLooks := .later }
def SumMoreCardSaid : Prop := Claim7.holds Tryd.pinned (.plain (OpenSpec.ofChange sumMoreSpec)) sumMoreCard

/-- THE TIED CARD OF 'lapstonelaw02.SumOpens'. -/
def sumOpensCard : Claim7 := { stood := { row := sumOpensRow, standIns := [], harness := (true, "67231969e6bd5e10d2331027d400a059364b006d9eb5a51442993cd683dddf16"), looks := false }, kinds := [], alts := [], laidByText := true, laidKinds := [.data], laidTests := true, laidLooks := .later }
def SumOpensCardSaid : Prop := Claim7.holds Tryd.pinned (.plain (OpenSpec.ofChange sumOpensSpec)) sumOpensCard

/-- THE TIED CARD OF 'lapstonelaw02.SumSeals'. -/
def sumSealsCard : Claim7 := { stood := { row := sumSealsRow, standIns := [], harness := (true, "67231969e6bd5e10d2331027d400a059364b006d9eb5a51442993cd683dddf16"), looks := false }, kinds := [], alts := [], laidByText := true, laidKinds := [.data], laidTests := true, laidLooks := .later }
def SumSealsCardSaid : Prop := Claim7.holds Tryd.pinned (.plain (OpenSpec.ofChange sumSealsSpec)) sumSealsCard

/-- THE SECOND FORM's CARD OF 'lapstonelaw01.NumPuts'. -/
def numPutsUptoCard : Claim7 := { stood := { row := numPutsUptoRow, standIns := [], harness := (true, "67231969e6bd5e10d2331027d400a059364b006d9eb5a51442993cd683dddf16"), looks := false }, kinds := [], alts := [], laidByText := true, laidKinds := [.data], laidTests := true, laidLooks := .later }
def NumPutsUptoCardSaid : Prop := Claim7.holds Tryd.pinned (.plain (OpenSpec.upto numPutsSpec)) numPutsUptoCard

/-- THE SECOND FORM's CARD OF 'lapstonelaw01.NumVars'. -/
def numVarsUptoCard : Claim7 := { stood := { row := numVarsUptoRow, standIns := [], harness := (true, "67231969e6bd5e10d2331027d400a059364b006d9eb5a51442993cd683dddf16"), looks := false }, kinds := [], alts := [], laidByText := true, laidKinds := [.data], laidTests := true, laidLooks := .later }
def NumVarsUptoCardSaid : Prop := Claim7.holds Tryd.pinned (.plain (OpenSpec.upto numVarsSpec)) numVarsUptoCard

/-- THE SECOND FORM's CARD OF 'lapstonelaw01.NumReads'. -/
def numReadsUptoCard : Claim7 := { stood := { row := numReadsUptoRow, standIns := [], harness := (true, "67231969e6bd5e10d2331027d400a059364b006d9eb5a51442993cd683dddf16"), looks := false }, kinds := [], alts := [], laidByText := true, laidKinds := [.data], laidTests := true, laidLooks := .later }
def NumReadsUptoCardSaid : Prop := Claim7.holds Tryd.pinned (.plain (OpenSpec.upto numReadsSpec)) numReadsUptoCard

/-- THE SECOND FORM's CARD OF 'lapstonelaw01.NumOnly'. -/
def numOnlyUptoCard : Claim7 := { stood := { row := numOnlyUptoRow, standIns := [], harness := (true, "67231969e6bd5e10d2331027d400a059364b006d9eb5a51442993cd683dddf16"), looks := false }, kinds := [], alts := [], laidByText := true, laidKinds := [.data], laidTests := true, laidLooks := .later }
def NumOnlyUptoCardSaid : Prop := Claim7.holds Tryd.pinned (.plain (OpenSpec.upto numOnlySpec)) numOnlyUptoCard

/-- THE SECOND FORM's CARD OF 'lapstonelaw01.NumOrder'. -/
def numOrderUptoCard : Claim7 := { stood := { row := numOrderUptoRow, standIns := [], harness := (true, "67231969e6bd5e10d2331027d400a059364b006d9eb5a51442993cd683dddf16"), looks := false }, kinds := [], alts := [], laidByText := true, laidKinds := [.data], laidTests := true, laidLooks := .later }
def NumOrderUptoCardSaid : Prop := Claim7.holds Tryd.pinned (.plain (OpenSpec.upto numOrderSpec)) numOrderUptoCard

/-- THE SECOND FORM's CARD OF 'lapstonelaw01.NumCmps'. -/
def numCmpsUptoCard : Claim7 := { stood := { row := numCmpsUptoRow, standIns := [], harness := (true, "67231969e6bd5e10d2331027d400a059364b006d9eb5a51442993cd683dddf16"), looks := false }, kinds := [], alts := [], laidByText := true, laidKinds := [.data], laidTests := true, laidLooks := .later }
def NumCmpsUptoCardSaid : Prop := Claim7.holds Tryd.pinned (.plain (OpenSpec.upto numCmpsSpec)) numCmpsUptoCard

/-- THE SECOND FORM's CARD OF 'lapstonelaw01.NumGets'. -/
def numGetsUptoCard : Claim7 := { stood := { row := numGetsUptoRow, standIns := [], harness := (true, "67231969e6bd5e10d2331027d400a059364b006d9eb5a51442993cd683dddf16"), looks := false }, kinds := [], alts := [], laidByText := true, laidKinds := [.data], laidTests := true, laidLooks := .later }
def NumGetsUptoCardSaid : Prop := Claim7.holds Tryd.pinned (.plain (OpenSpec.upto numGetsSpec)) numGetsUptoCard

/-- THE SECOND FORM's CARD OF 'lapstonelaw01.NumBack'. -/
def numBackUptoCard : Claim7 := { stood := { row := numBackUptoRow, standIns := [], harness := (true, "67231969e6bd5e10d2331027d400a059364b006d9eb5a51442993cd683dddf16"), looks := false }, kinds := [], alts := [], laidByText := true, laidKinds := [.data], laidTests := true, laidLooks := .later }
def NumBackUptoCardSaid : Prop := Claim7.holds Tryd.pinned (.plain (OpenSpec.upto numBackSpec)) numBackUptoCard

/-- THE SECOND FORM's CARD OF 'lapstonelaw02.SumOf'. -/
def sumOfUptoCard : Claim7 := { stood := { row := sumOfUptoRow, standIns := [], harness := (true, "67231969e6bd5e10d2331027d400a059364b006d9eb5a51442993cd683dddf16"), looks := false }, kinds := [], alts := [], laidByText := true, laidKinds := [.data], laidTests := true, laidLooks := .later }
def SumOfUptoCardSaid : Prop := Claim7.holds Tryd.pinned (.plain (OpenSpec.upto sumOfSpec)) sumOfUptoCard

/-- THE SECOND FORM's CARD OF 'lapstonelaw02.SumMore'. -/
def sumMoreUptoCard : Claim7 := { stood := { row := sumMoreUptoRow, standIns := [], harness := (true, "67231969e6bd5e10d2331027d400a059364b006d9eb5a51442993cd683dddf16"), looks := false }, kinds := [], alts := [], laidByText := true, laidKinds := [.data], laidTests := true, laidLooks := .later }
def SumMoreUptoCardSaid : Prop := Claim7.holds Tryd.pinned (.plain (OpenSpec.upto sumMoreSpec)) sumMoreUptoCard

/-- THE SECOND FORM's CARD OF 'lapstonelaw02.SumOpens'. -/
def sumOpensUptoCard : Claim7 := { stood := { row := sumOpensUptoRow, standIns := [], harness := (true, "67231969e6bd5e10d2331027d400a059364b006d9eb5a51442993cd683dddf16"), looks := false }, kinds := [], alts := [], laidByText := true, laidKinds := [.data], laidTests := true, laidLooks := .later }
def SumOpensUptoCardSaid : Prop := Claim7.holds Tryd.pinned (.plain (OpenSpec.upto sumOpensSpec)) sumOpensUptoCard

/-- THE SECOND FORM's CARD OF 'lapstonelaw02.SumSeals'. -/
def sumSealsUptoCard : Claim7 := { stood := { row := sumSealsUptoRow, standIns := [], harness := (true, "67231969e6bd5e10d2331027d400a059364b006d9eb5a51442993cd683dddf16"), looks := false }, kinds := [], alts := [], laidByText := true, laidKinds := [.data], laidTests := true, laidLooks := .later }
def SumSealsUptoCardSaid : Prop := Claim7.holds Tryd.pinned (.plain (OpenSpec.upto sumSealsSpec)) sumSealsUptoCard
end Rows
end Go.Proofs.YtgoemlcbpnnciaaDoor
