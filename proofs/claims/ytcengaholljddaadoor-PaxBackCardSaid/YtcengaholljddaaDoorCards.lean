/-
  DERIVED. GIVEN WITH THE SEED: THE CARDS: each row of YtcengaholljddaaDoorRows.lean that lists a variable, with what it lists TIED to the program's text (the seventh form; the later family's looks); each row that meets fmt, with fmt's text TOLD by the authors' own Lean function (tested against real Go, not proved from fmt's source: count such statements apart). THE CARD IS WHAT COUNTS. Prove the row's statement (the work); the ties are given (YtcengaholljddaaDoorTie.lean); close each card by the builder's one call (the guide's Derived/Test/ToyasCard.lean, 'card_holds'). Laid BY PROGRAM, IN A SANDBOX (cutbox-door.mjs). By AI agents, Wed Nov 11 2026. No macro, syntax, notation, axiom, sorry.
-/
import Derived.Test.YtcengaholljddaaDoorRows
import GoSem.ClaimSeven
namespace Go.Proofs.YtcengaholljddaaDoor
namespace Rows

/-- THE TIED CARD OF 'amphoralaw11.PaxLines'. -/
def paxLinesCard : Claim7 := { stood := { row := paxLinesRow, standIns := [], harness := (true, "9fdc790ed01ac9da7579eebd23fbdfc49dca3a4ee3517cfc4c5c1e60637ccadc"), looks := true }, kinds := [], alts := [], laidByText := true, laidKinds := [.data, .data, .data, .sentinel, .sentinel], laidTests := true, laidLooks := .later }
def PaxLinesCardSaid : Prop := Claim7.holds Tryd.pinned (.plain (OpenSpec.ofChange paxLinesSpec)) paxLinesCard

/-- THE TIED CARD OF 'amphoralaw11.PaxDecodes'. -/
def paxDecodesCard : Claim7 := { stood := { row := paxDecodesRow, standIns := [], harness := (true, "9fdc790ed01ac9da7579eebd23fbdfc49dca3a4ee3517cfc4c5c1e60637ccadc"), looks := true }, kinds := [], alts := [], laidByText := true, laidKinds := [.data, .data, .data, .sentinel, .sentinel], laidTests := true, laidLooks := .later }
def PaxDecodesCardSaid : Prop := Claim7.holds Tryd.pinned (.plain (OpenSpec.ofChange paxDecodesSpec)) paxDecodesCard

/-- THE TIED CARD OF 'amphoralaw11.PaxCounts'. -/
def paxCountsCard : Claim7 := { stood := { row := paxCountsRow, standIns := [], harness := (true, "9fdc790ed01ac9da7579eebd23fbdfc49dca3a4ee3517cfc4c5c1e60637ccadc"), looks := true }, kinds := [], alts := [], laidByText := true, laidKinds := [.data, .data, .data, .sentinel, .sentinel], laidTests := true, laidLooks := .later }
def PaxCountsCardSaid : Prop := Claim7.holds Tryd.pinned (.plain (OpenSpec.ofChange paxCountsSpec)) paxCountsCard

/-- THE TIED CARD OF 'amphoralaw11.PaxBack'. -/
def paxBackCard : Claim7 := { stood := { row := paxBackRow, standIns := [], harness := (true, "9fdc790ed01ac9da7579eebd23fbdfc49dca3a4ee3517cfc4c5c1e60637ccadc"), looks := true }, kinds := [], alts := [], laidByText := true, laidKinds := [.data, .data, .data, .sentinel, .sentinel], laidTests := true, laidLooks := .later }
def PaxBackCardSaid : Prop := Claim7.holds Tryd.pinned (.plain (OpenSpec.ofChange paxBackSpec)) paxBackCard

/-- THE TIED CARD OF 'amphoralaw11.PaxEncodes'. -/
def paxEncodesCard : Claim7 := { stood := { row := paxEncodesRow, standIns := [], harness := (true, "9fdc790ed01ac9da7579eebd23fbdfc49dca3a4ee3517cfc4c5c1e60637ccadc"), looks := true }, kinds := [], alts := [], laidByText := true, laidKinds := [.data, .data, .data, .sentinel, .sentinel], laidTests := true, laidLooks := .later }
def PaxEncodesCardSaid : Prop := Claim7.holds Tryd.pinned (.plain (OpenSpec.ofChange paxEncodesSpec)) paxEncodesCard

/-- THE SECOND FORM's CARD OF 'amphoralaw11.PaxLines'. -/
def paxLinesUptoCard : Claim7 := { stood := { row := paxLinesUptoRow, standIns := [], harness := (true, "9fdc790ed01ac9da7579eebd23fbdfc49dca3a4ee3517cfc4c5c1e60637ccadc"), looks := true }, kinds := [], alts := [], laidByText := true, laidKinds := [.data, .data, .data, .sentinel, .sentinel], laidTests := true, laidLooks := .later }
def PaxLinesUptoCardSaid : Prop := Claim7.holds Tryd.pinned (.plain (OpenSpec.upto paxLinesSpec)) paxLinesUptoCard

/-- THE SECOND FORM's CARD OF 'amphoralaw11.PaxDecodes'. -/
def paxDecodesUptoCard : Claim7 := { stood := { row := paxDecodesUptoRow, standIns := [], harness := (true, "9fdc790ed01ac9da7579eebd23fbdfc49dca3a4ee3517cfc4c5c1e60637ccadc"), looks := true }, kinds := [], alts := [], laidByText := true, laidKinds := [.data, .data, .data, .sentinel, .sentinel], laidTests := true, laidLooks := .later }
def PaxDecodesUptoCardSaid : Prop := Claim7.holds Tryd.pinned (.plain (OpenSpec.upto paxDecodesSpec)) paxDecodesUptoCard

/-- THE SECOND FORM's CARD OF 'amphoralaw11.PaxCounts'. -/
def paxCountsUptoCard : Claim7 := { stood := { row := paxCountsUptoRow, standIns := [], harness := (true, "9fdc790ed01ac9da7579eebd23fbdfc49dca3a4ee3517cfc4c5c1e60637ccadc"), looks := true }, kinds := [], alts := [], laidByText := true, laidKinds := [.data, .data, .data, .sentinel, .sentinel], laidTests := true, laidLooks := .later }
def PaxCountsUptoCardSaid : Prop := Claim7.holds Tryd.pinned (.plain (OpenSpec.upto paxCountsSpec)) paxCountsUptoCard

/-- THE SECOND FORM's CARD OF 'amphoralaw11.PaxBack'. -/
def paxBackUptoCard : Claim7 := { stood := { row := paxBackUptoRow, standIns := [], harness := (true, "9fdc790ed01ac9da7579eebd23fbdfc49dca3a4ee3517cfc4c5c1e60637ccadc"), looks := true }, kinds := [], alts := [], laidByText := true, laidKinds := [.data, .data, .data, .sentinel, .sentinel], laidTests := true, laidLooks := .later }
def PaxBackUptoCardSaid : Prop := Claim7.holds Tryd.pinned (.plain (OpenSpec.upto paxBackSpec)) paxBackUptoCard

/-- THE SECOND FORM's CARD OF 'amphoralaw11.PaxEncodes'. -/
def paxEncodesUptoCard : Claim7 := { stood := { row := paxEncodesUptoRow, standIns := [], harness := (true, "9fdc790ed01ac9da7579eebd23fbdfc49dca3a4ee3517cfc4c5c1e60637ccadc"), looks := true }, kinds := [], alts := [], laidByText := true, laidKinds := [.data, .data, .data, .sentinel, .sentinel], laidTests := true, laidLooks := .later }
def PaxEncodesUptoCardSaid : Prop := Claim7.holds Tryd.pinned (.plain (OpenSpec.upto paxEncodesSpec)) paxEncodesUptoCard
end Rows
end Go.Proofs.YtcengaholljddaaDoor
