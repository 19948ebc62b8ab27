/-
  DERIVED. GIVEN WITH THE SEED: THE CARDS: each row of YtfkbmjfhakooiaaDoorRows.lean that lists a variable, with what it lists TIED to the program's text (the seventh form; the later family's looks); each row that meets fmt, with fmt's text TOLD by the authors' own Lean function (tested against real Go, not proved from fmt's source: count such statements apart). THE CARD IS WHAT COUNTS. Prove the row's statement (the work); the ties are given (YtfkbmjfhakooiaaDoorTie.lean); close each card by the builder's one call (the guide's Derived/Test/ToyasCard.lean, 'card_holds'). Laid BY PROGRAM, IN A SANDBOX (cutbox-door.mjs). By AI agents, Wed Nov 11 2026. No macro, syntax, notation, axiom, sorry.
-/
import Derived.Test.YtfkbmjfhakooiaaDoorRows
import GoSem.ClaimSeven
namespace Go.Proofs.YtfkbmjfhakooiaaDoor
namespace Rows

/-- THE TIED CARD OF 'amphoralaw09.TreeParents'. -/
def treeParentsCard : Claim7 := { stood := { row := treeParentsRow, standIns := [], harness := (true, "9c79c47f6df94cadc1a0881d91dc7fba7e89a703acaf3dc52e365ba84401fe80"), looks := false }, kinds := [], alts := [], laidByText := true, laidKinds := [.data, .pinned], laidTests := true, laidLooks := .later }
def TreeParentsCardSaid : Prop := Claim7.holds Tryd.pinned (.plain (OpenSpec.ofChange treeParentsSpec)) treeParentsCard

/-- THE TIED CARD OF 'amphoralaw09.TreeSames'. -/
def treeSamesCard : Claim7 := { stood := { row := treeSamesRow, standIns := [], harness := (true, "9c79c47f6df94cadc1a0881d91dc7fba7e89a703acaf3dc52e365ba84401fe80"), looks := false }, kinds := [], alts := [], laidByText := true, laidKinds := [.data, .pinned], laidTests := true, laidLooks := .later }
def TreeSamesCardSaid : Prop := Claim7.holds Tryd.pinned (.plain (OpenSpec.ofChange treeSamesSpec)) treeSamesCard

/-- THE TIED CARD OF 'amphoralaw09.TreeRebuilds'. -/
def treeRebuildsCard : Claim7 := { stood := { row := treeRebuildsRow, standIns := [], harness := (true, "9c79c47f6df94cadc1a0881d91dc7fba7e89a703acaf3dc52e365ba84401fe80"), looks := false }, kinds := [], alts := [], laidByText := true, laidKinds := [.data, .pinned], laidTests := true, laidLooks := .later }
def TreeRebuildsCardSaid : Prop := Claim7.holds Tryd.pinned (.plain (OpenSpec.ofChange treeRebuildsSpec)) treeRebuildsCard

/-- THE SECOND FORM's CARD OF 'amphoralaw09.TreeParents'. -/
def treeParentsUptoCard : Claim7 := { stood := { row := treeParentsUptoRow, standIns := [], harness := (true, "9c79c47f6df94cadc1a0881d91dc7fba7e89a703acaf3dc52e365ba84401fe80"), looks := false }, kinds := [], alts := [], laidByText := true, laidKinds := [.data, .pinned], laidTests := true, laidLooks := .later }
def TreeParentsUptoCardSaid : Prop := Claim7.holds Tryd.pinned (.plain (OpenSpec.upto treeParentsSpec)) treeParentsUptoCard

/-- THE SECOND FORM's CARD OF 'amphoralaw09.TreeSames'. -/
def treeSamesUptoCard : Claim7 := { stood := { row := treeSamesUptoRow, standIns := [], harness := (true, "9c79c47f6df94cadc1a0881d91dc7fba7e89a703acaf3dc52e365ba84401fe80"), looks := false }, kinds := [], alts := [], laidByText := true, laidKinds := [.data, .pinned], laidTests := true, laidLooks := .later }
def TreeSamesUptoCardSaid : Prop := Claim7.holds Tryd.pinned (.plain (OpenSpec.upto treeSamesSpec)) treeSamesUptoCard

/-- THE SECOND FORM's CARD OF 'amphoralaw09.TreeRebuilds'. -/
def treeRebuildsUptoCard : Claim7 := { stood := { row := treeRebuildsUptoRow, standIns := [], harness := (true, "9c79c47f6df94cadc1a0881d91dc7fba7e89a703acaf3dc52e365ba84401fe80"), looks := false }, kinds := [], alts := [], laidByText := true, laidKinds := [.data, .pinned], laidTests := true, laidLooks := .later }
def TreeRebuildsUptoCardSaid : Prop := Claim7.holds Tryd.pinned (.plain (OpenSpec.upto treeRebuildsSpec)) treeRebuildsUptoCard
end Rows
end Go.Proofs.YtfkbmjfhakooiaaDoor
