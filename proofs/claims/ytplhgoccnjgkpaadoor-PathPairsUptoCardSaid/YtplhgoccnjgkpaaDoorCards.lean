/-
  DERIVED. GIVEN WITH THE SEED: THE CARDS: each row of YtplhgoccnjgkpaaDoorRows.lean that lists a variable, with what it lists TIED to the program's text (the seventh form; the later family's looks); each row that meets fmt, with fmt's text TOLD by the authors' own Lean function (tested against real Go, not proved from fmt's source: count such statements apart). THE CARD IS WHAT COUNTS. Prove the row's statement (the work); the ties are given (YtplhgoccnjgkpaaDoorTie.lean); close each card by the builder's one call (the guide's Derived/Test/ToyasCard.lean, 'card_holds'). Laid BY PROGRAM, IN A SANDBOX (cutbox-door.mjs). By AI agents, Wed Nov 11 2026. No macro, syntax, notation, axiom, sorry.
-/
import Derived.Test.YtplhgoccnjgkpaaDoorRows
import GoSem.ClaimSeven
namespace Go.Proofs.YtplhgoccnjgkpaaDoor
namespace Rows

/-- THE TIED CARD OF 'amphoralaw08.PathJoins'. -/
def pathJoinsCard : Claim7 := { stood := { row := pathJoinsRow, standIns := [], harness := (true, "a8b69350fe812114e01247568b82e1c3c5a4f85190adcdbab03267ae988cf7ef"), looks := true }, kinds := [], alts := [], laidByText := true, laidKinds := [.data, .pinned], laidTests := true, laidLooks := .later }
def PathJoinsCardSaid : Prop := Claim7.holds Tryd.pinned (.plain (OpenSpec.ofChange pathJoinsSpec)) pathJoinsCard

/-- THE TIED CARD OF 'amphoralaw08.PathOrders'. -/
def pathOrdersCard : Claim7 := { stood := { row := pathOrdersRow, standIns := [], harness := (true, "a8b69350fe812114e01247568b82e1c3c5a4f85190adcdbab03267ae988cf7ef"), looks := true }, kinds := [], alts := [], laidByText := true, laidKinds := [.data, .pinned], laidTests := true, laidLooks := .later }
def PathOrdersCardSaid : Prop := Claim7.holds Tryd.pinned (.plain (OpenSpec.ofChange pathOrdersSpec)) pathOrdersCard

/-- THE TIED CARD OF 'amphoralaw08.PathPairs'. -/
def pathPairsCard : Claim7 := { stood := { row := pathPairsRow, standIns := [], harness := (true, "a8b69350fe812114e01247568b82e1c3c5a4f85190adcdbab03267ae988cf7ef"), looks := true }, kinds := [], alts := [], laidByText := true, laidKinds := [.data, .pinned], laidTests := true, laidLooks := .later }
def PathPairsCardSaid : Prop := Claim7.holds Tryd.pinned (.plain (OpenSpec.ofChange pathPairsSpec)) pathPairsCard

/-- THE TIED CARD OF 'amphoralaw08.PathNests'. -/
def pathNestsCard : Claim7 := { stood := { row := pathNestsRow, standIns := [], harness := (true, "a8b69350fe812114e01247568b82e1c3c5a4f85190adcdbab03267ae988cf7ef"), looks := true }, kinds := [], alts := [], laidByText := true, laidKinds := [.data, .pinned], laidTests := true, laidLooks := .later }
def PathNestsCardSaid : Prop := Claim7.holds Tryd.pinned (.plain (OpenSpec.ofChange pathNestsSpec)) pathNestsCard

/-- THE TIED CARD OF 'amphoralaw08.PathGoods'. -/
def pathGoodsCard : Claim7 := { stood := { row := pathGoodsRow, standIns := [], harness := (true, "a8b69350fe812114e01247568b82e1c3c5a4f85190adcdbab03267ae988cf7ef"), looks := true }, kinds := [], alts := [], laidByText := true, laidKinds := [.data, .pinned], laidTests := true, laidLooks := .later }
def PathGoodsCardSaid : Prop := Claim7.holds Tryd.pinned (.plain (OpenSpec.ofChange pathGoodsSpec)) pathGoodsCard

/-- THE TIED CARD OF 'amphoralaw08.PathBack'. -/
def pathBackCard : Claim7 := { stood := { row := pathBackRow, standIns := [], harness := (true, "a8b69350fe812114e01247568b82e1c3c5a4f85190adcdbab03267ae988cf7ef"), looks := true }, kinds := [], alts := [], laidByText := true, laidKinds := [.data, .pinned], laidTests := true, laidLooks := .later }
def PathBackCardSaid : Prop := Claim7.holds Tryd.pinned (.plain (OpenSpec.ofChange pathBackSpec)) pathBackCard

/-- THE SECOND FORM's CARD OF 'amphoralaw08.PathJoins'. -/
def pathJoinsUptoCard : Claim7 := { stood := { row := pathJoinsUptoRow, standIns := [], harness := (true, "a8b69350fe812114e01247568b82e1c3c5a4f85190adcdbab03267ae988cf7ef"), looks := true }, kinds := [], alts := [], laidByText := true, laidKinds := [.data, .pinned], laidTests := true, laidLooks := .later }
def PathJoinsUptoCardSaid : Prop := Claim7.holds Tryd.pinned (.plain (OpenSpec.upto pathJoinsSpec)) pathJoinsUptoCard

/-- THE SECOND FORM's CARD OF 'amphoralaw08.PathOrders'. -/
def pathOrdersUptoCard : Claim7 := { stood := { row := pathOrdersUptoRow, standIns := [], harness := (true, "a8b69350fe812114e01247568b82e1c3c5a4f85190adcdbab03267ae988cf7ef"), looks := true }, kinds := [], alts := [], laidByText := true, laidKinds := [.data, .pinned], laidTests := true, laidLooks := .later }
def PathOrdersUptoCardSaid : Prop := Claim7.holds Tryd.pinned (.plain (OpenSpec.upto pathOrdersSpec)) pathOrdersUptoCard

/-- THE SECOND FORM's CARD OF 'amphoralaw08.PathPairs'. -/
def pathPairsUptoCard : Claim7 := { stood := { row := pathPairsUptoRow, standIns := [], harness := (true, "a8b69350fe812114e01247568b82e1c3c5a4f85190adcdbab03267ae988cf7ef"), looks := true }, kinds := [], alts := [], laidByText := true, laidKinds := [.data, .pinned], laidTests := true, laidLooks := .later }
def PathPairsUptoCardSaid : Prop := Claim7.holds Tryd.pinned (.plain (OpenSpec.upto pathPairsSpec)) pathPairsUptoCard

/-- THE SECOND FORM's CARD OF 'amphoralaw08.PathNests'. -/
def pathNestsUptoCard : Claim7 := { stood := { row := pathNestsUptoRow, standIns := [], harness := (true, "a8b69350fe812114e01247568b82e1c3c5a4f85190adcdbab03267ae988cf7ef"), looks := true }, kinds := [], alts := [], laidByText := true, laidKinds := [.data, .pinned], laidTests := true, laidLooks := .later }
def PathNestsUptoCardSaid : Prop := Claim7.holds Tryd.pinned (.plain (OpenSpec.upto pathNestsSpec)) pathNestsUptoCard

/-- THE SECOND FORM's CARD OF 'amphoralaw08.PathGoods'. -/
def pathGoodsUptoCard : Claim7 := { stood := { row := pathGoodsUptoRow, standIns := [], harness := (true, "a8b69350fe812114e01247568b82e1c3c5a4f85190adcdbab03267ae988cf7ef"), looks := true }, kinds := [], alts := [], laidByText := true, laidKinds := [.data, .pinned], laidTests := true, laidLooks := .later }
def PathGoodsUptoCardSaid : Prop := Claim7.holds Tryd.pinned (.plain (OpenSpec.upto pathGoodsSpec)) pathGoodsUptoCard

/-- THE SECOND FORM's CARD OF 'amphoralaw08.PathBack'. -/
def pathBackUptoCard : Claim7 := { stood := { row := pathBackUptoRow, standIns := [], harness := (true, "a8b69350fe812114e01247568b82e1c3c5a4f85190adcdbab03267ae988cf7ef"), looks := true }, kinds := [], alts := [], laidByText := true, laidKinds := [.data, .pinned], laidTests := true, laidLooks := .later }
def PathBackUptoCardSaid : Prop := Claim7.holds Tryd.pinned (.plain (OpenSpec.upto pathBackSpec)) pathBackUptoCard
end Rows
end Go.Proofs.YtplhgoccnjgkpaaDoor
