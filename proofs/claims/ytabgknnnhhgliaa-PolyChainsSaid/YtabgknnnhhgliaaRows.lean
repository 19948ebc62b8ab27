/-
  No cell of these rows narrows 'for every input' (looked for: loops, veiled, ifaces, maps, wideKeys, modest, calm, conditions, laid).
  DERIVED. THE GIVEN ROWS OF THIS SEAT. 6 by the template 'for every input the law returns true; each argument reads behind the call as it read before'; 0 by the template 'total and deterministic' (their statements: YtabgknnnhhgliaaTotals.lean).
  GIVEN WITH THE SEED: the statements are not yours to turn. If you find one false, say at which input.
  Laid BY PROGRAM, IN A SANDBOX (cutbox-rows.mjs): the forced cells as the released guide's own fill.sh prints them over the translation c14d0722a0c3609c… (all of the seat's roots in one cut). By AI agents, Wed Nov 11 2026. No macro, syntax, notation, axiom, sorry.
-/
import Derived.Test.YtabgknnnhhgliaaChecked
import GoSem.Claim
import GoSem.ClaimJoined
import GoSem.ClaimMapViews
import Derived.JoinedTies
import Derived.KernelRfl
namespace Go.Proofs.Ytabgknnnhhgliaa
/- THE CELL 'sum', in the pinned program and in every row, IS THE sha256 OF THE DUMP (.gsa) THAT YtabgknnnhhgliaaProg.lean LOADS. Nothing in Lean hashes anything: it is a label: what it is worth is what the hold of that sum in a sandbox is worth. -/
noncomputable def Try.pinned : Pinned := { name := "ytabgknnnhhgliaa", sum := "c14d0722a0c3609cdbdf41802af92403ebdb2a30ac02eaee7166a4b4dc195c95", checked := Try.checked }
namespace Rows
def none {H : Type} : Left H := { results := [], args := [] }

/-- 'amphoralaw06.PolyPrimes': WHATEVER THE INPUT: true; the input reads as it did. -/
def polyPrimesSpec : ChangeSpec := { name := "polyPrimes", fn := fun _ => fun
  | [d] => { results := [.lit (.bool true)], args := [d] }
  | _ => none }
def polyPrimesRow : OpenClaim := { program := "ytabgknnnhhgliaa", sum := "c14d0722a0c3609cdbdf41802af92403ebdb2a30ac02eaee7166a4b4dc195c95", func := "amphora/amphoralaw06.PolyPrimes", spec := "polyPrimes", unfollowed := true, recurses := true, apart := false }
def PolyPrimesSaid : Prop := polyPrimesRow.holds Try.pinned (OpenSpec.ofChange polyPrimesSpec)

/-- ITS FALSE NEIGHBOUR: 'it returns false'. Refute it at one input. -/
def polyPrimesWrong : ChangeSpec := { name := "polyPrimes", fn := fun _ => fun
  | [d] => { results := [.lit (.bool false)], args := [d] }
  | _ => none }
def PolyPrimesWrongFalsely : Prop := polyPrimesRow.holds Try.pinned (OpenSpec.ofChange polyPrimesWrong)

/-- 'amphoralaw06.PolySmall': WHATEVER THE INPUT: true; the input reads as it did. -/
def polySmallSpec : ChangeSpec := { name := "polySmall", fn := fun _ => fun
  | [d] => { results := [.lit (.bool true)], args := [d] }
  | _ => none }
def polySmallRow : OpenClaim := { program := "ytabgknnnhhgliaa", sum := "c14d0722a0c3609cdbdf41802af92403ebdb2a30ac02eaee7166a4b4dc195c95", func := "amphora/amphoralaw06.PolySmall", spec := "polySmall", unfollowed := true, recurses := true, apart := false }
def PolySmallSaid : Prop := polySmallRow.holds Try.pinned (OpenSpec.ofChange polySmallSpec)

/-- ITS FALSE NEIGHBOUR: 'it returns false'. Refute it at one input. -/
def polySmallWrong : ChangeSpec := { name := "polySmall", fn := fun _ => fun
  | [d] => { results := [.lit (.bool false)], args := [d] }
  | _ => none }
def PolySmallWrongFalsely : Prop := polySmallRow.holds Try.pinned (OpenSpec.ofChange polySmallWrong)

/-- 'amphoralaw06.PolyRings': WHATEVER THE INPUT: true; the input reads as it did. -/
def polyRingsSpec : ChangeSpec := { name := "polyRings", fn := fun _ => fun
  | [d] => { results := [.lit (.bool true)], args := [d] }
  | _ => none }
def polyRingsRow : OpenClaim := { program := "ytabgknnnhhgliaa", sum := "c14d0722a0c3609cdbdf41802af92403ebdb2a30ac02eaee7166a4b4dc195c95", func := "amphora/amphoralaw06.PolyRings", spec := "polyRings", unfollowed := true, recurses := true, apart := false }
def PolyRingsSaid : Prop := polyRingsRow.holds Try.pinned (OpenSpec.ofChange polyRingsSpec)

/-- ITS FALSE NEIGHBOUR: 'it returns false'. Refute it at one input. -/
def polyRingsWrong : ChangeSpec := { name := "polyRings", fn := fun _ => fun
  | [d] => { results := [.lit (.bool false)], args := [d] }
  | _ => none }
def PolyRingsWrongFalsely : Prop := polyRingsRow.holds Try.pinned (OpenSpec.ofChange polyRingsWrong)

/-- 'amphoralaw06.PolyDivides': WHATEVER THE INPUT: true; the input reads as it did. -/
def polyDividesSpec : ChangeSpec := { name := "polyDivides", fn := fun _ => fun
  | [d1, d2, d3] => { results := [.lit (.bool true)], args := [d1, d2, d3] }
  | _ => none }
def polyDividesRow : OpenClaim := { program := "ytabgknnnhhgliaa", sum := "c14d0722a0c3609cdbdf41802af92403ebdb2a30ac02eaee7166a4b4dc195c95", func := "amphora/amphoralaw06.PolyDivides", spec := "polyDivides", unfollowed := true, recurses := true, apart := false }
def PolyDividesSaid : Prop := polyDividesRow.holds Try.pinned (OpenSpec.ofChange polyDividesSpec)

/-- ITS FALSE NEIGHBOUR: 'it returns false'. Refute it at one input. -/
def polyDividesWrong : ChangeSpec := { name := "polyDivides", fn := fun _ => fun
  | [d1, d2, d3] => { results := [.lit (.bool false)], args := [d1, d2, d3] }
  | _ => none }
def PolyDividesWrongFalsely : Prop := polyDividesRow.holds Try.pinned (OpenSpec.ofChange polyDividesWrong)

/-- 'amphoralaw06.PolyProducts': WHATEVER THE INPUT: true; the input reads as it did. -/
def polyProductsSpec : ChangeSpec := { name := "polyProducts", fn := fun _ => fun
  | [d1, d2, d3] => { results := [.lit (.bool true)], args := [d1, d2, d3] }
  | _ => none }
def polyProductsRow : OpenClaim := { program := "ytabgknnnhhgliaa", sum := "c14d0722a0c3609cdbdf41802af92403ebdb2a30ac02eaee7166a4b4dc195c95", func := "amphora/amphoralaw06.PolyProducts", spec := "polyProducts", unfollowed := true, recurses := true, apart := false }
def PolyProductsSaid : Prop := polyProductsRow.holds Try.pinned (OpenSpec.ofChange polyProductsSpec)

/-- ITS FALSE NEIGHBOUR: 'it returns false'. Refute it at one input. -/
def polyProductsWrong : ChangeSpec := { name := "polyProducts", fn := fun _ => fun
  | [d1, d2, d3] => { results := [.lit (.bool false)], args := [d1, d2, d3] }
  | _ => none }
def PolyProductsWrongFalsely : Prop := polyProductsRow.holds Try.pinned (OpenSpec.ofChange polyProductsWrong)

/-- 'amphoralaw06.PolyChains': WHATEVER THE INPUT: true; the input reads as it did. -/
def polyChainsSpec : ChangeSpec := { name := "polyChains", fn := fun _ => fun
  | [d1, d2, d3] => { results := [.lit (.bool true)], args := [d1, d2, d3] }
  | _ => none }
def polyChainsRow : OpenClaim := { program := "ytabgknnnhhgliaa", sum := "c14d0722a0c3609cdbdf41802af92403ebdb2a30ac02eaee7166a4b4dc195c95", func := "amphora/amphoralaw06.PolyChains", spec := "polyChains", unfollowed := true, recurses := true, apart := false }
def PolyChainsSaid : Prop := polyChainsRow.holds Try.pinned (OpenSpec.ofChange polyChainsSpec)

/-- ITS FALSE NEIGHBOUR: 'it returns false'. Refute it at one input. -/
def polyChainsWrong : ChangeSpec := { name := "polyChains", fn := fun _ => fun
  | [d1, d2, d3] => { results := [.lit (.bool false)], args := [d1, d2, d3] }
  | _ => none }
def PolyChainsWrongFalsely : Prop := polyChainsRow.holds Try.pinned (OpenSpec.ofChange polyChainsWrong)

/- THE SECOND FORM. 'bulk': how many values and letters a reading holds, each counted each time it is reached (what is shared counts as often as it is met; a slice's spare places count too). A statement '..UptoSaid' is the law's where the arguments, and the package variables that the reading takes, are together of bulk at most 1048576: NARROWER than '..Said'. Prove '..Said' where nothing that the law and all that it calls make is longer than what came in: it says more and counts as full. Else prove '..UptoSaid'. A law counts once. -/
mutual
def uptoBulk {H : Type} : DataW H → Nat
  | .lit (.string bytes) => bytes.length + 1
  | .lit _ => 1
  | .nil => 1
  | .ptr d => uptoBulk d + 1
  | .slice elems spare => uptoBulkAll elems + uptoBulkAll spare + 1
  | .agg parts => uptoBulkAll parts + 1
  | .iface _ d => uptoBulk d + 1
  | .map entries => uptoBulkEntries entries + 1
  | .held _ => 1
def uptoBulkAll {H : Type} : List (DataW H) → Nat
  | [] => 0
  | d :: r => uptoBulk d + uptoBulkAll r
def uptoBulkEntries {H : Type} : List (Lit × DataW H) → Nat
  | [] => 0
  | x :: r => uptoBulkEntry x + uptoBulkEntries r
def uptoBulkEntry {H : Type} : Lit × DataW H → Nat
  | (.string bytes, d) => bytes.length + uptoBulk d + 1
  | (_, d) => uptoBulk d + 1
 end
def uptoSmall : (H : Type) → List (DataW H) → Bool := fun _ ds => decide (uptoBulkAll ds ≤ 1048576)
def OpenSpec.upto (s : _root_.Go.ChangeSpec) : _root_.Go.OpenSpec := { _root_.Go.OpenSpec.ofChange s with cond := some uptoSmall }

/-- 'amphoralaw06.PolyPrimes', WHERE WHAT IT READS IS OF BULK AT MOST 1048576: true; the input reads as it did. -/
def polyPrimesUptoRow : OpenClaim := { program := "ytabgknnnhhgliaa", sum := "c14d0722a0c3609cdbdf41802af92403ebdb2a30ac02eaee7166a4b4dc195c95", func := "amphora/amphoralaw06.PolyPrimes", spec := "polyPrimes", unfollowed := true, recurses := true, apart := false, narrowed := true }
def PolyPrimesUptoSaid : Prop := polyPrimesUptoRow.holds Try.pinned (OpenSpec.upto polyPrimesSpec)

/-- 'amphoralaw06.PolySmall', WHERE WHAT IT READS IS OF BULK AT MOST 1048576: true; the input reads as it did. -/
def polySmallUptoRow : OpenClaim := { program := "ytabgknnnhhgliaa", sum := "c14d0722a0c3609cdbdf41802af92403ebdb2a30ac02eaee7166a4b4dc195c95", func := "amphora/amphoralaw06.PolySmall", spec := "polySmall", unfollowed := true, recurses := true, apart := false, narrowed := true }
def PolySmallUptoSaid : Prop := polySmallUptoRow.holds Try.pinned (OpenSpec.upto polySmallSpec)

/-- 'amphoralaw06.PolyRings', WHERE WHAT IT READS IS OF BULK AT MOST 1048576: true; the input reads as it did. -/
def polyRingsUptoRow : OpenClaim := { program := "ytabgknnnhhgliaa", sum := "c14d0722a0c3609cdbdf41802af92403ebdb2a30ac02eaee7166a4b4dc195c95", func := "amphora/amphoralaw06.PolyRings", spec := "polyRings", unfollowed := true, recurses := true, apart := false, narrowed := true }
def PolyRingsUptoSaid : Prop := polyRingsUptoRow.holds Try.pinned (OpenSpec.upto polyRingsSpec)

/-- 'amphoralaw06.PolyDivides', WHERE WHAT IT READS IS OF BULK AT MOST 1048576: true; the input reads as it did. -/
def polyDividesUptoRow : OpenClaim := { program := "ytabgknnnhhgliaa", sum := "c14d0722a0c3609cdbdf41802af92403ebdb2a30ac02eaee7166a4b4dc195c95", func := "amphora/amphoralaw06.PolyDivides", spec := "polyDivides", unfollowed := true, recurses := true, apart := false, narrowed := true }
def PolyDividesUptoSaid : Prop := polyDividesUptoRow.holds Try.pinned (OpenSpec.upto polyDividesSpec)

/-- 'amphoralaw06.PolyProducts', WHERE WHAT IT READS IS OF BULK AT MOST 1048576: true; the input reads as it did. -/
def polyProductsUptoRow : OpenClaim := { program := "ytabgknnnhhgliaa", sum := "c14d0722a0c3609cdbdf41802af92403ebdb2a30ac02eaee7166a4b4dc195c95", func := "amphora/amphoralaw06.PolyProducts", spec := "polyProducts", unfollowed := true, recurses := true, apart := false, narrowed := true }
def PolyProductsUptoSaid : Prop := polyProductsUptoRow.holds Try.pinned (OpenSpec.upto polyProductsSpec)

/-- 'amphoralaw06.PolyChains', WHERE WHAT IT READS IS OF BULK AT MOST 1048576: true; the input reads as it did. -/
def polyChainsUptoRow : OpenClaim := { program := "ytabgknnnhhgliaa", sum := "c14d0722a0c3609cdbdf41802af92403ebdb2a30ac02eaee7166a4b4dc195c95", func := "amphora/amphoralaw06.PolyChains", spec := "polyChains", unfollowed := true, recurses := true, apart := false, narrowed := true }
def PolyChainsUptoSaid : Prop := polyChainsUptoRow.holds Try.pinned (OpenSpec.upto polyChainsSpec)

end Rows
end Go.Proofs.Ytabgknnnhhgliaa
