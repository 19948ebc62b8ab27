/-
  No cell of these rows narrows 'for every input' (looked for: loops, veiled, ifaces, maps, wideKeys, modest, calm, conditions, laid).
  DERIVED. THE GIVEN ROWS OF THIS SEAT. 7 by the template 'for every input the law returns true; each argument reads behind the call as it read before'; 0 by the template 'total and deterministic' (their statements: YtlgjojhenohjnaaTotals.lean).
  GIVEN WITH THE SEED: the statements are not yours to turn. If you find one false, say at which input.
  Laid BY PROGRAM, IN A SANDBOX (cutbox-rows.mjs): the forced cells as the released guide's own fill.sh prints them over the translation e8361dbe4cd36b7f… (all of the seat's roots in one cut). By AI agents, Wed Nov 11 2026. No macro, syntax, notation, axiom, sorry.
-/
import Derived.Test.YtlgjojhenohjnaaChecked
import GoSem.Claim
import GoSem.ClaimJoined
import GoSem.ClaimMapViews
import Derived.JoinedTies
import Derived.KernelRfl
namespace Go.Proofs.Ytlgjojhenohjnaa
/- THE CELL 'sum', in the pinned program and in every row, IS THE sha256 OF THE DUMP (.gsa) THAT YtlgjojhenohjnaaProg.lean LOADS. Nothing in Lean hashes anything: it is a label: what it is worth is what the hold of that sum in a sandbox is worth. -/
noncomputable def Try.pinned : Pinned := { name := "ytlgjojhenohjnaa", sum := "e8361dbe4cd36b7fe65506dfd2da10654ce6cf72494ceafc171752cd785a007c", checked := Try.checked }
namespace Rows
def none {H : Type} : Left H := { results := [], args := [] }

/-- 'amphoralaw19.CivilDates': WHATEVER THE INPUT: true; the input reads as it did. -/
def civilDatesSpec : ChangeSpec := { name := "civilDates", fn := fun _ => fun
  | [d1, d2] => { results := [.lit (.bool true)], args := [d1, d2] }
  | _ => none }
def civilDatesRow : OpenClaim := { program := "ytlgjojhenohjnaa", sum := "e8361dbe4cd36b7fe65506dfd2da10654ce6cf72494ceafc171752cd785a007c", func := "amphora/amphoralaw19.CivilDates", spec := "civilDates", apart := false }
def CivilDatesSaid : Prop := civilDatesRow.holds Try.pinned (OpenSpec.ofChange civilDatesSpec)

/-- ITS FALSE NEIGHBOUR: 'it returns false'. Refute it at one input. -/
def civilDatesWrong : ChangeSpec := { name := "civilDates", fn := fun _ => fun
  | [d1, d2] => { results := [.lit (.bool false)], args := [d1, d2] }
  | _ => none }
def CivilDatesWrongFalsely : Prop := civilDatesRow.holds Try.pinned (OpenSpec.ofChange civilDatesWrong)

/-- 'amphoralaw19.CivilBack': WHATEVER THE INPUT: true; the input reads as it did. -/
def civilBackSpec : ChangeSpec := { name := "civilBack", fn := fun _ => fun
  | [d] => { results := [.lit (.bool true)], args := [d] }
  | _ => none }
def civilBackRow : OpenClaim := { program := "ytlgjojhenohjnaa", sum := "e8361dbe4cd36b7fe65506dfd2da10654ce6cf72494ceafc171752cd785a007c", func := "amphora/amphoralaw19.CivilBack", spec := "civilBack", apart := false }
def CivilBackSaid : Prop := civilBackRow.holds Try.pinned (OpenSpec.ofChange civilBackSpec)

/-- ITS FALSE NEIGHBOUR: 'it returns false'. Refute it at one input. -/
def civilBackWrong : ChangeSpec := { name := "civilBack", fn := fun _ => fun
  | [d] => { results := [.lit (.bool false)], args := [d] }
  | _ => none }
def CivilBackWrongFalsely : Prop := civilBackRow.holds Try.pinned (OpenSpec.ofChange civilBackWrong)

/-- 'amphoralaw19.CivilYears': WHATEVER THE INPUT: true; the input reads as it did. -/
def civilYearsSpec : ChangeSpec := { name := "civilYears", fn := fun _ => fun
  | [d] => { results := [.lit (.bool true)], args := [d] }
  | _ => none }
def civilYearsRow : OpenClaim := { program := "ytlgjojhenohjnaa", sum := "e8361dbe4cd36b7fe65506dfd2da10654ce6cf72494ceafc171752cd785a007c", func := "amphora/amphoralaw19.CivilYears", spec := "civilYears", apart := false }
def CivilYearsSaid : Prop := civilYearsRow.holds Try.pinned (OpenSpec.ofChange civilYearsSpec)

/-- ITS FALSE NEIGHBOUR: 'it returns false'. Refute it at one input. -/
def civilYearsWrong : ChangeSpec := { name := "civilYears", fn := fun _ => fun
  | [d] => { results := [.lit (.bool false)], args := [d] }
  | _ => none }
def CivilYearsWrongFalsely : Prop := civilYearsRow.holds Try.pinned (OpenSpec.ofChange civilYearsWrong)

/-- 'amphoralaw19.CivilWeeks': WHATEVER THE INPUT: true; the input reads as it did. -/
def civilWeeksSpec : ChangeSpec := { name := "civilWeeks", fn := fun _ => fun
  | [d] => { results := [.lit (.bool true)], args := [d] }
  | _ => none }
def civilWeeksRow : OpenClaim := { program := "ytlgjojhenohjnaa", sum := "e8361dbe4cd36b7fe65506dfd2da10654ce6cf72494ceafc171752cd785a007c", func := "amphora/amphoralaw19.CivilWeeks", spec := "civilWeeks", apart := false }
def CivilWeeksSaid : Prop := civilWeeksRow.holds Try.pinned (OpenSpec.ofChange civilWeeksSpec)

/-- ITS FALSE NEIGHBOUR: 'it returns false'. Refute it at one input. -/
def civilWeeksWrong : ChangeSpec := { name := "civilWeeks", fn := fun _ => fun
  | [d] => { results := [.lit (.bool false)], args := [d] }
  | _ => none }
def CivilWeeksWrongFalsely : Prop := civilWeeksRow.holds Try.pinned (OpenSpec.ofChange civilWeeksWrong)

/-- 'amphoralaw19.CivilRows': WHATEVER THE INPUT: true; the input reads as it did. -/
def civilRowsSpec : ChangeSpec := { name := "civilRows", fn := fun _ => fun
  | [d] => { results := [.lit (.bool true)], args := [d] }
  | _ => none }
def civilRowsRow : OpenClaim := { program := "ytlgjojhenohjnaa", sum := "e8361dbe4cd36b7fe65506dfd2da10654ce6cf72494ceafc171752cd785a007c", func := "amphora/amphoralaw19.CivilRows", spec := "civilRows", apart := false }
def CivilRowsSaid : Prop := civilRowsRow.holds Try.pinned (OpenSpec.ofChange civilRowsSpec)

/-- ITS FALSE NEIGHBOUR: 'it returns false'. Refute it at one input. -/
def civilRowsWrong : ChangeSpec := { name := "civilRows", fn := fun _ => fun
  | [d] => { results := [.lit (.bool false)], args := [d] }
  | _ => none }
def CivilRowsWrongFalsely : Prop := civilRowsRow.holds Try.pinned (OpenSpec.ofChange civilRowsWrong)

/-- 'amphoralaw19.CivilBuckets': WHATEVER THE INPUT: true; the input reads as it did. -/
def civilBucketsSpec : ChangeSpec := { name := "civilBuckets", fn := fun _ => fun
  | [d1, d2] => { results := [.lit (.bool true)], args := [d1, d2] }
  | _ => none }
def civilBucketsRow : OpenClaim := { program := "ytlgjojhenohjnaa", sum := "e8361dbe4cd36b7fe65506dfd2da10654ce6cf72494ceafc171752cd785a007c", func := "amphora/amphoralaw19.CivilBuckets", spec := "civilBuckets", apart := false }
def CivilBucketsSaid : Prop := civilBucketsRow.holds Try.pinned (OpenSpec.ofChange civilBucketsSpec)

/-- ITS FALSE NEIGHBOUR: 'it returns false'. Refute it at one input. -/
def civilBucketsWrong : ChangeSpec := { name := "civilBuckets", fn := fun _ => fun
  | [d1, d2] => { results := [.lit (.bool false)], args := [d1, d2] }
  | _ => none }
def CivilBucketsWrongFalsely : Prop := civilBucketsRow.holds Try.pinned (OpenSpec.ofChange civilBucketsWrong)

/-- 'amphoralaw19.CivilGrows': WHATEVER THE INPUT: true; the input reads as it did. -/
def civilGrowsSpec : ChangeSpec := { name := "civilGrows", fn := fun _ => fun
  | [d1, d2, d3] => { results := [.lit (.bool true)], args := [d1, d2, d3] }
  | _ => none }
def civilGrowsRow : OpenClaim := { program := "ytlgjojhenohjnaa", sum := "e8361dbe4cd36b7fe65506dfd2da10654ce6cf72494ceafc171752cd785a007c", func := "amphora/amphoralaw19.CivilGrows", spec := "civilGrows", apart := false }
def CivilGrowsSaid : Prop := civilGrowsRow.holds Try.pinned (OpenSpec.ofChange civilGrowsSpec)

/-- ITS FALSE NEIGHBOUR: 'it returns false'. Refute it at one input. -/
def civilGrowsWrong : ChangeSpec := { name := "civilGrows", fn := fun _ => fun
  | [d1, d2, d3] => { results := [.lit (.bool false)], args := [d1, d2, d3] }
  | _ => none }
def CivilGrowsWrongFalsely : Prop := civilGrowsRow.holds Try.pinned (OpenSpec.ofChange civilGrowsWrong)

/- THE SECOND FORM. 'bulk': how many values and letters a reading holds, each counted each time it is reached (what is shared counts as often as it is met; a slice's spare places count too). A statement '..UptoSaid' is the law's where the arguments, and the package variables that the reading takes, are together of bulk at most 1048576: NARROWER than '..Said'. Prove '..Said' where nothing that the law and all that it calls make is longer than what came in: it says more and counts as full. Else prove '..UptoSaid'. A law counts once. -/
mutual
def uptoBulk {H : Type} : DataW H → Nat
  | .lit (.string bytes) => bytes.length + 1
  | .lit _ => 1
  | .nil => 1
  | .ptr d => uptoBulk d + 1
  | .slice elems spare => uptoBulkAll elems + uptoBulkAll spare + 1
  | .agg parts => uptoBulkAll parts + 1
  | .iface _ d => uptoBulk d + 1
  | .map entries => uptoBulkEntries entries + 1
  | .held _ => 1
def uptoBulkAll {H : Type} : List (DataW H) → Nat
  | [] => 0
  | d :: r => uptoBulk d + uptoBulkAll r
def uptoBulkEntries {H : Type} : List (Lit × DataW H) → Nat
  | [] => 0
  | x :: r => uptoBulkEntry x + uptoBulkEntries r
def uptoBulkEntry {H : Type} : Lit × DataW H → Nat
  | (.string bytes, d) => bytes.length + uptoBulk d + 1
  | (_, d) => uptoBulk d + 1
 end
def uptoSmall : (H : Type) → List (DataW H) → Bool := fun _ ds => decide (uptoBulkAll ds ≤ 1048576)
def OpenSpec.upto (s : _root_.Go.ChangeSpec) : _root_.Go.OpenSpec := { _root_.Go.OpenSpec.ofChange s with cond := some uptoSmall }

/-- 'amphoralaw19.CivilDates', WHERE WHAT IT READS IS OF BULK AT MOST 1048576: true; the input reads as it did. -/
def civilDatesUptoRow : OpenClaim := { program := "ytlgjojhenohjnaa", sum := "e8361dbe4cd36b7fe65506dfd2da10654ce6cf72494ceafc171752cd785a007c", func := "amphora/amphoralaw19.CivilDates", spec := "civilDates", apart := false, narrowed := true }
def CivilDatesUptoSaid : Prop := civilDatesUptoRow.holds Try.pinned (OpenSpec.upto civilDatesSpec)

/-- 'amphoralaw19.CivilBack', WHERE WHAT IT READS IS OF BULK AT MOST 1048576: true; the input reads as it did. -/
def civilBackUptoRow : OpenClaim := { program := "ytlgjojhenohjnaa", sum := "e8361dbe4cd36b7fe65506dfd2da10654ce6cf72494ceafc171752cd785a007c", func := "amphora/amphoralaw19.CivilBack", spec := "civilBack", apart := false, narrowed := true }
def CivilBackUptoSaid : Prop := civilBackUptoRow.holds Try.pinned (OpenSpec.upto civilBackSpec)

/-- 'amphoralaw19.CivilYears', WHERE WHAT IT READS IS OF BULK AT MOST 1048576: true; the input reads as it did. -/
def civilYearsUptoRow : OpenClaim := { program := "ytlgjojhenohjnaa", sum := "e8361dbe4cd36b7fe65506dfd2da10654ce6cf72494ceafc171752cd785a007c", func := "amphora/amphoralaw19.CivilYears", spec := "civilYears", apart := false, narrowed := true }
def CivilYearsUptoSaid : Prop := civilYearsUptoRow.holds Try.pinned (OpenSpec.upto civilYearsSpec)

/-- 'amphoralaw19.CivilWeeks', WHERE WHAT IT READS IS OF BULK AT MOST 1048576: true; the input reads as it did. -/
def civilWeeksUptoRow : OpenClaim := { program := "ytlgjojhenohjnaa", sum := "e8361dbe4cd36b7fe65506dfd2da10654ce6cf72494ceafc171752cd785a007c", func := "amphora/amphoralaw19.CivilWeeks", spec := "civilWeeks", apart := false, narrowed := true }
def CivilWeeksUptoSaid : Prop := civilWeeksUptoRow.holds Try.pinned (OpenSpec.upto civilWeeksSpec)

/-- 'amphoralaw19.CivilRows', WHERE WHAT IT READS IS OF BULK AT MOST 1048576: true; the input reads as it did. -/
def civilRowsUptoRow : OpenClaim := { program := "ytlgjojhenohjnaa", sum := "e8361dbe4cd36b7fe65506dfd2da10654ce6cf72494ceafc171752cd785a007c", func := "amphora/amphoralaw19.CivilRows", spec := "civilRows", apart := false, narrowed := true }
def CivilRowsUptoSaid : Prop := civilRowsUptoRow.holds Try.pinned (OpenSpec.upto civilRowsSpec)

/-- 'amphoralaw19.CivilBuckets', WHERE WHAT IT READS IS OF BULK AT MOST 1048576: true; the input reads as it did. -/
def civilBucketsUptoRow : OpenClaim := { program := "ytlgjojhenohjnaa", sum := "e8361dbe4cd36b7fe65506dfd2da10654ce6cf72494ceafc171752cd785a007c", func := "amphora/amphoralaw19.CivilBuckets", spec := "civilBuckets", apart := false, narrowed := true }
def CivilBucketsUptoSaid : Prop := civilBucketsUptoRow.holds Try.pinned (OpenSpec.upto civilBucketsSpec)

/-- 'amphoralaw19.CivilGrows', WHERE WHAT IT READS IS OF BULK AT MOST 1048576: true; the input reads as it did. -/
def civilGrowsUptoRow : OpenClaim := { program := "ytlgjojhenohjnaa", sum := "e8361dbe4cd36b7fe65506dfd2da10654ce6cf72494ceafc171752cd785a007c", func := "amphora/amphoralaw19.CivilGrows", spec := "civilGrows", apart := false, narrowed := true }
def CivilGrowsUptoSaid : Prop := civilGrowsUptoRow.holds Try.pinned (OpenSpec.upto civilGrowsSpec)

end Rows
end Go.Proofs.Ytlgjojhenohjnaa
