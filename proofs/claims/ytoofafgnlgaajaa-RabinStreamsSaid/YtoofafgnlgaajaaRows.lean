/-
  No cell of these rows narrows 'for every input' (looked for: loops, veiled, ifaces, maps, wideKeys, modest, calm, conditions, laid).
  DERIVED. THE GIVEN ROWS OF THIS SEAT. 7 by the template 'for every input the law returns true; each argument reads behind the call as it read before'; 0 by the template 'total and deterministic' (their statements: YtoofafgnlgaajaaTotals.lean).
  GIVEN WITH THE SEED: the statements are not yours to turn. If you find one false, say at which input.
  Laid BY PROGRAM, IN A SANDBOX (cutbox-rows.mjs): the forced cells as the released guide's own fill.sh prints them over the translation 343d636aae790ead… (all of the seat's roots in one cut). By AI agents, Wed Nov 11 2026. No macro, syntax, notation, axiom, sorry.
-/
import Derived.Test.YtoofafgnlgaajaaChecked
import GoSem.Claim
import GoSem.ClaimJoined
import GoSem.ClaimMapViews
import Derived.JoinedTies
import Derived.KernelRfl
namespace Go.Proofs.Ytoofafgnlgaajaa
/- THE CELL 'sum', in the pinned program and in every row, IS THE sha256 OF THE DUMP (.gsa) THAT YtoofafgnlgaajaaProg.lean LOADS. Nothing in Lean hashes anything: it is a label: what it is worth is what the hold of that sum in a sandbox is worth. -/
noncomputable def Try.pinned : Pinned := { name := "ytoofafgnlgaajaa", sum := "343d636aae790ead4c2bfdea304ce39085230957e7b84b25b4d6eae2a5f13758", checked := Try.checked }
namespace Rows
def none {H : Type} : Left H := { results := [], args := [] }

/-- 'amphoralaw07.RabinCuts': WHATEVER THE INPUT: true; the input reads as it did. -/
def rabinCutsSpec : ChangeSpec := { name := "rabinCuts", fn := fun _ => fun
  | [d1, d2] => { results := [.lit (.bool true)], args := [d1, d2] }
  | _ => none }
def rabinCutsRow : OpenClaim := { program := "ytoofafgnlgaajaa", sum := "343d636aae790ead4c2bfdea304ce39085230957e7b84b25b4d6eae2a5f13758", func := "amphora/amphoralaw07.RabinCuts", spec := "rabinCuts", unfollowed := true, recurses := true, apart := false }
def RabinCutsSaid : Prop := rabinCutsRow.holds Try.pinned (OpenSpec.ofChange rabinCutsSpec)

/-- ITS FALSE NEIGHBOUR: 'it returns false'. Refute it at one input. -/
def rabinCutsWrong : ChangeSpec := { name := "rabinCuts", fn := fun _ => fun
  | [d1, d2] => { results := [.lit (.bool false)], args := [d1, d2] }
  | _ => none }
def RabinCutsWrongFalsely : Prop := rabinCutsRow.holds Try.pinned (OpenSpec.ofChange rabinCutsWrong)

/-- 'amphoralaw07.RabinPrints': WHATEVER THE INPUT: true; the input reads as it did. -/
def rabinPrintsSpec : ChangeSpec := { name := "rabinPrints", fn := fun _ => fun
  | [d1, d2, d3] => { results := [.lit (.bool true)], args := [d1, d2, d3] }
  | _ => none }
def rabinPrintsRow : OpenClaim := { program := "ytoofafgnlgaajaa", sum := "343d636aae790ead4c2bfdea304ce39085230957e7b84b25b4d6eae2a5f13758", func := "amphora/amphoralaw07.RabinPrints", spec := "rabinPrints", unfollowed := true, recurses := true, apart := false }
def RabinPrintsSaid : Prop := rabinPrintsRow.holds Try.pinned (OpenSpec.ofChange rabinPrintsSpec)

/-- ITS FALSE NEIGHBOUR: 'it returns false'. Refute it at one input. -/
def rabinPrintsWrong : ChangeSpec := { name := "rabinPrints", fn := fun _ => fun
  | [d1, d2, d3] => { results := [.lit (.bool false)], args := [d1, d2, d3] }
  | _ => none }
def RabinPrintsWrongFalsely : Prop := rabinPrintsRow.holds Try.pinned (OpenSpec.ofChange rabinPrintsWrong)

/-- 'amphoralaw07.RabinLengths': WHATEVER THE INPUT: true; the input reads as it did. -/
def rabinLengthsSpec : ChangeSpec := { name := "rabinLengths", fn := fun _ => fun
  | [d1, d2] => { results := [.lit (.bool true)], args := [d1, d2] }
  | _ => none }
def rabinLengthsRow : OpenClaim := { program := "ytoofafgnlgaajaa", sum := "343d636aae790ead4c2bfdea304ce39085230957e7b84b25b4d6eae2a5f13758", func := "amphora/amphoralaw07.RabinLengths", spec := "rabinLengths", unfollowed := true, recurses := true, apart := false }
def RabinLengthsSaid : Prop := rabinLengthsRow.holds Try.pinned (OpenSpec.ofChange rabinLengthsSpec)

/-- ITS FALSE NEIGHBOUR: 'it returns false'. Refute it at one input. -/
def rabinLengthsWrong : ChangeSpec := { name := "rabinLengths", fn := fun _ => fun
  | [d1, d2] => { results := [.lit (.bool false)], args := [d1, d2] }
  | _ => none }
def RabinLengthsWrongFalsely : Prop := rabinLengthsRow.holds Try.pinned (OpenSpec.ofChange rabinLengthsWrong)

/-- 'amphoralaw07.RabinMeeting': WHATEVER THE INPUT: true; the input reads as it did. -/
def rabinMeetingSpec : ChangeSpec := { name := "rabinMeeting", fn := fun _ => fun
  | [d] => { results := [.lit (.bool true)], args := [d] }
  | _ => none }
def rabinMeetingRow : OpenClaim := { program := "ytoofafgnlgaajaa", sum := "343d636aae790ead4c2bfdea304ce39085230957e7b84b25b4d6eae2a5f13758", func := "amphora/amphoralaw07.RabinMeeting", spec := "rabinMeeting", unfollowed := true, recurses := true, apart := false }
def RabinMeetingSaid : Prop := rabinMeetingRow.holds Try.pinned (OpenSpec.ofChange rabinMeetingSpec)

/-- ITS FALSE NEIGHBOUR: 'it returns false'. Refute it at one input. -/
def rabinMeetingWrong : ChangeSpec := { name := "rabinMeeting", fn := fun _ => fun
  | [d] => { results := [.lit (.bool false)], args := [d] }
  | _ => none }
def RabinMeetingWrongFalsely : Prop := rabinMeetingRow.holds Try.pinned (OpenSpec.ofChange rabinMeetingWrong)

/-- 'amphoralaw07.RabinRolls': WHATEVER THE INPUT: true; the input reads as it did. -/
def rabinRollsSpec : ChangeSpec := { name := "rabinRolls", fn := fun _ => fun
  | [d1, d2, d3] => { results := [.lit (.bool true)], args := [d1, d2, d3] }
  | _ => none }
def rabinRollsRow : OpenClaim := { program := "ytoofafgnlgaajaa", sum := "343d636aae790ead4c2bfdea304ce39085230957e7b84b25b4d6eae2a5f13758", func := "amphora/amphoralaw07.RabinRolls", spec := "rabinRolls", unfollowed := true, recurses := true, apart := false }
def RabinRollsSaid : Prop := rabinRollsRow.holds Try.pinned (OpenSpec.ofChange rabinRollsSpec)

/-- ITS FALSE NEIGHBOUR: 'it returns false'. Refute it at one input. -/
def rabinRollsWrong : ChangeSpec := { name := "rabinRolls", fn := fun _ => fun
  | [d1, d2, d3] => { results := [.lit (.bool false)], args := [d1, d2, d3] }
  | _ => none }
def RabinRollsWrongFalsely : Prop := rabinRollsRow.holds Try.pinned (OpenSpec.ofChange rabinRollsWrong)

/-- 'amphoralaw07.RabinStreams': WHATEVER THE INPUT: true; the input reads as it did. -/
def rabinStreamsSpec : ChangeSpec := { name := "rabinStreams", fn := fun _ => fun
  | [d1, d2, d3] => { results := [.lit (.bool true)], args := [d1, d2, d3] }
  | _ => none }
def rabinStreamsRow : OpenClaim := { program := "ytoofafgnlgaajaa", sum := "343d636aae790ead4c2bfdea304ce39085230957e7b84b25b4d6eae2a5f13758", func := "amphora/amphoralaw07.RabinStreams", spec := "rabinStreams", unfollowed := true, recurses := true, apart := false }
def RabinStreamsSaid : Prop := rabinStreamsRow.holds Try.pinned (OpenSpec.ofChange rabinStreamsSpec)

/-- ITS FALSE NEIGHBOUR: 'it returns false'. Refute it at one input. -/
def rabinStreamsWrong : ChangeSpec := { name := "rabinStreams", fn := fun _ => fun
  | [d1, d2, d3] => { results := [.lit (.bool false)], args := [d1, d2, d3] }
  | _ => none }
def RabinStreamsWrongFalsely : Prop := rabinStreamsRow.holds Try.pinned (OpenSpec.ofChange rabinStreamsWrong)

/-- 'amphoralaw07.RabinNone': WHATEVER THE INPUT: true; the input reads as it did. -/
def rabinNoneSpec : ChangeSpec := { name := "rabinNone", fn := fun _ => fun
  | [d] => { results := [.lit (.bool true)], args := [d] }
  | _ => none }
def rabinNoneRow : OpenClaim := { program := "ytoofafgnlgaajaa", sum := "343d636aae790ead4c2bfdea304ce39085230957e7b84b25b4d6eae2a5f13758", func := "amphora/amphoralaw07.RabinNone", spec := "rabinNone", unfollowed := true, recurses := true, apart := false }
def RabinNoneSaid : Prop := rabinNoneRow.holds Try.pinned (OpenSpec.ofChange rabinNoneSpec)

/-- ITS FALSE NEIGHBOUR: 'it returns false'. Refute it at one input. -/
def rabinNoneWrong : ChangeSpec := { name := "rabinNone", fn := fun _ => fun
  | [d] => { results := [.lit (.bool false)], args := [d] }
  | _ => none }
def RabinNoneWrongFalsely : Prop := rabinNoneRow.holds Try.pinned (OpenSpec.ofChange rabinNoneWrong)

/- THE SECOND FORM. 'bulk': how many values and letters a reading holds, each counted each time it is reached (what is shared counts as often as it is met; a slice's spare places count too). A statement '..UptoSaid' is the law's where the arguments, and the package variables that the reading takes, are together of bulk at most 1048576: NARROWER than '..Said'. Prove '..Said' where nothing that the law and all that it calls make is longer than what came in: it says more and counts as full. Else prove '..UptoSaid'. A law counts once. -/
mutual
def uptoBulk {H : Type} : DataW H → Nat
  | .lit (.string bytes) => bytes.length + 1
  | .lit _ => 1
  | .nil => 1
  | .ptr d => uptoBulk d + 1
  | .slice elems spare => uptoBulkAll elems + uptoBulkAll spare + 1
  | .agg parts => uptoBulkAll parts + 1
  | .iface _ d => uptoBulk d + 1
  | .map entries => uptoBulkEntries entries + 1
  | .held _ => 1
def uptoBulkAll {H : Type} : List (DataW H) → Nat
  | [] => 0
  | d :: r => uptoBulk d + uptoBulkAll r
def uptoBulkEntries {H : Type} : List (Lit × DataW H) → Nat
  | [] => 0
  | x :: r => uptoBulkEntry x + uptoBulkEntries r
def uptoBulkEntry {H : Type} : Lit × DataW H → Nat
  | (.string bytes, d) => bytes.length + uptoBulk d + 1
  | (_, d) => uptoBulk d + 1
 end
def uptoSmall : (H : Type) → List (DataW H) → Bool := fun _ ds => decide (uptoBulkAll ds ≤ 1048576)
def OpenSpec.upto (s : _root_.Go.ChangeSpec) : _root_.Go.OpenSpec := { _root_.Go.OpenSpec.ofChange s with cond := some uptoSmall }

/-- 'amphoralaw07.RabinCuts', WHERE WHAT IT READS IS OF BULK AT MOST 1048576: true; the input reads as it did. -/
def rabinCutsUptoRow : OpenClaim := { program := "ytoofafgnlgaajaa", sum := "343d636aae790ead4c2bfdea304ce39085230957e7b84b25b4d6eae2a5f13758", func := "amphora/amphoralaw07.RabinCuts", spec := "rabinCuts", unfollowed := true, recurses := true, apart := false, narrowed := true }
def RabinCutsUptoSaid : Prop := rabinCutsUptoRow.holds Try.pinned (OpenSpec.upto rabinCutsSpec)

/-- 'amphoralaw07.RabinPrints', WHERE WHAT IT READS IS OF BULK AT MOST 1048576: true; the input reads as it did. -/
def rabinPrintsUptoRow : OpenClaim := { program := "ytoofafgnlgaajaa", sum := "343d636aae790ead4c2bfdea304ce39085230957e7b84b25b4d6eae2a5f13758", func := "amphora/amphoralaw07.RabinPrints", spec := "rabinPrints", unfollowed := true, recurses := true, apart := false, narrowed := true }
def RabinPrintsUptoSaid : Prop := rabinPrintsUptoRow.holds Try.pinned (OpenSpec.upto rabinPrintsSpec)

/-- 'amphoralaw07.RabinLengths', WHERE WHAT IT READS IS OF BULK AT MOST 1048576: true; the input reads as it did. -/
def rabinLengthsUptoRow : OpenClaim := { program := "ytoofafgnlgaajaa", sum := "343d636aae790ead4c2bfdea304ce39085230957e7b84b25b4d6eae2a5f13758", func := "amphora/amphoralaw07.RabinLengths", spec := "rabinLengths", unfollowed := true, recurses := true, apart := false, narrowed := true }
def RabinLengthsUptoSaid : Prop := rabinLengthsUptoRow.holds Try.pinned (OpenSpec.upto rabinLengthsSpec)

/-- 'amphoralaw07.RabinMeeting', WHERE WHAT IT READS IS OF BULK AT MOST 1048576: true; the input reads as it did. -/
def rabinMeetingUptoRow : OpenClaim := { program := "ytoofafgnlgaajaa", sum := "343d636aae790ead4c2bfdea304ce39085230957e7b84b25b4d6eae2a5f13758", func := "amphora/amphoralaw07.RabinMeeting", spec := "rabinMeeting", unfollowed := true, recurses := true, apart := false, narrowed := true }
def RabinMeetingUptoSaid : Prop := rabinMeetingUptoRow.holds Try.pinned (OpenSpec.upto rabinMeetingSpec)

/-- 'amphoralaw07.RabinRolls', WHERE WHAT IT READS IS OF BULK AT MOST 1048576: true; the input reads as it did. -/
def rabinRollsUptoRow : OpenClaim := { program := "ytoofafgnlgaajaa", sum := "343d636aae790ead4c2bfdea304ce39085230957e7b84b25b4d6eae2a5f13758", func := "amphora/amphoralaw07.RabinRolls", spec := "rabinRolls", unfollowed := true, recurses := true, apart := false, narrowed := true }
def RabinRollsUptoSaid : Prop := rabinRollsUptoRow.holds Try.pinned (OpenSpec.upto rabinRollsSpec)

/-- 'amphoralaw07.RabinStreams', WHERE WHAT IT READS IS OF BULK AT MOST 1048576: true; the input reads as it did. -/
def rabinStreamsUptoRow : OpenClaim := { program := "ytoofafgnlgaajaa", sum := "343d636aae790ead4c2bfdea304ce39085230957e7b84b25b4d6eae2a5f13758", func := "amphora/amphoralaw07.RabinStreams", spec := "rabinStreams", unfollowed := true, recurses := true, apart := false, narrowed := true }
def RabinStreamsUptoSaid : Prop := rabinStreamsUptoRow.holds Try.pinned (OpenSpec.upto rabinStreamsSpec)

/-- 'amphoralaw07.RabinNone', WHERE WHAT IT READS IS OF BULK AT MOST 1048576: true; the input reads as it did. -/
def rabinNoneUptoRow : OpenClaim := { program := "ytoofafgnlgaajaa", sum := "343d636aae790ead4c2bfdea304ce39085230957e7b84b25b4d6eae2a5f13758", func := "amphora/amphoralaw07.RabinNone", spec := "rabinNone", unfollowed := true, recurses := true, apart := false, narrowed := true }
def RabinNoneUptoSaid : Prop := rabinNoneUptoRow.holds Try.pinned (OpenSpec.upto rabinNoneSpec)

end Rows
end Go.Proofs.Ytoofafgnlgaajaa
