/-
  No cell of these rows narrows 'for every input' (looked for: loops, veiled, ifaces, maps, wideKeys, modest, calm, conditions, laid).
  DERIVED. THE GIVEN ROWS OF THIS SEAT. 5 by the template 'for every input the law returns true; each argument reads behind the call as it read before'; 0 by the template 'total and deterministic' (their statements: YtkdklgcjimnabaaTotals.lean).
  GIVEN WITH THE SEED: the statements are not yours to turn. If you find one false, say at which input.
  Laid BY PROGRAM, IN A SANDBOX (cutbox-rows.mjs): the forced cells as the released guide's own fill.sh prints them over the translation c72bcdef4900d9c6… (all of the seat's roots in one cut). By AI agents, Wed Nov 11 2026. No macro, syntax, notation, axiom, sorry.
-/
import Derived.Test.YtkdklgcjimnabaaChecked
import GoSem.Claim
import GoSem.ClaimJoined
import GoSem.ClaimMapViews
import Derived.JoinedTies
import Derived.KernelRfl
namespace Go.Proofs.Ytkdklgcjimnabaa
/- THE CELL 'sum', in the pinned program and in every row, IS THE sha256 OF THE DUMP (.gsa) THAT YtkdklgcjimnabaaProg.lean LOADS. Nothing in Lean hashes anything: it is a label: what it is worth is what the hold of that sum in a sandbox is worth. -/
noncomputable def Try.pinned : Pinned := { name := "ytkdklgcjimnabaa", sum := "c72bcdef4900d9c62eee7ec31d4ce178d94baf38b670bb1dba201ef3aacb325a", checked := Try.checked }
namespace Rows
def none {H : Type} : Left H := { results := [], args := [] }

/-- 'amphoralaw10.UstarDecodes': WHATEVER THE INPUT: true; the input reads as it did. -/
def ustarDecodesSpec : ChangeSpec := { name := "ustarDecodes", fn := fun _ => fun
  | [d] => { results := [.lit (.bool true)], args := [d] }
  | _ => none }
def ustarDecodesRow : OpenClaim := { program := "ytkdklgcjimnabaa", sum := "c72bcdef4900d9c62eee7ec31d4ce178d94baf38b670bb1dba201ef3aacb325a", func := "amphora/amphoralaw10.UstarDecodes", spec := "ustarDecodes", inPlace := ["internal/bytealg.IndexByte", "internal/bytealg.Index"], unfollowed := true, recurses := true, named := ["internal/bytealg.MaxLen"], apart := false }
def UstarDecodesSaid : Prop := ustarDecodesRow.holds Try.pinned (OpenSpec.ofChange ustarDecodesSpec)

/-- ITS FALSE NEIGHBOUR: 'it returns false'. Refute it at one input. -/
def ustarDecodesWrong : ChangeSpec := { name := "ustarDecodes", fn := fun _ => fun
  | [d] => { results := [.lit (.bool false)], args := [d] }
  | _ => none }
def UstarDecodesWrongFalsely : Prop := ustarDecodesRow.holds Try.pinned (OpenSpec.ofChange ustarDecodesWrong)

/-- 'amphoralaw10.UstarBack': WHATEVER THE INPUT: true; the input reads as it did. -/
def ustarBackSpec : ChangeSpec := { name := "ustarBack", fn := fun _ => fun
  | [d1, d2] => { results := [.lit (.bool true)], args := [d1, d2] }
  | _ => none }
def ustarBackRow : OpenClaim := { program := "ytkdklgcjimnabaa", sum := "c72bcdef4900d9c62eee7ec31d4ce178d94baf38b670bb1dba201ef3aacb325a", func := "amphora/amphoralaw10.UstarBack", spec := "ustarBack", inPlace := ["internal/bytealg.IndexByte", "internal/bytealg.Index"], unfollowed := true, recurses := true, named := ["internal/bytealg.MaxLen"], apart := false }
def UstarBackSaid : Prop := ustarBackRow.holds Try.pinned (OpenSpec.ofChange ustarBackSpec)

/-- ITS FALSE NEIGHBOUR: 'it returns false'. Refute it at one input. -/
def ustarBackWrong : ChangeSpec := { name := "ustarBack", fn := fun _ => fun
  | [d1, d2] => { results := [.lit (.bool false)], args := [d1, d2] }
  | _ => none }
def UstarBackWrongFalsely : Prop := ustarBackRow.holds Try.pinned (OpenSpec.ofChange ustarBackWrong)

/-- 'amphoralaw10.UstarSlips': WHATEVER THE INPUT: true; the input reads as it did. -/
def ustarSlipsSpec : ChangeSpec := { name := "ustarSlips", fn := fun _ => fun
  | [d1, d2, d3] => { results := [.lit (.bool true)], args := [d1, d2, d3] }
  | _ => none }
def ustarSlipsRow : OpenClaim := { program := "ytkdklgcjimnabaa", sum := "c72bcdef4900d9c62eee7ec31d4ce178d94baf38b670bb1dba201ef3aacb325a", func := "amphora/amphoralaw10.UstarSlips", spec := "ustarSlips", inPlace := ["internal/bytealg.IndexByte", "internal/bytealg.Index"], unfollowed := true, recurses := true, named := ["internal/bytealg.MaxLen"], apart := false }
def UstarSlipsSaid : Prop := ustarSlipsRow.holds Try.pinned (OpenSpec.ofChange ustarSlipsSpec)

/-- ITS FALSE NEIGHBOUR: 'it returns false'. Refute it at one input. -/
def ustarSlipsWrong : ChangeSpec := { name := "ustarSlips", fn := fun _ => fun
  | [d1, d2, d3] => { results := [.lit (.bool false)], args := [d1, d2, d3] }
  | _ => none }
def UstarSlipsWrongFalsely : Prop := ustarSlipsRow.holds Try.pinned (OpenSpec.ofChange ustarSlipsWrong)

/-- 'amphoralaw10.UstarEncodes': WHATEVER THE INPUT: true; the input reads as it did. -/
def ustarEncodesSpec : ChangeSpec := { name := "ustarEncodes", fn := fun _ => fun
  | [d] => { results := [.lit (.bool true)], args := [d] }
  | _ => none }
def ustarEncodesRow : OpenClaim := { program := "ytkdklgcjimnabaa", sum := "c72bcdef4900d9c62eee7ec31d4ce178d94baf38b670bb1dba201ef3aacb325a", func := "amphora/amphoralaw10.UstarEncodes", spec := "ustarEncodes", inPlace := ["internal/bytealg.IndexByte", "internal/bytealg.Index"], unfollowed := true, recurses := true, named := ["internal/bytealg.MaxLen"], apart := false }
def UstarEncodesSaid : Prop := ustarEncodesRow.holds Try.pinned (OpenSpec.ofChange ustarEncodesSpec)

/-- ITS FALSE NEIGHBOUR: 'it returns false'. Refute it at one input. -/
def ustarEncodesWrong : ChangeSpec := { name := "ustarEncodes", fn := fun _ => fun
  | [d] => { results := [.lit (.bool false)], args := [d] }
  | _ => none }
def UstarEncodesWrongFalsely : Prop := ustarEncodesRow.holds Try.pinned (OpenSpec.ofChange ustarEncodesWrong)

/-- 'amphoralaw10.UstarSplits': WHATEVER THE INPUT: true; the input reads as it did. -/
def ustarSplitsSpec : ChangeSpec := { name := "ustarSplits", fn := fun _ => fun
  | [d] => { results := [.lit (.bool true)], args := [d] }
  | _ => none }
def ustarSplitsRow : OpenClaim := { program := "ytkdklgcjimnabaa", sum := "c72bcdef4900d9c62eee7ec31d4ce178d94baf38b670bb1dba201ef3aacb325a", func := "amphora/amphoralaw10.UstarSplits", spec := "ustarSplits", inPlace := ["internal/bytealg.IndexByte", "internal/bytealg.Index"], unfollowed := true, recurses := true, named := ["internal/bytealg.MaxLen"], apart := false }
def UstarSplitsSaid : Prop := ustarSplitsRow.holds Try.pinned (OpenSpec.ofChange ustarSplitsSpec)

/-- ITS FALSE NEIGHBOUR: 'it returns false'. Refute it at one input. -/
def ustarSplitsWrong : ChangeSpec := { name := "ustarSplits", fn := fun _ => fun
  | [d] => { results := [.lit (.bool false)], args := [d] }
  | _ => none }
def UstarSplitsWrongFalsely : Prop := ustarSplitsRow.holds Try.pinned (OpenSpec.ofChange ustarSplitsWrong)

/- THE SECOND FORM. 'bulk': how many values and letters a reading holds, each counted each time it is reached (what is shared counts as often as it is met; a slice's spare places count too). A statement '..UptoSaid' is the law's where the arguments, and the package variables that the reading takes, are together of bulk at most 1048576: NARROWER than '..Said'. Prove '..Said' where nothing that the law and all that it calls make is longer than what came in: it says more and counts as full. Else prove '..UptoSaid'. A law counts once. -/
mutual
def uptoBulk {H : Type} : DataW H → Nat
  | .lit (.string bytes) => bytes.length + 1
  | .lit _ => 1
  | .nil => 1
  | .ptr d => uptoBulk d + 1
  | .slice elems spare => uptoBulkAll elems + uptoBulkAll spare + 1
  | .agg parts => uptoBulkAll parts + 1
  | .iface _ d => uptoBulk d + 1
  | .map entries => uptoBulkEntries entries + 1
  | .held _ => 1
def uptoBulkAll {H : Type} : List (DataW H) → Nat
  | [] => 0
  | d :: r => uptoBulk d + uptoBulkAll r
def uptoBulkEntries {H : Type} : List (Lit × DataW H) → Nat
  | [] => 0
  | x :: r => uptoBulkEntry x + uptoBulkEntries r
def uptoBulkEntry {H : Type} : Lit × DataW H → Nat
  | (.string bytes, d) => bytes.length + uptoBulk d + 1
  | (_, d) => uptoBulk d + 1
 end
def uptoSmall : (H : Type) → List (DataW H) → Bool := fun _ ds => decide (uptoBulkAll ds ≤ 1048576)
def OpenSpec.upto (s : _root_.Go.ChangeSpec) : _root_.Go.OpenSpec := { _root_.Go.OpenSpec.ofChange s with cond := some uptoSmall }

/-- 'amphoralaw10.UstarDecodes', WHERE WHAT IT READS IS OF BULK AT MOST 1048576: true; the input reads as it did. -/
def ustarDecodesUptoRow : OpenClaim := { program := "ytkdklgcjimnabaa", sum := "c72bcdef4900d9c62eee7ec31d4ce178d94baf38b670bb1dba201ef3aacb325a", func := "amphora/amphoralaw10.UstarDecodes", spec := "ustarDecodes", inPlace := ["internal/bytealg.IndexByte", "internal/bytealg.Index"], unfollowed := true, recurses := true, named := ["internal/bytealg.MaxLen"], apart := false, narrowed := true }
def UstarDecodesUptoSaid : Prop := ustarDecodesUptoRow.holds Try.pinned (OpenSpec.upto ustarDecodesSpec)

/-- 'amphoralaw10.UstarBack', WHERE WHAT IT READS IS OF BULK AT MOST 1048576: true; the input reads as it did. -/
def ustarBackUptoRow : OpenClaim := { program := "ytkdklgcjimnabaa", sum := "c72bcdef4900d9c62eee7ec31d4ce178d94baf38b670bb1dba201ef3aacb325a", func := "amphora/amphoralaw10.UstarBack", spec := "ustarBack", inPlace := ["internal/bytealg.IndexByte", "internal/bytealg.Index"], unfollowed := true, recurses := true, named := ["internal/bytealg.MaxLen"], apart := false, narrowed := true }
def UstarBackUptoSaid : Prop := ustarBackUptoRow.holds Try.pinned (OpenSpec.upto ustarBackSpec)

/-- 'amphoralaw10.UstarSlips', WHERE WHAT IT READS IS OF BULK AT MOST 1048576: true; the input reads as it did. -/
def ustarSlipsUptoRow : OpenClaim := { program := "ytkdklgcjimnabaa", sum := "c72bcdef4900d9c62eee7ec31d4ce178d94baf38b670bb1dba201ef3aacb325a", func := "amphora/amphoralaw10.UstarSlips", spec := "ustarSlips", inPlace := ["internal/bytealg.IndexByte", "internal/bytealg.Index"], unfollowed := true, recurses := true, named := ["internal/bytealg.MaxLen"], apart := false, narrowed := true }
def UstarSlipsUptoSaid : Prop := ustarSlipsUptoRow.holds Try.pinned (OpenSpec.upto ustarSlipsSpec)

/-- 'amphoralaw10.UstarEncodes', WHERE WHAT IT READS IS OF BULK AT MOST 1048576: true; the input reads as it did. -/
def ustarEncodesUptoRow : OpenClaim := { program := "ytkdklgcjimnabaa", sum := "c72bcdef4900d9c62eee7ec31d4ce178d94baf38b670bb1dba201ef3aacb325a", func := "amphora/amphoralaw10.UstarEncodes", spec := "ustarEncodes", inPlace := ["internal/bytealg.IndexByte", "internal/bytealg.Index"], unfollowed := true, recurses := true, named := ["internal/bytealg.MaxLen"], apart := false, narrowed := true }
def UstarEncodesUptoSaid : Prop := ustarEncodesUptoRow.holds Try.pinned (OpenSpec.upto ustarEncodesSpec)

/-- 'amphoralaw10.UstarSplits', WHERE WHAT IT READS IS OF BULK AT MOST 1048576: true; the input reads as it did. -/
def ustarSplitsUptoRow : OpenClaim := { program := "ytkdklgcjimnabaa", sum := "c72bcdef4900d9c62eee7ec31d4ce178d94baf38b670bb1dba201ef3aacb325a", func := "amphora/amphoralaw10.UstarSplits", spec := "ustarSplits", inPlace := ["internal/bytealg.IndexByte", "internal/bytealg.Index"], unfollowed := true, recurses := true, named := ["internal/bytealg.MaxLen"], apart := false, narrowed := true }
def UstarSplitsUptoSaid : Prop := ustarSplitsUptoRow.holds Try.pinned (OpenSpec.upto ustarSplitsSpec)

end Rows
end Go.Proofs.Ytkdklgcjimnabaa
