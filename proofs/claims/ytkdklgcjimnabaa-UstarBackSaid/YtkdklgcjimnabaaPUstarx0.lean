/- Printed for this claim by a copy of the kit's print.py that takes functions walked by our own texts. Conditions: none. -/
import Derived.Test.YtkdklgcjimnabaaProg
import Derived.Test.YtkdklgcjimnabaaAscii
import Derived.Test.YtkdklgcjimnabaaShelf
import Derived.Below
import Derived.Deep.Draws
import Derived.Deep.AppendLies
import Derived.Maps.AppendAt
import Derived.OwnWalk
import Derived.Laws.BytesArg
import Derived.Laws.MakeOwn
import Derived.Laws.OwnMore
import Derived.Deep.OwnRows
import Derived.Tactics
import Derived.Lib.ConvBytes
import Derived.Laws.Slices
import Derived.WalkKit
import Derived.KernelRfl
import Derived.RowKit3
import Derived.Deep.LoopGhost
import Derived.Deep.QuietTactic
import Derived.BigQuiet
import Derived.WideLaws
import Derived.Deep.DeepCutAuto
import Derived.Deep.CutBlock
import Derived.Deep.RegionHeld3
import Derived.Laws.Rows
import Derived.Lib.AppendStr
import Derived.ArgAppend
import Derived.Laws.IdiomCopy
import Derived.OrdersHeld
import Derived.Laws.BitsLemmas
import Derived.RowKit
import Derived.Test.YtkdklgcjimnabaaWWords
import Derived.Test.YtkdklgcjimnabaaWLast
import Derived.Test.YtkdklgcjimnabaaWTab
import Derived.Test.YtkdklgcjimnabaaWFour
import Derived.Test.YtkdklgcjimnabaaWQPut
import Derived.Test.YtkdklgcjimnabaaWApart
import Derived.Test.YtkdklgcjimnabaaWArr
import Derived.Test.YtkdklgcjimnabaaWZeros
import Derived.Test.YtkdklgcjimnabaaWFoot
import Derived.Test.YtkdklgcjimnabaaWKept
import Derived.Test.YtkdklgcjimnabaaWShare
import Derived.Test.YtkdklgcjimnabaaWN
import Derived.Test.YtkdklgcjimnabaaWFootNe
import Derived.Test.YtkdklgcjimnabaaWAt
import Derived.Test.YtkdklgcjimnabaaWEqStruct
import Derived.Test.YtkdklgcjimnabaaWRepsOne
import Derived.Test.YtkdklgcjimnabaaWInv
import Derived.Test.YtkdklgcjimnabaaWInvWords
import Derived.Test.YtkdklgcjimnabaaWGuard
import Derived.Test.YtkdklgcjimnabaaWNEv
import Derived.Test.YtkdklgcjimnabaaWMore
namespace Go.Proofs.Ytkdklgcjimnabaa.PUstar
open Go.RowKit Go.Proofs.YtkdklgcjimnabaaW.PrintWords Go.Proofs.YtkdklgcjimnabaaW.PrintLast Go.Proofs.YtkdklgcjimnabaaW.PrintMore
attribute [local go_sem] max2_int min2_int max_two min_two max_three min_three max_four min_four   -- for this text's walks alone
set_option linter.unusedVariables false
set_option linter.unusedSimpArgs false



def errW : Option Int → Value
  | none => .nilIface
  | some c => .iface 40 (.int .i64 c)
theorem errW_none : errW none = .nilIface := rfl
theorem errW_some (c : Int) : errW (some c) = .iface 40 (.int .i64 c) := rfl

theorem info5 : (Try.prog.info? 5).map (fun i => (i.zero, i.size, i.bytes)) = some (some (.int .u8 0), 1, 1) := by kernel_rfl
-- the values' own types
def rd_L1 (xs : List (List Int)) (i : Int) : (List Int) := xs.getD i.toNat ([] : List Int)
theorem at_L1 {w : World} {A : Option Addr} {n : Nat} {xs : List (List Int)} (h : Kd.C (Kd.slice 5 (Kd.int .u8)) w A n xs) (i : Int) (h0 : 0 ≤ i) (h1 : i < n) : ∃ ad A0 c0, A = some ad ∧ w.cell? (ad.add i.toNat) = some (.slice A0 (rd_L1 xs i).length c0) ∧ (rd_L1 xs i).length ≤ c0 ∧ (Kd.int .u8).C w A0 (rd_L1 xs i).length (rd_L1 xs i) := by
  obtain ⟨ad, c, e, _, hK, hc0⟩ := Kd.C_get h ([] : List Int) i h0 h1
  have hc : ∀ j u, c[j]? = some u → w.cell? (ad.add (i.toNat * 1 + j)) = some u := hc0
  obtain ⟨A0, c0, rfl, l0, g0⟩ := hK
  exact ⟨ad, A0, c0, e, by have hq := hc 0 _ rfl; rwa [Nat.mul_one, Nat.add_zero] at hq, l0, g0⟩

theorem run_equalIn_iface_int {P : Program} (w : World) (d : Nat) {ti tn : TypeId} {ms : Array (String × TypeId)} {i : TypeInfo} {k : IntKind} (a b : Int)
    (hi : P.underlying ti = some (.interface ms)) (hn : P.underlying tn = some (.int k)) (hinfo : P.info? tn = some i) (hcomp : i.comparable = true) :
    (Op.equalIn (d + 2) ti (.iface tn (.int k a)) (.iface tn (.int k b))).run P w = .ok (a == b) w := by
  simp [Op.equalIn, run_underlying hi, run_underlying hn, typeInfo, hinfo, hcomp]
theorem run_eql_iface_int {P : Program} (w : World) {ti tn : TypeId} {ms : Array (String × TypeId)} {i : TypeInfo} {k : IntKind} (a b : Int)
    (hi : P.underlying ti = some (.interface ms)) (hn : P.underlying tn = some (.int k)) (hinfo : P.info? tn = some i) (hcomp : i.comparable = true) :
    (binOp .eql ti (.iface tn (.int k a)) (.iface tn (.int k b))).run P w = .ok (.bool (a == b)) w := by
  simp only [binOp]
  simp [Op.equal, Op.maxDepth, run_equalIn_iface_int w 9998 a b hi hn hinfo hcomp]
theorem run_equalIn_nil_iface {P : Program} (w : World) (d : Nat) {ti tn : TypeId} {ms : Array (String × TypeId)} {k : IntKind} (b : Int)
    (hi : P.underlying ti = some (.interface ms)) :
    (Op.equalIn (d + 2) ti .nilIface (.iface tn (.int k b))).run P w = .ok false w := by
  simp [Op.equalIn, run_underlying hi]
theorem run_eql_nil_iface {P : Program} (w : World) {ti tn : TypeId} {ms : Array (String × TypeId)} {k : IntKind} (b : Int)
    (hi : P.underlying ti = some (.interface ms)) :
    (binOp .eql ti .nilIface (.iface tn (.int k b))).run P w = .ok (.bool false) w := by
  simp only [binOp]
  simp [Op.equal, Op.maxDepth, run_equalIn_nil_iface w 9998 b hi]
theorem comp_err : ((Try.prog.info? 40).map (·.comparable)) = some true := by kernel_rfl
theorem eql_err28 (w : World) (a b : Int) : (binOp .eql 28 (.iface 40 (.int .i64 a)) (.iface 40 (.int .i64 b))).run Try.prog w = .ok (.bool (a == b)) w := by
  obtain ⟨i, h1, h2⟩ := Option.map_eq_some_iff.1 comp_err
  exact run_eql_iface_int w a b Try.underlying28 Try.underlying40 h1 h2
theorem eql_nil28 (w : World) (b : Int) : (binOp .eql 28 .nilIface (.iface 40 (.int .i64 b))).run Try.prog w = .ok (.bool false) w := run_eql_nil_iface w b Try.underlying28
end Go.Proofs.Ytkdklgcjimnabaa.PUstar
