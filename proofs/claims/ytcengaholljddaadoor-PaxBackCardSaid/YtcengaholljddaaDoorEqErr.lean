/- Two errors compared. Conditions: as the theorem says. -/
import Derived.Test.YtcengaholljddaaDoorPPaxx0
namespace Go.Proofs.YtcengaholljddaaDoor.PPax
open Go.RowKit Go.Proofs.YtcengaholljddaaDoorW.PrintWords Go.Proofs.YtcengaholljddaaDoorW.PrintLast Go.Proofs.YtcengaholljddaaDoorW.PrintMore
set_option linter.unusedVariables false
set_option linter.unusedSimpArgs false
/-! ### two errors compared -/
theorem run_equalIn_iface_int {P : Program} (w : World) (d : Nat) {ti tn : TypeId} {ms : Array (String × TypeId)} {i : TypeInfo} {k : IntKind} (a b : Int)
    (hi : P.underlying ti = some (.interface ms)) (hn : P.underlying tn = some (.int k)) (hinfo : P.info? tn = some i) (hcomp : i.comparable = true) :
    (Op.equalIn (d + 2) ti (.iface tn (.int k a)) (.iface tn (.int k b))).run P w = .ok (a == b) w := by
  simp [Op.equalIn, run_underlying hi, run_underlying hn, typeInfo, hinfo, hcomp]
theorem run_eql_iface_int {P : Program} (w : World) {ti tn : TypeId} {ms : Array (String × TypeId)} {i : TypeInfo} {k : IntKind} (a b : Int)
    (hi : P.underlying ti = some (.interface ms)) (hn : P.underlying tn = some (.int k)) (hinfo : P.info? tn = some i) (hcomp : i.comparable = true) :
    (binOp .eql ti (.iface tn (.int k a)) (.iface tn (.int k b))).run P w = .ok (.bool (a == b)) w := by
  simp only [binOp]
  simp [Op.equal, Op.maxDepth, run_equalIn_iface_int w 9998 a b hi hn hinfo hcomp]
theorem run_equalIn_nil_iface {P : Program} (w : World) (d : Nat) {ti tn : TypeId} {ms : Array (String × TypeId)} {k : IntKind} (b : Int)
    (hi : P.underlying ti = some (.interface ms)) :
    (Op.equalIn (d + 2) ti .nilIface (.iface tn (.int k b))).run P w = .ok false w := by
  simp [Op.equalIn, run_underlying hi]
theorem run_eql_nil_iface {P : Program} (w : World) {ti tn : TypeId} {ms : Array (String × TypeId)} {k : IntKind} (b : Int)
    (hi : P.underlying ti = some (.interface ms)) :
    (binOp .eql ti .nilIface (.iface tn (.int k b))).run P w = .ok (.bool false) w := by
  simp only [binOp]
  simp [Op.equal, Op.maxDepth, run_equalIn_nil_iface w 9998 b hi]
theorem comp_err : ((Tryd.prog.info? 42).map (·.comparable)) = some true := by kernel_rfl
theorem eql_err24 (w : World) (a b : Int) : (binOp .eql 24 (.iface 42 (.int .i64 a)) (.iface 42 (.int .i64 b))).run Tryd.prog w = .ok (.bool (a == b)) w := by
  obtain ⟨i, h1, h2⟩ := Option.map_eq_some_iff.1 comp_err
  exact run_eql_iface_int w a b Tryd.underlying24 Tryd.underlying42 h1 h2
theorem eql_nil24 (w : World) (b : Int) : (binOp .eql 24 .nilIface (.iface 42 (.int .i64 b))).run Tryd.prog w = .ok (.bool false) w := run_eql_nil_iface w b Tryd.underlying24
end Go.Proofs.YtcengaholljddaaDoor.PPax
