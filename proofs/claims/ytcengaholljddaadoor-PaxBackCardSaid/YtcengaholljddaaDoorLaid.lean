/- What the listed package-level variables hold, out of the row's condition, and a world that meets it. Printed by a program of ours. Conditions: none. -/
import Derived.Test.YtcengaholljddaaDoorRows
import Derived.Test.YtcengaholljddaaDoorGl
import Derived.LaidLaws
import Derived.Lib.LaidTab
import Derived.WitnessAt
namespace Go.Proofs.YtcengaholljddaaDoor.Laid
open Go.RowKit Go.ChangeShapes Go.WideShapes
set_option linter.unusedVariables false
set_option maxRecDepth 100000
def list : List (String × DataW Unit) := [("math/bits.deBruijn32tab", Rows.laid_math_bits_deBruijn32tab), ("math/bits.deBruijn64tab", Rows.laid_math_bits_deBruijn64tab), ("internal/strconv.uint64pow10", Rows.laid_internal_strconv_uint64pow10), ("strconv.ErrRange", Rows.laid_strconv_ErrRange), ("strconv.ErrSyntax", Rows.laid_strconv_ErrSyntax)]
theorem g4 : Tryd.prog.globalNamed "math/bits.deBruijn32tab" = some 4 := by kernel_rfl
theorem gt4 : (Tryd.prog.globals[4]?).map (·.type) = some 112 := by kernel_rfl
def zs4 : List Int := [0, 1, 28, 2, 29, 14, 24, 3, 30, 22, 20, 15, 25, 17, 4, 8, 31, 27, 13, 23, 21, 19, 16, 7, 26, 12, 18, 6, 11, 5, 10, 9]
theorem ca4 : Tryd.prog.cellsOf 112 = 32 := by kernel_rfl
theorem ce4 : Tryd.prog.cellsOf 5 = 1 := by kernel_rfl
theorem ut4 : Tryd.prog.underlying 112 = some (.array 32 5) := by kernel_rfl
theorem ue4 : Tryd.prog.underlying 5 = some (.int .u8) := by kernel_rfl
theorem g5 : Tryd.prog.globalNamed "math/bits.deBruijn64tab" = some 5 := by kernel_rfl
theorem gt5 : (Tryd.prog.globals[5]?).map (·.type) = some 113 := by kernel_rfl
def zs5 : List Int := [0, 1, 56, 2, 57, 49, 28, 3, 61, 58, 42, 50, 38, 29, 17, 4, 62, 47, 59, 36, 45, 43, 51, 22, 53, 39, 33, 30, 24, 18, 12, 5, 63, 55, 48, 27, 60, 41, 37, 16, 46, 35, 44, 21, 52, 32, 23, 11, 54, 26, 40, 15, 34, 20, 31, 10, 25, 14, 19, 9, 13, 8, 7, 6]
theorem ca5 : Tryd.prog.cellsOf 113 = 64 := by kernel_rfl
theorem ce5 : Tryd.prog.cellsOf 5 = 1 := by kernel_rfl
theorem ut5 : Tryd.prog.underlying 113 = some (.array 64 5) := by kernel_rfl
theorem ue5 : Tryd.prog.underlying 5 = some (.int .u8) := by kernel_rfl
theorem g1 : Tryd.prog.globalNamed "internal/strconv.uint64pow10" = some 1 := by kernel_rfl
theorem gt1 : (Tryd.prog.globals[1]?).map (·.type) = some 91 := by kernel_rfl
def zs1 : List Int := [1, 10, 100, 1000, 10000, 100000, 1000000, 10000000, 100000000, 1000000000, 10000000000, 100000000000, 1000000000000, 10000000000000, 100000000000000, 1000000000000000, 10000000000000000, 100000000000000000, 1000000000000000000, 10000000000000000000]
theorem ca1 : Tryd.prog.cellsOf 91 = 20 := by kernel_rfl
theorem ce1 : Tryd.prog.cellsOf 76 = 1 := by kernel_rfl
theorem ut1 : Tryd.prog.underlying 91 = some (.array 20 76) := by kernel_rfl
theorem ue1 : Tryd.prog.underlying 76 = some (.int .u64) := by kernel_rfl
theorem g3 : Tryd.prog.globalNamed "strconv.ErrRange" = some 3 := by kernel_rfl
theorem gt3 : (Tryd.prog.globals[3]?).map (·.type) = some 24 := by kernel_rfl
theorem ui3 : ∃ ms, Tryd.prog.underlying 24 = some (.interface ms) := ⟨_, Tryd.underlying24⟩
theorem g2 : Tryd.prog.globalNamed "strconv.ErrSyntax" = some 2 := by kernel_rfl
theorem gt2 : (Tryd.prog.globals[2]?).map (·.type) = some 24 := by kernel_rfl
theorem ui2 : ∃ ms, Tryd.prog.underlying 24 = some (.interface ms) := ⟨_, Tryd.underlying24⟩
structure Met (W : World) : Prop where
  m4 : Lib.TabIs Tryd.prog W "math/bits.deBruijn32tab" .u8 zs4
  m5 : Lib.TabIs Tryd.prog W "math/bits.deBruijn64tab" .u8 zs5
  m1 : Lib.TabIs Tryd.prog W "internal/strconv.uint64pow10" .u64 zs1
  m3 : ∃ tp p, W.var? Tryd.prog "strconv.ErrRange" = some #[.iface tp p]
  m2 : ∃ tp p, W.var? Tryd.prog "strconv.ErrSyntax" = some #[.iface tp p]
theorem met_of_laid {W : World} (h : laidMet Tryd.prog list W) : Met W := by
  obtain ⟨ps, ⟨a0, t0, cs0, f0, p0, q0, hg0, ht0, hv0, hd0, ⟨a1, t1, cs1, f1, p1, q1, hg1, ht1, hv1, hd1, ⟨a2, t2, cs2, f2, p2, q2, hg2, ht2, hv2, hd2, ⟨a3, t3, cs3, f3, p3, q3, hg3, ht3, hv3, hd3, ⟨a4, t4, cs4, f4, p4, q4, hg4, ht4, hv4, hd4, hz, e4⟩, e3⟩, e2⟩, e1⟩, e0⟩, hnd, hrows⟩ := h
  clear hnd hrows
  obtain rfl := Option.some.inj (g4.symm.trans hg0)
  obtain rfl := Option.some.inj (gt4.symm.trans ht0)
  obtain rfl := Option.some.inj (g5.symm.trans hg1)
  obtain rfl := Option.some.inj (gt5.symm.trans ht1)
  obtain rfl := Option.some.inj (g1.symm.trans hg2)
  obtain rfl := Option.some.inj (gt1.symm.trans ht2)
  obtain rfl := Option.some.inj (g3.symm.trans hg3)
  obtain rfl := Option.some.inj (gt3.symm.trans ht3)
  obtain rfl := Option.some.inj (g2.symm.trans hg4)
  obtain rfl := Option.some.inj (gt2.symm.trans ht4)
  have r4 : Lib.TabIs Tryd.prog W "math/bits.deBruijn32tab" .u8 zs4 := by
    unfold Lib.TabIs; rw [hv0, ← Lib.cells_of_tab (zs := zs4) ut4 ue4 ce4 ca4 hd0]
  have r5 : Lib.TabIs Tryd.prog W "math/bits.deBruijn64tab" .u8 zs5 := by
    unfold Lib.TabIs; rw [hv1, ← Lib.cells_of_tab (zs := zs5) ut5 ue5 ce5 ca5 hd1]
  have r1 : Lib.TabIs Tryd.prog W "internal/strconv.uint64pow10" .u64 zs1 := by
    unfold Lib.TabIs; rw [hv2, ← Lib.cells_of_tab (zs := zs1) ut1 ue1 ce1 ca1 hd2]
  have r3 : ∃ tp p, W.var? Tryd.prog "strconv.ErrRange" = some #[.iface tp p] := by
    obtain ⟨ms, hms⟩ := ui3
    obtain ⟨f, u, v, hc, _, _⟩ := iface_of_trod hms hd3
    exact ⟨u, v, by rw [hv3]; congr 1; apply Array.ext'; exact hc⟩
  have r2 : ∃ tp p, W.var? Tryd.prog "strconv.ErrSyntax" = some #[.iface tp p] := by
    obtain ⟨ms, hms⟩ := ui2
    obtain ⟨f, u, v, hc, _, _⟩ := iface_of_trod hms hd4
    exact ⟨u, v, by rw [hv4]; congr 1; apply Array.ext'; exact hc⟩
  exact ⟨r4, r5, r1, r3, r2⟩
noncomputable def low : Nat := (World.holding Tryd.prog default ⟨#[], #[], []⟩).heap.size
noncomputable def world (os : Os) : World :=
  let w0 := World.holding Tryd.prog os ⟨#[.cells #[.string (⟨#[118, 97, 108, 117, 101, 32, 111, 117, 116, 32, 111, 102, 32, 114, 97, 110, 103, 101]⟩ : ByteArray)] 110, .cells #[.string (⟨#[105, 110, 118, 97, 108, 105, 100, 32, 115, 121, 110, 116, 97, 120]⟩ : ByteArray)] 110], #[], []⟩
  { w0 with heap := (((((w0.heap).modify 4 fun | .cells _ t frozen => .cells (zs4.map fun z => Value.int .u8 z).toArray t frozen | o => o).modify 5 fun | .cells _ t frozen => .cells (zs5.map fun z => Value.int .u8 z).toArray t frozen | o => o).modify 1 fun | .cells _ t frozen => .cells (zs1.map fun z => Value.int .u64 z).toArray t frozen | o => o).modify 3 fun | .cells _ t frozen => .cells #[.iface 108 (.pointer (some ⟨low + 0, 0, none⟩))] t frozen | o => o).modify 2 fun | .cells _ t frozen => .cells #[.iface 108 (.pointer (some ⟨low + 1, 0, none⟩))] t frozen | o => o }
theorem world_met (os : Os) (args : Array Value) : laidMet Tryd.prog list ((world os).forCall (fun _ _ => 0) ⟨#[], args, []⟩).memory :=
  laidMet_of_run' 8 (by kernel_rfl) (by kernel_rfl)
theorem gl {W : World} (h : laidMetH Tryd.prog list W) : PPax.Gl W := by
  have m := met_of_laid h
  exact ⟨(show zs1 = Lib.pow10Tab by decide) ▸ m.m1, m.m2, m.m3⟩
end Go.Proofs.YtcengaholljddaaDoor.Laid
