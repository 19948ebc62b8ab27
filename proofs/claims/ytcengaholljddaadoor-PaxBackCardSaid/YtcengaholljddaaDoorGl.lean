/- What the package-level variables hold that the walks read: a table of powers of ten and two errors of strconv. Conditions: as each theorem says. -/
import Derived.Test.YtcengaholljddaaDoorShelf
import Derived.Test.YtcengaholljddaaDoorWWords
namespace Go.Proofs.YtcengaholljddaaDoor.PPax
open Go.RowKit Go.Proofs.YtcengaholljddaaDoorW.PrintWords
set_option linter.unusedVariables false
/-- The variables that are read. -/
structure Gl (w : World) : Prop where
  tab : Lib.TabIs Tryd.prog w "internal/strconv.uint64pow10" .u64 Lib.pow10Tab
  syn : ∃ tp p, w.var? Tryd.prog "strconv.ErrSyntax" = some #[.iface tp p]
  rng : ∃ tp p, w.var? Tryd.prog "strconv.ErrRange" = some #[.iface tp p]
theorem var_of {w w' : World} {n : String} {cs : Array Value} (h : w.var? Tryd.prog n = some cs) (hb : Below w.heap.size w w') : w'.var? Tryd.prog n = some cs := by
  unfold World.var? at h ⊢
  cases hg : Tryd.prog.globalNamed n with
  | none => rw [hg] at h; cases h
  | some g =>
    rw [hg] at h
    simp only [Option.bind_some] at h ⊢
    cases ho : w.heap[g]? with
    | none => rw [ho] at h; cases h
    | some o =>
      have hlt : g < w.heap.size := (Array.getElem?_eq_some_iff.1 ho).1
      rw [hb.block g hlt, ho]
      rw [ho] at h; exact h
theorem Gl.of {w w' : World} (h : Gl w) (hb : Below w.heap.size w w') : Gl w' :=
  ⟨var_of h.tab hb, h.syn.elim fun tp h => h.elim fun p h => ⟨tp, p, var_of h hb⟩, h.rng.elim fun tp h => h.elim fun p h => ⟨tp, p, var_of h hb⟩⟩
theorem Gl.drewN {w : World} (h : Gl w) (n : Nat) : Gl (w.drewN n) := h.of (pw_below_drewN (Below.refl _ _) n)
end Go.Proofs.YtcengaholljddaaDoor.PPax
