/- An entry is laid into a box. Conditions: as each theorem says. -/
import Derived.Test.YtfkbmjfhakooiaaDoorMp
import Derived.Test.YtfkbmjfhakooiaaDoorPTreex0
namespace Go.Proofs.YtfkbmjfhakooiaaDoor.TR
open Go.RowKit Go.Proofs.YtfkbmjfhakooiaaDoor.PTree Go.Proofs.YtfkbmjfhakooiaaDoorW.PrintWords Go.Proofs.YtfkbmjfhakooiaaDoorW.PrintLast Go.Proofs.YtfkbmjfhakooiaaDoorW.PrintMore
set_option linter.unusedVariables false
set_option linter.unusedSimpArgs false
/-- An entry is stored into a box of its own: what else is there stays. -/
theorem ev_set31 {ops : Array Oper} {rest : List Oper} {o : Oper} {a : Act} {Q : Exit → Act → World → Prop} (w : World) (hg : o.guard = none) (p x : Operand) (hop : o.op = Op.store 31 p x) (hd : o.dst = none) (g : Nat) (z0 z1 z2 z3 z4 z5 z6 z7 : Value) (f0 f6 : ByteArray) (f1 f2 f3 f4 f5 : Int) (A7 : Option Addr) (n7 c7 : Nat)
    (hp : a.eval p = .pointer (some ⟨g, 0, none⟩)) (hx : a.eval x = .agg #[.string f0, .int .i64 f1, .int .i64 f2, .int .i64 f3, .int .i64 f4, .int .i64 f5, .string f6, .slice A7 n7 c7])
    (hb : w.heap[g]? = some (.cells #[z0, z1, z2, z3, z4, z5, z6, z7] 31 (0, 0)))
    (hK : ∀ w', w'.heap[g]? = some (.cells #[.string f0, .int .i64 f1, .int .i64 f2, .int .i64 f3, .int .i64 f4, .int .i64 f5, .string f6, .slice A7 n7 c7] 31 (0, 0)) → w.grownBy w' (some g) → wpList Tryd.prog ops Q rest a w') : wpList Tryd.prog ops Q (o :: rest) a w := by
  have hrun : (Instr.storeAt 31 (.pointer (some ⟨g, 0, none⟩)) (.agg #[.string f0, .int .i64 f1, .int .i64 f2, .int .i64 f3, .int .i64 f4, .int .i64 f5, .string f6, .slice A7 n7 c7])).run Tryd.prog w = .ok () (w.setCells g 0 [.string f0, .int .i64 f1, .int .i64 f2, .int .i64 f3, .int .i64 f4, .int .i64 f5, .string f6, .slice A7 n7 c7]) :=
    run_store_run 31 _ _ hb rfl (by
      obtain ⟨i, hi, hq⟩ := Option.map_eq_some_iff.1 info31
      rw [hi]
      simp only [Prod.mk.injEq] at hq
      show some i.size = _
      rw [hq.2.1]
      rfl) (Nat.le_refl 8) (by simp [Value.oneCell'])
  obtain ⟨cur, h1, h2, h3⟩ := setCells_row (g := g) [.string f0, .int .i64 f1, .int .i64 f2, .int .i64 f3, .int .i64 f4, .int .i64 f5, .string f6, .slice A7 n7 c7] 0 w _ hb (Nat.le_refl 8)
  obtain ⟨s1, s2, s3, s4⟩ := setCells_same g [.string f0, .int .i64 f1, .int .i64 f2, .int .i64 f3, .int .i64 f4, .int .i64 f5, .string f6, .slice A7 n7 c7] 0 w
  have hcur : cur = #[.string f0, .int .i64 f1, .int .i64 f2, .int .i64 f3, .int .i64 f4, .int .i64 f5, .string f6, .slice A7 n7 c7] := Array.ext' h3
  subst hcur
  refine wpList_plain hg fun K hKK => ?_
  unfold Oper.wp execOp
  simp only [hop, hp, hx, Sem.run_bind, Sem.run_pure, Result.andThen_ok, hrun]
  show K (a.put o.dst undef) _
  rw [hd]
  exact hKK _ _ (hK _ h1 ⟨s1, s2, s3, Nat.le_of_eq s4.symm, fun k _ hk => setCells_far _ 0 k (fun e => hk (by rw [e]))⟩)
end Go.Proofs.YtfkbmjfhakooiaaDoor.TR
