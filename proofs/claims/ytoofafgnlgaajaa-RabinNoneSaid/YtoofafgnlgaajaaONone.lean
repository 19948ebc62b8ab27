/- The walk of RabinNone. Conditions: as the theorem says. -/
import Derived.Test.YtoofafgnlgaajaaRP3
namespace Go.Proofs.Ytoofafgnlgaajaa.RW
open Go.RowKit Go.Proofs.Ytoofafgnlgaajaa.PRabin Go.Proofs.YtoofafgnlgaajaaW.PrintWords Go.Proofs.YtoofafgnlgaajaaW.PrintLast Go.Proofs.YtoofafgnlgaajaaW.PrintMore
set_option linter.unusedVariables false
set_option linter.unusedSimpArgs false
set_option maxHeartbeats 4000000 in
set_option maxRecDepth 100000 in
theorem none_walk (A : Option Addr) (n c : Nat) (w : World) : Calls Try.prog 9 #[.slice A n c] w fun e w' => e = .returned (.bool true) ∧ Below w.heap.size w w' := by
  have HA := Aside0.mk (fun W : World => amphoralaw07_alive.calls 2000 true W alive_f)
  go_enter Try.func9, Try.ntmps9
  go_wp2_with (first
    | (go_at_call 10; (with_reducible refine (HA.out _).mono ?_); rintro e1 w2 ⟨rfl, hb⟩; have HB := Aside0.mk hb; clear hb)
    | (go_at_call 25; (with_reducible refine (write_nil _ _ _ _).mono ?_); rintro e1 w3 ⟨rfl, rfl⟩)
    | (go_at_call 28; (with_reducible refine (end_nil _).mono ?_); rintro e1 w4 ⟨rfl, rfl⟩)
    | (go_at_call 27; (with_reducible refine (left_nil _).mono ?_); rintro e1 w5 ⟨rfl, rfl⟩))
  go_ret
  exact ⟨rfl, below_alloc HB.out _⟩
end Go.Proofs.Ytoofafgnlgaajaa.RW
