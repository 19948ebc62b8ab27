/- The statement PolyPrimes of layer 6, over plain numbers: the program's test and the reference's tell the same polynomials irreducible. Conditions: none. -/
import Derived.Test.YtabgknnnhhgliaaPPolyx3
import Derived.Test.YtabgknnnhhgliaaPB
namespace Go.Proofs.Ytabgknnnhhgliaa.Pure
open Go.RowKit Go.Proofs.Ytabgknnnhhgliaa.PPoly Go.Proofs.YtabgknnnhhgliaaW.PrintWords Go.Proofs.YtabgknnnhhgliaaW.PrintLast Go.Proofs.YtabgknnnhhgliaaW.PrintMore
set_option linter.unusedVariables false
set_option linter.unusedSimpArgs false

open Go.Proofs.Ytabgknnnhhgliaa.PB Go.Proofs.Ytabgknnnhhgliaa
theorem PolyPrimes : amphoralaw06_PolyPrimes.Pure := by
  intro p hp
  obtain ⟨p, hp64, rfl⟩ := u64_nat p hp
  obtain ⟨K, hK⟩ : ∃ K : Nat, 3000 ≤ K := ⟨3000, Nat.le_refl _⟩
  refine ⟨K, ?_⟩
  obtain ⟨b, e, h⟩ := Irreducible_f p hp64 K (by omega)
  obtain ⟨b', e', h'⟩ := rIrreducible_f p hp64 K (by omega)
  unfold amphoralaw06_PolyPrimes.f
  rw [alive_f K (by omega)]
  simp only [Option.bind_some, if_true]
  rw [e, e']
  simp only [Option.bind_some]
  have : b = b' := by rw [Bool.eq_iff_iff, h, h']
  rw [this]; simp

end Go.Proofs.Ytabgknnnhhgliaa.Pure
