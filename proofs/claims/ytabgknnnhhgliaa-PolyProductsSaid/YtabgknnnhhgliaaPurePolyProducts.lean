/- The statement PolyProducts of layer 6: degrees, sums, products and remainders are the reference's. Conditions: each number is an uint64. -/
import Derived.Test.YtabgknnnhhgliaaOPolyProducts
import Derived.Test.YtabgknnnhhgliaaPB
namespace Go.Proofs.Ytabgknnnhhgliaa.Pure
open Go.RowKit Go.Proofs.Ytabgknnnhhgliaa.OPolyProducts Go.Proofs.Ytabgknnnhhgliaa.PPoly Go.Proofs.YtabgknnnhhgliaaW.PrintWords Go.Proofs.YtabgknnnhhgliaaW.PrintLast Go.Proofs.YtabgknnnhhgliaaW.PrintMore
set_option linter.unusedVariables false
set_option linter.unusedSimpArgs false

open Go.Proofs.Ytabgknnnhhgliaa.PB Go.Proofs.Ytabgknnnhhgliaa
namespace PolyProductsAid
theorem Sum_none (k : Nat) (hk : 1 ≤ k) : poly_Sum.f k [] = some 0 := by
  obtain ⟨k, rfl⟩ : ∃ m, k = m + 1 := ⟨k - 1, by omega⟩
  simp [poly_Sum.f, poly_Sum.l0]
theorem Sum_three (a b m : Nat) (ha : a < 2 ^ 64) (k : Nat) (hk : 4 ≤ k) : poly_Sum.f k [(a : Int), (b : Int), (m : Int)] = some (Go.bits .xor .u64 (Go.bits .xor .u64 (a : Int) (b : Int)) (m : Int)) := by
  obtain ⟨k, rfl⟩ : ∃ m, k = m + 4 := ⟨k - 4, by omega⟩
  have z : Go.bits .xor .u64 0 (a : Int) = (a : Int) := by
    have := xor_i 0 a (by decide) ha
    rw [Nat.zero_xor] at this
    exact this
  have f1 : wrap64 1 = 1 := w64 (by omega) (by omega)
  have f2 : wrap64 2 = 2 := w64 (by omega) (by omega)
  have f3 : wrap64 3 = 3 := w64 (by omega) (by omega)
  simp [poly_Sum.f, poly_Sum.l0, rd, f1, f2, f3, z]
end PolyProductsAid
open PolyProductsAid
theorem PolyProducts (a b m : Nat) (a64 : a < 2 ^ 64) (b64 : b < 2 ^ 64) (m64 : m < 2 ^ 64) (w : World) :
    Calls Try.prog 7 #[.int .u64 a, .int .u64 b, .int .u64 m] w fun e w' => e = .returned (.bool true) ∧ Below w.heap.size w w' := by
  obtain ⟨K, hK⟩ : ∃ K : Nat, 5000 ≤ K := ⟨5000, Nat.le_refl _⟩
  by_cases hm : m = 0
  · subst hm
    exact products_no K a b _ _ _ w (alive_f K (by omega)) (Mul_f a b a64 b64 K (by omega)) (rMul_f a b a64 b64 K (by omega)) (Deg_f a a64) (rDeg_f a a64 K (by omega)) (Sum_three a b 0 a64 K (by omega)) (Sum_none K (by omega)) (by unfold poly_Mod.f; rw [if_pos rfl])
  · have N : a * 2 ^ 64 + b < 2 ^ 128 := by
      have q : (2 : Nat) ^ 128 = 2 ^ 64 * 2 ^ 64 := by decide
      have : a * 2 ^ 64 + 2 ^ 64 ≤ 2 ^ 64 * 2 ^ 64 := by
        rw [← Nat.succ_mul]; exact Nat.mul_le_mul_right _ a64
      omega
    have h1 := Mod_f (a * 2 ^ 64 + b) m hm m64 N K (by omega)
    have h2 := rMod_f (a * 2 ^ 64 + b) m hm m64 N K (by omega)
    have d : (a * 2 ^ 64 + b) / 2 ^ 64 = a := by
      rw [Nat.mul_comm, Nat.mul_add_div (Nat.two_pow_pos 64), Nat.div_eq_of_lt b64, Nat.add_zero]
    have r : (a * 2 ^ 64 + b) % 2 ^ 64 = b := by
      rw [Nat.mul_comm, Nat.mul_add_mod, Nat.mod_eq_of_lt b64]
    rw [d, r] at h1 h2
    exact products_yes K a b m _ _ _ _ w (alive_f K (by omega)) (Mul_f a b a64 b64 K (by omega)) (rMul_f a b a64 b64 K (by omega)) (Deg_f a a64) (rDeg_f a a64 K (by omega)) (Sum_three a b m a64 K (by omega)) (Sum_none K (by omega)) h1 h2 (by omega)

end Go.Proofs.Ytabgknnnhhgliaa.Pure
