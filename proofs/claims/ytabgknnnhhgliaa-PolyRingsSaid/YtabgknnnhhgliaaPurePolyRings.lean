/- The statement PolyRings of layer 6, over plain numbers: the laws of products and remainders. Conditions: each number is an uint64. -/
import Derived.Test.YtabgknnnhhgliaaPPolyx4
import Derived.Test.YtabgknnnhhgliaaPB
namespace Go.Proofs.Ytabgknnnhhgliaa.Pure
open Go.RowKit Go.Proofs.Ytabgknnnhhgliaa.PPoly Go.Proofs.YtabgknnnhhgliaaW.PrintWords Go.Proofs.YtabgknnnhhgliaaW.PrintLast Go.Proofs.YtabgknnnhhgliaaW.PrintMore
set_option linter.unusedVariables false
set_option linter.unusedSimpArgs false

open Go.Proofs.Ytabgknnnhhgliaa.PB Go.Proofs.Ytabgknnnhhgliaa
namespace PolyRingsAid
theorem MulMod_two (m a b : Nat) (hm : m ≠ 0) (hm64 : m < 2 ^ 64) (ha : a < 2 ^ 64) (hb : b < 2 ^ 64) (k : Nat) (hk : 400 ≤ k) : poly_MulMod.f k (m : Int) [(a : Int), (b : Int)] = some (((GF.md (GF.mul a b) m : Nat) : Int), none) := by
  have h := MulMod_f m hm hm64 [a, b] (by intro x hx; simp at hx; rcases hx with rfl | rfl <;> assumption) (by simp) k (by simp; omega)
  rw [mds_spec m hm _ _ (GF.md_L hm 1), GF.md_mul_md hm, GF.one_mul] at h
  have e : GF.prod [a, b] = GF.mul a b := by show GF.mul a (GF.mul b 1) = _; rw [GF.mul_one]
  rw [e] at h
  exact h
theorem MulMod_three (m a b c : Nat) (hm : m ≠ 0) (hm64 : m < 2 ^ 64) (ha : a < 2 ^ 64) (hb : b < 2 ^ 64) (hc : c < 2 ^ 64) (k : Nat) (hk : 400 ≤ k) : poly_MulMod.f k (m : Int) [(a : Int), (b : Int), (c : Int)] = some (((GF.md (GF.mul a (GF.mul b c)) m : Nat) : Int), none) := by
  have h := MulMod_f m hm hm64 [a, b, c] (by intro x hx; simp at hx; rcases hx with rfl | rfl | rfl <;> assumption) (by simp) k (by simp; omega)
  rw [mds_spec m hm _ _ (GF.md_L hm 1), GF.md_mul_md hm, GF.one_mul] at h
  have e : GF.prod [a, b, c] = GF.mul a (GF.mul b c) := by show GF.mul a (GF.mul b (GF.mul c 1)) = _; rw [GF.mul_one]
  rw [e] at h
  exact h
end PolyRingsAid
open PolyRingsAid
theorem PolyRings (a b c m : Nat) (a64 : a < 2 ^ 64) (b64 : b < 2 ^ 64) (c64 : c < 2 ^ 64) (m64 : m < 2 ^ 64) : ∃ k, amphoralaw06_PolyRings.f k (a : Int) (b : Int) (c : Int) (m : Int) = some true := by
  obtain ⟨K, hK⟩ : ∃ K : Nat, 5000 ≤ K := ⟨5000, Nat.le_refl _⟩
  refine ⟨K + 2, ?_⟩
  have main : amphoralaw06_laws.f (K + 2) (a : Int) (b : Int) (c : Int) (m : Int) = some true := by
    unfold amphoralaw06_laws.f
    rw [alive_f (K + 2) (by omega)]
    simp only [Option.bind_some, if_true]
    simp only [amphoralaw06_laws.j0]
    by_cases hm : m = 0
    · subst hm
      rw [alive_f (K + 1) (by omega)]
      rfl
    · have nb : ((m : Int) == 0) = false := by rw [beq_eq_false_iff_ne]; omega
      rw [nb]
      simp only [Bool.false_eq_true, if_false]
      have bc64 := GF.xor_lt b64 c64
      rw [xor_i b c b64 c64, Mul_f a b a64 b64 _ (by omega), Mul_f b a b64 a64 _ (by omega), Mul_f a c a64 c64 _ (by omega), Mul_f a (b ^^^ c) a64 bc64 _ (by omega)]
      simp only [Option.bind_some]
      have hi64 : ∀ x y, x < 2 ^ 64 → y < 2 ^ 64 → GF.mul x y / 2 ^ 64 < 2 ^ 64 := by
        intro x y hx hy
        apply Nat.div_lt_of_lt_mul
        rw [← Nat.pow_add]; exact mul_lt x y 64 hx hy (by omega)
      have lo64 : ∀ x, x % 2 ^ 64 < 2 ^ 64 := fun x => Nat.mod_lt _ (Nat.two_pow_pos 64)
      rw [GF.mul_comm b a, xor_i _ _ (hi64 a b a64 b64) (hi64 a c a64 c64), xor_i _ _ (lo64 _) (lo64 _), GF.mul_xor, div_xor, mod_xor]
      simp only [if_true, bne_self_eq_false]
      simp only [amphoralaw06_laws.j1, Bool.false_eq_true, if_false]
      rw [MulMod_two m a b hm m64 a64 b64 _ (by omega), MulMod_two m b c hm m64 b64 c64 _ (by omega)]
      simp only [Option.bind_some]
      rw [MulMod_two m _ c hm m64 (md_lt _ m hm m64) c64 _ (by omega), MulMod_two m a _ hm m64 a64 (md_lt _ m hm m64) _ (by omega), MulMod_three m c b a hm m64 c64 b64 a64 _ (by omega), Mod_f _ m hm m64 (mul_lt a b 64 a64 b64 (by omega)) _ (by omega)]
      simp only [Option.bind_some, Option.isNone_none, if_true]
      rw [GF.md_mul_md hm, GF.md_mul_md' hm, GF.mul_assoc]
      have e : GF.mul c (GF.mul b a) = GF.mul a (GF.mul b c) := by
        rw [GF.mul_comm c, GF.mul_comm b a, GF.mul_assoc]
      rw [e]
      simp only [if_true]
      rw [Deg_f _ (md_lt _ m hm m64), Deg_f m m64]
      simp only [Option.bind_some]
      have := GF.md_L hm (GF.mul a b)
      rw [decide_eq_true (by omega)]
  unfold amphoralaw06_PolyRings.f
  first
    | exact main
    | (rw [main]; rfl)

end Go.Proofs.Ytabgknnnhhgliaa.Pure
