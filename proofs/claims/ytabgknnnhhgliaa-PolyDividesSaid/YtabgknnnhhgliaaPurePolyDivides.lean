/- The statement PolyDivides of layer 6, over plain numbers: greatest common divisors divide, common factors divide them, and what is irreducible has no common divisor with what it doesn't divide. Conditions: none. -/
import Derived.Test.YtabgknnnhhgliaaPPolyx4
import Derived.Test.YtabgknnnhhgliaaPB
namespace Go.Proofs.Ytabgknnnhhgliaa.Pure
open Go.RowKit Go.Proofs.Ytabgknnnhhgliaa.PPoly Go.Proofs.YtabgknnnhhgliaaW.PrintWords Go.Proofs.YtabgknnnhhgliaaW.PrintLast Go.Proofs.YtabgknnnhhgliaaW.PrintMore
set_option linter.unusedVariables false
set_option linter.unusedSimpArgs false

open Go.Proofs.Ytabgknnnhhgliaa.PB Go.Proofs.Ytabgknnnhhgliaa
namespace PolyDividesAid
theorem mask (a : Nat) (ha : a < 2 ^ 64) : Go.bits .and .u64 (a : Int) 1073741823 = ((a % 2 ^ 30 : Nat) : Int) := by
  have h := bits_and_u64_nat a 1073741823 (by simpa using ha) (by omega)
  have e : a &&& 1073741823 = a % 2 ^ 30 := Nat.and_two_pow_sub_one_eq_mod a 30
  rw [e] at h
  exact h
theorem low (a c : Nat) (ha : a < 2 ^ 30) (hc : c < 2 ^ 30) : GF.mul a c < 2 ^ 60 := by
  apply GF.L_le.1
  have := GF.L_mul_le a c
  have := GF.L_le.2 ha
  have := GF.L_le.2 hc
  omega
end PolyDividesAid
open PolyDividesAid
theorem PolyDivides : amphoralaw06_PolyDivides.Pure := by
  intro a b c ha hb hc
  obtain ⟨a, a64, rfl⟩ := u64_nat a ha
  obtain ⟨b, b64, rfl⟩ := u64_nat b hb
  obtain ⟨c, c64, rfl⟩ := u64_nat c hc
  obtain ⟨K, hK⟩ : ∃ K : Nat, 5000 ≤ K := ⟨5000, Nat.le_refl _⟩
  refine ⟨K + 2, ?_⟩
  unfold amphoralaw06_PolyDivides.f
  rw [mask a a64, mask b b64, mask c c64]
  have a30 : a % 2 ^ 30 < 2 ^ 30 := Nat.mod_lt _ (Nat.two_pow_pos 30)
  have b30 : b % 2 ^ 30 < 2 ^ 30 := Nat.mod_lt _ (Nat.two_pow_pos 30)
  have c30 : c % 2 ^ 30 < 2 ^ 30 := Nat.mod_lt _ (Nat.two_pow_pos 30)
  clear ha hb hc a64 b64 c64
  generalize a % 2 ^ 30 = a at *
  generalize b % 2 ^ 30 = b at *
  generalize c % 2 ^ 30 = c at *
  have a64 : a < 2 ^ 64 := lt64 a30 (by omega)
  have b64 : b < 2 ^ 64 := lt64 b30 (by omega)
  have c64 : c < 2 ^ 64 := lt64 c30 (by omega)
  have x64 : GF.mul a c < 2 ^ 64 := lt64 (low a c a30 c30) (by omega)
  have y64 : GF.mul b c < 2 ^ 64 := lt64 (low b c b30 c30) (by omega)
  have g64 := gcd_lt _ _ x64 y64
  rw [alive_f (K + 2) (by omega), Mul_f a c a64 c64 _ (by omega), Mul_f b c b64 c64 _ (by omega), Nat.mod_eq_of_lt x64, Nat.mod_eq_of_lt y64]
  simp only [Option.bind_some, if_true]
  rw [Gcd_two _ _ x64 y64 _ (by omega)]
  simp only [Option.bind_some]
  have gl := GF.gcd_left (GF.mul a c) (GF.mul b c)
  have gr := GF.gcd_right (GF.mul a c) (GF.mul b c)
  have gc : GF.Dv c (GF.gcd (GF.mul a c) (GF.mul b c)) := GF.Dv_gcd ⟨a, rfl⟩ ⟨b, rfl⟩
  generalize GF.mul a c = x at *
  generalize GF.mul b c = y at *
  generalize GF.gcd x y = g at *
  by_cases hg : g = 0
  · subst hg
    obtain ⟨u, hu⟩ := gl
    obtain ⟨v, hv⟩ := gr
    rw [GF.mul_zero] at hu hv
    subst hu; subst hv
    simp
  · rw [if_neg (by omega), Mod_lo x g hg g64 x64 _ (by omega), Mod_lo y g hg g64 y64 _ (by omega)]
    simp only [Option.bind_some, Option.isNone_none, if_true]
    rw [(GF.md_eq_zero hg).2 gl, (GF.md_eq_zero hg).2 gr]
    have last : amphoralaw06_PolyDivides.j1 (K + 1) (a : Int) (b : Int) = some true := by
      simp only [amphoralaw06_PolyDivides.j1]
      obtain ⟨t, e, h⟩ := Irreducible_f a a64 K (by omega)
      rw [e]
      simp only [Option.bind_some]
      cases t with
      | false => rfl
      | true =>
        have hi := h.1 rfl
        have a0 := hi.ne
        rw [if_pos rfl, Mod_lo b a a0 a64 b64 _ (by omega)]
        simp only [Option.bind_some, Option.isNone_none, if_true]
        rw [Gcd_two a b a64 b64 _ (by omega)]
        simp only [Option.bind_some]
        by_cases hd : GF.Dv a b
        · have e1 : GF.gcd a b = a := GF.gcd_unique (GF.Dv_refl a) hd (fun d h1 _ => h1)
          have a1 : a ≠ 1 := by rintro rfl; have := hi.1; rw [GF.L_one] at this; omega
          rw [e1, (GF.md_eq_zero a0).2 hd]
          have n1 : ((a : Int) == 1) = false := by rw [beq_eq_false_iff_ne]; omega
          rw [n1]; rfl
        · have e1 : GF.gcd a b = 1 := by
            rcases hi.gcd_or b with h | h
            · exact h
            · exact absurd h hd
          have m0 : GF.md b a ≠ 0 := fun h => hd ((GF.md_eq_zero a0).1 h)
          rw [e1]
          have n1 : (((GF.md b a : Nat) : Int) != 0) = true := by rw [bne_iff_ne]; omega
          rw [n1]; rfl
    rw [if_pos (by rfl)]
    simp only [amphoralaw06_PolyDivides.j0]
    have nb : ((((0 : Nat) : Int)) != 0) = false := rfl
    rw [nb]
    simp only [Bool.false_eq_true, if_false]
    by_cases c0 : c = 0
    · subst c0
      rw [if_pos (show ((0 : Nat) : Int) = 0 from rfl)]
      exact last
    · rw [if_neg (by omega), Mod_lo g c c0 c64 g64 _ (by omega)]
      simp only [Option.bind_some, Option.isNone_none, if_true]
      rw [(GF.md_eq_zero c0).2 gc, if_pos (show ((0 : Nat) : Int) = 0 from rfl)]
      exact last

end Go.Proofs.Ytabgknnnhhgliaa.Pure
