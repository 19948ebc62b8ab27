/- What the reference's printed functions of layer 6 compute, by the plain theory. Conditions: as each theorem says. -/
import Derived.Test.YtoofafgnlgaajaaPB
import Derived.Test.YtoofafgnlgaajaaPRabinx4
namespace Go.Proofs.Ytoofafgnlgaajaa.PB
open Go.RowKit Go.Proofs.Ytoofafgnlgaajaa.PRabin Go.Proofs.YtoofafgnlgaajaaW.PrintWords Go.Proofs.YtoofafgnlgaajaaW.PrintLast Go.Proofs.YtoofafgnlgaajaaW.PrintMore
set_option linter.unusedVariables false
set_option linter.unusedSimpArgs false

/-! ## The reference's functions -/
theorem or_i (a b : Nat) (ha : a < 2 ^ 64) (hb : b < 2 ^ 64) : Go.bits .or .u64 (a : Int) (b : Int) = ((a ||| b : Nat) : Int) := bits_or_u64_nat a b (by simpa using ha) (by simpa using hb)
theorem dbl_i (a : Nat) : IntKind.u64.wrap ((a : Int) * 2) = ((2 * a % 2 ^ 64 : Nat) : Int) := by
  rw [IntKind.wrap_u64]; omega
theorem half_i (a : Nat) : (a : Int) / 9223372036854775808 = ((a / 2 ^ 63 : Nat) : Int) := by omega
theorem or_bit (a b : Nat) (hb : b < 2) : 2 * a ||| b = 2 * a + b := by
  have := Nat.two_pow_add_eq_or_of_lt (i := 1) (b := b) (by omega) a
  simpa using this.symm
theorem rDeg_l (n : Nat) : ∀ (k a : Nat) (d : Int), GF.L a ≤ n → n < k → -1 ≤ d → d ≤ 1000 - n → amphoraref06_Deg.l0 k (a : Int) d = some (d + GF.L a) := by
  induction n with
  | zero =>
    intro k a d hl hk _ _
    obtain ⟨k, rfl⟩ : ∃ m, k = m + 1 := ⟨k - 1, by omega⟩
    have e : a = 0 := GF.L_eq_zero.1 (by omega)
    subst e
    simp only [amphoraref06_Deg.l0]
    rw [if_pos (show ((0 : Nat) : Int) = 0 from rfl), GF.L_zero]; simp
  | succ n ih =>
    intro k a d hl hk h1 h2
    obtain ⟨k, rfl⟩ : ∃ m, k = m + 1 := ⟨k - 1, by omega⟩
    by_cases e : a = 0
    · subst e
      simp only [amphoraref06_Deg.l0]
      rw [if_pos (show ((0 : Nat) : Int) = 0 from rfl), GF.L_zero]; simp
    · have pe := GF.L_pos e
      have half : GF.L a = GF.L (a / 2) + 1 := by
        have hi := GF.L_bd a
        have lo := GF.L_low e
        by_cases h1 : GF.L a = 1
        · have := GF.eq_one_of_L h1; subst this; rfl
        · have e2 : GF.L a = GF.L a - 2 + 1 + 1 := by omega
          have e1 : GF.L a - 1 = GF.L a - 2 + 1 := by omega
          have : GF.L (a / 2) = GF.L a - 2 + 1 := by
            apply GF.L_unique
            · rw [e1, Nat.pow_succ] at lo; omega
            · rw [e2, Nat.pow_succ] at hi; omega
          omega
      simp only [amphoraref06_Deg.l0]
      rw [if_neg (by omega), w64 (x := d + 1) (by omega) (by omega)]
      have ed : (a : Int) / 2 = ((a / 2 : Nat) : Int) := by omega
      rw [ed, ih k (a / 2) (d + 1) (by omega) (by omega) (by omega) (by omega), half]
      congr 1; omega
theorem rDeg_f (a : Nat) (h : a < 2 ^ 64) (k : Nat) (hk : 65 ≤ k) : amphoraref06_Deg.f k (a : Int) = some ((GF.L a : Int) - 1) := by
  unfold amphoraref06_Deg.f
  rw [rDeg_l 64 k a (-1) (GF.L_le.2 h) (by omega) (by omega) (by omega)]
  exact congrArg some (by omega)
/-- One number of 128 bits, doubled, a bit behind it. -/
theorem dbl_hi (N : Nat) (h : 2 * N < 2 ^ 128) : Go.bits .or .u64 (IntKind.u64.wrap (((N / 2 ^ 64 : Nat) : Int) * 2)) (((N % 2 ^ 64 : Nat) : Int) / 9223372036854775808) = ((2 * N / 2 ^ 64 : Nat) : Int) := by
  have e : (2 : Nat) ^ 128 = 2 ^ 64 * 2 ^ 64 := by decide
  have p : (2 : Nat) ^ 64 = 18446744073709551616 := by decide
  have q : (2 : Nat) ^ 63 = 9223372036854775808 := by decide
  rw [dbl_i, half_i]
  have h1 : N % 2 ^ 64 / 2 ^ 63 < 2 := by omega
  have h2 : 2 * (N / 2 ^ 64) % 2 ^ 64 = 2 * (N / 2 ^ 64) := by
    apply Nat.mod_eq_of_lt
    rw [e] at h
    rw [p] at h ⊢
    omega
  rw [h2, or_i _ _ (by rw [← h2]; exact Nat.mod_lt _ (by decide)) (by omega), or_bit _ _ h1]
  congr 1
  rw [p, q]; omega
theorem dbl_lo (N : Nat) : IntKind.u64.wrap (((N % 2 ^ 64 : Nat) : Int) * 2) = ((2 * N % 2 ^ 64 : Nat) : Int) := by
  rw [dbl_i]
  have p : (2 : Nat) ^ 64 = 18446744073709551616 := by decide
  rw [p]; omega
theorem rMul_l (a b : Nat) (ha : a < 2 ^ 64) (hb : b < 2 ^ 64) (j : Nat) : ∀ (k i : Nat), j < k → i + j = 64 →
    amphoraref06_Mul.l0 k (a : Int) ((b * 2 ^ i % 2 ^ 64 : Nat) : Int) ((GF.mul a (b / 2 ^ j) / 2 ^ 64 : Nat) : Int) ((GF.mul a (b / 2 ^ j) % 2 ^ 64 : Nat) : Int) (i : Int) =
      some (((GF.mul a b / 2 ^ 64 : Nat) : Int), ((GF.mul a b % 2 ^ 64 : Nat) : Int)) := by
  induction j with
  | zero =>
    intro k i hk hi
    obtain ⟨k, rfl⟩ : ∃ m, k = m + 1 := ⟨k - 1, by omega⟩
    simp only [amphoraref06_Mul.l0]
    rw [if_neg (by omega), Nat.pow_zero, Nat.div_one]
  | succ j ih =>
    intro k i hk hi
    obtain ⟨k, rfl⟩ : ∃ m, k = m + 1 := ⟨k - 1, by omega⟩
    have nx := ih k (i + 1) (by omega) (by omega)
    have hlt : (i : Int) < 64 := by omega
    have ei : wrap64 ((i : Int) + 1) = ((i + 1 : Nat) : Int) := by rw [w64 (by omega) (by omega)]; omega
    have half : b / 2 ^ j / 2 = b / 2 ^ (j + 1) := by rw [Nat.div_div_eq_div_mul, Nat.pow_succ]
    have N128 : 2 * GF.mul a (b / 2 ^ (j + 1)) < 2 ^ 128 := by
      have : GF.mul a (b / 2 ^ (j + 1)) < 2 ^ 127 := by
        apply GF.L_le.1
        have := GF.L_mul_le a (b / 2 ^ (j + 1))
        have := GF.L_le.2 ha
        have : GF.L (b / 2 ^ (j + 1)) ≤ 63 := by
          apply GF.L_le.2
          have : b / 2 ^ (j + 1) ≤ b / 2 ^ 1 := Nat.div_le_div_left (Nat.pow_le_pow_right (by omega) (by omega)) (by decide)
          have p : (2 : Nat) ^ 64 = 18446744073709551616 := by decide
          have q : (2 : Nat) ^ 63 = 9223372036854775808 := by decide
          omega
        omega
      have p : (2 : Nat) ^ 128 = 2 * 2 ^ 127 := by decide
      omega
    rw [GF.mul_eq a (b / 2 ^ j), half, div_xor, mod_xor] at nx
    have top : b * 2 ^ i % 2 ^ 64 / 2 ^ 63 = b / 2 ^ j % 2 := by
      have e : (2 : Nat) ^ 64 = 2 ^ 63 * 2 := by decide
      rw [e, Nat.mod_mul_right_div_self]
      have e2 : (2 : Nat) ^ 63 = 2 ^ i * 2 ^ j := by rw [← Nat.pow_add]; congr 1; omega
      rw [e2, ← Nat.div_div_eq_div_mul, Nat.mul_div_cancel _ (Nat.two_pow_pos i)]
    have nb : IntKind.u64.wrap (((b * 2 ^ i % 2 ^ 64 : Nat) : Int) * 2) = ((b * 2 ^ (i + 1) % 2 ^ 64 : Nat) : Int) := by
      rw [dbl_lo, show 2 * (b * 2 ^ i) = b * 2 ^ (i + 1) from by rw [Nat.pow_succ, ← Nat.mul_assoc b, Nat.mul_comm 2]]
    simp only [amphoraref06_Mul.l0]
    rw [if_pos hlt, half_i, top, nb, dbl_hi _ N128, dbl_lo, ei]
    by_cases hc : b / 2 ^ j % 2 = 1
    · rw [if_pos hc] at nx
      rw [if_pos (by omega), xor_i _ _ (Nat.mod_lt _ (Nat.two_pow_pos 64)) ha]
      rw [Nat.div_eq_of_lt ha, Nat.zero_xor, Nat.mod_eq_of_lt ha, Nat.xor_comm a] at nx
      exact nx
    · rw [if_neg hc] at nx
      rw [if_neg (by omega)]
      rw [Nat.zero_div, Nat.zero_mod, Nat.zero_xor, Nat.zero_xor] at nx
      exact nx
theorem rMul_f (a b : Nat) (ha : a < 2 ^ 64) (hb : b < 2 ^ 64) (k : Nat) (hk : 65 ≤ k) :
    amphoraref06_Mul.f k (a : Int) (b : Int) = some (((GF.mul a b / 2 ^ 64 : Nat) : Int), ((GF.mul a b % 2 ^ 64 : Nat) : Int)) := by
  have h := rMul_l a b ha hb 64 k 0 (by omega) (by omega)
  rw [Nat.div_eq_of_lt hb, GF.mul_zero, Nat.pow_zero, Nat.mul_one, Nat.mod_eq_of_lt hb] at h
  exact h
/-- One bit more taken into a remainder. -/
theorem md_take (q b m : Nat) (hm : 1 < GF.L m) (hb : b < 2) : GF.md (2 * q + b) m = (if GF.md q m / 2 ^ (GF.L m - 2) % 2 = 1 then (2 * GF.md q m + b) ^^^ m else 2 * GF.md q m + b) := by
  have m0 : m ≠ 0 := by rintro rfl; rw [GF.L_zero] at hm; omega
  have sp : ∀ x, 2 * x + b = b ^^^ 2 * x := by
    intro x
    have := GF.split2 (2 * x + b)
    have e1 : (2 * x + b) % 2 = b := by omega
    have e2 : (2 * x + b) / 2 = x := by omega
    rwa [e1, e2] at this
  have two : ∀ x, 2 * x = GF.mul 2 x := by
    intro x; rw [show (2 : Nat) = 2 * 1 from rfl, GF.two_mul_mul, GF.one_mul]
  have cg : GF.Cg m (2 * q + b) (2 * GF.md q m + b) := by
    rw [sp q, sp (GF.md q m), two q, two (GF.md q m)]
    exact GF.Cg_xor (GF.Cg_refl m b) (GF.Cg_mul (GF.Cg_refl m 2) (GF.Cg_symm (GF.Cg_md m0 q)))
  rw [GF.md_congr m0 cg]
  have r := GF.md_L m0 q
  generalize GF.md q m = x at *
  have xb : x < 2 ^ (GF.L m - 1) := GF.L_le.1 (by omega)
  have el : GF.L m - 1 = GF.L m - 2 + 1 := by omega
  have ml := GF.L_low m0
  have mh := GF.L_bd m
  rw [el] at xb ml
  have el2 : GF.L m = GF.L m - 2 + 1 + 1 := by omega
  rw [el2] at mh
  by_cases c : x < 2 ^ (GF.L m - 2)
  · have z : x / 2 ^ (GF.L m - 2) = 0 := Nat.div_eq_of_lt c
    rw [z, if_neg (by decide)]
    apply GF.md_small
    have : GF.L (2 * x + b) ≤ GF.L m - 2 + 1 := by
      apply GF.L_le.2; rw [Nat.pow_succ]; omega
    omega
  · have z : x / 2 ^ (GF.L m - 2) = 1 := by
      apply Nat.div_eq_of_lt_le
      · omega
      · rw [Nat.pow_succ] at xb; omega
    rw [z, if_pos rfl]
    refine GF.md_unique m0 ?_ ?_
    · have := GF.xor_top (a := 2 * x + b) (b := m) (k := GF.L m - 2 + 1) (by rw [Nat.pow_succ]; omega) (by rw [Nat.pow_succ, Nat.pow_succ]; rw [Nat.pow_succ] at xb; omega) ml mh
      have := GF.L_le.2 this
      omega
    · rw [← Nat.xor_assoc, Nat.xor_self, Nat.zero_xor]; exact GF.Dv_refl m
theorem rMod_l (N0 m : Nat) (hm : m ≠ 0) (hm64 : m < 2 ^ 64) (hN : N0 < 2 ^ 128) (j : Nat) : ∀ (k i : Nat), j < k → i + j = 128 →
    amphoraref06_Mod.l0 k ((N0 * 2 ^ i % 2 ^ 128 / 2 ^ 64 : Nat) : Int) ((N0 * 2 ^ i % 2 ^ 128 % 2 ^ 64 : Nat) : Int) (m : Int) ((GF.L m - 1 : Nat) : Int) ((GF.md (N0 / 2 ^ j) m : Nat) : Int) (i : Int) = some ((GF.md N0 m : Nat) : Int) := by
  have lm := GF.L_le.2 hm64
  have pm := GF.L_pos hm
  induction j with
  | zero =>
    intro k i hk hi
    obtain ⟨k, rfl⟩ : ∃ m, k = m + 1 := ⟨k - 1, by omega⟩
    simp only [amphoraref06_Mod.l0]
    rw [if_neg (by omega), Nat.pow_zero, Nat.div_one]
  | succ j ih =>
    intro k i hk hi
    obtain ⟨k, rfl⟩ : ∃ m, k = m + 1 := ⟨k - 1, by omega⟩
    have nx := ih k (i + 1) (by omega) (by omega)
    have hlt : (i : Int) < 128 := by omega
    have ei : wrap64 ((i : Int) + 1) = ((i + 1 : Nat) : Int) := by rw [w64 (by omega) (by omega)]; omega
    obtain ⟨N, hNn⟩ : ∃ N, N = N0 * 2 ^ i % 2 ^ 128 := ⟨_, rfl⟩
    have p128 : (2 : Nat) ^ 128 = 2 ^ 127 * 2 := by decide
    have p64 : (2 : Nat) ^ 64 = 18446744073709551616 := by decide
    have p63 : (2 : Nat) ^ 63 = 9223372036854775808 := by decide
    have N128 : N < 2 ^ 128 := by rw [hNn]; exact Nat.mod_lt _ (Nat.two_pow_pos 128)
    have nN : N0 * 2 ^ (i + 1) % 2 ^ 128 = 2 * N % 2 ^ 128 := by
      rw [hNn, Nat.mul_mod_mod, show 2 * (N0 * 2 ^ i) = N0 * 2 ^ (i + 1) from by rw [Nat.pow_succ, ← Nat.mul_assoc N0, Nat.mul_comm 2]]
    rw [nN] at nx
    rw [← hNn]
    -- the words, doubled
    have hiw : Go.bits .or .u64 (IntKind.u64.wrap (((N / 2 ^ 64 : Nat) : Int) * 2)) (((N % 2 ^ 64 : Nat) : Int) / 9223372036854775808) = ((2 * N % 2 ^ 128 / 2 ^ 64 : Nat) : Int) := by
      rw [dbl_i, half_i]
      have h1 : N % 2 ^ 64 / 2 ^ 63 < 2 := by rw [p64, p63]; omega
      have e63 : 2 * (N / 2 ^ 64) % 2 ^ 64 = 2 * (N / 2 ^ 64 % 2 ^ 63) := by rw [p64, p63]; omega
      rw [or_i _ _ (Nat.mod_lt _ (Nat.two_pow_pos 64)) (by omega), e63, or_bit _ _ h1]
      congr 1
      have q : (2 : Nat) ^ 128 = 2 ^ 64 * 2 ^ 64 := by decide
      rw [q, p64, p63]; rw [q, p64] at N128
      omega
    have low : IntKind.u64.wrap (((N % 2 ^ 64 : Nat) : Int) * 2) = ((2 * N % 2 ^ 128 % 2 ^ 64 : Nat) : Int) := by
      rw [dbl_lo]
      congr 1
      have q : (2 : Nat) ^ 128 = 2 ^ 64 * 2 ^ 64 := by decide
      rw [q, Nat.mod_mul_right_mod]
    have top : N / 2 ^ 64 / 2 ^ 63 = N0 / 2 ^ j % 2 := by
      rw [Nat.div_div_eq_div_mul, ← Nat.pow_add, hNn, p128, Nat.mod_mul_right_div_self]
      have e2 : (2 : Nat) ^ 127 = 2 ^ i * 2 ^ j := by rw [← Nat.pow_add]; congr 1; omega
      rw [e2, ← Nat.div_div_eq_div_mul, Nat.mul_div_cancel _ (Nat.two_pow_pos i)]
    have half : N0 / 2 ^ j = 2 * (N0 / 2 ^ (j + 1)) + N0 / 2 ^ j % 2 := by
      have : N0 / 2 ^ (j + 1) = N0 / 2 ^ j / 2 := by rw [Nat.div_div_eq_div_mul, Nat.pow_succ]
      omega
    have r64 := md_lt (N0 / 2 ^ (j + 1)) m hm hm64
    have rL := GF.md_L hm (N0 / 2 ^ (j + 1))
    simp only [amphoraref06_Mod.l0]
    rw [if_pos hlt, hiw, low, ei]
    by_cases d0 : GF.L m = 1
    · have m1 := GF.eq_one_of_L d0
      have z : ∀ x, GF.md x m = 0 := fun x => GF.L_eq_zero.1 (by have := GF.md_L hm x; omega)
      rw [z] at nx ⊢
      rw [z] at nx ⊢
      rw [if_pos (by omega)]
      exact nx
    · rw [if_neg (by omega)]
      have ed : IntKind.u64.wrap (((GF.L m - 1 : Nat) : Int) - 1) = ((GF.L m - 2 : Nat) : Int) := by rw [IntKind.wrap_u64]; omega
      rw [ed, if_pos (by omega), shr_i _ _ (by omega), and1_i _ (Nat.lt_of_le_of_lt (Nat.div_le_self _ _) r64)]
      have r63 : GF.md (N0 / 2 ^ (j + 1)) m < 2 ^ 63 := GF.L_le.1 (by omega)
      have dr : IntKind.u64.wrap (((GF.md (N0 / 2 ^ (j + 1)) m : Nat) : Int) * 2) = ((2 * GF.md (N0 / 2 ^ (j + 1)) m : Nat) : Int) := by
        rw [dbl_i, Nat.mod_eq_of_lt (by rw [p64]; rw [p63] at r63; omega)]
      have bit2 : N0 / 2 ^ j % 2 < 2 := Nat.mod_lt _ (by omega)
      have tk := md_take (N0 / 2 ^ (j + 1)) (N0 / 2 ^ j % 2) m (by omega) bit2
      rw [← half] at tk
      rw [half_i, top, dr, or_i _ _ (by rw [p64]; rw [p63] at r63; omega) (by omega), or_bit _ _ bit2]
      by_cases c : GF.md (N0 / 2 ^ (j + 1)) m / 2 ^ (GF.L m - 2) % 2 = 1
      · rw [if_pos c] at tk
        rw [if_pos (by omega), xor_i _ _ (by rw [p64]; rw [p63] at r63; omega) hm64, ← tk]
        exact nx
      · rw [if_neg c] at tk
        rw [if_neg (by omega), ← tk]
        exact nx
theorem rMod_f (N m : Nat) (hm : m ≠ 0) (hm64 : m < 2 ^ 64) (hN : N < 2 ^ 128) (k : Nat) (hk : 200 ≤ k) :
    amphoraref06_Mod.f k ((N / 2 ^ 64 : Nat) : Int) ((N % 2 ^ 64 : Nat) : Int) (m : Int) = some ((GF.md N m : Nat) : Int) := by
  have pm := GF.L_pos hm
  have lm := GF.L_le.2 hm64
  unfold amphoraref06_Mod.f
  rw [rDeg_f m hm64 k (by omega)]
  simp only [Option.bind_some]
  have e : IntKind.u64.wrap ((GF.L m : Int) - 1) = ((GF.L m - 1 : Nat) : Int) := by rw [IntKind.wrap_u64]; omega
  have h := rMod_l N m hm hm64 hN 128 k 0 (by omega) (by omega)
  rw [Nat.pow_zero, Nat.mul_one, Nat.mod_eq_of_lt hN, Nat.div_eq_of_lt hN, show GF.md 0 m = 0 from GF.md_small (by rw [GF.L_zero]; omega)] at h
  rw [e]
  exact h
theorem rMod_lo (a m : Nat) (hm : m ≠ 0) (hm64 : m < 2 ^ 64) (ha : a < 2 ^ 64) (k : Nat) (hk : 200 ≤ k) : amphoraref06_Mod.f k 0 (a : Int) (m : Int) = some ((GF.md a m : Nat) : Int) := by
  have h := rMod_f a m hm hm64 (Nat.lt_of_lt_of_le ha (Nat.pow_le_pow_right (by omega) (by omega))) k hk
  rw [Nat.div_eq_of_lt ha, Nat.mod_eq_of_lt ha] at h
  exact h
theorem rGcd_l (n : Nat) : ∀ (k a b : Nat), GF.L b ≤ n → n + 300 < k → a < 2 ^ 64 → b < 2 ^ 64 → amphoraref06_Gcd.l0 k (a : Int) (b : Int) = some ((GF.gcd a b : Nat) : Int) := by
  induction n with
  | zero =>
    intro k a b hb hk ha hb64
    obtain ⟨k, rfl⟩ : ∃ m, k = m + 1 := ⟨k - 1, by omega⟩
    have e : b = 0 := GF.L_eq_zero.1 (by omega)
    subst e
    simp only [amphoraref06_Gcd.l0]
    rw [if_pos (show ((0 : Nat) : Int) = 0 from rfl), GF.gcd_zero]
  | succ n ih =>
    intro k a b hb hk ha hb64
    obtain ⟨k, rfl⟩ : ∃ m, k = m + 1 := ⟨k - 1, by omega⟩
    simp only [amphoraref06_Gcd.l0]
    by_cases e : b = 0
    · subst e; rw [if_pos (show ((0 : Nat) : Int) = 0 from rfl), GF.gcd_zero]
    · have lt := GF.md_L e a
      rw [if_neg (by omega), rMod_lo a b e hb64 ha k (by omega)]
      simp only [Option.bind_some]
      rw [ih k b (GF.md a b) (by omega) (by omega) hb64 (md_lt a b e hb64), GF.gcd_step e]
theorem rGcd_f (a b : Nat) (ha : a < 2 ^ 64) (hb : b < 2 ^ 64) (k : Nat) (hk : 400 ≤ k) : amphoraref06_Gcd.f k (a : Int) (b : Int) = some ((GF.gcd a b : Nat) : Int) :=
  rGcd_l 64 k a b (GF.L_le.2 hb) (by omega) ha hb
/-- The reference's test, its rounds' end. -/
theorem rIrr_l (p : Nat) (hp : p ≠ 0) (hp64 : p < 2 ^ 64) (n : Nat) (hn : n ≤ 64) (j : Nat) : ∀ (k i : Nat), j + 500 < k → 1 ≤ i → i + j = 65 →
    ∃ b : Bool, amphoraref06_Irreducible.l0 k (p : Int) (n : Int) ((GF.md 2 p : Nat) : Int) ((GF.md (GF.pw 2 (i - 1)) p : Nat) : Int) (i : Int) = some b ∧ (b = true ↔ ∀ u, i ≤ u → 2 * u ≤ n → GF.gcd p (GF.pw 2 u ^^^ 2) = 1) := by
  induction j with
  | zero =>
    intro k i hk h1 hi
    obtain ⟨k, rfl⟩ : ∃ m, k = m + 1 := ⟨k - 1, by omega⟩
    refine ⟨true, ?_, ?_⟩
    · simp only [amphoraref06_Irreducible.l0]
      rw [w64 (x := 2 * (i : Int)) (by omega) (by omega), if_neg (by omega)]
    · exact ⟨fun _ u h h' => by omega, fun _ => rfl⟩
  | succ j ih =>
    intro k i hk h1 hi
    obtain ⟨k, rfl⟩ : ∃ m, k = m + 1 := ⟨k - 1, by omega⟩
    by_cases hc : 2 * i ≤ n
    · obtain ⟨b, e, hb⟩ := ih k (i + 1) (by omega) (by omega) (by omega)
      have y64 := md_lt (GF.pw 2 (i - 1)) p hp hp64
      have sq : GF.md (GF.mul (GF.md (GF.pw 2 (i - 1)) p) (GF.md (GF.pw 2 (i - 1)) p)) p = GF.md (GF.pw 2 i) p := by
        have e : GF.pw 2 i = GF.mul (GF.pw 2 (i - 1)) (GF.pw 2 (i - 1)) := by
          have : i = i - 1 + 1 := by omega
          conv => lhs; rw [this]
          rfl
        rw [e]
        exact GF.md_congr hp (GF.Cg_mul (GF.Cg_md hp _) (GF.Cg_md hp _))
      have cg : GF.gcd p (GF.md (GF.pw 2 i) p ^^^ GF.md 2 p) = GF.gcd p (GF.pw 2 i ^^^ 2) := GF.gcd_congr (GF.Cg_xor (GF.Cg_md hp _) (GF.Cg_md hp 2))
      have run : amphoraref06_Irreducible.l0 (k + 1) (p : Int) (n : Int) ((GF.md 2 p : Nat) : Int) ((GF.md (GF.pw 2 (i - 1)) p : Nat) : Int) (i : Int) = (if ((GF.gcd p (GF.pw 2 i ^^^ 2) : Nat) : Int) = 1 then amphoraref06_Irreducible.l0 k (p : Int) (n : Int) ((GF.md 2 p : Nat) : Int) ((GF.md (GF.pw 2 (i + 1 - 1)) p : Nat) : Int) ((i + 1 : Nat) : Int) else some false) := by
        simp only [amphoraref06_Irreducible.l0]
        rw [w64 (x := 2 * (i : Int)) (by omega) (by omega), if_pos (by omega), rMul_f _ _ y64 y64 k (by omega)]
        simp only [Option.bind_some]
        rw [rMod_f _ p hp hp64 (mul_lt _ _ 64 y64 y64 (by omega)) k (by omega), sq]
        simp only [Option.bind_some]
        rw [xor_i _ _ (md_lt _ p hp hp64) (md_lt _ p hp hp64), rGcd_f p _ hp64 (GF.xor_lt (md_lt _ p hp hp64) (md_lt _ p hp hp64)) k (by omega), cg]
        simp only [Option.bind_some]
        rw [w64 (x := (i : Int) + 1) (by omega) (by omega)]
        rfl
      rw [run]
      by_cases hg : GF.gcd p (GF.pw 2 i ^^^ 2) = 1
      · refine ⟨b, by rw [if_pos (by omega), e], ?_⟩
        rw [hb]
        constructor
        · intro h u h1 h2
          by_cases c : u = i
          · subst c; exact hg
          · exact h u (by omega) h2
        · intro h u h1 h2; exact h u (by omega) h2
      · refine ⟨false, by rw [if_neg (by omega)], ?_⟩
        constructor
        · intro h; cases h
        · intro h; exact absurd (h i (by omega) hc) hg
    · refine ⟨true, ?_, ?_⟩
      · simp only [amphoraref06_Irreducible.l0]
        rw [w64 (x := 2 * (i : Int)) (by omega) (by omega), if_neg (by omega)]
      · exact ⟨fun _ u h h' => by omega, fun _ => rfl⟩
theorem rIrreducible_f (p : Nat) (hp64 : p < 2 ^ 64) (k : Nat) (hk : 1000 ≤ k) : ∃ b : Bool, amphoraref06_Irreducible.f k (p : Int) = some b ∧ (b = true ↔ GF.Irr p) := by
  have l := GF.L_le.2 hp64
  unfold amphoraref06_Irreducible.f
  rw [rDeg_f p hp64 k (by omega)]
  simp only [Option.bind_some]
  by_cases h : GF.L p ≤ 1
  · refine ⟨false, by rw [if_pos (by omega)], ?_⟩
    constructor
    · intro h; cases h
    · intro h'; have := h'.1; omega
  · have hp : p ≠ 0 := by rintro rfl; rw [GF.L_zero] at h; omega
    have e : (GF.L p : Int) - 1 = ((GF.L p - 1 : Nat) : Int) := by omega
    have m2 := (show amphoraref06_Mod.f k 0 2 (p : Int) = _ from rMod_lo 2 p hp hp64 (by decide) k (by omega))
    rw [if_neg (by omega), e, m2]
    simp only [Option.bind_some]
    obtain ⟨b, eb, hb⟩ := rIrr_l p hp hp64 (GF.L p - 1) (by omega) 64 k 1 (by omega) (by omega) (by omega)
    refine ⟨b, eb, ?_⟩
    rw [hb, GF.ben_or (by omega)]
theorem u64_nat (a : Int) (h : (Lit.int .u64 a).wf = true) : ∃ n : Nat, n < 2 ^ 64 ∧ a = (n : Int) := by
  have hb : 0 ≤ a ∧ a ≤ 18446744073709551615 := by
    simpa [Lit.wf, IntKind.min, IntKind.max, IntKind.signed, IntKind.bits] using h
  refine ⟨a.toNat, ?_, by omega⟩
  have p : (2 : Nat) ^ 64 = 18446744073709551616 := by decide
  rw [p]; omega
theorem L_mono {a b : Nat} (h : a ≤ b) : GF.L a ≤ GF.L b := GF.L_le.2 (Nat.lt_of_le_of_lt h (GF.L_bd b))

end Go.Proofs.Ytoofafgnlgaajaa.PB
