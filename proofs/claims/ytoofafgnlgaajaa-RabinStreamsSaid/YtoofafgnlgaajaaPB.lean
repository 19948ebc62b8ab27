/- What the printed functions of layer 6 compute, by the plain theory. Conditions: as each theorem says. -/
import Derived.Test.YtoofafgnlgaajaaPRabinx2
import Derived.Test.YtoofafgnlgaajaaPRabinx3
import Derived.Test.YtoofafgnlgaajaaGF
import Derived.Laws.Bits64
import Derived.Laws.Bits64b
import Derived.Lib.BitFns
namespace Go.Proofs.Ytoofafgnlgaajaa.PB
open Go.RowKit Go.Proofs.Ytoofafgnlgaajaa.PRabin Go.Proofs.YtoofafgnlgaajaaW.PrintWords Go.Proofs.YtoofafgnlgaajaaW.PrintLast Go.Proofs.YtoofafgnlgaajaaW.PrintMore
set_option linter.unusedVariables false
set_option linter.unusedSimpArgs false

/-! ## The words: numbers below 2^64 -/
theorem xor_i (a b : Nat) (ha : a < 2 ^ 64) (hb : b < 2 ^ 64) : Go.bits .xor .u64 (a : Int) (b : Int) = ((a ^^^ b : Nat) : Int) := bits_xor_u64_nat a b (by simpa using ha) (by simpa using hb)
theorem and1_i (a : Nat) (ha : a < 2 ^ 64) : Go.bits .and .u64 (a : Int) 1 = ((a % 2 : Nat) : Int) := by
  have := bits_and_u64_nat a 1 (by simpa using ha) (by omega)
  rw [Nat.and_one_is_mod] at this
  exact this
theorem shl_i (a s : Nat) (hs : s ≤ 64) : shl .u64 (a : Int) (s : Int) = ((a * 2 ^ s % 2 ^ 64 : Nat) : Int) := by
  unfold shl
  have e : min ((s : Int)).toNat IntKind.u64.bits = s := by
    show min ((s : Int)).toNat 64 = s
    rw [Int.toNat_natCast]; omega
  rw [e, IntKind.wrap_u64, Int.natCast_emod, Int.natCast_mul, Int.natCast_pow]
  rfl
theorem shr_i (a s : Nat) (hs : s ≤ 64) : shr .u64 (a : Int) (s : Int) = ((a / 2 ^ s : Nat) : Int) := by
  unfold shr
  have e : min ((s : Int)).toNat IntKind.u64.bits = s := by
    show min ((s : Int)).toNat 64 = s
    rw [Int.toNat_natCast]; omega
  rw [e, Int.natCast_ediv, Int.natCast_pow]
  rfl
theorem w64 {x : Int} (h0 : -9223372036854775808 ≤ x) (h1 : x ≤ 9223372036854775807) : wrap64 x = x := by
  unfold wrap64; omega
theorem lt64 {a k : Nat} (h : a < 2 ^ k) (hk : k ≤ 64) : a < 2 ^ 64 := Nat.lt_of_lt_of_le h (Nat.pow_le_pow_right (by omega) hk)
theorem div_xor (a b n : Nat) : (a ^^^ b) / 2 ^ n = a / 2 ^ n ^^^ b / 2 ^ n := Nat.xor_div_two_pow
theorem mod_xor (a b n : Nat) : (a ^^^ b) % 2 ^ n = a % 2 ^ n ^^^ b % 2 ^ n := Nat.xor_mod_two_pow
theorem shift_hi (a s : Nat) (hs : s ≤ 64) : a * 2 ^ s / 2 ^ 64 = a / 2 ^ (64 - s) := by
  have e : (2 : Nat) ^ 64 = 2 ^ s * 2 ^ (64 - s) := by rw [← Nat.pow_add]; congr 1; omega
  rw [e, ← Nat.div_div_eq_div_mul, Nat.mul_div_cancel _ (Nat.two_pow_pos s)]
theorem shift_big (a s : Nat) (hs : 64 ≤ s) : a * 2 ^ s / 2 ^ 64 = a * 2 ^ (s - 64) ∧ a * 2 ^ s % 2 ^ 64 = 0 := by
  have e : 2 ^ s = 2 ^ (s - 64) * 2 ^ 64 := by rw [← Nat.pow_add]; congr 1; omega
  rw [e, ← Nat.mul_assoc]
  exact ⟨Nat.mul_div_cancel _ (Nat.two_pow_pos 64), Nat.mul_mod_left _ _⟩
theorem low_bit (b i : Nat) : b % 2 ^ (i + 1) = (b % 2 ^ i) ^^^ (b / 2 ^ i % 2) * 2 ^ i := by
  apply Nat.eq_of_testBit_eq
  intro j
  rw [Nat.testBit_xor, Nat.testBit_mod_two_pow, Nat.testBit_mod_two_pow, Nat.mul_comm, Nat.testBit_two_pow_mul]
  by_cases h : j < i
  · have : ¬ j ≥ i := by omega
    simp [h, this]; omega
  · by_cases h' : j = i
    · subst h'
      simp [Nat.testBit_zero, Nat.testBit_eq_decide_div_mod_eq]
    · have h2 : ¬ j < i + 1 := by omega
      have h3 : j ≥ i := by omega
      have h4 : (b / 2 ^ i % 2).testBit (j - i) = false := by
        apply Nat.testBit_lt_two_pow
        have : 2 ^ 1 ≤ 2 ^ (j - i) := Nat.pow_le_pow_right (by omega) (by omega)
        omega
      simp [h, h2, h3, h4]
theorem bitLen_L (a : Nat) (h : a < 2 ^ 64) : Lib.bitLen a = GF.L a := by
  have key : ∀ f x, x < 2 ^ f → Lib.bitLenAux f x = GF.L x := by
    intro f
    induction f with
    | zero => intro x hx; have : x = 0 := by simpa using hx
              subst this; rfl
    | succ f ih =>
      intro x hx
      unfold Lib.bitLenAux
      by_cases h0 : x = 0
      · rw [if_pos h0, h0]; rfl
      · rw [if_neg h0, ih (x / 2) (by rw [Nat.pow_succ] at hx; omega)]
        have hp := GF.L_pos h0
        have lo := GF.L_low h0
        have hi := GF.L_bd x
        by_cases h1 : x = 1
        · subst h1; rfl
        · have l2 : 2 ≤ GF.L x := by
            apply Classical.byContradiction
            intro c
            have : GF.L x = 1 := by omega
            exact h1 (GF.eq_one_of_L this)
          have e : GF.L x = GF.L x - 2 + 1 + 1 := by omega
          have e1 : GF.L x - 1 = GF.L x - 2 + 1 := by omega
          have : GF.L (x / 2) = (GF.L x - 2) + 1 := by
            apply GF.L_unique
            · rw [e1, Nat.pow_succ] at lo; omega
            · rw [e, Nat.pow_succ] at hi; omega
          omega
  exact key 64 a h
/-- A product with one factor's bits below i. -/
theorem mul_low (a b i : Nat) : GF.mul a (b % 2 ^ (i + 1)) = GF.mul a (b % 2 ^ i) ^^^ (if b / 2 ^ i % 2 = 1 then a * 2 ^ i else 0) := by
  rw [low_bit, GF.mul_xor]
  congr 1
  rcases Nat.mod_two_eq_zero_or_one (b / 2 ^ i) with h | h
  · rw [h]; simp [GF.mul_zero]
  · rw [h, if_pos rfl, Nat.one_mul, GF.mul_pow]
theorem mul_lt (a b i : Nat) (ha : a < 2 ^ 64) (hb : b < 2 ^ i) (hi : i ≤ 64) : GF.mul a b < 2 ^ 128 := by
  apply GF.L_le.1
  have := GF.L_mul_le a b
  have := GF.L_le.2 ha
  have := GF.L_le.2 hb
  omega

/-! ## The program's functions -/
theorem Deg_f (a : Nat) (h : a < 2 ^ 64) : poly_Deg.f (a : Int) = some ((GF.L a : Int) - 1) := by
  have l := GF.L_le.2 h
  unfold poly_Deg.f bits_Len64.f
  rw [if_pos (by omega), if_pos (by have : (2 : Nat) ^ 64 = 18446744073709551616 := by decide
                                    omega), Int.toNat_natCast, bitLen_L a h]
  simp only [Option.bind_some]
  rw [w64 (by omega) (by omega)]

theorem Mul_l (a b : Nat) (ha : a < 2 ^ 64) (hb : b < 2 ^ 64) (j : Nat) : ∀ (k i : Nat), j < k → i + j = 64 →
    poly_Mul.l0 k (a : Int) (b : Int) ((GF.mul a (b % 2 ^ i) / 2 ^ 64 : Nat) : Int) ((GF.mul a (b % 2 ^ i) % 2 ^ 64 : Nat) : Int) (i : Int) =
      some (((GF.mul a b / 2 ^ 64 : Nat) : Int), ((GF.mul a b % 2 ^ 64 : Nat) : Int)) := by
  induction j with
  | zero =>
    intro k i hk hi
    obtain ⟨k, rfl⟩ : ∃ m, k = m + 1 := ⟨k - 1, by omega⟩
    have e : i = 64 := by omega
    subst e
    simp only [poly_Mul.l0]
    rw [if_neg (by omega), Nat.mod_eq_of_lt hb]
  | succ j ih =>
    intro k i hk hi
    obtain ⟨k, rfl⟩ : ∃ m, k = m + 1 := ⟨k - 1, by omega⟩
    have nx := ih k (i + 1) (by omega) (by omega)
    have bb : b % 2 ^ i < 2 ^ i := Nat.mod_lt _ (Nat.two_pow_pos i)
    have p128 := mul_lt a (b % 2 ^ i) i ha bb (by omega)
    have d64 : GF.mul a (b % 2 ^ i) / 2 ^ 64 < 2 ^ 64 := by
      apply Nat.div_lt_of_lt_mul
      rw [← Nat.pow_add]; exact p128
    have m64 : GF.mul a (b % 2 ^ i) % 2 ^ 64 < 2 ^ 64 := Nat.mod_lt _ (Nat.two_pow_pos 64)
    rw [mul_low, div_xor, mod_xor] at nx
    simp only [poly_Mul.l0]
    rw [if_pos (by omega), if_pos (by omega), shr_i b i (by omega), and1_i _ (Nat.lt_of_le_of_lt (Nat.div_le_self _ _) hb), w64 (x := (i : Int) + 1) (by omega) (by omega), w64 (x := 64 - (i : Int)) (by omega) (by omega)]
    have ei : (i : Int) + 1 = ((i + 1 : Nat) : Int) := by omega
    rw [ei]
    by_cases hc : b / 2 ^ i % 2 = 1
    · rw [if_pos hc] at nx
      rw [if_pos (by omega), if_pos (by omega)]
      have e64 : (64 : Int) - (i : Int) = ((64 - i : Nat) : Int) := by omega
      rw [e64, shr_i a (64 - i) (by omega), shl_i a i (by omega), xor_i _ _ d64 (Nat.lt_of_le_of_lt (Nat.div_le_self _ _) ha), xor_i _ _ m64 (Nat.mod_lt _ (Nat.two_pow_pos 64))]
      rw [shift_hi a i (by omega)] at nx
      exact nx
    · rw [if_neg hc] at nx
      rw [if_neg (by omega)]
      rw [Nat.zero_div, Nat.zero_mod, Nat.xor_zero, Nat.xor_zero] at nx
      exact nx
theorem Mul_f (a b : Nat) (ha : a < 2 ^ 64) (hb : b < 2 ^ 64) (k : Nat) (hk : 65 ≤ k) :
    poly_Mul.f k (a : Int) (b : Int) = some (((GF.mul a b / 2 ^ 64 : Nat) : Int), ((GF.mul a b % 2 ^ 64 : Nat) : Int)) := by
  have h := Mul_l a b ha hb 64 k 0 (by omega) (by omega)
  have e : b % 2 ^ 0 = 0 := by simp [Nat.mod_one]
  rw [e, GF.mul_zero] at h
  exact h

theorem mod_l1 (m : Nat) (hm : m ≠ 0) (hm64 : m < 2 ^ 64) (n : Nat) : ∀ (k a : Nat), GF.L a ≤ n → n < k → a < 2 ^ 64 →
    poly_mod.l1 k (a : Int) (m : Int) ((GF.L m : Int) - 1) = some ((GF.md a m : Nat) : Int) := by
  induction n with
  | zero =>
    intro k a hl hk ha
    obtain ⟨k, rfl⟩ : ∃ m, k = m + 1 := ⟨k - 1, by omega⟩
    have pm := GF.L_pos hm
    simp only [poly_mod.l1]
    rw [Deg_f a ha]
    simp only [Option.bind_some]
    rw [if_neg (by omega), GF.md_small (by omega)]
  | succ n ih =>
    intro k a hl hk ha
    obtain ⟨k, rfl⟩ : ∃ m, k = m + 1 := ⟨k - 1, by omega⟩
    have pm := GF.L_pos hm
    have la := GF.L_le.2 ha
    have lm := GF.L_le.2 hm64
    simp only [poly_mod.l1]
    rw [Deg_f a ha]
    simp only [Option.bind_some]
    by_cases hc : GF.L m ≤ GF.L a
    · rw [if_pos (by omega), w64 (by omega) (by omega), if_pos (by omega)]
      have e : (GF.L a : Int) - 1 - ((GF.L m : Int) - 1) = ((GF.L a - GF.L m : Nat) : Int) := by omega
      have st := GF.step_lt hm hc
      have lt : m * 2 ^ (GF.L a - GF.L m) < 2 ^ 64 := by
        have b := GF.L_bd m
        have : m * 2 ^ (GF.L a - GF.L m) < 2 ^ GF.L m * 2 ^ (GF.L a - GF.L m) := Nat.mul_lt_mul_of_pos_right b (Nat.two_pow_pos _)
        rw [← Nat.pow_add] at this
        exact lt64 this (by omega)
      rw [e, shl_i m _ (by omega), Nat.mod_eq_of_lt lt, xor_i a _ ha lt]
      rw [GF.md_step hm hc]
      rw [GF.mul_pow] at st ⊢
      exact ih k _ (by omega) (by omega) (GF.xor_lt ha lt)
    · rw [if_neg (by omega), GF.md_small (by omega)]
theorem mod_l0 (m : Nat) (hm : m ≠ 0) (hm64 : m < 2 ^ 64) (j : Nat) : ∀ (k N : Nat), j + 66 < k → j ≤ 64 → N < 2 ^ (64 + j) →
    poly_mod.l0 k ((N / 2 ^ 64 : Nat) : Int) ((N % 2 ^ 64 : Nat) : Int) (m : Int) ((GF.L m : Int) - 1) ((j : Int) - 1) = some ((GF.md N m : Nat) : Int) := by
  induction j with
  | zero =>
    intro k N hk _ hN
    obtain ⟨k, rfl⟩ : ∃ m, k = m + 1 := ⟨k - 1, by omega⟩
    simp only [poly_mod.l0]
    rw [if_neg (by omega), Nat.mod_eq_of_lt (by simpa using hN)]
    exact mod_l1 m hm hm64 64 k N (GF.L_le.2 (by simpa using hN)) (by omega) (by simpa using hN)
  | succ j ih =>
    intro k N hk hj hN
    obtain ⟨k, rfl⟩ : ∃ m, k = m + 1 := ⟨k - 1, by omega⟩
    have pm := GF.L_pos hm
    have lm := GF.L_le.2 hm64
    have N128 : N < 2 ^ 128 := Nat.lt_of_lt_of_le hN (Nat.pow_le_pow_right (by omega) (by omega))
    have hi64 : N / 2 ^ 64 < 2 ^ 64 := by
      apply Nat.div_lt_of_lt_mul
      rw [← Nat.pow_add]; exact N128
    have lo64 : N % 2 ^ 64 < 2 ^ 64 := Nat.mod_lt _ (Nat.two_pow_pos 64)
    have ej : ((j + 1 : Nat) : Int) - 1 = (j : Int) := by omega
    have bit : N / 2 ^ 64 / 2 ^ j = N / 2 ^ (64 + j) := by rw [Nat.div_div_eq_div_mul, ← Nat.pow_add]
    have e64j : 64 + (j + 1) = 64 + j + 1 := by omega
    rw [e64j] at hN
    simp only [poly_mod.l0]
    rw [ej, if_pos (by omega), if_pos (by omega), shr_i _ j (by omega), and1_i _ (Nat.lt_of_le_of_lt (Nat.div_le_self _ _) hi64), bit, w64 (x := (j : Int) - 1) (by omega) (by omega)]
    by_cases hc : N < 2 ^ (64 + j)
    · have z : N / 2 ^ (64 + j) = 0 := Nat.div_eq_of_lt hc
      rw [z, if_pos (by simp)]
      exact ih k N (by omega) (by omega) hc
    · have hc : 2 ^ (64 + j) ≤ N := by omega
      have one : N / 2 ^ (64 + j) = 1 := by
        apply Nat.div_eq_of_lt_le
        · omega
        · rw [Nat.pow_succ] at hN; omega
      rw [one, if_neg (by decide)]
      -- the multiple
      obtain ⟨s, hs⟩ : ∃ s : Nat, s = 65 + j - GF.L m := ⟨_, rfl⟩
      have es : (64 : Int) + (j : Int) - ((GF.L m : Int) - 1) = (s : Int) := by omega
      rw [w64 (x := 64 + (j : Int)) (by omega) (by omega), es, w64 (x := (s : Int)) (by omega) (by omega), w64 (x := (s : Int) - 64) (by omega) (by omega), w64 (x := 64 - (s : Int)) (by omega) (by omega)]
      have tl : 2 ^ (64 + j) ≤ m * 2 ^ s := by
        have : 2 ^ (GF.L m - 1) * 2 ^ s ≤ m * 2 ^ s := Nat.mul_le_mul_right _ (GF.L_low hm)
        rw [← Nat.pow_add] at this
        have e : GF.L m - 1 + s = 64 + j := by omega
        rwa [e] at this
      have tu : m * 2 ^ s < 2 ^ (64 + j + 1) := by
        have : m * 2 ^ s < 2 ^ GF.L m * 2 ^ s := Nat.mul_lt_mul_of_pos_right (GF.L_bd m) (Nat.two_pow_pos _)
        rw [← Nat.pow_add] at this
        have e : GF.L m + s = 64 + j + 1 := by omega
        rwa [e] at this
      have lt := GF.xor_top hc hN tl tu
      have t128 : m * 2 ^ s < 2 ^ 128 := Nat.lt_of_lt_of_le tu (Nat.pow_le_pow_right (by omega) (by omega))
      have thi : m * 2 ^ s / 2 ^ 64 < 2 ^ 64 := by
        apply Nat.div_lt_of_lt_mul
        rw [← Nat.pow_add]; exact t128
      have nx := ih k (N ^^^ m * 2 ^ s) (by omega) (by omega) lt
      have cg : GF.md (N ^^^ m * 2 ^ s) m = GF.md N m := by
        apply GF.md_congr hm
        unfold GF.Cg
        rw [Nat.xor_comm N, GF.xor_cancel, ← GF.mul_pow]
        exact ⟨2 ^ s, GF.mul_comm _ _⟩
      rw [cg, div_xor, mod_xor] at nx
      by_cases hb : 64 ≤ s
      · obtain ⟨g1, g2⟩ := shift_big m s hb
        rw [g2, Nat.xor_zero] at nx
        have e : (s : Int) - 64 = ((s - 64 : Nat) : Int) := by omega
        rw [if_pos (by omega), if_pos (by omega), e, shl_i m (s - 64) (by omega)]
        have lt' : m * 2 ^ (s - 64) < 2 ^ 64 := by rw [← g1]; exact thi
        rw [Nat.mod_eq_of_lt lt', xor_i _ _ hi64 lt', ← g1]
        exact nx
      · have e : (64 : Int) - (s : Int) = ((64 - s : Nat) : Int) := by omega
        rw [if_neg (by omega), if_pos (by omega), if_pos (by omega), e, shr_i m (64 - s) (by omega), shl_i m s (by omega), ← shift_hi m s (by omega), xor_i _ _ hi64 thi, xor_i _ _ lo64 (Nat.mod_lt _ (Nat.two_pow_pos 64))]
        exact nx
theorem mod_f (N m : Nat) (hm : m ≠ 0) (hm64 : m < 2 ^ 64) (hN : N < 2 ^ 128) (k : Nat) (hk : 200 ≤ k) :
    poly_mod.f k ((N / 2 ^ 64 : Nat) : Int) ((N % 2 ^ 64 : Nat) : Int) (m : Int) = some ((GF.md N m : Nat) : Int) := by
  unfold poly_mod.f
  rw [Deg_f m hm64]
  simp only [Option.bind_some]
  exact mod_l0 m hm hm64 64 k N (by omega) (by omega) hN
theorem mod_lo (a m : Nat) (hm : m ≠ 0) (hm64 : m < 2 ^ 64) (ha : a < 2 ^ 64) (k : Nat) (hk : 200 ≤ k) : poly_mod.f k 0 (a : Int) (m : Int) = some ((GF.md a m : Nat) : Int) := by
  have h := mod_f a m hm hm64 (Nat.lt_of_lt_of_le ha (Nat.pow_le_pow_right (by omega) (by omega))) k hk
  rw [Nat.div_eq_of_lt ha, Nat.mod_eq_of_lt ha] at h
  exact h
theorem md_lt (a m : Nat) (hm : m ≠ 0) (hm64 : m < 2 ^ 64) : GF.md a m < 2 ^ 64 := by
  apply GF.L_le.1
  have := GF.md_L hm a; have := GF.L_le.2 hm64; omega
theorem mulMod_f (m a b : Nat) (hm : m ≠ 0) (hm64 : m < 2 ^ 64) (ha : a < 2 ^ 64) (hb : b < 2 ^ 64) (k : Nat) (hk : 200 ≤ k) :
    poly_mulMod.f k (m : Int) (a : Int) (b : Int) = some ((GF.md (GF.mul a b) m : Nat) : Int) := by
  unfold poly_mulMod.f
  rw [Mul_f a b ha hb k (by omega)]
  simp only [Option.bind_some]
  rw [mod_f _ m hm hm64 (mul_lt a b 64 ha hb (by omega)) k hk]
  rfl
theorem Mod_f (N m : Nat) (hm : m ≠ 0) (hm64 : m < 2 ^ 64) (hN : N < 2 ^ 128) (k : Nat) (hk : 200 ≤ k) :
    poly_Mod.f k ((N / 2 ^ 64 : Nat) : Int) ((N % 2 ^ 64 : Nat) : Int) (m : Int) = some (((GF.md N m : Nat) : Int), none) := by
  unfold poly_Mod.f
  rw [if_neg (by omega), mod_f N m hm hm64 hN k hk]; rfl
theorem Mod_lo (a m : Nat) (hm : m ≠ 0) (hm64 : m < 2 ^ 64) (ha : a < 2 ^ 64) (k : Nat) (hk : 200 ≤ k) : poly_Mod.f k 0 (a : Int) (m : Int) = some (((GF.md a m : Nat) : Int), none) := by
  unfold poly_Mod.f
  rw [if_neg (by omega), mod_lo a m hm hm64 ha k hk]; rfl
/-- The remainder of a product of factors. -/
def mds (m : Nat) (o : Nat) (l : List Nat) : Nat := l.foldl (fun o f => GF.md (GF.mul o f) m) o
theorem rd_map (l : List Nat) (i : Nat) (h : i < l.length) : rd (l.map Int.ofNat) (i : Int) = (l[i] : Int) := by
  unfold rd
  rw [Int.toNat_natCast, List.getD_eq_getElem?_getD, List.getElem?_map, List.getElem?_eq_getElem h]
  rfl
theorem MulMod_l (m : Nat) (hm : m ≠ 0) (hm64 : m < 2 ^ 64) (l : List Nat) (hl : ∀ x ∈ l, x < 2 ^ 64) (hn : l.length ≤ 1000000) (j : Nat) : ∀ (k i o : Nat), j + 200 < k → i + j = l.length → o < 2 ^ 64 →
    poly_MulMod.l0 k (m : Int) (o : Int) (l.map Int.ofNat) ((l.map Int.ofNat).length : Int) (i : Int) = some (((mds m o (l.drop i) : Nat) : Int), none) := by
  induction j with
  | zero =>
    intro k i o hk hi ho
    obtain ⟨k, rfl⟩ : ∃ m, k = m + 1 := ⟨k - 1, by omega⟩
    simp only [poly_MulMod.l0, List.length_map]
    rw [if_neg (by omega), List.drop_eq_nil_of_le (by omega)]
    rfl
  | succ j ih =>
    intro k i o hk hi ho
    obtain ⟨k, rfl⟩ : ∃ m, k = m + 1 := ⟨k - 1, by omega⟩
    have hlt : i < l.length := by omega
    have nx := ih k (i + 1) (GF.md (GF.mul o l[i]) m) (by omega) (by omega) (md_lt _ m hm hm64)
    simp only [poly_MulMod.l0, List.length_map] at nx ⊢
    rw [if_pos (by omega), if_pos (by omega), if_pos (by omega), rd_map l i hlt, mulMod_f m o l[i] hm hm64 ho (hl _ (List.getElem_mem hlt)) k (by omega)]
    simp only [Option.bind_some]
    rw [w64 (x := (i : Int) + 1) (by omega) (by omega), List.drop_eq_getElem_cons hlt]
    exact nx
theorem MulMod_f (m : Nat) (hm : m ≠ 0) (hm64 : m < 2 ^ 64) (l : List Nat) (hl : ∀ x ∈ l, x < 2 ^ 64) (hn : l.length ≤ 1000000) (k : Nat) (hk : l.length + 300 ≤ k) :
    poly_MulMod.f k (m : Int) (l.map Int.ofNat) = some (((mds m (GF.md 1 m) l : Nat) : Int), none) := by
  unfold poly_MulMod.f
  have h1 := mod_lo 1 m hm hm64 (by decide) k (by omega)
  rw [if_neg (by omega), show poly_mod.f k 0 1 (m : Int) = _ from h1]
  simp only [Option.bind_some]
  exact MulMod_l m hm hm64 l hl hn l.length k 0 (GF.md 1 m) (by omega) (by omega) (md_lt 1 m hm hm64)
theorem mds_spec (m : Nat) (hm : m ≠ 0) (l : List Nat) : ∀ o, GF.L o < GF.L m → mds m o l = GF.md (GF.mul o (GF.prod l)) m := by
  induction l with
  | nil => intro o ho; show o = _; unfold GF.prod; rw [List.foldr_nil, GF.mul_one, GF.md_small ho]
  | cons a l ih =>
    intro o ho
    show mds m (GF.md (GF.mul o a) m) l = GF.md (GF.mul o (GF.mul a (GF.prod l))) m
    rw [ih _ (GF.md_L hm _), GF.md_mul_md hm, GF.mul_assoc]
/-! greatest common divisors -/
theorem Gcd_l1 (l : List Nat) (hl : ∀ x ∈ l, x < 2 ^ 64) (i : Nat) (n : Nat) : ∀ (k a b : Nat), GF.L b ≤ n → n + 300 < k → a < 2 ^ 64 → b < 2 ^ 64 →
    ∃ k', n + k' + 1 ≥ k - 1 ∧ k' < k ∧ poly_Gcd.l1 k (a : Int) (b : Int) (l.map Int.ofNat) ((l.map Int.ofNat).length : Int) (i : Int) =
      poly_Gcd.l0 k' ((GF.gcd a b : Nat) : Int) (l.map Int.ofNat) ((l.map Int.ofNat).length : Int) (wrap64 ((i : Int) + 1)) := by
  induction n with
  | zero =>
    intro k a b hb hk ha hb64
    obtain ⟨k, rfl⟩ : ∃ m, k = m + 1 := ⟨k - 1, by omega⟩
    have e : b = 0 := GF.L_eq_zero.1 (by omega)
    subst e
    refine ⟨k, by omega, by omega, ?_⟩
    simp only [poly_Gcd.l1]
    rw [if_pos (show ((0 : Nat) : Int) = 0 from rfl), GF.gcd_zero]
  | succ n ih =>
    intro k a b hb hk ha hb64
    obtain ⟨k, rfl⟩ : ∃ m, k = m + 1 := ⟨k - 1, by omega⟩
    by_cases e : b = 0
    · subst e
      refine ⟨k, by omega, by omega, ?_⟩
      simp only [poly_Gcd.l1]
      rw [if_pos (show ((0 : Nat) : Int) = 0 from rfl), GF.gcd_zero]
    · have lt := GF.md_L e a
      obtain ⟨k', h1, h2, h3⟩ := ih k b (GF.md a b) (by omega) (by omega) hb64 (md_lt a b e hb64)
      refine ⟨k', by omega, by omega, ?_⟩
      simp only [poly_Gcd.l1]
      rw [if_neg (by omega), mod_lo a b e hb64 ha k (by omega)]
      simp only [Option.bind_some]
      rw [h3, GF.gcd_step e]
theorem gcd_lt (a b : Nat) (ha : a < 2 ^ 64) (hb : b < 2 ^ 64) : GF.gcd a b < 2 ^ 64 := by
  by_cases h : a = 0
  · by_cases h' : b = 0
    · subst h; subst h'; rw [GF.gcd_zero]; exact ha
    · apply GF.L_le.1
      have := GF.Dv_L (GF.gcd_right a b) h'; have := GF.L_le.2 hb; omega
  · apply GF.L_le.1
    have := GF.Dv_L (GF.gcd_left a b) h; have := GF.L_le.2 ha; omega
def gcds (o : Nat) (l : List Nat) : Nat := l.foldl GF.gcd o
theorem Gcd_l0 (l : List Nat) (hl : ∀ x ∈ l, x < 2 ^ 64) (hn : l.length ≤ 1000000) (j : Nat) : ∀ (k i o : Nat), 70 * j + 400 < k → i + j = l.length → o < 2 ^ 64 →
    poly_Gcd.l0 k (o : Int) (l.map Int.ofNat) ((l.map Int.ofNat).length : Int) (i : Int) = some ((gcds o (l.drop i) : Nat) : Int) := by
  induction j with
  | zero =>
    intro k i o hk hi ho
    obtain ⟨k, rfl⟩ : ∃ m, k = m + 1 := ⟨k - 1, by omega⟩
    simp only [poly_Gcd.l0, List.length_map]
    rw [if_neg (by omega), List.drop_eq_nil_of_le (by omega)]
    rfl
  | succ j ih =>
    intro k i o hk hi ho
    obtain ⟨k, rfl⟩ : ∃ m, k = m + 1 := ⟨k - 1, by omega⟩
    have hlt : i < l.length := by omega
    have h64 := hl _ (List.getElem_mem hlt)
    have hL := GF.L_le.2 h64
    obtain ⟨k', h1, h2, h3⟩ := Gcd_l1 l hl i 64 k o l[i] hL (by omega) ho h64
    have nx := ih k' (i + 1) (GF.gcd o l[i]) (by omega) (by omega) (gcd_lt o l[i] ho h64)
    simp only [poly_Gcd.l0]
    rw [List.length_map] at h3 nx ⊢
    rw [if_pos (by omega), if_pos (by omega), if_pos (by omega), rd_map l i hlt, h3, w64 (x := (i : Int) + 1) (by omega) (by omega), List.drop_eq_getElem_cons hlt]
    exact nx
theorem Gcd_f (l : List Nat) (hl : ∀ x ∈ l, x < 2 ^ 64) (hn : l.length ≤ 1000000) (k : Nat) (hk : 70 * l.length + 500 ≤ k) :
    poly_Gcd.f k (l.map Int.ofNat) = some ((gcds 0 l : Nat) : Int) := Gcd_l0 l hl hn l.length k 0 0 (by omega) (by omega) (by decide)
theorem gcd_zero_left (a : Nat) : GF.gcd 0 a = a := by rw [GF.gcd_comm, GF.gcd_zero]
theorem Gcd_two (a b : Nat) (ha : a < 2 ^ 64) (hb : b < 2 ^ 64) (k : Nat) (hk : 700 ≤ k) : poly_Gcd.f k [(a : Int), (b : Int)] = some ((GF.gcd a b : Nat) : Int) := by
  have h := Gcd_f [a, b] (by intro x hx; simp at hx; rcases hx with rfl | rfl <;> assumption) (by simp) k (by simp; omega)
  have e : gcds 0 [a, b] = GF.gcd a b := by show GF.gcd (GF.gcd 0 a) b = _; rw [gcd_zero_left]
  rw [e] at h
  exact h
/-! the test -/
theorem sq_l (p : Nat) (hp : p ≠ 0) (hp64 : p < 2 ^ 64) (n : Nat) (hn : n ≤ 1000) (j : Nat) : ∀ (k i x : Nat), j + 200 < k → i + j = n → GF.L x < GF.L p →
    poly_sq.l0 k (p : Int) (n : Int) (x : Int) (i : Int) = some ((GF.md (GF.pw x j) p : Nat) : Int) := by
  induction j with
  | zero =>
    intro k i x hk hi hx
    obtain ⟨k, rfl⟩ : ∃ m, k = m + 1 := ⟨k - 1, by omega⟩
    simp only [poly_sq.l0]
    rw [if_neg (by omega)]
    show _ = some ((GF.md x p : Nat) : Int)
    rw [GF.md_small hx]
  | succ j ih =>
    intro k i x hk hi hx
    obtain ⟨k, rfl⟩ : ∃ m, k = m + 1 := ⟨k - 1, by omega⟩
    have x64 : x < 2 ^ 64 := GF.L_le.1 (by have := GF.L_le.2 hp64; omega)
    have nx := ih k (i + 1) (GF.md (GF.mul x x) p) (by omega) (by omega) (GF.md_L hp _)
    simp only [poly_sq.l0]
    rw [if_pos (by omega), mulMod_f p x x hp hp64 x64 x64 k (by omega)]
    simp only [Option.bind_some]
    rw [w64 (x := (i : Int) + 1) (by omega) (by omega)]
    have e : GF.md (GF.pw (GF.md (GF.mul x x) p) j) p = GF.md (GF.pw x (j + 1)) p := by
      have a : GF.pw x (j + 1) = GF.pw (GF.mul x x) j := by rw [Nat.add_comm, GF.pw_add]; rfl
      rw [a]
      exact GF.md_congr hp (GF.pw_congr (GF.Cg_md hp _) j)
    rw [e] at nx
    exact nx
theorem sq_f (p : Nat) (hp : p ≠ 0) (hp64 : p < 2 ^ 64) (n : Nat) (hn : n ≤ 1000) (k : Nat) (hk : n + 300 ≤ k) : poly_sq.f k (p : Int) (n : Int) = some ((GF.md (GF.pw 2 n) p : Nat) : Int) := by
  unfold poly_sq.f
  have h := mod_lo 2 p hp hp64 (by decide) k (by omega)
  rw [show poly_mod.f k 0 2 (p : Int) = _ from h]
  simp only [Option.bind_some]
  have := sq_l p hp hp64 n hn n k 0 (GF.md 2 p) (by omega) (by omega) (GF.md_L hp 2)
  have e : GF.md (GF.pw (GF.md 2 p) n) p = GF.md (GF.pw 2 n) p := GF.md_congr hp (GF.pw_congr (GF.Cg_md hp 2) n)
  rw [e] at this
  exact this
/-- What primes tells of the numbers up to 63. -/
def goodPrimes (n : Nat) (l : List Int) : Bool := decide (l.length ≤ 64) && (l.all (fun q => decide (2 ≤ q) && decide (q.toNat ∣ n)) && (List.range 64).all fun k => !(decide (2 ≤ k) && decide (k ∣ n)) || l.any fun q => decide (q.toNat ∣ k))
theorem primes_table : ∀ n : Fin 63, ∃ l, poly_primes.f 200 ((n.val : Int) + 1) = some l ∧ goodPrimes (n.val + 1) l = true := by
  have h : ∀ n : Fin 63, (match poly_primes.f 200 ((n.val : Int) + 1) with | some l => goodPrimes (n.val + 1) l | none => false) = true := by decide +kernel
  intro n
  have := h n
  split at this
  · rename_i l hl; exact ⟨l, hl, this⟩
  · cases this
theorem primes_f (n : Nat) (h1 : 1 ≤ n) (h2 : n ≤ 63) (k : Nat) (hk : 200 ≤ k) : ∃ qs : List Nat, poly_primes.f k (n : Int) = some (qs.map Int.ofNat) ∧ (∀ q ∈ qs, 2 ≤ q ∧ q ∣ n) ∧ (∀ d, 2 ≤ d → d ∣ n → ∃ q ∈ qs, q ∣ d) ∧ qs.length ≤ 64 := by
  obtain ⟨l, hl, hg⟩ := primes_table ⟨n - 1, by omega⟩
  have e : ((n - 1 : Nat) : Int) + 1 = (n : Int) := by omega
  have e' : n - 1 + 1 = n := by omega
  simp only [e, e'] at hl hg
  have hk' := at_rounds (g := fun k => poly_primes.f k (n : Int)) (fun k => poly_primes.mono _ k) hk hl
  unfold goodPrimes at hg
  rw [Bool.and_eq_true, Bool.and_eq_true, List.all_eq_true, List.all_eq_true, decide_eq_true_eq] at hg
  obtain ⟨g0, g1, g2⟩ := hg
  have map_back : (l.map Int.toNat).map Int.ofNat = l := by
    rw [List.map_map]
    conv => rhs; rw [← List.map_id l]
    apply List.map_congr_left
    intro q hq
    have := g1 q hq
    simp only [Bool.and_eq_true, decide_eq_true_eq] at this
    simp; omega
  have all2 : ∀ q ∈ l.map Int.toNat, 2 ≤ q ∧ q ∣ n := by
    intro q hq
    obtain ⟨x, hx, rfl⟩ := List.mem_map.1 hq
    have := g1 x hx
    simp only [Bool.and_eq_true, decide_eq_true_eq] at this
    exact ⟨by omega, this.2⟩
  refine ⟨l.map Int.toNat, by rw [map_back]; exact hk', all2, ?_, ?_⟩
  · intro d hd hdn
    have dn := Nat.le_of_dvd (by omega) hdn
    have := g2 d (List.mem_range.2 (by omega))
    simp only [Bool.or_eq_true, Bool.not_eq_true', Bool.and_eq_false_iff, decide_eq_false_iff_not, List.any_eq_true, decide_eq_true_eq] at this
    rcases this with (h | h) | h
    · omega
    · exact absurd hdn h
    · obtain ⟨q, hq, hqd⟩ := h
      exact ⟨q.toNat, List.mem_map.2 ⟨q, hq, rfl⟩, hqd⟩
  · rw [List.length_map]; omega
/-- The program's test, its rounds' end. -/
theorem Irr_l (p : Nat) (hp : p ≠ 0) (hp64 : p < 2 ^ 64) (n : Nat) (hn : n ≤ 63) (qs : List Nat) (h2 : ∀ q ∈ qs, 2 ≤ q) (hl : qs.length ≤ 64) (j : Nat) : ∀ (k i : Nat), j + 800 < k → i + j = qs.length →
    ∃ b : Bool, poly_Irreducible.l0 k (p : Int) (n : Int) (qs.map Int.ofNat) (i : Int) = some b ∧ (b = true ↔ (∀ q ∈ qs.drop i, GF.gcd p (GF.pw 2 (n / q) ^^^ 2) = 1) ∧ GF.Cg p (GF.pw 2 n) 2) := by
  have m2 := fun (k : Nat) (hk : 200 ≤ k) => (show poly_mod.f k 0 2 (p : Int) = _ from mod_lo 2 p hp hp64 (by decide) k hk)
  induction j with
  | zero =>
    intro k i hk hi
    obtain ⟨k, rfl⟩ : ∃ m, k = m + 1 := ⟨k - 1, by omega⟩
    refine ⟨((GF.md (GF.pw 2 n) p : Nat) : Int) == ((GF.md 2 p : Nat) : Int), ?_, ?_⟩
    · simp only [poly_Irreducible.l0, List.length_map]
      rw [if_neg (by omega), sq_f p hp hp64 n (by omega) k (by omega), m2 k (by omega)]
      rfl
    · rw [List.drop_eq_nil_of_le (by omega)]
      constructor
      · intro h
        have h : GF.md (GF.pw 2 n) p = GF.md 2 p := by
          have := eq_of_beq h; omega
        refine ⟨(fun q hq => by cases hq), ?_⟩
        have a := GF.Cg_symm (GF.Cg_md hp (GF.pw 2 n))
        rw [h] at a
        exact GF.Cg_trans a (GF.Cg_md hp 2)
      · intro ⟨_, h⟩
        rw [GF.md_congr hp h]; simp
  | succ j ih =>
    intro k i hk hi
    obtain ⟨k, rfl⟩ : ∃ m, k = m + 1 := ⟨k - 1, by omega⟩
    have hlt : i < qs.length := by omega
    have q2 := h2 _ (List.getElem_mem hlt)
    obtain ⟨b, e, hb⟩ := ih k (i + 1) (by omega) (by omega)
    have nq : n / qs[i] ≤ n := Nat.div_le_self _ _
    have td : wrap64 (Int.tdiv (n : Int) (qs[i] : Int)) = ((n / qs[i] : Nat) : Int) := by
      rw [Int.tdiv_eq_ediv_of_nonneg (by omega), ← Int.natCast_ediv]
      exact w64 (Int.le_trans (by decide) (Int.natCast_nonneg _)) (Int.le_trans (Int.ofNat_le.2 (Nat.le_trans nq hn)) (by decide))
    have cg : GF.gcd p (GF.md (GF.pw 2 (n / qs[i])) p ^^^ GF.md 2 p) = GF.gcd p (GF.pw 2 (n / qs[i]) ^^^ 2) := GF.gcd_congr (GF.Cg_xor (GF.Cg_md hp _) (GF.Cg_md hp 2))
    have x64 : GF.md (GF.pw 2 (n / qs[i])) p ^^^ GF.md 2 p < 2 ^ 64 := GF.xor_lt (md_lt _ p hp hp64) (md_lt _ p hp hp64)
    have run : poly_Irreducible.l0 (k + 1) (p : Int) (n : Int) (qs.map Int.ofNat) (i : Int) = (if ((GF.gcd p (GF.pw 2 (n / qs[i]) ^^^ 2) : Nat) : Int) = 1 then poly_Irreducible.l0 k (p : Int) (n : Int) (qs.map Int.ofNat) ((i + 1 : Nat) : Int) else some false) := by
      simp only [poly_Irreducible.l0, List.length_map]
      rw [if_pos (by omega), if_pos (by omega), rd_map qs i hlt, if_neg (by omega), td, sq_f p hp hp64 _ (by omega) k (by omega)]
      simp only [Option.bind_some]
      rw [m2 k (by omega)]
      simp only [Option.bind_some]
      rw [xor_i _ _ (md_lt _ p hp hp64) (md_lt _ p hp hp64), Gcd_two p _ hp64 x64 k (by omega), cg]
      simp only [Option.bind_some]
      rw [w64 (x := (i : Int) + 1) (by omega) (by omega)]
      rfl
    rw [run, List.drop_eq_getElem_cons hlt]
    by_cases hg : GF.gcd p (GF.pw 2 (n / qs[i]) ^^^ 2) = 1
    · refine ⟨b, ?_, ?_⟩
      · rw [if_pos (by omega), e]
      · rw [hb]
        constructor
        · intro ⟨a, c⟩
          refine ⟨fun q hq => ?_, c⟩
          rcases List.mem_cons.1 hq with rfl | hq
          · exact hg
          · exact a q hq
        · intro ⟨a, c⟩
          exact ⟨fun q hq => a q (List.mem_cons_of_mem _ hq), c⟩
    · refine ⟨false, ?_, ?_⟩
      · rw [if_neg (by omega)]
      · constructor
        · intro h; cases h
        · intro ⟨a, _⟩
          exact absurd (a _ List.mem_cons_self) hg
/-- The program's test tells what is irreducible. -/
theorem Irreducible_f (p : Nat) (hp64 : p < 2 ^ 64) (k : Nat) (hk : 1000 ≤ k) : ∃ b : Bool, poly_Irreducible.f k (p : Int) = some b ∧ (b = true ↔ GF.Irr p) := by
  have l := GF.L_le.2 hp64
  unfold poly_Irreducible.f
  rw [Deg_f p hp64]
  simp only [Option.bind_some]
  by_cases h : GF.L p ≤ 1
  · refine ⟨false, by rw [if_pos (by omega)], ?_⟩
    constructor
    · intro h; cases h
    · intro h'; have := h'.1; omega
  · have hp : p ≠ 0 := by rintro rfl; rw [GF.L_zero] at h; omega
    obtain ⟨qs, hq, g1, g2, g3⟩ := primes_f (GF.L p - 1) (by omega) (by omega) k (by omega)
    have e : (GF.L p : Int) - 1 = ((GF.L p - 1 : Nat) : Int) := by omega
    rw [if_neg (by omega), e, hq]
    simp only [Option.bind_some]
    obtain ⟨b, eb, hb⟩ := Irr_l p hp hp64 (GF.L p - 1) (by omega) qs (fun q h => (g1 q h).1) g3 qs.length k 0 (by omega) (by omega)
    refine ⟨b, eb, ?_⟩
    rw [hb, GF.rabin (by omega) qs g1 g2]
    rfl

theorem and1_i64 (a : Nat) (ha : a < 2 ^ 63) : Go.bits .and .i64 (a : Int) 1 = ((a % 2 : Nat) : Int) := by
  have p63 : (2 : Nat) ^ 63 = 9223372036854775808 := by decide
  rw [p63] at ha
  have h1 : (BitVec.ofInt 64 (a : Int)).toNat = a := by
    rw [BitVec.ofInt_natCast, BitVec.toNat_ofNat]; exact Nat.mod_eq_of_lt (by omega)
  have h2 : (BitVec.ofInt 64 (1 : Int)).toNat = 1 := by decide
  show IntKind.i64.wrap ((BitVec.ofInt 64 (a : Int) &&& BitVec.ofInt 64 (1 : Int)).toNat : Int) = _
  rw [BitVec.toNat_and, h1, h2, Nat.and_one_is_mod, i64_w, w64 (by omega) (by omega)]
theorem np_congr {m a b i : Nat} (h : GF.Cg m a b) : GF.Cg m (GF.np a i) (GF.np b i) := by
  induction i with
  | zero =>
    have e1 : GF.np a 0 = 1 := by rw [GF.np]
    have e2 : GF.np b 0 = 1 := by rw [GF.np]
    rw [e1, e2]; exact GF.Cg_refl m 1
  | succ i ih =>
    have e1 : GF.np a (i + 1) = GF.mul a (GF.np a i) := by rw [GF.np]
    have e2 : GF.np b (i + 1) = GF.mul b (GF.np b i) := by rw [GF.np]
    rw [e1, e2]; exact GF.Cg_mul h ih
theorem kk {j k : Nat} (h : j + 1 + 300 < k + 1) : 200 ≤ k ∧ 65 ≤ k ∧ j + 300 < k := by omega
theorem tmod_i (n : Nat) : Int.tmod (n : Int) 2 = ((n % 2 : Nat) : Int) := by rw [Int.tmod_eq_emod_of_nonneg (by omega)]; omega
theorem half64_i (n : Nat) (h : n < 9223372036854775808) : wrap64 (Int.tdiv (n : Int) 2) = ((n / 2 : Nat) : Int) := by rw [Int.tdiv_eq_ediv_of_nonneg (by omega), w64 (by omega) (by omega)]; omega
theorem odd_i (n : Nat) (h : ¬ n % 2 = 1) : ¬ ((n % 2 : Nat) : Int) = 1 := by omega
theorem odd_p (n : Nat) (h : n % 2 = 1) : ((n % 2 : Nat) : Int) = 1 := by omega
/-! powers of x -/
/-- The program's rounds: the highest bit first. -/
theorem Power_l (m : Nat) (hm : m ≠ 0) (hm64 : m < 2 ^ 64) (n : Nat) (hn : n < 2 ^ 63) (j : Nat) : ∀ (k o : Nat), j + 300 < k → j ≤ 64 → o = GF.md (GF.np 2 (n / 2 ^ j)) m →
    poly_Power.l0 k (n : Int) (m : Int) (o : Int) ((j : Int) - 1) = some (((GF.md (GF.np 2 n) m : Nat) : Int), none) := by
  induction j with
  | zero =>
    intro k o hk _ ho
    obtain ⟨k, rfl⟩ : ∃ m, k = m + 1 := ⟨k - 1, by omega⟩
    simp only [poly_Power.l0]
    rw [if_neg (by omega), ho, Nat.pow_zero, Nat.div_one]
  | succ j ih =>
    intro k o hk hj ho
    obtain ⟨k, rfl⟩ : ∃ m, k = m + 1 := ⟨k - 1, by omega⟩
    have ej : ((j + 1 : Nat) : Int) - 1 = (j : Int) := by omega
    have o64 : o < 2 ^ 64 := by rw [ho]; exact md_lt _ m hm hm64
    have half : n / 2 ^ (j + 1) = n / 2 ^ j / 2 := by rw [Nat.div_div_eq_div_mul, Nat.pow_succ]
    have sq : GF.md (GF.mul o o) m = GF.md (GF.np 2 (2 * (n / 2 ^ (j + 1)))) m := by
      rw [ho, Nat.two_mul, GF.np_add]
      exact GF.md_congr hm (GF.Cg_mul (GF.Cg_md hm _) (GF.Cg_md hm _))
    have s64 : GF.md (GF.mul o o) m < 2 ^ 64 := md_lt _ m hm hm64
    have sh : Go.bits .and .i64 (shr .i64 (n : Int) (j : Int)) 1 = ((n / 2 ^ j % 2 : Nat) : Int) := by
      unfold shr
      have e : min ((j : Int)).toNat IntKind.i64.bits = min j 64 := by
        show min ((j : Int)).toNat 64 = _
        rw [Int.toNat_natCast]
      have ej : min j 64 = j := by omega
      rw [e, ej]
      have ed : (n : Int) / 2 ^ j = ((n / 2 ^ j : Nat) : Int) := by rw [Int.natCast_ediv, Int.natCast_pow]; rfl
      rw [ed]
      have lt : n / 2 ^ j < 2 ^ 63 := Nat.lt_of_le_of_lt (Nat.div_le_self _ _) hn
      exact and1_i64 _ lt
    have w1 : wrap64 ((j : Int) - 1) = (j : Int) - 1 := w64 (by omega) (by omega)
    simp only [poly_Power.l0]
    rw [ej, if_pos (by omega), mulMod_f m o o hm hm64 o64 o64 k (by omega)]
    simp only [Option.bind_some]
    rw [if_pos (by omega), sh, w1]
    by_cases hc : n / 2 ^ j % 2 = 1
    · have m2 := mulMod_f m (GF.md (GF.mul o o) m) 2 hm hm64 s64 (by decide) k (by omega)
      rw [if_pos (by omega), show poly_mulMod.f k (m : Int) ((GF.md (GF.mul o o) m : Nat) : Int) 2 = _ from m2]
      simp only [Option.bind_some]
      refine ih k _ (by omega) (by omega) ?_
      rw [sq, GF.md_mul_md hm, GF.mul_comm]
      have e : n / 2 ^ j = 2 * (n / 2 ^ (j + 1)) + 1 := by omega
      rw [e]; rfl
    · rw [if_neg (by omega)]
      refine ih k _ (by omega) (by omega) ?_
      rw [sq]
      have e : n / 2 ^ j = 2 * (n / 2 ^ (j + 1)) := by omega
      rw [e]
theorem Power_f (m : Nat) (hm : m ≠ 0) (hm64 : m < 2 ^ 64) (n : Nat) (hn : n < 2 ^ 63) (k : Nat) (hk : 500 ≤ k) : poly_Power.f k (n : Int) (m : Int) = some (((GF.md (GF.np 2 n) m : Nat) : Int), none) := by
  have n64 : n < 2 ^ 64 := Nat.lt_of_lt_of_le hn (by decide)
  have l := GF.L_le.2 n64
  have p64 : (2 : Nat) ^ 64 = 18446744073709551616 := by decide
  have h1 := mod_lo 1 m hm hm64 (by decide) k (by omega)
  have ew : IntKind.u64.wrap (n : Int) = (n : Int) := by rw [IntKind.wrap_u64]; rw [p64] at n64; omega
  unfold poly_Power.f
  rw [if_neg (by omega), if_neg (by omega), show poly_mod.f k 0 1 (m : Int) = _ from h1, ew]
  simp only [Option.bind_some]
  unfold bits_Len64.f
  rw [if_pos (by omega), if_pos (by rw [p64] at n64; omega), Int.toNat_natCast, bitLen_L n n64]
  simp only [Option.bind_some]
  rw [w64 (by omega) (by omega)]
  refine Power_l m hm hm64 n hn (GF.L n) k _ (by omega) (by omega) ?_
  rw [Nat.div_eq_of_lt (GF.L_bd n)]; rfl

end Go.Proofs.Ytoofafgnlgaajaa.PB
