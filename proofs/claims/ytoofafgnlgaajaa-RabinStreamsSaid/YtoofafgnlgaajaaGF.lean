/- Polynomials over the field of two elements, as numbers: products, remainders, greatest common divisors, irreducible ones, Fermat, the tests of Rabin and Ben-Or. No program in sight. Conditions: none. -/
set_option linter.unusedVariables false
set_option linter.unusedSimpArgs false
namespace Go.Proofs.Ytoofafgnlgaajaa.GF
/-! ## Polynomials over the field of two elements, as numbers -/
theorem xor_div2 (a b : Nat) : (a ^^^ b) / 2 = a / 2 ^^^ b / 2 := Nat.xor_div_two
theorem two_mul_xor (a b : Nat) : 2 * (a ^^^ b) = 2 * a ^^^ 2 * b := by
  apply Nat.eq_of_testBit_eq; intro i
  cases i with
  | zero => simp [Nat.testBit_zero]
  | succ i => simp [Nat.testBit_xor, Nat.testBit_succ, xor_div2]
theorem split2 (b : Nat) : b = (b % 2) ^^^ 2 * (b / 2) := by
  apply Nat.eq_of_testBit_eq; intro i
  cases i with
  | zero => simp [Nat.testBit_zero]
  | succ i =>
    have : b % 2 / 2 = 0 := by omega
    rw [Nat.testBit_succ, Nat.testBit_succ, xor_div2, this, Nat.zero_xor, Nat.mul_div_cancel_left _ (by omega)]
theorem xor_mod2 (a b : Nat) : (a ^^^ b) % 2 = (a % 2 + b % 2) % 2 := by
  have h := Nat.testBit_xor a b 0
  simp only [Nat.testBit_zero] at h
  have ha := Nat.mod_two_eq_zero_or_one a
  have hb := Nat.mod_two_eq_zero_or_one b
  have hc := Nat.mod_two_eq_zero_or_one (a ^^^ b)
  rcases ha with ha | ha <;> rcases hb with hb | hb <;> rcases hc with hc | hc <;> simp_all
theorem xor_left_comm (a b c : Nat) : a ^^^ (b ^^^ c) = b ^^^ (a ^^^ c) := by
  rw [← Nat.xor_assoc, Nat.xor_comm a b, Nat.xor_assoc]
theorem xor_four (a b c d : Nat) : (a ^^^ b) ^^^ (c ^^^ d) = (a ^^^ c) ^^^ (b ^^^ d) := by
  rw [Nat.xor_assoc, Nat.xor_assoc, xor_left_comm b c d]
theorem xor_cancel (a b : Nat) : a ^^^ b ^^^ b = a := by rw [Nat.xor_assoc, Nat.xor_self, Nat.xor_zero]
theorem xor_eq_zero {a b : Nat} (h : a ^^^ b = 0) : a = b := by
  have := xor_cancel a b; rw [h, Nat.zero_xor] at this; exact this.symm

/-- The product. -/
def mul (a : Nat) (b : Nat) : Nat := if h : b = 0 then 0 else (if b % 2 = 1 then a else 0) ^^^ 2 * mul a (b / 2)
termination_by b
decreasing_by omega
theorem mul_zero (a : Nat) : mul a 0 = 0 := by rw [mul]; simp
theorem mul_eq (a b : Nat) : mul a b = (if b % 2 = 1 then a else 0) ^^^ 2 * mul a (b / 2) := by
  by_cases h : b = 0
  · subst h; simp [mul_zero]
  · rw [mul, dif_neg h]
theorem bin_rec {p : Nat → Prop} (h0 : p 0) (h : ∀ b, b ≠ 0 → p (b / 2) → p b) : ∀ b, p b := by
  intro b
  induction b using Nat.strongRecOn with
  | _ b ih =>
    by_cases hb : b = 0
    · rw [hb]; exact h0
    · exact h b hb (ih (b / 2) (by omega))
theorem zero_mul : ∀ b, mul 0 b = 0 := by
  intro b
  induction b using bin_rec with
  | h0 => exact mul_zero _
  | h b _ ih =>
    rw [mul_eq, ih]; simp
theorem mul_one (a : Nat) : mul a 1 = a := by rw [mul_eq]; simp [mul_zero]
theorem one_mul : ∀ b, mul 1 b = b := by
  intro b
  induction b using bin_rec with
  | h0 => exact mul_zero _
  | h b _ ih =>
    rw [mul_eq, ih]
    have s := split2 b
    rcases Nat.mod_two_eq_zero_or_one b with h | h
    · rw [if_neg (by omega)]; rw [h] at s; exact s.symm
    · rw [if_pos h]; rw [h] at s; exact s.symm
theorem mul_xor (a b : Nat) : ∀ c, mul a (b ^^^ c) = mul a b ^^^ mul a c := by
  intro c
  induction b using Nat.strongRecOn generalizing c with
  | _ b ih =>
    by_cases hb : b = 0
    · subst hb; simp [mul_zero]
    · rw [mul_eq a (b ^^^ c), mul_eq a b, mul_eq a c, xor_div2, ih (b / 2) (by omega), two_mul_xor, xor_four, xor_mod2]
      congr 1
      rcases Nat.mod_two_eq_zero_or_one b with h | h <;> rcases Nat.mod_two_eq_zero_or_one c with h' | h' <;> simp [h, h']
theorem xor_mul (a b : Nat) : ∀ c, mul (a ^^^ b) c = mul a c ^^^ mul b c := by
  intro c
  induction c using bin_rec with
  | h0 => simp [mul_zero]
  | h c _ ih =>
    rw [mul_eq (a ^^^ b) c, mul_eq a c, mul_eq b c, ih, two_mul_xor, xor_four]
    congr 1
    rcases Nat.mod_two_eq_zero_or_one c with h' | h' <;> simp [h']
theorem two_mul_mul (a : Nat) : ∀ c, mul (2 * a) c = 2 * mul a c := by
  intro c
  induction c using bin_rec with
  | h0 => simp [mul_zero]
  | h c _ ih =>
    rw [mul_eq (2 * a) c, mul_eq a c, ih, two_mul_xor]
    congr 1
    rcases Nat.mod_two_eq_zero_or_one c with h' | h' <;> simp [h']
theorem mul_two_mul (a c : Nat) : mul a (2 * c) = 2 * mul a c := by
  rw [mul_eq, if_neg (by omega), Nat.zero_xor, Nat.mul_div_cancel_left _ (by omega)]
theorem mul_comm (a : Nat) : ∀ b, mul a b = mul b a := by
  intro b
  induction b using bin_rec with
  | h0 => simp [mul_zero, zero_mul]
  | h b _ ih =>
    rw [mul_eq, ih]
    conv => rhs; rw [split2 b, xor_mul, two_mul_mul]
    congr 1
    rcases Nat.mod_two_eq_zero_or_one b with h | h
    · rw [h]; simp [zero_mul]
    · rw [h]; simp [one_mul]
theorem mul_assoc (a b : Nat) : ∀ c, mul (mul a b) c = mul a (mul b c) := by
  intro c
  induction c using bin_rec with
  | h0 => simp [mul_zero]
  | h c _ ih =>
    rw [mul_eq (mul a b) c, ih, mul_eq b c, mul_xor, mul_two_mul]
    congr 1
    rcases Nat.mod_two_eq_zero_or_one c with h' | h' <;> simp [h', mul_zero]
theorem mul_left_comm (a b c : Nat) : mul a (mul b c) = mul b (mul a c) := by
  rw [← mul_assoc, mul_comm a b, mul_assoc]
theorem mul_pow (a : Nat) (k : Nat) : mul a (2 ^ k) = a * 2 ^ k := by
  induction k with
  | zero => simp [mul_one]
  | succ k ih => rw [Nat.pow_succ', mul_two_mul, ih, Nat.mul_left_comm]

/-! ### degrees -/
/-- How many bits. -/
def L (a : Nat) : Nat := if a = 0 then 0 else a.log2 + 1
theorem L_le {a k : Nat} : L a ≤ k ↔ a < 2 ^ k := by
  unfold L
  by_cases h : a = 0
  · rw [if_pos h, h]; simp [Nat.two_pow_pos]
  · rw [if_neg h, ← Nat.log2_lt h]; omega
theorem lt_L {a k : Nat} : k < L a ↔ 2 ^ k ≤ a := by
  have := @L_le a k
  omega
theorem L_zero : L 0 = 0 := rfl
theorem L_pos {a : Nat} (h : a ≠ 0) : 0 < L a := by unfold L; rw [if_neg h]; omega
theorem L_eq_zero {a : Nat} : L a = 0 ↔ a = 0 := by
  constructor
  · intro h
    by_cases c : a = 0
    · exact c
    · have := L_pos c; omega
  · rintro rfl; rfl
theorem L_bd (a : Nat) : a < 2 ^ L a := L_le.1 (Nat.le_refl _)
theorem L_low {a : Nat} (h : a ≠ 0) : 2 ^ (L a - 1) ≤ a := lt_L.1 (by have := L_pos h; omega)
theorem L_unique {a k : Nat} (h1 : 2 ^ k ≤ a) (h2 : a < 2 ^ (k + 1)) : L a = k + 1 := by
  have := lt_L.2 h1; have := L_le.2 h2; omega
theorem xor_lt {a b k : Nat} (ha : a < 2 ^ k) (hb : b < 2 ^ k) : a ^^^ b < 2 ^ k := Nat.xor_lt_two_pow ha hb
theorem L_xor_le (a b : Nat) : L (a ^^^ b) ≤ max (L a) (L b) := by
  apply L_le.2
  exact xor_lt (Nat.lt_of_lt_of_le (L_bd a) (Nat.pow_le_pow_right (by omega) (Nat.le_max_left _ _))) (Nat.lt_of_lt_of_le (L_bd b) (Nat.pow_le_pow_right (by omega) (Nat.le_max_right _ _)))
/-- The leading bit. -/
theorem top_bit {a k : Nat} (h1 : 2 ^ k ≤ a) (h2 : a < 2 ^ (k + 1)) : a.testBit k = true := by
  rw [Nat.testBit_eq_decide_div_mod_eq]
  have : a / 2 ^ k = 1 := by
    apply Nat.div_eq_of_lt_le
    · omega
    · rw [Nat.pow_succ] at h2; omega
  simp [this]
theorem xor_low {a b k : Nat} (h1 : 2 ^ k ≤ a) (h2 : a < 2 ^ (k + 1)) (hb : b < 2 ^ k) : 2 ^ k ≤ a ^^^ b ∧ a ^^^ b < 2 ^ (k + 1) := by
  refine ⟨?_, xor_lt h2 (Nat.lt_of_lt_of_le hb (Nat.pow_le_pow_right (by omega) (by omega)))⟩
  have t : (a ^^^ b).testBit k = true := by rw [Nat.testBit_xor, top_bit h1 h2, Nat.testBit_lt_two_pow hb]; rfl
  exact Nat.ge_two_pow_of_testBit t
theorem xor_top {a b k : Nat} (h1 : 2 ^ k ≤ a) (h2 : a < 2 ^ (k + 1)) (h3 : 2 ^ k ≤ b) (h4 : b < 2 ^ (k + 1)) : a ^^^ b < 2 ^ k := by
  have e : a ^^^ b = (a - 2 ^ k) ^^^ (b - 2 ^ k) := by
    have sp : ∀ x, 2 ^ k ≤ x → x < 2 ^ (k + 1) → x = 2 ^ k ^^^ (x - 2 ^ k) := by
      intro x hx hx'
      have := Nat.two_pow_add_eq_or_of_lt (b := x - 2 ^ k) (i := k) (by rw [Nat.pow_succ] at hx'; omega) 1
      apply Nat.eq_of_testBit_eq; intro i
      by_cases hi : i = k
      · subst hi
        rw [Nat.testBit_xor, top_bit hx hx', Nat.testBit_two_pow_self, Nat.testBit_lt_two_pow (by rw [Nat.pow_succ] at hx'; omega)]; rfl
      · rw [Nat.testBit_xor, Nat.testBit_two_pow_of_ne (Ne.symm hi), Bool.false_xor]
        have e : x = 2 ^ k + (x - 2 ^ k) := by omega
        by_cases hl : i < k
        · conv => lhs; rw [e]
          rw [Nat.testBit_two_pow_add_gt hl]
        · have p : 2 ^ (k + 1) ≤ 2 ^ i := Nat.pow_le_pow_right (by omega) (by omega)
          rw [Nat.testBit_lt_two_pow (by omega), Nat.testBit_lt_two_pow (by omega)]
    conv => lhs; rw [sp a h1 h2, sp b h3 h4]
    rw [xor_four, Nat.xor_self, Nat.zero_xor]
  rw [e]
  exact xor_lt (by rw [Nat.pow_succ] at h2; omega) (by rw [Nat.pow_succ] at h4; omega)

theorem mul_deg {a m : Nat} (h1 : 2 ^ m ≤ a) (h2 : a < 2 ^ (m + 1)) : ∀ b n, 2 ^ n ≤ b → b < 2 ^ (n + 1) → 2 ^ (m + n) ≤ mul a b ∧ mul a b < 2 ^ (m + n + 1) := by
  intro b
  induction b using Nat.strongRecOn with
  | _ b ih =>
    intro n g1 g2
    cases n with
    | zero =>
      have : b = 1 := by simp at g1 g2; omega
      subst this; rw [mul_one]; exact ⟨h1, h2⟩
    | succ n =>
      have p : 0 < 2 ^ n := Nat.two_pow_pos n
      have i := ih (b / 2) (by rw [Nat.pow_succ] at g1; omega) n (by rw [Nat.pow_succ] at g1; omega) (by rw [Nat.pow_succ, Nat.pow_succ] at g2; rw [Nat.pow_succ]; omega)
      rw [mul_eq, Nat.xor_comm]
      have e : m + (n + 1) = m + n + 1 := rfl
      rw [e]
      have q1 : 2 ^ (m + n + 1) ≤ 2 * mul a (b / 2) := by rw [Nat.pow_succ]; omega
      have q2 : 2 * mul a (b / 2) < 2 ^ (m + n + 1 + 1) := by rw [Nat.pow_succ]; omega
      refine xor_low q1 q2 ?_
      split
      · exact Nat.lt_of_lt_of_le h2 (Nat.pow_le_pow_right (by omega) (by omega))
      · exact Nat.two_pow_pos _
theorem L_mul {a b : Nat} (ha : a ≠ 0) (hb : b ≠ 0) : L (mul a b) = L a + L b - 1 := by
  have pa := L_pos ha
  have pb := L_pos hb
  have ea : L a - 1 + 1 = L a := by omega
  have eb : L b - 1 + 1 = L b := by omega
  have ba : a < 2 ^ (L a - 1 + 1) := by rw [ea]; exact L_bd a
  have bb : b < 2 ^ (L b - 1 + 1) := by rw [eb]; exact L_bd b
  have h := mul_deg (L_low ha) ba b (L b - 1) (L_low hb) bb
  have := L_unique h.1 h.2
  omega
theorem mul_ne_zero {a b : Nat} (ha : a ≠ 0) (hb : b ≠ 0) : mul a b ≠ 0 := by
  intro h
  have := L_mul ha hb
  rw [h] at this
  have := L_pos ha; have := L_pos hb; simp only [L_zero] at *; omega
theorem mul_eq_zero {a b : Nat} (h : mul a b = 0) : a = 0 ∨ b = 0 := by
  by_cases ha : a = 0
  · exact .inl ha
  · by_cases hb : b = 0
    · exact .inr hb
    · exact absurd h (mul_ne_zero ha hb)
theorem mul_cancel {a b c : Nat} (hc : c ≠ 0) (h : mul a c = mul b c) : a = b := by
  have : mul (a ^^^ b) c = 0 := by rw [xor_mul, h, Nat.xor_self]
  rcases mul_eq_zero this with h | h
  · exact xor_eq_zero h
  · exact absurd h hc
theorem L_mul_le (a b : Nat) : L (mul a b) ≤ L a + L b := by
  by_cases ha : a = 0
  · subst ha; rw [zero_mul]; simp [L_zero]
  · by_cases hb : b = 0
    · subst hb; rw [mul_zero]; simp [L_zero]
    · rw [L_mul ha hb]; omega

/-! ### division -/
/-- One step: the leading bit is taken off. -/
theorem step_lt {a m : Nat} (hm : m ≠ 0) (h : L m ≤ L a) : L (a ^^^ mul m (2 ^ (L a - L m))) < L a := by
  have pm := L_pos hm
  have ha : a ≠ 0 := by intro h0; subst h0; rw [L_zero] at h; omega
  have pa := L_pos ha
  have e : L (mul m (2 ^ (L a - L m))) = L a := by
    have q : L (2 ^ (L a - L m)) = L a - L m + 1 := L_unique (Nat.le_refl _) (by rw [Nat.pow_succ]; have := Nat.two_pow_pos (L a - L m); omega)
    rw [L_mul hm (by have := Nat.two_pow_pos (L a - L m); omega), q]; omega
  have hz : mul m (2 ^ (L a - L m)) ≠ 0 := by
    intro h0; rw [h0, L_zero] at e; omega
  have b1 := L_bd a; have b2 := L_low ha
  have b3 := L_bd (mul m (2 ^ (L a - L m))); have b4 := L_low hz
  rw [e] at b3 b4
  have e1 : L a - 1 + 1 = L a := by omega
  have := xor_top (k := L a - 1) b2 (by rw [e1]; exact b1) b4 (by rw [e1]; exact b3)
  have := L_le.2 this
  omega
/-- The remainder. -/
def md (a m : Nat) : Nat := if h : m ≠ 0 ∧ L m ≤ L a then md (a ^^^ mul m (2 ^ (L a - L m))) m else a
termination_by L a
decreasing_by exact step_lt h.1 h.2
/-- m divides a. -/
def Dv (m a : Nat) : Prop := ∃ q, a = mul q m
theorem md_step {a m : Nat} (hm : m ≠ 0) (h : L m ≤ L a) : md a m = md (a ^^^ mul m (2 ^ (L a - L m))) m := by
  rw [md, dif_pos ⟨hm, h⟩]
theorem md_small {a m : Nat} (h : L a < L m) : md a m = a := by
  rw [md, dif_neg (by omega)]
theorem md_spec (m : Nat) (hm : m ≠ 0) : ∀ a, L (md a m) < L m ∧ Dv m (a ^^^ md a m) := by
  intro a
  generalize hn : L a = n
  induction n using Nat.strongRecOn generalizing a with
  | _ n ih =>
    by_cases h : L m ≤ L a
    · rw [md_step hm h]
      have s := step_lt hm h
      obtain ⟨i1, q, i2⟩ := ih (L (a ^^^ mul m (2 ^ (L a - L m)))) (by omega) _ rfl
      refine ⟨i1, q ^^^ 2 ^ (L a - L m), ?_⟩
      rw [xor_mul, ← i2, mul_comm (2 ^ (L a - L m)) m]
      generalize md (a ^^^ mul m (2 ^ (L a - L m))) m = r
      generalize mul m (2 ^ (L a - L m)) = t
      rw [Nat.xor_assoc a t r, Nat.xor_comm t r, ← Nat.xor_assoc a r t, xor_cancel]
    · rw [md_small (by omega)]
      exact ⟨by omega, 0, by rw [Nat.xor_self, zero_mul]⟩
theorem Dv_zero (m : Nat) : Dv m 0 := ⟨0, (zero_mul m).symm⟩
theorem Dv_refl (m : Nat) : Dv m m := ⟨1, (one_mul m).symm⟩
theorem Dv_xor {m a b : Nat} (ha : Dv m a) (hb : Dv m b) : Dv m (a ^^^ b) := by
  obtain ⟨p, rfl⟩ := ha
  obtain ⟨q, rfl⟩ := hb
  exact ⟨p ^^^ q, (xor_mul p q m).symm⟩
theorem Dv_mul {m a : Nat} (ha : Dv m a) (b : Nat) : Dv m (mul a b) := by
  obtain ⟨p, rfl⟩ := ha
  exact ⟨mul p b, by rw [mul_assoc, mul_assoc, mul_comm m b]⟩
theorem Dv_mul' {m a : Nat} (ha : Dv m a) (b : Nat) : Dv m (mul b a) := by rw [mul_comm]; exact Dv_mul ha b
theorem Dv_trans {a b c : Nat} (h : Dv a b) (k : Dv b c) : Dv a c := by
  obtain ⟨q, rfl⟩ := k
  exact Dv_mul' h q
theorem Dv_small {m a : Nat} (h : Dv m a) (hl : L a < L m) : a = 0 := by
  obtain ⟨q, rfl⟩ := h
  by_cases hq : q = 0
  · rw [hq, zero_mul]
  · by_cases hm : m = 0
    · rw [hm, mul_zero]
    · have := L_mul hq hm; have := L_pos hq; omega
theorem Dv_L {m a : Nat} (h : Dv m a) (ha : a ≠ 0) : L m ≤ L a := by
  by_cases hl : L a < L m
  · exact absurd (Dv_small h hl) ha
  · omega
theorem md_unique {a m r : Nat} (hm : m ≠ 0) (h1 : L r < L m) (h2 : Dv m (a ^^^ r)) : md a m = r := by
  obtain ⟨g1, g2⟩ := md_spec m hm a
  have d : Dv m (md a m ^^^ r) := by
    rw [Nat.xor_comm] at g2
    have := Dv_xor g2 h2
    rwa [← Nat.xor_assoc, xor_cancel] at this
  have := Dv_small d (by have := L_xor_le (md a m) r; omega)
  exact xor_eq_zero this
/-- Congruent by m. -/
def Cg (m a b : Nat) : Prop := Dv m (a ^^^ b)
theorem Cg_refl (m a : Nat) : Cg m a a := by unfold Cg; rw [Nat.xor_self]; exact Dv_zero m
theorem Cg_symm {m a b : Nat} (h : Cg m a b) : Cg m b a := by unfold Cg at *; rw [Nat.xor_comm]; exact h
theorem Cg_trans {m a b c : Nat} (h : Cg m a b) (k : Cg m b c) : Cg m a c := by
  unfold Cg at *
  have := Dv_xor h k
  rwa [← Nat.xor_assoc, xor_cancel] at this
theorem Cg_xor {m a b c d : Nat} (h : Cg m a b) (k : Cg m c d) : Cg m (a ^^^ c) (b ^^^ d) := by
  unfold Cg at *
  rw [xor_four]; exact Dv_xor h k
theorem Cg_mul {m a b c d : Nat} (h : Cg m a b) (k : Cg m c d) : Cg m (mul a c) (mul b d) := by
  unfold Cg at *
  have e : mul a c ^^^ mul b d = mul (a ^^^ b) c ^^^ mul b (c ^^^ d) := by
    rw [xor_mul, mul_xor, ← Nat.xor_assoc, xor_cancel]
  rw [e]; exact Dv_xor (Dv_mul h c) (Dv_mul' k b)
theorem Cg_of_Dv {p m a b : Nat} (hp : Dv p m) (h : Cg m a b) : Cg p a b := Dv_trans hp h
theorem Cg_md {m : Nat} (hm : m ≠ 0) (a : Nat) : Cg m (md a m) a := Cg_symm (md_spec m hm a).2
theorem md_L {m : Nat} (hm : m ≠ 0) (a : Nat) : L (md a m) < L m := (md_spec m hm a).1
theorem md_congr {m a b : Nat} (hm : m ≠ 0) (h : Cg m a b) : md a m = md b m :=
  md_unique hm (md_L hm b) (Cg_trans h (Cg_symm (Cg_md hm b)))
theorem md_eq_zero {m a : Nat} (hm : m ≠ 0) : md a m = 0 ↔ Dv m a := by
  constructor
  · intro h
    have := (md_spec m hm a).2
    rwa [h, Nat.xor_zero] at this
  · intro h
    exact md_unique hm (by rw [L_zero]; exact L_pos hm) (by rwa [Nat.xor_zero])
theorem md_xor {m : Nat} (hm : m ≠ 0) (a b : Nat) : md (a ^^^ b) m = md a m ^^^ md b m :=
  md_unique hm (by have := L_xor_le (md a m) (md b m); have := md_L hm a; have := md_L hm b; omega) (Cg_symm (Cg_xor (Cg_md hm a) (Cg_md hm b)))
theorem md_mul_md {m : Nat} (hm : m ≠ 0) (a b : Nat) : md (mul (md a m) b) m = md (mul a b) m := md_congr hm (Cg_mul (Cg_md hm a) (Cg_refl m b))
theorem md_mul_md' {m : Nat} (hm : m ≠ 0) (a b : Nat) : md (mul a (md b m)) m = md (mul a b) m := md_congr hm (Cg_mul (Cg_refl m a) (Cg_md hm b))
theorem md_md {m : Nat} (a : Nat) : md (md a m) m = md a m := by
  by_cases hm : m = 0
  · subst hm; rw [md, dif_neg (by omega)]
  · exact md_small (md_L hm a)

/-! ### greatest common divisors -/
def gcd (a b : Nat) : Nat := if h : b = 0 then a else gcd b (md a b)
termination_by L b
decreasing_by exact md_L h a
theorem gcd_zero (a : Nat) : gcd a 0 = a := by rw [gcd, dif_pos rfl]
theorem gcd_step {a b : Nat} (h : b ≠ 0) : gcd a b = gcd b (md a b) := by rw [gcd, dif_neg h]
theorem gcd_spec : ∀ b a, Dv (gcd a b) a ∧ Dv (gcd a b) b ∧ ∃ x y, gcd a b = mul x a ^^^ mul y b := by
  intro b
  generalize hn : L b = n
  induction n using Nat.strongRecOn generalizing b with
  | _ n ih =>
    intro a
    by_cases hb : b = 0
    · subst hb; rw [gcd_zero]; exact ⟨Dv_refl a, Dv_zero a, 1, 0, by rw [one_mul, mul_zero, Nat.xor_zero]⟩
    · rw [gcd_step hb]
      obtain ⟨i1, i2, x, y, i3⟩ := ih (L (md a b)) (by have := md_L hb a; omega) _ rfl b
      obtain ⟨q, hq⟩ := (md_spec b hb a).2
      have ea : a = mul q b ^^^ md a b := by rw [← hq, xor_cancel]
      refine ⟨?_, i1, y, x ^^^ mul y q, ?_⟩
      · have := Dv_xor (Dv_mul' i1 q) i2
        rwa [← ea] at this
      · have er : md a b = a ^^^ mul q b := by rw [← hq, ← Nat.xor_assoc, Nat.xor_self, Nat.zero_xor]
        conv => lhs; rw [i3]; rw [er]
        rw [mul_xor, xor_mul, mul_assoc, Nat.xor_comm, Nat.xor_assoc]
        congr 1
        rw [Nat.xor_comm]
theorem gcd_left (a b : Nat) : Dv (gcd a b) a := (gcd_spec b a).1
theorem gcd_right (a b : Nat) : Dv (gcd a b) b := (gcd_spec b a).2.1
theorem Dv_gcd {d a b : Nat} (ha : Dv d a) (hb : Dv d b) : Dv d (gcd a b) := by
  obtain ⟨_, _, x, y, h⟩ := gcd_spec b a
  rw [h]; exact Dv_xor (Dv_mul' ha x) (Dv_mul' hb y)
theorem Dv_antisymm {a b : Nat} (h : Dv a b) (k : Dv b a) : a = b := by
  obtain ⟨p, rfl⟩ := h
  by_cases ha : a = 0
  · rw [ha, mul_zero]
  · obtain ⟨q, hq⟩ := k
    rw [← mul_assoc] at hq
    have h1 : mul q p = 1 := mul_cancel ha (by rw [one_mul]; exact hq.symm)
    have hq0 : q ≠ 0 := by rintro rfl; rw [zero_mul] at h1; omega
    have hp0 : p ≠ 0 := by rintro rfl; rw [mul_zero] at h1; omega
    have l := L_mul hq0 hp0
    have l1 : L 1 = 1 := by decide
    rw [h1, l1] at l
    have := L_pos hq0; have := L_pos hp0
    have lp : L p = 1 := by omega
    have b := L_bd p
    rw [lp] at b
    have : p = 1 := by omega
    rw [this, one_mul]
theorem gcd_unique {g a b : Nat} (h1 : Dv g a) (h2 : Dv g b) (h3 : ∀ d, Dv d a → Dv d b → Dv d g) : gcd a b = g :=
  Dv_antisymm (h3 _ (gcd_left a b) (gcd_right a b)) (Dv_gcd h1 h2)
theorem gcd_comm (a b : Nat) : gcd a b = gcd b a := gcd_unique (gcd_right b a) (gcd_left b a) (fun _ h k => Dv_gcd k h)
theorem gcd_congr {a b c : Nat} (h : Cg a b c) : gcd a b = gcd a c := by
  refine gcd_unique (gcd_left a c) ?_ (fun d hd hb => Dv_gcd hd ?_)
  · have := Dv_xor (Dv_trans (gcd_left a c) h) (gcd_right a c)
    rwa [xor_cancel] at this
  · have := Dv_xor (Dv_trans hd h) hb
    rwa [Nat.xor_comm b c, xor_cancel] at this
end Go.Proofs.Ytoofafgnlgaajaa.GF
namespace Go.Proofs.Ytoofafgnlgaajaa.GF
/-! ## Irreducible polynomials -/
def Irr (p : Nat) : Prop := 1 < L p ∧ ∀ d, Dv d p → d = 1 ∨ d = p
theorem Irr.ne {p : Nat} (h : Irr p) : p ≠ 0 := by rintro rfl; have := h.1; rw [L_zero] at this; omega
theorem L_one : L 1 = 1 := by decide
theorem L_two : L 2 = 2 := by decide
theorem eq_one_of_L {a : Nat} (h : L a = 1) : a = 1 := by
  have b := L_bd a
  have c : a ≠ 0 := by rintro rfl; rw [L_zero] at h; omega
  rw [h] at b; omega
theorem Irr.not_one {p : Nat} (h : Irr p) : ¬ Dv p 1 := fun d => by
  have := Dv_L d (by omega)
  have := h.1
  rw [L_one] at *; omega
theorem Irr.gcd_or {p : Nat} (h : Irr p) (a : Nat) : gcd p a = 1 ∨ Dv p a := by
  rcases h.2 _ (gcd_left p a) with g | g
  · exact .inl g
  · right; have := gcd_right p a; rwa [g] at this
theorem Irr.prime {p a b : Nat} (h : Irr p) (hd : Dv p (mul a b)) : Dv p a ∨ Dv p b := by
  rcases h.gcd_or a with g | g
  · right
    obtain ⟨_, _, x, y, e⟩ := gcd_spec a p
    rw [g] at e
    have : b = mul (mul x b) p ^^^ mul y (mul a b) := by
      conv => lhs; rw [← one_mul b, e, xor_mul]
      rw [mul_assoc, mul_assoc, mul_comm p b, ← mul_assoc]
    rw [this]
    exact Dv_xor ⟨_, rfl⟩ (Dv_mul' hd y)
  · exact .inl g
/-- There is an irreducible divisor. -/
theorem exists_irr (p : Nat) (hp : 1 < L p) : ∃ f, Irr f ∧ Dv f p := by
  generalize hn : L p = n
  induction n using Nat.strongRecOn generalizing p with
  | _ n ih =>
    by_cases h : ∃ d, Dv d p ∧ d ≠ 1 ∧ d ≠ p
    · obtain ⟨d, hd, h1, h2⟩ := h
      obtain ⟨e, he⟩ := hd
      have p0 : p ≠ 0 := by rintro rfl; rw [L_zero] at hp; omega
      have d0 : d ≠ 0 := by rintro rfl; rw [mul_zero] at he; exact p0 he
      have e0 : e ≠ 0 := by rintro rfl; rw [zero_mul] at he; exact p0 he
      have le := L_mul e0 d0
      rw [← he] at le
      have pe := L_pos e0
      have pd := L_pos d0
      have e1 : L e ≠ 1 := by
        intro h; rw [eq_one_of_L h, one_mul] at he; exact h2 he.symm
      have d1 : L d ≠ 1 := fun h => h1 (eq_one_of_L h)
      obtain ⟨f, hf, hfd⟩ := ih (L d) (by omega) d (by omega) rfl
      exact ⟨f, hf, Dv_trans hfd ⟨e, he⟩⟩
    · refine ⟨p, ⟨hp, fun d hd => ?_⟩, Dv_refl p⟩
      by_cases c : d = 1
      · exact .inl c
      · by_cases c' : d = p
        · exact .inr c'
        · exact absurd ⟨d, hd, c, c'⟩ h
/-- What is reducible has an irreducible divisor of at most half its degree. -/
theorem exists_small {p : Nat} (hp : 1 < L p) (h : ¬ Irr p) : ∃ f, Irr f ∧ Dv f p ∧ 2 * (L f - 1) ≤ L p - 1 := by
  have h : ∃ d, Dv d p ∧ d ≠ 1 ∧ d ≠ p := by
    apply Classical.byContradiction
    intro hn
    refine h ⟨hp, fun d hd => ?_⟩
    by_cases c : d = 1
    · exact .inl c
    · by_cases c' : d = p
      · exact .inr c'
      · exact absurd ⟨d, hd, c, c'⟩ hn
  obtain ⟨d, ⟨e, he⟩, h1, h2⟩ := h
  have p0 : p ≠ 0 := by rintro rfl; rw [L_zero] at hp; omega
  have d0 : d ≠ 0 := by rintro rfl; rw [mul_zero] at he; exact p0 he
  have e0 : e ≠ 0 := by rintro rfl; rw [zero_mul] at he; exact p0 he
  have le := L_mul e0 d0
  rw [← he] at le
  have pe := L_pos e0
  have pd := L_pos d0
  have e1 : L e ≠ 1 := by
    intro h; rw [eq_one_of_L h, one_mul] at he; exact h2 he.symm
  have d1 : L d ≠ 1 := fun h => h1 (eq_one_of_L h)
  by_cases c : L d ≤ L e
  · obtain ⟨f, hf, hfd⟩ := exists_irr d (by omega)
    have := Dv_L hfd d0
    exact ⟨f, hf, Dv_trans hfd ⟨e, he⟩, by omega⟩
  · obtain ⟨f, hf, hfe⟩ := exists_irr e (by omega)
    have := Dv_L hfe e0
    exact ⟨f, hf, Dv_trans hfe ⟨d, by rw [he, mul_comm]⟩, by omega⟩

/-! ## Powers -/
/-- a to the power 2^i. -/
def pw (a : Nat) : Nat → Nat
  | 0 => a
  | i + 1 => mul (pw a i) (pw a i)
theorem sq_xor (a b : Nat) : mul (a ^^^ b) (a ^^^ b) = mul a a ^^^ mul b b := by
  rw [xor_mul, mul_xor, mul_xor, mul_comm b a, Nat.xor_assoc, ← Nat.xor_assoc (mul a b), Nat.xor_self, Nat.zero_xor]
theorem pw_xor (a b : Nat) (i : Nat) : pw (a ^^^ b) i = pw a i ^^^ pw b i := by
  induction i with
  | zero => rfl
  | succ i ih => simp only [pw]; rw [ih, sq_xor]
theorem pw_mul (a b : Nat) (i : Nat) : pw (mul a b) i = mul (pw a i) (pw b i) := by
  induction i with
  | zero => rfl
  | succ i ih => simp only [pw]; rw [ih, mul_assoc, mul_assoc, mul_left_comm (pw b i)]
theorem pw_one (i : Nat) : pw 1 i = 1 := by
  induction i with
  | zero => rfl
  | succ i ih => simp only [pw]; rw [ih, mul_one]
theorem pw_zero (i : Nat) : pw 0 i = 0 := by
  induction i with
  | zero => rfl
  | succ i ih => simp only [pw]; rw [ih, mul_zero]
theorem pw_add (a i j : Nat) : pw a (i + j) = pw (pw a i) j := by
  induction j with
  | zero => rfl
  | succ j ih => rw [← Nat.add_assoc]; simp only [pw]; rw [ih]
theorem pw_congr {m a b : Nat} (h : Cg m a b) (i : Nat) : Cg m (pw a i) (pw b i) := by
  induction i with
  | zero => exact h
  | succ i ih => exact Cg_mul ih ih
/-- a to the power n. -/
def np (a : Nat) : Nat → Nat
  | 0 => 1
  | n + 1 => mul a (np a n)
theorem np_add (a i j : Nat) : np a (i + j) = mul (np a i) (np a j) := by
  induction i with
  | zero => simp only [np, Nat.zero_add]; rw [one_mul]
  | succ i ih => rw [Nat.succ_add]; simp only [np]; rw [ih, mul_assoc]
theorem np_pw (a i : Nat) : np a (2 ^ i) = pw a i := by
  induction i with
  | zero => simp only [Nat.pow_zero, np, pw]; rw [mul_one]
  | succ i ih => rw [Nat.pow_succ, Nat.mul_two, np_add, ih]; rfl
/-- If the powers of x come round, so do all powers. -/
theorem all_round {m i : Nat} (h : Cg m (pw 2 i) 2) (a : Nat) : Cg m (pw a i) a := by
  induction a using bin_rec with
  | h0 => rw [pw_zero]; exact Cg_refl m 0
  | h a _ ih =>
    have e : a = (a % 2) ^^^ mul 2 (a / 2) := by
      have := split2 a
      rwa [show 2 * (a / 2) = mul 2 (a / 2) from by rw [show (2 : Nat) = 2 * 1 from rfl, two_mul_mul, one_mul]] at this
    have b : Cg m (pw (a % 2) i) (a % 2) := by
      rcases Nat.mod_two_eq_zero_or_one a with h | h
      · rw [h, pw_zero]; exact Cg_refl m 0
      · rw [h, pw_one]; exact Cg_refl m 1
    have c := Cg_xor b (Cg_mul h ih)
    rw [← pw_mul, ← pw_xor, ← e] at c
    exact c

/-! ## Roots -/
def ev : List Nat → Nat → Nat
  | [], _ => 0
  | c :: l, t => c ^^^ mul t (ev l t)
def qu : List Nat → Nat → List Nat
  | [], _ => []
  | _ :: l, r => match l with
    | [] => []
    | _ :: _ => ev l r :: qu l r
theorem qu_cons (a b : Nat) (l : List Nat) (r : Nat) : qu (a :: b :: l) r = ev (b :: l) r :: qu (b :: l) r := rfl
theorem qu_length (l : List Nat) (r : Nat) : (qu l r).length = l.length - 1 := by
  induction l with
  | nil => rfl
  | cons a l ih =>
    cases l with
    | nil => rfl
    | cons b l => rw [qu_cons, List.length_cons, ih]; simp
theorem ev_qu (l : List Nat) (r t : Nat) : ev l t ^^^ ev l r = mul (t ^^^ r) (ev (qu l r) t) := by
  induction l with
  | nil => simp [ev, qu, mul_zero]
  | cons a l ih =>
    cases l with
    | nil => simp [ev, qu, mul_zero]
    | cons b l =>
      rw [qu_cons]
      generalize hl : b :: l = m at *
      simp only [ev]
      have e : ∀ u v, (a ^^^ u) ^^^ (a ^^^ v) = u ^^^ v := by
        intro u v; rw [xor_four, Nat.xor_self, Nat.zero_xor]
      rw [e]
      have h : mul t (ev m t) ^^^ mul r (ev m r) = mul t (ev m t ^^^ ev m r) ^^^ mul (t ^^^ r) (ev m r) := by
        rw [mul_xor, xor_mul, xor_four, Nat.xor_assoc]
        congr 1
        generalize mul t (ev m r) = u
        generalize mul r (ev m r) = v
        rw [← Nat.xor_assoc, Nat.xor_self, Nat.zero_xor]
      rw [h, ih, mul_xor, ← mul_assoc, mul_comm t (t ^^^ r), mul_assoc, Nat.xor_comm]
theorem coef_zero {f : Nat} (l : List Nat) (r : Nat) (h : Dv f (ev l r)) (hq : ∀ x ∈ qu l r, Dv f x) : ∀ x ∈ l, Dv f x := by
  induction l with
  | nil => intro x hx; cases hx
  | cons a l ih =>
    cases l with
    | nil =>
      intro x hx
      rw [List.mem_singleton] at hx
      subst hx
      simpa [ev, mul_zero] using h
    | cons b l =>
      rw [qu_cons] at hq
      have h1 : Dv f (ev (b :: l) r) := hq _ (List.mem_cons_self)
      have h2 := ih h1 (fun x hx => hq x (List.mem_cons_of_mem _ hx))
      intro x hx
      rcases List.mem_cons.1 hx with rfl | hx
      · have : ev (x :: b :: l) r = x ^^^ mul r (ev (b :: l) r) := rfl
        rw [this] at h
        have := Dv_xor h (Dv_mul' h1 r)
        rwa [xor_cancel] at this
      · exact h2 x hx
/-- No more roots than the degree. -/
theorem roots {f : Nat} (hf : Irr f) : ∀ (rs l : List Nat), rs.Pairwise (fun a b => ¬ Cg f a b) → (∀ r ∈ rs, Dv f (ev l r)) → l.length ≤ rs.length → ∀ x ∈ l, Dv f x := by
  intro rs
  induction rs with
  | nil =>
    intro l _ _ hl x hx
    cases l with
    | nil => cases hx
    | cons _ _ => simp at hl
  | cons r rs ih =>
    intro l hp hr hl
    cases l with
    | nil => intro x hx; cases hx
    | cons a l =>
      rw [List.pairwise_cons] at hp
      have h0 := hr r List.mem_cons_self
      refine coef_zero (a :: l) r h0 (ih (qu (a :: l) r) hp.2 (fun t ht => ?_) ?_)
      · have h1 := hr t (List.mem_cons_of_mem _ ht)
        have h2 := Dv_xor h1 h0
        rw [ev_qu] at h2
        rcases hf.prime h2 with h3 | h3
        · exact absurd (Cg_symm h3) (hp.1 t ht)
        · exact h3
      · rw [qu_length]; simp at hl ⊢; omega
theorem ev_zeros (k t : Nat) : ev (List.replicate k 0 ++ [1]) t = np t k := by
  induction k with
  | zero => simp [ev, np, mul_zero]
  | succ k ih => rw [List.replicate_succ, List.cons_append]; simp only [ev, np]; rw [ih, Nat.zero_xor]
/-- Residues are unlike. -/
theorem range_unlike {f n : Nat} (hl : L f = n + 1) : (List.range (2 ^ n)).Pairwise (fun a b => ¬ Cg f a b) := by
  rw [List.pairwise_iff_getElem]
  intro i j hi hj hij h
  rw [List.getElem_range, List.getElem_range] at h
  rw [List.length_range] at hi hj
  have := L_le.2 hi
  have := L_le.2 hj
  have := L_xor_le i j
  have z := Dv_small h (by omega)
  have := xor_eq_zero z
  omega
/-- If the powers of x come round behind i, the degree is at most i. -/
theorem deg_le {f n i : Nat} (hf : Irr f) (hl : L f = n + 1) (hi : 1 ≤ i) (h : Cg f (pw 2 i) 2) : n ≤ i := by
  apply Classical.byContradiction
  intro hn
  have p : 2 ^ i < 2 ^ n := Nat.pow_lt_pow_right (by omega) (by omega)
  have p2 : 2 ≤ 2 ^ i := by
    have := Nat.pow_le_pow_right (n := 2) (by omega) hi
    simpa using this
  have key := roots hf (List.range (2 ^ n)) (0 :: 1 :: (List.replicate (2 ^ i - 2) 0 ++ [1])) (range_unlike hl) (fun t _ => by
    have e : ev (0 :: 1 :: (List.replicate (2 ^ i - 2) 0 ++ [1])) t = t ^^^ pw t i := by
      simp only [ev]
      rw [ev_zeros, Nat.zero_xor, mul_xor, mul_one, ← np_pw]
      congr 1
      have : 2 ^ i = (2 ^ i - 2) + 1 + 1 := by omega
      conv => rhs; rw [this]
      rfl
    rw [e]
    exact Cg_symm (all_round h t)) (by simp; omega)
  exact hf.not_one (key 1 (by simp))

/-! ## Fermat -/
def prod (l : List Nat) : Nat := l.foldr mul 1
theorem prod_perm {l m : List Nat} (h : l.Perm m) : prod l = prod m := by
  induction h with
  | nil => rfl
  | cons a _ ih => show mul a (prod _) = mul a (prod _); rw [ih]
  | swap a b l => show mul b (mul a (prod l)) = mul a (mul b (prod l)); rw [mul_left_comm]
  | trans _ _ ih1 ih2 => rw [ih1, ih2]
theorem prod_map {m y : Nat} (hm : m ≠ 0) (l : List Nat) : Cg m (prod (l.map fun r => md (mul y r) m)) (mul (np y l.length) (prod l)) := by
  induction l with
  | nil => simp only [List.map_nil, List.length_nil, np]; rw [one_mul]; exact Cg_refl m _
  | cons a l ih =>
    show Cg m (mul (md (mul y a) m) (prod _)) (mul (mul y (np y l.length)) (mul a (prod l)))
    have := Cg_mul (Cg_md hm (mul y a)) ih
    have e : mul (mul y (np y l.length)) (mul a (prod l)) = mul (mul y a) (mul (np y l.length) (prod l)) := by
      rw [mul_assoc, mul_assoc, mul_left_comm (np y l.length)]
    rw [e]; exact this
theorem prod_unit {f : Nat} (hf : Irr f) (l : List Nat) (h : ∀ x ∈ l, ¬ Dv f x) : ¬ Dv f (prod l) := by
  induction l with
  | nil => exact hf.not_one
  | cons a l ih =>
    intro hd
    rcases hf.prime (show Dv f (mul a (prod l)) from hd) with h1 | h1
    · exact h a List.mem_cons_self h1
    · exact ih (fun x hx => h x (List.mem_cons_of_mem _ hx)) h1
theorem nodup_map {α β : Type} {g : α → β} {l : List α} (hl : l.Nodup) (hg : ∀ x ∈ l, ∀ y ∈ l, g x = g y → x = y) : (l.map g).Nodup := by
  induction l with
  | nil => exact List.nodup_nil
  | cons a l ih =>
    rw [List.map_cons, List.nodup_cons]
    rw [List.nodup_cons] at hl
    refine ⟨fun hm => ?_, ih hl.2 (fun x hx y hy => hg x (List.mem_cons_of_mem _ hx) y (List.mem_cons_of_mem _ hy))⟩
    obtain ⟨x, hx, e⟩ := List.mem_map.1 hm
    have := hg x (List.mem_cons_of_mem _ hx) a List.mem_cons_self e
    subst this
    exact hl.1 hx
theorem perm_of {l m : List Nat} (hl : l.Nodup) (hm : m.Nodup) (h : ∀ x, x ∈ l ↔ x ∈ m) : l.Perm m := by
  rw [List.perm_iff_count]
  intro a
  by_cases ha : a ∈ l
  · rw [List.Nodup.count hl, List.Nodup.count hm, if_pos ha, if_pos ((h a).1 ha)]
  · rw [List.count_eq_zero_of_not_mem ha, List.count_eq_zero_of_not_mem (fun c => ha ((h a).2 c))]
theorem fermat {f n : Nat} (hf : Irr f) (hl : L f = n + 1) (y : Nat) : Cg f (pw y n) y := by
  by_cases hy : Dv f y
  · have a : Cg f y 0 := by unfold Cg; rwa [Nat.xor_zero]
    have b := pw_congr a n
    rw [pw_zero] at b
    exact Cg_trans b (Cg_symm a)
  · have f0 := hf.ne
    obtain ⟨z, hz⟩ : ∃ z, Cg f (mul z y) 1 := by
      rcases hf.gcd_or y with g | g
      · obtain ⟨_, _, u, v, e⟩ := gcd_spec y f
        rw [g] at e
        refine ⟨v, ?_⟩
        unfold Cg
        rw [e, Nat.xor_comm, xor_cancel]
        exact ⟨u, rfl⟩
      · exact absurd g hy
    have np0 := Nat.two_pow_pos n
    let S := List.range' 1 (2 ^ n - 1)
    have memS : ∀ x, x ∈ S ↔ x ≠ 0 ∧ L x < L f := by
      intro x
      show x ∈ List.range' 1 (2 ^ n - 1) ↔ _
      rw [List.mem_range'_1, hl, Nat.lt_succ_iff, L_le]
      omega
    have SN : S.Nodup := List.nodup_range' 
    have inS : ∀ w, ¬ Dv f w → md w f ∈ S := by
      intro w hw
      rw [memS]
      exact ⟨fun h => hw ((md_eq_zero f0).1 h), md_L f0 w⟩
    have nd : ∀ x ∈ S, ¬ Dv f x := by
      intro x hx hd
      rw [memS] at hx
      exact hx.1 (Dv_small hd hx.2)
    have nz : ¬ Dv f z := by
      intro h
      have := Dv_xor (Dv_mul h y) hz
      rw [← Nat.xor_assoc, Nat.xor_self, Nat.zero_xor] at this
      exact hf.not_one this
    have inv : ∀ u v x, Cg f (mul v u) 1 → x ∈ S → md (mul v (md (mul u x) f)) f = x := by
      intro u v x h hx
      rw [md_mul_md' f0, ← mul_assoc]
      have : md (mul (mul v u) x) f = md (mul 1 x) f := md_congr f0 (Cg_mul h (Cg_refl f x))
      rw [this, one_mul]
      exact md_small ((memS x).1 hx).2
    have hp : (S.map fun r => md (mul y r) f).Perm S := by
      refine perm_of (nodup_map SN (fun a ha b hb e => ?_)) SN (fun x => ⟨fun hx => ?_, fun hx => ?_⟩)
      · have i1 := inv y z a hz ha
        have i2 := inv y z b hz hb
        rw [← i1, ← i2, e]
      · obtain ⟨r, hr, rfl⟩ := List.mem_map.1 hx
        refine inS _ (fun h => ?_)
        rcases hf.prime h with h | h
        · exact hy h
        · exact nd r hr h
      · refine List.mem_map.2 ⟨md (mul z x) f, inS _ (fun h => ?_), inv z y x (by rw [mul_comm]; exact hz) hx⟩
        rcases hf.prime h with h | h
        · exact nz h
        · exact nd x hx h
    have c := prod_map (y := y) f0 S
    rw [prod_perm hp] at c
    have len : S.length = 2 ^ n - 1 := List.length_range'
    rw [len] at c
    have u := prod_unit hf S nd
    have d : Dv f (mul (1 ^^^ np y (2 ^ n - 1)) (prod S)) := by
      rw [xor_mul, one_mul]; exact c
    rcases hf.prime d with d | d
    · have e : pw y n = mul y (np y (2 ^ n - 1)) := by
        rw [← np_pw]
        have : 2 ^ n = (2 ^ n - 1) + 1 := by omega
        conv => lhs; rw [this]
        rfl
      rw [e]
      have := Cg_mul (Cg_refl f y) (Cg_symm (show Cg f 1 (np y (2 ^ n - 1)) from d))
      rwa [mul_one] at this
    · exact absurd d u
/-- The powers come round behind each multiple of the degree, and behind nothing else. -/
theorem round_mul {f n : Nat} (hf : Irr f) (hl : L f = n + 1) (k : Nat) : Cg f (pw 2 (n * k)) 2 := by
  induction k with
  | zero => exact Cg_refl f 2
  | succ k ih =>
    rw [Nat.mul_succ, pw_add]
    exact Cg_trans (pw_congr ih n) (fermat hf hl 2)
theorem round_dvd {f n i : Nat} (hf : Irr f) (hl : L f = n + 1) (h : Cg f (pw 2 i) 2) : n ∣ i := by
  have n1 : 1 ≤ n := by have := hf.1; omega
  have e : i = n * (i / n) + i % n := (Nat.div_add_mod i n).symm
  rw [e, pw_add] at h
  have h2 : Cg f (pw 2 (i % n)) 2 := Cg_trans (Cg_symm (pw_congr (round_mul hf hl (i / n)) (i % n))) h
  by_cases c : i % n = 0
  · exact Nat.dvd_of_mod_eq_zero c
  · have := deg_le hf hl (by omega) h2
    have := Nat.mod_lt i n1
    omega

/-! ## The two tests -/
/-- Ben-Or's test. -/
theorem ben_or {p : Nat} (hp : 1 < L p) : Irr p ↔ ∀ i, 1 ≤ i → 2 * i ≤ L p - 1 → gcd p (pw 2 i ^^^ 2) = 1 := by
  constructor
  · intro h i h1 h2
    rcases h.gcd_or (pw 2 i ^^^ 2) with g | g
    · exact g
    · have := deg_le (n := L p - 1) h (by omega) h1 g
      omega
  · intro h
    apply Classical.byContradiction
    intro hn
    obtain ⟨f, hf, hd, hl⟩ := exists_small hp hn
    have f1 := hf.1
    have g := h (L f - 1) (by omega) hl
    have := Dv_gcd hd (fermat (n := L f - 1) hf (by omega) 2)
    rw [g] at this
    exact hf.not_one this
/-- Rabin's test. -/
theorem rabin {p : Nat} (hp : 1 < L p) (qs : List Nat) (h1 : ∀ q ∈ qs, 2 ≤ q ∧ q ∣ L p - 1) (h2 : ∀ k, 2 ≤ k → k ∣ L p - 1 → ∃ q ∈ qs, q ∣ k) :
    Irr p ↔ (∀ q ∈ qs, gcd p (pw 2 ((L p - 1) / q) ^^^ 2) = 1) ∧ Cg p (pw 2 (L p - 1)) 2 := by
  constructor
  · intro h
    refine ⟨fun q hq => ?_, fermat h (by omega) 2⟩
    obtain ⟨q2, k, hk⟩ := h1 q hq
    rcases h.gcd_or (pw 2 ((L p - 1) / q) ^^^ 2) with g | g
    · exact g
    · have e : (L p - 1) / q = k := by rw [hk, Nat.mul_div_cancel_left _ (by omega)]
      rw [e] at g
      have k0 : k ≠ 0 := by rintro rfl; rw [Nat.mul_zero] at hk; omega
      have := deg_le (n := L p - 1) h (by omega) (by omega) g
      have : 2 * k ≤ q * k := Nat.mul_le_mul_right k q2
      omega
  · intro ⟨hg, hc⟩
    apply Classical.byContradiction
    intro hn
    obtain ⟨f, hf, hd, hl⟩ := exists_small hp hn
    have f1 := hf.1
    have lf : L f = (L f - 1) + 1 := by omega
    obtain ⟨k, hk⟩ := round_dvd hf lf (Cg_of_Dv hd hc)
    have k2 : 2 ≤ k := by
      apply Classical.byContradiction
      intro c
      have : k = 0 ∨ k = 1 := by omega
      rcases this with rfl | rfl
      · rw [Nat.mul_zero] at hk; omega
      · rw [Nat.mul_one] at hk; omega
    obtain ⟨q, hq, j, hj⟩ := h2 k k2 ⟨L f - 1, by rw [hk, Nat.mul_comm]⟩
    have q2 := (h1 q hq).1
    have e : (L p - 1) / q = (L f - 1) * j := by
      rw [hk, hj, Nat.mul_left_comm, Nat.mul_div_cancel_left _ (by omega)]
    have g := hg q hq
    rw [e] at g
    have := Dv_gcd hd (round_mul hf lf j)
    rw [g] at this
    exact hf.not_one this
end Go.Proofs.Ytoofafgnlgaajaa.GF
