/- Plain calendar arithmetic: days, dates, weeks. No program in sight. Conditions: none. -/
import Derived.RowKit
namespace Go.Proofs.Ytlgjojhenohjnaa.CM
open Go.RowKit

theorem w64 {x : Int} (h0 : -9223372036854775808 ≤ x) (h1 : x ≤ 9223372036854775807) : wrap64 x = x := by
  unfold wrap64; omega
theorem td {x c : Int} (h : 0 ≤ x) : Int.tdiv x c = x / c := Int.tdiv_eq_ediv_of_nonneg h
theorem tm {x c : Int} (h : 0 ≤ x) : Int.tmod x c = x % c := Int.tmod_eq_emod_of_nonneg h
theorem tm0 (x c : Int) : (Int.tmod x c = 0) = (x % c = 0) := by
  rw [← Int.dvd_iff_tmod_eq_zero, ← Int.dvd_iff_emod_eq_zero]

/-- Go's quotient and remainder by the rounded-down ones. -/
theorem tdm (a c : Int) (hc : 0 < c) : Int.tdiv a c = (if Int.tmod a c < 0 then a / c + 1 else a / c) ∧ Int.tmod a c = (if Int.tmod a c < 0 then a % c - c else a % c) := by
  by_cases h : 0 ≤ a
  · have e1 := td (c := c) h; have e2 := tm (c := c) h
    have := Int.emod_nonneg a (by omega : c ≠ 0)
    rw [if_neg (by omega), if_neg (by omega)]; exact ⟨e1, e2⟩
  · have e1 : Int.tdiv a c = -((-a) / c) := by
      rw [← Int.tdiv_eq_ediv_of_nonneg (by omega : 0 ≤ -a), Int.neg_tdiv, Int.neg_neg]
    have e2 : Int.tmod a c = -((-a) % c) := by
      rw [← Int.tmod_eq_emod_of_nonneg (by omega : 0 ≤ -a), Int.neg_tmod, Int.neg_neg]
    have r0 := Int.emod_nonneg (-a) (by omega : c ≠ 0)
    have r1 := Int.emod_lt_of_pos (-a) hc
    have s := Int.mul_ediv_add_emod (-a) c
    have s0 := Int.emod_nonneg a (by omega : c ≠ 0)
    have s1 := Int.emod_lt_of_pos a hc
    have t := Int.mul_ediv_add_emod a c
    have key : ∀ q q' r r' : Int, c * q + r = -a → c * q' + r' = a → 0 ≤ r → r < c → 0 ≤ r' → r' < c → (if -r < 0 then (-q = q' + 1 ∧ -r = r' - c) else (-q = q' ∧ -r = r')) := by
      intro q q' r r' h1 h2 h3 h4 h5 h6
      have h7 : c * (q + q') + (r + r') = 0 := by rw [Int.mul_add]; omega
      have h8 : q + q' = 0 ∨ q + q' = -1 := by
        by_cases x : 1 ≤ q + q'
        · have := Int.mul_le_mul_of_nonneg_left x (by omega : 0 ≤ c); omega
        · by_cases y : q + q' ≤ -2
          · have := Int.mul_le_mul_of_nonneg_left y (by omega : 0 ≤ c); omega
          · omega
      rcases h8 with h8 | h8
      · rw [h8] at h7
        have : c * 0 = 0 := Int.mul_zero c
        rw [if_neg (by omega)]; omega
      · rw [h8] at h7
        have : c * (-1) = -c := by omega
        rw [if_pos (by omega)]; omega
    have kk := key _ _ _ _ s t r0 r1 s0 s1
    rw [e1, e2]
    by_cases hn : -(-a % c) < 0
    · rw [if_pos hn] at kk; rw [if_pos hn, if_pos hn]; exact kk
    · rw [if_neg hn] at kk; rw [if_neg hn, if_neg hn]; exact kk
theorem ediv_bd (a c : Int) (hc : 0 < c) : (0 ≤ a → 0 ≤ a / c ∧ a / c ≤ a) ∧ (a < 0 → a ≤ a / c ∧ a / c < 0) := by
  refine ⟨fun h => ⟨Int.ediv_nonneg h (by omega), Int.ediv_le_self c h⟩, fun h => ⟨?_, Int.ediv_neg_of_neg_of_pos h hc⟩⟩
  rw [Int.le_ediv_iff_mul_le hc]
  have h2 : 0 ≤ (-a) * (c - 1) := Int.mul_nonneg (by omega) (by omega)
  have h3 : (-a) * (c - 1) = a - a * c := by rw [Int.mul_sub, Int.neg_mul]; omega
  omega

/-- A leap year? -/
def leap (y : Int) : Bool := decide (y % 4 = 0 ∧ (y % 100 ≠ 0 ∨ y % 400 = 0))
/-- A leap year's day more. -/
def ld (y : Int) : Int := if leap y then 1 else 0
/-- A month's length; 0 of what is none. -/
def len (y m : Int) : Int :=
  if m = 2 then 28 + ld y else if m = 4 ∨ m = 6 ∨ m = 9 ∨ m = 11 then 30 else if 1 ≤ m ∧ m ≤ 12 then 31 else 0
/-- The day of January 1st. -/
def J (y : Int) : Int := 365 * (y - 1) + (y - 1) / 4 - (y - 1) / 100 + (y - 1) / 400 - 719162
/-- The days of the months ahead. -/
def cum (y m : Int) : Int :=
  if m ≤ 1 then 0 else if m = 2 then 31 else if m = 3 then 59 + ld y else if m = 4 then 90 + ld y else if m = 5 then 120 + ld y else
  if m = 6 then 151 + ld y else if m = 7 then 181 + ld y else if m = 8 then 212 + ld y else if m = 9 then 243 + ld y else
  if m = 10 then 273 + ld y else if m = 11 then 304 + ld y else if m = 12 then 334 + ld y else 365 + ld y
def dn (y m d : Int) : Int := J y + cum y m + d - 1
def Ok (y m d : Int) : Prop := 1 ≤ m ∧ m ≤ 12 ∧ 1 ≤ d ∧ d ≤ len y m

theorem ld_cases (y : Int) : (ld y = 1 ∧ y % 4 = 0 ∧ (y % 100 ≠ 0 ∨ y % 400 = 0)) ∨ (ld y = 0 ∧ ¬ (y % 4 = 0 ∧ (y % 100 ≠ 0 ∨ y % 400 = 0))) := by
  unfold ld leap
  by_cases h : y % 4 = 0 ∧ (y % 100 ≠ 0 ∨ y % 400 = 0)
  · left; simp [h]
  · right; simp only [h, decide_false, not_false_eq_true, and_true]; rfl
theorem ld_bd (y : Int) : 0 ≤ ld y ∧ ld y ≤ 1 := by rcases ld_cases y with h | h <;> omega
theorem ld_400 (y : Int) : ld (y + 400) = ld y := by
  rcases ld_cases y with h | h <;> rcases ld_cases (y + 400) with h' | h' <;> omega
theorem leap_ld (y : Int) : leap y = decide (ld y = 1) := by
  unfold ld; cases leap y <;> simp
theorem J_succ (y : Int) : J (y + 1) = J y + 365 + ld y := by
  have h := ld_cases y
  unfold J
  rcases h with ⟨h, h1⟩ | ⟨h, h1⟩ <;> rw [h] <;> omega
theorem J_400 (y : Int) : J (y + 400) = J y + 146097 := by unfold J; omega
theorem J_mono_nat (y : Int) (k : Nat) : J y + 365 * k ≤ J (y + k) := by
  induction k with
  | zero => simp
  | succ k ih =>
    have := J_succ (y + k); have := ld_bd (y + k)
    have e : y + ((k + 1 : Nat) : Int) = y + k + 1 := by omega
    rw [e]; omega
theorem J_mono {y z : Int} (h : y ≤ z) : J y + 365 * (z - y) ≤ J z := by
  have := J_mono_nat y (z - y).toNat
  have e : ((z - y).toNat : Int) = z - y := by omega
  rw [e] at this
  have e : y + (z - y) = z := by omega
  rw [e] at this; exact this

theorem m_cases {m : Int} (h1 : 1 ≤ m) (h2 : m ≤ 12) : m = 1 ∨ m = 2 ∨ m = 3 ∨ m = 4 ∨ m = 5 ∨ m = 6 ∨ m = 7 ∨ m = 8 ∨ m = 9 ∨ m = 10 ∨ m = 11 ∨ m = 12 := by omega
theorem cum_succ (y : Int) {m : Int} (h1 : 1 ≤ m) (h2 : m ≤ 12) : cum y (m + 1) = cum y m + len y m := by
  rcases m_cases h1 h2 with rfl | rfl | rfl | rfl | rfl | rfl | rfl | rfl | rfl | rfl | rfl | rfl <;> simp [cum, len] <;> omega
theorem cum_one (y : Int) : cum y 1 = 0 := by simp [cum]
theorem cum_13 (y : Int) : cum y 13 = 365 + ld y := by simp [cum]
theorem len_bd (y : Int) {m : Int} (h1 : 1 ≤ m) (h2 : m ≤ 12) : 28 ≤ len y m ∧ len y m ≤ 31 := by
  have := ld_bd y
  rcases m_cases h1 h2 with rfl | rfl | rfl | rfl | rfl | rfl | rfl | rfl | rfl | rfl | rfl | rfl <;> simp [len] <;> omega
theorem len_le (y m : Int) : 0 ≤ len y m ∧ len y m ≤ 31 := by
  by_cases h : 1 ≤ m ∧ m ≤ 12
  · have := len_bd y h.1 h.2; omega
  · unfold len; rw [if_neg (by omega), if_neg (by omega), if_neg h]; omega
theorem len_out (y : Int) {m : Int} (h : ¬ (1 ≤ m ∧ m ≤ 12)) : len y m = 0 := by
  unfold len; rw [if_neg (by omega), if_neg (by omega), if_neg h]
theorem len_pos {y m d : Int} (h1 : 1 ≤ d) (h2 : d ≤ len y m) : 1 ≤ m ∧ m ≤ 12 := by
  by_cases h : 1 ≤ m ∧ m ≤ 12
  · exact h
  · rw [len_out y h] at h2; omega
theorem cum_bd (y : Int) {m : Int} (h1 : 1 ≤ m) (h2 : m ≤ 13) : 28 * (m - 1) ≤ cum y m ∧ cum y m ≤ 366 - 28 * (13 - m) := by
  have := ld_bd y
  by_cases h : m = 13
  · subst h; rw [cum_13]; omega
  · rcases m_cases h1 (by omega) with rfl | rfl | rfl | rfl | rfl | rfl | rfl | rfl | rfl | rfl | rfl | rfl <;> simp [cum] <;> omega
theorem cum_mono_nat (y m : Int) (k : Nat) (h1 : 1 ≤ m) (h2 : m + k ≤ 13) : cum y m ≤ cum y (m + k) := by
  induction k with
  | zero => simp
  | succ k ih =>
    have := ih (by omega); have := cum_succ y (m := m + k) (by omega) (by omega); have := len_le y (m + k)
    have e : m + ((k + 1 : Nat) : Int) = m + k + 1 := by omega
    rw [e]; omega
theorem cum_mono (y : Int) {m m' : Int} (h1 : 1 ≤ m) (h : m ≤ m') (h2 : m' ≤ 13) : cum y m ≤ cum y m' := by
  have := cum_mono_nat y m (m' - m).toNat h1 (by omega)
  have e : m + ((m' - m).toNat : Int) = m' := by omega
  rw [e] at this; exact this

/-- A date lies in its year. -/
theorem dn_in {y m d : Int} (h : Ok y m d) : J y ≤ dn y m d ∧ dn y m d < J (y + 1) := by
  obtain ⟨h1, h2, h3, h4⟩ := h
  have a := cum_succ y h1 h2; have b := cum_mono y (m := m + 1) (m' := 13) (by omega) (by omega) (by omega)
  have c := cum_13 y; have e := J_succ y; have f := cum_bd y h1 (by omega : m ≤ 13)
  unfold dn; omega
theorem dn_year {y m d y' m' d' : Int} (h : Ok y m d) (h' : Ok y' m' d') (hn : dn y m d ≤ dn y' m' d') : y ≤ y' := by
  by_cases hc : y ≤ y'
  · exact hc
  · have := dn_in h; have := dn_in h'; have := J_mono (y := y' + 1) (z := y) (by omega); omega
theorem dn_month {y m d m' d' : Int} (h : Ok y m d) (h' : Ok y m' d') (hn : dn y m d ≤ dn y m' d') : m ≤ m' := by
  by_cases hc : m ≤ m'
  · exact hc
  · obtain ⟨h1, h2, h3, h4⟩ := h
    obtain ⟨h1', h2', h3', h4'⟩ := h'
    have := cum_succ y h1' h2'; have := cum_mono y (m := m' + 1) (m' := m) (by omega) (by omega) (by omega)
    unfold dn at hn; omega
theorem dn_inj {y m d y' m' d' : Int} (h : Ok y m d) (h' : Ok y' m' d') (hn : dn y m d = dn y' m' d') : y = y' ∧ m = m' ∧ d = d' := by
  have a := dn_year h h' (by omega); have b := dn_year h' h (by omega)
  have e : y = y' := by omega
  subst e
  have a := dn_month h h' (by omega); have b := dn_month h' h (by omega)
  have e : m = m' := by omega
  subst e
  refine ⟨rfl, rfl, ?_⟩
  unfold dn at hn; omega
theorem year_of {y z n : Int} (h : J y ≤ n) (h' : n < J (y + 1)) (k : J z ≤ n) (k' : n < J (z + 1)) : y = z := by
  by_cases hc : y < z
  · have := J_mono (y := y + 1) (z := z) (by omega); omega
  · by_cases hd : z < y
    · have := J_mono (y := z + 1) (z := y) (by omega); omega
    · omega

/-- The days of so many years from March 1st of a year 0 of 400. -/
def S (q : Int) : Int := 365 * q + q / 4 - q / 100
/-- What is divided by 365. -/
def T (d : Int) : Int := d - d / 1460 + d / 36524 - d / 146096
theorem T_mono {a b : Int} (h : a ≤ b) : T a ≤ T b := by
  unfold T; omega
theorem S_T : ∀ q : Fin 400, 365 * (q.val : Int) ≤ T (S q.val) ∧ T (S (q.val + 1) - 1) < 365 * ((q.val : Int) + 1) ∧ 0 ≤ S q.val ∧ S q.val ≤ 146096 ∧ S (q.val + 1) ≤ 146096 := by
  decide +kernel
theorem S_find (d : Int) (h0 : 0 ≤ d) (n : Nat) (h : d < S n) : ∃ q : Nat, q < n ∧ S q ≤ d ∧ d < S (q + 1) := by
  induction n with
  | zero => simp [S] at h; omega
  | succ n ih =>
    by_cases hc : d < S n
    · obtain ⟨q, a, b, c⟩ := ih hc; exact ⟨q, by omega, b, c⟩
    · exact ⟨n, by omega, by omega, by push_cast at h; exact h⟩
/-- The year of a day of 400 years that begin in March. -/
theorem yoe {d : Int} (h0 : 0 ≤ d) (h1 : d ≤ 146096) : 0 ≤ T d / 365 ∧ T d / 365 ≤ 399 ∧ S (T d / 365) ≤ d ∧ (d < S (T d / 365 + 1) ∨ (d = 146096 ∧ T d / 365 = 399)) := by
  by_cases hl : d = 146096
  · subst hl; decide
  · have hs : S 400 = 146096 := by decide
    obtain ⟨q, hq, ha, hb⟩ := S_find d h0 400 (by show d < S 400; omega)
    obtain ⟨t1, t2, s0, s1, s2⟩ := S_T ⟨q, hq⟩
    simp only at t1 t2 s0 s1 s2
    have m1 := T_mono ha
    have m2 := T_mono (by omega : d ≤ S (q + 1) - 1)
    have e : T d / 365 = q := by omega
    rw [e]; exact ⟨by omega, by omega, ha, .inl hb⟩

/-- The year's part, March first, of a day from March 1st of the year 0 on. -/
theorem march {z : Int} (e y q : Int) (he : e = z / 146097) (hq : q = T (z - e * 146097) / 365) (hy : y = e * 400 + q) :
    0 ≤ q ∧ q ≤ 399 ∧ 0 ≤ z - e * 146097 - S q ∧ z - e * 146097 - S q ≤ 364 + ld (y + 1) ∧ J (y + 1) + 719162 - 306 + (z - e * 146097 - S q) = z - 306 := by
  have h0 : 0 ≤ z - e * 146097 := by omega
  have h1 : z - e * 146097 ≤ 146096 := by omega
  obtain ⟨a, b, c, d⟩ := yoe h0 h1
  rw [← hq] at a b c d
  have hJ : J (y + 1) = e * 146097 + S q - 719162 := by unfold J S; omega
  have hl : S (q + 1) = S q + 365 + ld (y + 1) ∨ (q = 399 ∧ ld (y + 1) = 1 ∧ S (q + 1) = S q + 365) := by
    rcases ld_cases (y + 1) with h | h <;> unfold S <;> omega
  have h4 : q = 399 → S q = 145731 := by rintro rfl; decide
  refine ⟨a, b, by omega, ?_, by omega⟩
  rcases d with d | ⟨d, d'⟩
  · rcases hl with hl | ⟨hl, hl', hl''⟩
    · omega
    · omega
  · have := h4 d'
    rcases hl with hl | ⟨hl, hl', hl''⟩
    · have : q + 1 = 400 := by omega
      rcases ld_cases (y + 1) with h | h <;> omega
    · omega

/-- The date of a day of a year that begins in March: months. -/
theorem month {y w : Int} (h0 : 0 ≤ w) (h1 : w ≤ 364 + ld (y + 1)) (mp : Int) (hm : mp = (5 * w + 2) / 153) :
    0 ≤ mp ∧ mp ≤ 11 ∧ Ok (if (mp + 2) % 12 + 1 ≤ 2 then y + 1 else y) ((mp + 2) % 12 + 1) (w - (153 * mp + 2) / 5 + 1) ∧
      dn (if (mp + 2) % 12 + 1 ≤ 2 then y + 1 else y) ((mp + 2) % 12 + 1) (w - (153 * mp + 2) / 5 + 1) = J (y + 1) - 306 + w := by
  have hb := ld_bd (y + 1)
  have hb' := ld_bd y
  have hJ := J_succ y
  have hc : mp = 0 ∨ mp = 1 ∨ mp = 2 ∨ mp = 3 ∨ mp = 4 ∨ mp = 5 ∨ mp = 6 ∨ mp = 7 ∨ mp = 8 ∨ mp = 9 ∨ mp = 10 ∨ mp = 11 := by omega
  refine ⟨by omega, by omega, ?_⟩
  rcases hc with rfl | rfl | rfl | rfl | rfl | rfl | rfl | rfl | rfl | rfl | rfl | rfl <;> simp [Ok, dn, len, cum] <;> omega

/-- Days of dates by the March way. -/
theorem days_eq {y m d : Int} (h1 : 1 ≤ m) (h2 : m ≤ 12) (y' e : Int) (hy : y' = if m ≤ 2 then y - 1 else y) (he : e = y' / 400) :
    e * 146097 + (y' - e * 400) * 365 + (y' - e * 400) / 4 - (y' - e * 400) / 100 + ((153 * ((m + 9) % 12) + 2) / 5 + d - 1) - 719468 = dn y m d := by
  have hJ := J_succ y
  have hb := ld_bd y
  have hK : J (y' + 1) = e * 146097 + (y' - e * 400) * 365 + (y' - e * 400) / 4 - (y' - e * 400) / 100 - 719162 := by unfold J; omega
  rcases m_cases h1 h2 with rfl | rfl | rfl | rfl | rfl | rfl | rfl | rfl | rfl | rfl | rfl | rfl <;> simp [dn, cum] at * <;> subst hy <;> (try simp at hK) <;> omega

def lo : Int := -15329228
def hi : Int := 13890537
theorem lo_eq : dn (-40000) 1 1 = lo := by decide
theorem hi_eq : dn 40000 12 31 = hi := by decide
theorem J_lo : J (-40000) = lo := by decide
theorem J_hi : J 40001 = hi + 1 := by decide
theorem range_iff {n y : Int} (h : J y ≤ n) (h' : n < J (y + 1)) : (lo ≤ n ∧ n ≤ hi) ↔ (-40000 ≤ y ∧ y ≤ 40000) := by
  have a := J_lo; have b := J_hi
  constructor
  · intro ⟨c, d⟩
    constructor
    · by_cases hc : -40000 ≤ y
      · exact hc
      · have := J_mono (y := y + 1) (z := -40000) (by omega); omega
    · by_cases hc : y ≤ 40000
      · exact hc
      · have := J_mono (y := 40001) (z := y) (by omega); omega
  · intro ⟨c, d⟩
    have := J_mono (y := -40000) (z := y) c; have := J_mono (y := y + 1) (z := 40001) (by omega); omega

/-- The weekday. -/
def wd (n : Int) : Int := (n + 3) % 7 + 1
/-- The year's week 1 begins. -/
def fst (y : Int) : Int := J y + 3 - wd (J y + 3) + 1
theorem week_of {n y : Int} (h : J y ≤ n + 4 - wd n) (h' : n + 4 - wd n < J (y + 1)) :
    fst y ≤ n ∧ (∀ z, y < z → n < fst z) ∧ (n - fst y) / 7 = (n + 4 - wd n - J y) / 7 := by
  have key : ∀ z, fst z ≤ n ↔ J z ≤ n + 4 - wd n := by intro z; unfold fst wd; omega
  refine ⟨(key y).2 h, fun z hz => ?_, ?_⟩
  · have := J_mono (y := y + 1) (z := z) (by omega)
    have := (not_congr (key z)).2 (by omega)
    omega
  · unfold fst wd at *; omega
end Go.Proofs.Ytlgjojhenohjnaa.CM
