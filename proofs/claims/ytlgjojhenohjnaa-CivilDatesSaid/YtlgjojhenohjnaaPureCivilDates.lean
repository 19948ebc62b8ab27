/- The statement CivilDates of layer 19, over plain numbers: the program's dates, days, leap years and months are the reference's. Conditions: none. -/
import Derived.Test.YtlgjojhenohjnaaOCivilDates
import Derived.Test.YtlgjojhenohjnaaCivMath
namespace Go.Proofs.Ytlgjojhenohjnaa.Pure
open Go.RowKit Go.Proofs.Ytlgjojhenohjnaa.PCivilDates Go.Proofs.Ytlgjojhenohjnaa.OCivilDates Go.Proofs.YtlgjojhenohjnaaW.PrintWords Go.Proofs.YtlgjojhenohjnaaW.PrintLast Go.Proofs.Ytlgjojhenohjnaa.CM
namespace CivilDatesAid

theorem leap_eq (y : Int) : civil_Leap.f y = some (leap y) := by
  unfold civil_Leap.f leap
  have e : (Int.tmod y 400 == 0) = decide (y % 400 = 0) := by rw [Bool.eq_iff_iff]; simp [tm0]
  rw [e]; simp only [tm0]
  by_cases h1 : y % 4 = 0 <;> by_cases h2 : y % 100 = 0 <;> by_cases h3 : y % 400 = 0 <;> simp [h1, h2, h3]

theorem length_eq (y m : Int) (k : Nat) (hk : 2 ≤ k) : civil_Length.f k y m = some (len y m) := by
  obtain ⟨k, rfl⟩ : ∃ j, k = j + 2 := ⟨k - 2, by omega⟩
  by_cases h : 1 ≤ m ∧ m ≤ 12
  · rcases m_cases h.1 h.2 with rfl | rfl | rfl | rfl | rfl | rfl | rfl | rfl | rfl | rfl | rfl | rfl
    case inr.inl =>
      simp [civil_Length.f, civil_Length.j0, civil_Length.j1, leap_eq, len, ld]
      cases leap y <;> rfl
    all_goals simp [civil_Length.f, civil_Length.j0, civil_Length.j1, len]
  · rw [len_out y h]
    have n1 : m ≠ 1 := by omega
    have n2 : m ≠ 2 := by omega
    have n3 : m ≠ 3 := by omega
    have n4 : m ≠ 4 := by omega
    have n5 : m ≠ 5 := by omega
    have n6 : m ≠ 6 := by omega
    have n7 : m ≠ 7 := by omega
    have n8 : m ≠ 8 := by omega
    have n9 : m ≠ 9 := by omega
    have n10 : m ≠ 10 := by omega
    have n11 : m ≠ 11 := by omega
    have n12 : m ≠ 12 := by omega
    simp [civil_Length.f, civil_Length.j0, civil_Length.j1, n1, n2, n3, n4, n5, n6, n7, n8, n9, n10, n11, n12]

theorem floor_eq (a c : Int) (hc : 0 < c) (h0 : -9223372036854775808 ≤ a) (h1 : a ≤ 9223372036854775807) : civil_floor.f a c = some (a / c) := by
  obtain ⟨t1, t2⟩ := tdm a c hc
  have b := ediv_bd a c hc
  unfold civil_floor.f
  rw [if_neg (by omega)]
  by_cases hn : Int.tmod a c < 0
  · have an : ¬ 0 ≤ a := by
      intro an
      rw [tm an] at hn
      have := Int.emod_nonneg a (by omega : c ≠ 0)
      omega
    rw [if_pos hn]; rw [if_pos hn] at t1; rw [w64 (x := Int.tdiv a c) (by omega) (by omega), w64 (by omega) (by omega)]; congr 1; omega
  · rw [if_neg hn]; rw [if_neg hn] at t1; rw [w64 (by omega) (by omega), t1]

theorem days_f {y m : Int} (d : Int) (h1 : 1 ≤ m) (h2 : m ≤ 12) (y0 : -1000000 ≤ y) (y1 : y ≤ 1000000) (d0 : -1000 ≤ d) (d1 : d ≤ 1000) :
    civil_days.f y m d = some (dn y m d) := by
  unfold civil_days.f
  by_cases hm : m ≤ 2
  · have e := days_eq (d := d) h1 h2 (y - 1) ((y - 1) / 400) (by rw [if_pos hm]) rfl
    rw [if_pos hm, w64 (x := y - 1) (by omega) (by omega), floor_eq _ 400 (by omega) (by omega) (by omega)]
    simp only [Option.bind_some]
    simp (disch := omega) only [w64, td, tm]
    rw [e]
  · have e := days_eq (y := y) (d := d) h1 h2 y (y / 400) (by rw [if_neg hm]) rfl
    rw [if_neg hm, floor_eq _ 400 (by omega) (by omega) (by omega)]
    simp only [Option.bind_some]
    simp (disch := omega) only [w64, td, tm]
    rw [e]

theorem inRange_f (n : Int) : civil_inRange.f n = some (decide (lo ≤ n ∧ n ≤ hi)) := by
  unfold civil_inRange.f
  rw [days_f 1 (by omega) (by omega) (by omega) (by omega) (by omega) (by omega), lo_eq]
  simp only [Option.bind_some]
  rw [days_f 31 (by omega) (by omega) (by omega) (by omega) (by omega) (by omega), hi_eq]
  simp only [Option.bind_some]
  by_cases h : lo ≤ n
  · rw [if_pos h]; simp [h]
  · rw [if_neg h]; simp [h]

set_option maxHeartbeats 2000000 in
theorem date_f (n : Int) (h0 : -1000000000 ≤ n) (h1 : n ≤ 1000000000) : ∃ y m d, civil_date.f n = some (y, m, d) ∧ Ok y m d ∧ dn y m d = n := by
  obtain ⟨z, hz⟩ : ∃ z, z = n + 719468 := ⟨_, rfl⟩
  obtain ⟨e, he⟩ : ∃ e, e = z / 146097 := ⟨_, rfl⟩
  obtain ⟨q, hq⟩ : ∃ q, q = T (z - e * 146097) / 365 := ⟨_, rfl⟩
  obtain ⟨a, b, c, dd, ff⟩ := march e (e * 400 + q) q he hq rfl
  have hb := ld_bd (e * 400 + q + 1)
  have hS : S q = 365 * q + q / 4 - q / 100 := rfl
  obtain ⟨mp, hmp⟩ : ∃ mp, mp = (5 * (z - e * 146097 - S q) + 2) / 153 := ⟨_, rfl⟩
  obtain ⟨m0, m1, mo, md⟩ := month c dd mp hmp
  have p0 : 0 ≤ z - e * 146097 := by omega
  have p1 : z - e * 146097 ≤ 146096 := by omega
  have p2 : -10000000 ≤ e ∧ e ≤ 10000000 := by omega
  unfold T at hq
  refine ⟨_, _, _, ?_, mo, by omega⟩
  unfold civil_date.f
  rw [w64 (x := n + 719468) (by omega) (by omega), ← hz, floor_eq z 146097 (by omega) (by omega) (by omega), ← he]
  simp only [Option.bind_some]
  rw [hS] at hmp c dd
  rw [hS]
  have w1 : wrap64 (z - wrap64 (e * 146097)) = z - e * 146097 := by rw [w64 (x := e * 146097) (by omega) (by omega), w64 (by omega) (by omega)]
  rw [w1]
  generalize hdoe : z - e * 146097 = D at *
  have w2' : Int.tdiv (wrap64 ((wrap64 ((wrap64 (D - (wrap64 (Int.tdiv D 1460)))) + (wrap64 (Int.tdiv D 36524)))) - (wrap64 (Int.tdiv D 146096)))) 365 = q := by
    simp (disch := omega) only [w64, td]; omega
  have wq : wrap64 q = q := w64 (by omega) (by omega)
  simp only [w2', wq]
  have w3 : wrap64 (D - (wrap64 ((wrap64 ((wrap64 (365 * q)) + (wrap64 (Int.tdiv q 4)))) - (wrap64 (Int.tdiv q 100))))) = D - (365 * q + q / 4 - q / 100) := by
    simp (disch := omega) only [w64, td]
  simp only [w3]
  generalize hw : D - (365 * q + q / 4 - q / 100) = w at *
  have w4 : wrap64 (Int.tdiv (wrap64 ((wrap64 (5 * w)) + 2)) 153) = mp := by
    simp (disch := omega) only [w64, td]; omega
  simp only [w4]
  have w5 : wrap64 ((Int.tmod (wrap64 (mp + 2)) 12) + 1) = (mp + 2) % 12 + 1 := by
    simp (disch := omega) only [w64, tm]
  simp only [w5]
  have w6 : wrap64 ((wrap64 (w - (wrap64 (Int.tdiv (wrap64 ((wrap64 (153 * mp)) + 2)) 5)))) + 1) = w - (153 * mp + 2) / 5 + 1 := by
    simp (disch := omega) only [w64, td]
  simp only [w6]
  have w7 : wrap64 ((wrap64 (e * 400)) + q) = e * 400 + q := by simp (disch := omega) only [w64]
  simp only [w7]
  have w8 : wrap64 (e * 400 + q + 1) = e * 400 + q + 1 := by simp (disch := omega) only [w64]
  simp only [w8]
  split <;> rfl

theorem date_at {n y m d : Int} (h0 : -1000000000 ≤ n) (h1 : n ≤ 1000000000) (ho : Ok y m d) (hd : dn y m d = n) : civil_date.f n = some (y, m, d) := by
  obtain ⟨y', m', d', e, o, f⟩ := date_f n h0 h1
  obtain ⟨rfl, rfl, rfl⟩ := dn_inj ho o (by omega)
  exact e

theorem Date_f (n : Int) : (∃ y m d, civil_Date.f n = some (y, m, d, none) ∧ Ok y m d ∧ dn y m d = n ∧ lo ≤ n ∧ n ≤ hi) ∨ (civil_Date.f n = some (0, 0, 0, some 24) ∧ ¬ (lo ≤ n ∧ n ≤ hi)) := by
  unfold civil_Date.f
  rw [inRange_f]
  simp only [Option.bind_some]
  by_cases h : lo ≤ n ∧ n ≤ hi
  · left
    obtain ⟨y, m, d, e, o, f⟩ := date_f n (by unfold lo at h; omega) (by unfold hi at h; omega)
    exact ⟨y, m, d, by rw [if_pos (by simpa using h), e]; rfl, o, f, h.1, h.2⟩
  · right; exact ⟨by rw [if_neg (by simpa using h)], h⟩

theorem Days_ok {y m d : Int} (ho : Ok y m d) (y0 : -40000 ≤ y) (y1 : y ≤ 40000) (k : Nat) (hk : 2 ≤ k) : civil_Days.f k y m d = some (dn y m d, none) := by
  obtain ⟨h1, h2, h3, h4⟩ := ho
  have := len_le y m
  unfold civil_Days.f
  rw [if_neg (by omega), if_neg (by omega), if_neg (by omega), length_eq y m k hk]
  simp only [Option.bind_some]
  rw [if_neg (by omega), days_f d h1 h2 (by omega) (by omega) (by omega) (by omega)]; rfl
theorem Days_no {y m d : Int} (h : y < -40000 ∨ y > 40000 ∨ d < 1 ∨ d > len y m) (k : Nat) (hk : 2 ≤ k) : civil_Days.f k y m d = some (0, some 24) := by
  unfold civil_Days.f
  by_cases a : y < -40000
  · rw [if_pos a]
  · rw [if_neg a]
    by_cases b : y > 40000
    · rw [if_pos b]
    · rw [if_neg b]
      by_cases c : d < 1
      · rw [if_pos c]
      · rw [if_neg c, length_eq y m k hk]; simp only [Option.bind_some]; rw [if_pos (by omega)]

theorem Weekday_f (n : Int) : civil_Weekday.f n = some (wd n) := by
  unfold civil_Weekday.f wd
  obtain ⟨t1, t2⟩ := tdm n 7 (by omega)
  have h1 := t2
  congr 1
  by_cases hn : Int.tmod n 7 < 0
  · rw [if_pos hn] at t2
    simp (disch := omega) only [w64, tm]; omega
  · rw [if_neg hn] at t2
    simp (disch := omega) only [w64, tm]; omega

theorem alive_f (k : Nat) (hk : 2 ≤ k) : amphoralaw19_alive.f k = some true := by
  unfold amphoralaw19_alive.f
  have o : Ok 1970 1 1 := by unfold Ok; decide
  have o' : Ok 2000 2 29 := by unfold Ok; decide
  have e : civil_Date.f 0 = some (1970, 1, 1, none) := by
    rcases Date_f 0 with ⟨y, m, d, h, h1, h2, _, _⟩ | ⟨_, h⟩
    · obtain ⟨rfl, rfl, rfl⟩ := dn_inj o h1 (by rw [h2]; decide)
      exact h
    · exact absurd ⟨by decide, by decide⟩ h
  rw [e, Days_ok o' (by omega) (by omega) k hk, Weekday_f]
  decide

theorem rleap_eq (y : Int) : amphoraref19_Leap.f y = some (leap y) := by
  unfold amphoraref19_Leap.f leap
  have e : (Int.tmod y 100 != 0) = decide (y % 100 ≠ 0) := by rw [Bool.eq_iff_iff]; simp [tm0]
  rw [e]; simp only [tm0]
  by_cases h1 : y % 4 = 0 <;> by_cases h2 : y % 100 = 0 <;> by_cases h3 : y % 400 = 0 <;> simp [h1, h2, h3] <;> omega
theorem rof_eq (y : Int) : amphoraref19_of.f y = some (365 + ld y) := by
  unfold amphoraref19_of.f ld
  rw [rleap_eq]; cases leap y <;> rfl
theorem rlength_eq (y m : Int) (k : Nat) (hk : 1 ≤ k) : amphoraref19_Length.f k y m = some (len y m) := by
  obtain ⟨k, rfl⟩ : ∃ j, k = j + 1 := ⟨k - 1, by omega⟩
  by_cases h : 1 ≤ m ∧ m ≤ 12
  · rcases m_cases h.1 h.2 with rfl | rfl | rfl | rfl | rfl | rfl | rfl | rfl | rfl | rfl | rfl | rfl
    case inr.inl =>
      simp only [amphoraref19_Length.f, amphoraref19_Length.j0, rleap_eq, len, ld, Option.bind_some, if_true]
      cases leap y <;> decide +kernel
    all_goals (simp [amphoraref19_Length.f, amphoraref19_Length.j0, len, wrap64]; decide +kernel)
  · rw [len_out y h]
    unfold amphoraref19_Length.f
    by_cases h1 : m < 1
    · rw [if_pos h1]; rfl
    · rw [if_neg h1, decide_eq_true (by omega)]; rfl

theorem cum_congr {y z : Int} (h : ld y = ld z) (m : Int) : cum y m = cum z m := by unfold cum; rw [h]
theorem len_congr {y z : Int} (h : ld y = ld z) (m : Int) : len y m = len z m := by unfold len; rw [h]
theorem dn_400 (y m d : Int) : dn (y + 400) m d = dn y m d + 146097 := by
  unfold dn; rw [J_400, cum_congr (ld_400 y) m]; omega

theorem rl3 (y m d x5 : Int) (m0 : m ≤ 12) (d0 : -1000 ≤ d) (d1 : d ≤ 1000) (j : Nat) : ∀ (k : Nat) (x4 x7 : Int), j + 2 ≤ k → 1 ≤ x7 → x7 + j = m → -1000000000 ≤ x4 → x4 + 31 * j ≤ 1000000000 →
    amphoraref19_Days.l3 k x4 x5 x7 y m d = some (x4 + cum x5 m - cum x5 x7 + d - 1, 0) := by
  induction j with
  | zero =>
    intro k x4 x7 hk h1 h2 h3 h4
    obtain ⟨k, rfl⟩ : ∃ j, k = j + 1 := ⟨k - 1, by omega⟩
    have e : x7 = m := by omega
    subst e
    simp only [amphoraref19_Days.l3]
    rw [if_neg (by omega), w64 (x := x4 + d) (by omega) (by omega), w64 (by omega) (by omega)]
    congr 2; omega
  | succ j ih =>
    intro k x4 x7 hk h1 h2 h3 h4
    obtain ⟨k, rfl⟩ : ∃ j, k = j + 1 := ⟨k - 1, by omega⟩
    have hl := len_le x5 x7
    simp only [amphoraref19_Days.l3]
    rw [if_pos (by omega), rlength_eq _ _ _ (by omega)]
    simp only [Option.bind_some]
    rw [w64 (x := x4 + len x5 x7) (by omega) (by omega), w64 (x := x7 + 1) (by omega) (by omega)]
    rw [ih k _ _ (by omega) (by omega) (by omega) (by omega) (by omega), cum_succ x5 (m := x7) h1 (by omega)]
    congr 2; omega
theorem rl2 (y m d x5 : Int) (m1 : 1 ≤ m) (m0 : m ≤ 12) (d0 : -1000 ≤ d) (d1 : d ≤ 1000) (j : Nat) : ∀ (k : Nat) (x4 x6 : Int), j + 20 ≤ k → x6 + j = x5 → -1000000 ≤ x6 → x5 ≤ 1000000 → -100000000 ≤ x4 → x4 + 366 * j ≤ 100000000 →
    amphoraref19_Days.l2 k x4 x5 x6 y m d = some (x4 + J x5 - J x6 + cum x5 m + d - 1, 0) := by
  induction j with
  | zero =>
    intro k x4 x6 hk h1 h2 h3 h4 h5
    obtain ⟨k, rfl⟩ : ∃ j, k = j + 1 := ⟨k - 1, by omega⟩
    have e : x6 = x5 := by omega
    subst e
    simp only [amphoraref19_Days.l2]
    rw [if_neg (by omega), rl3 y m d x6 m0 d0 d1 (m - 1).toNat k x4 1 (by omega) (by omega) (by omega) (by omega) (by omega), cum_one]
    congr 2; omega
  | succ j ih =>
    intro k x4 x6 hk h1 h2 h3 h4 h5
    obtain ⟨k, rfl⟩ : ∃ j, k = j + 1 := ⟨k - 1, by omega⟩
    have hl := ld_bd x6
    simp only [amphoraref19_Days.l2]
    rw [if_pos (by omega), rof_eq]
    simp only [Option.bind_some]
    rw [w64 (x := x4 + (365 + ld x6)) (by omega) (by omega), w64 (x := x6 + 1) (by omega) (by omega)]
    rw [ih k _ _ (by omega) (by omega) (by omega) (by omega) (by omega) (by omega), J_succ x6]
    congr 2; omega
theorem rl1 (y m d : Int) (m1 : 1 ≤ m) (m0 : m ≤ 12) (d0 : -1000 ≤ d) (d1 : d ≤ 1000) (j : Nat) : ∀ (k : Nat) (x4 x5 : Int), j + 500 ≤ k → 1970 ≤ x5 → x5 < 2370 + 400 * j → j ≤ 200 → -50000000 ≤ x4 → x4 + 146097 * j ≤ 50000000 →
    amphoraref19_Days.l1 k x4 x5 y m d = some (x4 + dn x5 m d, 0) := by
  induction j with
  | zero =>
    intro k x4 x5 hk h1 h2 h3 h4 h5
    obtain ⟨k, rfl⟩ : ∃ j, k = j + 1 := ⟨k - 1, by omega⟩
    simp only [amphoraref19_Days.l1]
    rw [if_neg (by omega), rl2 y m d x5 m1 m0 d0 d1 (x5 - 1970).toNat k x4 1970 (by omega) (by omega) (by omega) (by omega) (by omega) (by omega)]
    have : J 1970 = 0 := by decide
    unfold dn; congr 2; omega
  | succ j ih =>
    intro k x4 x5 hk h1 h2 h3 h4 h5
    by_cases hc : x5 < 2370 + 400 * j
    · exact ih k x4 x5 (by omega) h1 hc (by omega) h4 (by omega)
    · obtain ⟨k, rfl⟩ : ∃ j, k = j + 1 := ⟨k - 1, by omega⟩
      simp only [amphoraref19_Days.l1]
      rw [if_pos (by omega), w64 (x := x4 + 146097) (by omega) (by omega), w64 (x := x5 - 400) (by omega) (by omega)]
      rw [ih k _ _ (by omega) (by omega) (by omega) (by omega) (by omega) (by omega)]
      have := dn_400 (x5 - 400) m d
      have e : x5 - 400 + 400 = x5 := by omega
      rw [e] at this
      congr 2; omega
theorem rl0 (y m d : Int) (m1 : 1 ≤ m) (m0 : m ≤ 12) (d0 : -1000 ≤ d) (d1 : d ≤ 1000) (j : Nat) : ∀ (k : Nat) (x4 x5 : Int), j + 1000 ≤ k → 1970 - 400 * j ≤ x5 → x5 ≤ 50000 → j ≤ 200 → x4 ≤ 0 → -50000000 ≤ x4 - 146097 * j →
    amphoraref19_Days.l0 k x4 x5 y m d = some (x4 + dn x5 m d, 0) := by
  induction j with
  | zero =>
    intro k x4 x5 hk h1 h2 h3 h4 h5
    obtain ⟨k, rfl⟩ : ∃ j, k = j + 1 := ⟨k - 1, by omega⟩
    simp only [amphoraref19_Days.l0]
    rw [if_neg (by omega), rl1 y m d m1 m0 d0 d1 150 k x4 x5 (by omega) (by omega) (by omega) (by omega) (by omega) (by omega)]
  | succ j ih =>
    intro k x4 x5 hk h1 h2 h3 h4 h5
    by_cases hc : 1970 - 400 * j ≤ x5
    · exact ih k x4 x5 (by omega) hc h2 (by omega) h4 (by omega)
    · obtain ⟨k, rfl⟩ : ∃ j, k = j + 1 := ⟨k - 1, by omega⟩
      simp only [amphoraref19_Days.l0]
      rw [if_pos (by omega), w64 (x := x4 - 146097) (by omega) (by omega), w64 (x := x5 + 400) (by omega) (by omega)]
      rw [ih k _ _ (by omega) (by omega) (by omega) (by omega) (by omega) (by omega), dn_400]
      congr 2; omega
theorem rDays_ok {y m d : Int} (ho : Ok y m d) (y0 : -40000 ≤ y) (y1 : y ≤ 40000) (k : Nat) (hk : 3000 ≤ k) : amphoraref19_Days.f k y m d = some (dn y m d, 0) := by
  obtain ⟨h1, h2, h3, h4⟩ := ho
  have := len_le y m
  unfold amphoraref19_Days.f
  rw [if_neg (by omega), if_neg (by omega), if_neg (by omega), rlength_eq y m k (by omega)]
  simp only [Option.bind_some]
  rw [decide_eq_false (by omega)]
  obtain ⟨k, rfl⟩ : ∃ j, k = j + 1 := ⟨k - 1, by omega⟩
  simp only [amphoraref19_Days.j0, Bool.false_eq_true, if_false]
  rw [rl0 y m d h1 h2 (by omega) (by omega) 150 k 0 y (by omega) (by omega) (by omega) (by omega) (by omega) (by omega)]
  congr 2; omega
theorem rDays_no {y m d : Int} (h : y < -40000 ∨ y > 40000 ∨ d < 1 ∨ d > len y m) (k : Nat) (hk : 3000 ≤ k) : amphoraref19_Days.f k y m d = some (0, 24) := by
  have hj : amphoraref19_Days.j0 k true y m d = some (0, 24) := by
    obtain ⟨k, rfl⟩ : ∃ j, k = j + 1 := ⟨k - 1, by omega⟩
    simp only [amphoraref19_Days.j0, if_true]
  unfold amphoraref19_Days.f
  by_cases a : y < -40000
  · rw [if_pos a, hj]
  · rw [if_neg a]
    by_cases b : y > 40000
    · rw [if_pos b, hj]
    · rw [if_neg b]
      by_cases c : d < 1
      · rw [if_pos c, hj]
      · rw [if_neg c, rlength_eq y m k (by omega)]; simp only [Option.bind_some]; rw [decide_eq_true (by omega), hj]

theorem dl3 (y : Int) (j : Nat) : ∀ (k : Nat) (n m : Int), j + 3 ≤ k → m + j = 12 → 1 ≤ m → 0 ≤ n → n + cum y m < 365 + ld y →
    ∃ m' d', Ok y m' d' ∧ cum y m' + d' - 1 = n + cum y m ∧ amphoraref19_Date.l3 k n y m = (if y < -40000 then some (0, 0, 0, 24) else if y > 40000 then some (0, 0, 0, 24) else some (y, m', d', 0)) := by
  induction j with
  | zero =>
    intro k n m hk h1 h2 h3 h4
    obtain ⟨k, rfl⟩ : ∃ j, k = j + 1 := ⟨k - 1, by omega⟩
    have e : m = 12 := by omega
    subst e
    have c := cum_succ y (m := 12) (by omega) (by omega)
    have c13 := cum_13 y
    have b := ld_bd y
    have lb := len_le y 12
    have ec : (12 : Int) + 1 = 13 := rfl
    rw [ec] at c
    refine ⟨12, n + 1, ⟨by omega, by omega, by omega, by omega⟩, by omega, ?_⟩
    simp only [amphoraref19_Date.l3]
    rw [rlength_eq _ _ _ (by omega)]
    simp only [Option.bind_some]
    rw [if_neg (by omega), w64 (x := n + 1) (by omega) (by omega)]
  | succ j ih =>
    intro k n m hk h1 h2 h3 h4
    obtain ⟨k, rfl⟩ : ∃ j, k = j + 1 := ⟨k - 1, by omega⟩
    have c := cum_succ y (m := m) (by omega) (by omega)
    have b := ld_bd y
    have lb := len_le y m
    have cb := cum_bd y (m := m) (by omega) (by omega)
    simp only [amphoraref19_Date.l3]
    rw [rlength_eq _ _ _ (by omega)]
    simp only [Option.bind_some]
    by_cases hn : n ≥ len y m
    · rw [if_pos hn, w64 (x := n - len y m) (by omega) (by omega), w64 (x := m + 1) (by omega) (by omega)]
      obtain ⟨m', d', o, e, f⟩ := ih k (n - len y m) (m + 1) (by omega) (by omega) (by omega) (by omega) (by omega)
      exact ⟨m', d', o, by omega, f⟩
    · refine ⟨m, n + 1, ⟨by omega, by omega, by omega, by omega⟩, by omega, ?_⟩
      rw [if_neg hn, w64 (x := n + 1) (by omega) (by omega)]
theorem dl2 (j : Nat) : ∀ (k : Nat) (n y : Int), j + 100 ≤ k → n < 365 * j + 365 → j ≤ 500 → 0 ≤ n → -1000000 ≤ y → y + j ≤ 1000000 →
    ∃ y' m' d', Ok y' m' d' ∧ dn y' m' d' = n + J y ∧ amphoraref19_Date.l2 k n y = (if y' < -40000 then some (0, 0, 0, 24) else if y' > 40000 then some (0, 0, 0, 24) else some (y', m', d', 0)) := by
  induction j with
  | zero =>
    intro k n y hk h1 h2 h3 h4 h5
    obtain ⟨k, rfl⟩ : ∃ j, k = j + 1 := ⟨k - 1, by omega⟩
    have b := ld_bd y
    obtain ⟨m', d', o, e, f⟩ := dl3 y 11 k n 1 (by omega) (by omega) (by omega) h3 (by rw [cum_one]; omega)
    rw [cum_one] at e
    refine ⟨y, m', d', o, by unfold dn; omega, ?_⟩
    simp only [amphoraref19_Date.l2]
    rw [rof_eq]
    simp only [Option.bind_some]
    rw [if_neg (by omega), f]
  | succ j ih =>
    intro k n y hk h1 h2 h3 h4 h5
    obtain ⟨k, rfl⟩ : ∃ j, k = j + 1 := ⟨k - 1, by omega⟩
    have b := ld_bd y
    simp only [amphoraref19_Date.l2]
    rw [rof_eq]
    simp only [Option.bind_some]
    by_cases hn : n ≥ 365 + ld y
    · rw [if_pos hn, w64 (x := n - (365 + ld y)) (by omega) (by omega), w64 (x := y + 1) (by omega) (by omega)]
      obtain ⟨y', m', d', o, e, f⟩ := ih k (n - (365 + ld y)) (y + 1) (by omega) (by omega) (by omega) (by omega) (by omega) (by omega)
      exact ⟨y', m', d', o, by rw [J_succ] at e; omega, f⟩
    · obtain ⟨m', d', o, e, f⟩ := dl3 y 11 k n 1 (by omega) (by omega) (by omega) h3 (by rw [cum_one]; omega)
      rw [cum_one] at e
      refine ⟨y, m', d', o, by unfold dn; omega, ?_⟩
      rw [if_neg hn, f]
theorem dl1 (j : Nat) : ∀ (k : Nat) (n y : Int), j + 700 ≤ k → n < 146097 * j + 146097 → j ≤ 200 → 0 ≤ n → -500000 ≤ y → y + 400 * j ≤ 500000 →
    ∃ y' m' d', Ok y' m' d' ∧ dn y' m' d' = n + J y ∧ amphoraref19_Date.l1 k n y = (if y' < -40000 then some (0, 0, 0, 24) else if y' > 40000 then some (0, 0, 0, 24) else some (y', m', d', 0)) := by
  induction j with
  | zero =>
    intro k n y hk h1 h2 h3 h4 h5
    obtain ⟨k, rfl⟩ : ∃ j, k = j + 1 := ⟨k - 1, by omega⟩
    obtain ⟨y', m', d', o, e, f⟩ := dl2 402 k n y (by omega) (by omega) (by omega) h3 (by omega) (by omega)
    refine ⟨y', m', d', o, e, ?_⟩
    simp only [amphoraref19_Date.l1]
    rw [if_neg (by omega), f]
  | succ j ih =>
    intro k n y hk h1 h2 h3 h4 h5
    by_cases hc : n < 146097 * j + 146097
    · exact ih k n y (by omega) hc (by omega) h3 h4 (by omega)
    · obtain ⟨k, rfl⟩ : ∃ j, k = j + 1 := ⟨k - 1, by omega⟩
      obtain ⟨y', m', d', o, e, f⟩ := ih k (n - 146097) (y + 400) (by omega) (by omega) (by omega) (by omega) (by omega) (by omega)
      refine ⟨y', m', d', o, by rw [J_400] at e; omega, ?_⟩
      simp only [amphoraref19_Date.l1]
      rw [if_pos (by omega), w64 (x := n - 146097) (by omega) (by omega), w64 (x := y + 400) (by omega) (by omega), f]
theorem dl0 (j : Nat) : ∀ (k : Nat) (n y : Int), j + 1000 ≤ k → -146097 * j ≤ n → j ≤ 200 → n ≤ 20000000 → -200000 ≤ y - 400 * j → y ≤ 200000 →
    ∃ y' m' d', Ok y' m' d' ∧ dn y' m' d' = n + J y ∧ amphoraref19_Date.l0 k n y = (if y' < -40000 then some (0, 0, 0, 24) else if y' > 40000 then some (0, 0, 0, 24) else some (y', m', d', 0)) := by
  induction j with
  | zero =>
    intro k n y hk h1 h2 h3 h4 h5
    obtain ⟨k, rfl⟩ : ∃ j, k = j + 1 := ⟨k - 1, by omega⟩
    obtain ⟨y', m', d', o, e, f⟩ := dl1 150 k n y (by omega) (by omega) (by omega) (by omega) (by omega) (by omega)
    refine ⟨y', m', d', o, e, ?_⟩
    simp only [amphoraref19_Date.l0]
    rw [if_neg (by omega), f]
  | succ j ih =>
    intro k n y hk h1 h2 h3 h4 h5
    by_cases hc : -146097 * j ≤ n
    · exact ih k n y (by omega) hc (by omega) h3 (by omega) h5
    · obtain ⟨k, rfl⟩ : ∃ j, k = j + 1 := ⟨k - 1, by omega⟩
      obtain ⟨y', m', d', o, e, f⟩ := ih k (n + 146097) (y - 400) (by omega) (by omega) (by omega) (by omega) (by omega) (by omega)
      have h4 := J_400 (y - 400)
      have e4 : y - 400 + 400 = y := by omega
      rw [e4] at h4
      refine ⟨y', m', d', o, by omega, ?_⟩
      simp only [amphoraref19_Date.l0]
      rw [if_pos (by omega), w64 (x := n + 146097) (by omega) (by omega), w64 (x := y - 400) (by omega) (by omega), f]
theorem rDate_no {n : Int} (h : ¬ (lo ≤ n ∧ n ≤ hi)) (k : Nat) (hk : 3000 ≤ k) : amphoraref19_Date.f k n = some (0, 0, 0, 24) := by
  obtain ⟨k, rfl⟩ : ∃ j, k = j + 1 := ⟨k - 1, by omega⟩
  unfold amphoraref19_Date.f
  by_cases h1 : n > 20000000
  · rw [if_pos h1]; simp only [amphoraref19_Date.j0, if_true]
  · rw [if_neg h1]
    by_cases h2 : n < -20000000
    · rw [decide_eq_true h2]; simp only [amphoraref19_Date.j0, if_true]
    · rw [decide_eq_false h2]; simp only [amphoraref19_Date.j0, Bool.false_eq_true, if_false]
      obtain ⟨y', m', d', o, e, f⟩ := dl0 140 k n 1970 (by omega) (by omega) (by omega) (by omega) (by omega) (by omega)
      have j0 : J 1970 = 0 := by decide
      have di := dn_in o
      have r := (not_congr (range_iff (n := n) (y := y') (by omega) (by omega))).1 h
      rw [f]
      by_cases c : y' < -40000
      · rw [if_pos c]
      · rw [if_neg c, if_pos (by omega)]
theorem rDate_ok {n y m d : Int} (ho : Ok y m d) (hd : dn y m d = n) (h : lo ≤ n ∧ n ≤ hi) (k : Nat) (hk : 3000 ≤ k) : amphoraref19_Date.f k n = some (y, m, d, 0) := by
  have h0 := h
  unfold lo hi at h0
  obtain ⟨k, rfl⟩ : ∃ j, k = j + 1 := ⟨k - 1, by omega⟩
  unfold amphoraref19_Date.f
  rw [if_neg (by omega), decide_eq_false (by omega)]; simp only [amphoraref19_Date.j0, Bool.false_eq_true, if_false]
  obtain ⟨y', m', d', o, e, f⟩ := dl0 140 k n 1970 (by omega) (by omega) (by omega) (by omega) (by omega) (by omega)
  have j0 : J 1970 = 0 := by decide
  obtain ⟨rfl, rfl, rfl⟩ := dn_inj ho o (by omega)
  have di := dn_in o
  have r := (range_iff (n := n) (y := y) (by omega) (by omega)).1 h
  rw [f, if_neg (by omega), if_neg (by omega)]

end CivilDatesAid
open CivilDatesAid

theorem CivilDates (y m d n : Int) : ∃ k, amphoralaw19_CivilDates.f k y m d n = some true := by
  obtain ⟨K, hK⟩ : ∃ K : Nat, 6000 ≤ K := ⟨6000, Nat.le_refl _⟩
  refine ⟨K, ?_⟩
  unfold amphoralaw19_CivilDates.f
  rw [alive_f K (by omega)]
  simp only [Option.bind_some, if_true]
  have hnum : ∀ c : Int, amphoranum_Num.f (if c = 0 then none else some c) = some c := by
    intro c
    by_cases hc : c = 0
    · rw [if_pos hc, hc]; rfl
    · rw [if_neg hc]; simp [amphoranum_Num.f, hc]
  have hd : ∃ x c, civil_Days.f K y m d = some (x, if c = 0 then none else some c) ∧ amphoraref19_Days.f K y m d = some (x, c) := by
    by_cases h : y < -40000 ∨ y > 40000 ∨ d < 1 ∨ d > len y m
    · exact ⟨0, 24, by rw [Days_no h K (by omega)]; rfl, rDays_no h K (by omega)⟩
    · have mm := len_pos (y := y) (m := m) (d := d) (by omega) (by omega)
      have o : Ok y m d := ⟨mm.1, mm.2, by omega, by omega⟩
      exact ⟨dn y m d, 0, by rw [Days_ok o (by omega) (by omega) K (by omega)]; rfl, rDays_ok o (by omega) (by omega) K (by omega)⟩
  have hn : ∃ a b e c, civil_Date.f n = some (a, b, e, if c = 0 then none else some c) ∧ amphoraref19_Date.f K n = some (a, b, e, c) := by
    rcases Date_f n with ⟨a, b, e, f, o, q, r0, r1⟩ | ⟨f, h⟩
    · exact ⟨a, b, e, 0, f, rDate_ok o q ⟨r0, r1⟩ K (by omega)⟩
    · exact ⟨0, 0, 0, 24, f, rDate_no h K (by omega)⟩
  obtain ⟨x, c, e1, e2⟩ := hd
  obtain ⟨a, b, e, c', e3, e4⟩ := hn
  rw [e1, e2, e3, e4]
  simp only [Option.bind_some, if_true]
  rw [hnum c]
  simp only [Option.bind_some, if_true, beq_self_eq_true, Bool.and_self]
  rw [hnum c']
  simp only [Option.bind_some, if_true]
  rw [leap_eq, rleap_eq, length_eq _ _ _ (by omega), rlength_eq _ _ _ (by omega)]
  simp

end Go.Proofs.Ytlgjojhenohjnaa.Pure
