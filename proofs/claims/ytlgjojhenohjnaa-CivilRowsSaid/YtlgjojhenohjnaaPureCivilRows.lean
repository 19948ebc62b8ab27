/- The statement CivilRows of layer 19, over plain numbers: weeks are seven days in a row. Conditions: none. -/
import Derived.Test.YtlgjojhenohjnaaOCivilRows
import Derived.Test.YtlgjojhenohjnaaCivMath
namespace Go.Proofs.Ytlgjojhenohjnaa.Pure
open Go.RowKit Go.Proofs.Ytlgjojhenohjnaa.PCivilDates Go.Proofs.Ytlgjojhenohjnaa.OCivilRows Go.Proofs.YtlgjojhenohjnaaW.PrintWords Go.Proofs.YtlgjojhenohjnaaW.PrintLast Go.Proofs.Ytlgjojhenohjnaa.CM
namespace CivilRowsAid

theorem leap_eq (y : Int) : civil_Leap.f y = some (leap y) := by
  unfold civil_Leap.f leap
  have e : (Int.tmod y 400 == 0) = decide (y % 400 = 0) := by rw [Bool.eq_iff_iff]; simp [tm0]
  rw [e]; simp only [tm0]
  by_cases h1 : y % 4 = 0 <;> by_cases h2 : y % 100 = 0 <;> by_cases h3 : y % 400 = 0 <;> simp [h1, h2, h3]

theorem length_eq (y m : Int) (k : Nat) (hk : 2 ≤ k) : civil_Length.f k y m = some (len y m) := by
  obtain ⟨k, rfl⟩ : ∃ j, k = j + 2 := ⟨k - 2, by omega⟩
  by_cases h : 1 ≤ m ∧ m ≤ 12
  · rcases m_cases h.1 h.2 with rfl | rfl | rfl | rfl | rfl | rfl | rfl | rfl | rfl | rfl | rfl | rfl
    case inr.inl =>
      simp [civil_Length.f, civil_Length.j0, civil_Length.j1, leap_eq, len, ld]
      cases leap y <;> rfl
    all_goals simp [civil_Length.f, civil_Length.j0, civil_Length.j1, len]
  · rw [len_out y h]
    have n1 : m ≠ 1 := by omega
    have n2 : m ≠ 2 := by omega
    have n3 : m ≠ 3 := by omega
    have n4 : m ≠ 4 := by omega
    have n5 : m ≠ 5 := by omega
    have n6 : m ≠ 6 := by omega
    have n7 : m ≠ 7 := by omega
    have n8 : m ≠ 8 := by omega
    have n9 : m ≠ 9 := by omega
    have n10 : m ≠ 10 := by omega
    have n11 : m ≠ 11 := by omega
    have n12 : m ≠ 12 := by omega
    simp [civil_Length.f, civil_Length.j0, civil_Length.j1, n1, n2, n3, n4, n5, n6, n7, n8, n9, n10, n11, n12]

theorem floor_eq (a c : Int) (hc : 0 < c) (h0 : -9223372036854775808 ≤ a) (h1 : a ≤ 9223372036854775807) : civil_floor.f a c = some (a / c) := by
  obtain ⟨t1, t2⟩ := tdm a c hc
  have b := ediv_bd a c hc
  unfold civil_floor.f
  rw [if_neg (by omega)]
  by_cases hn : Int.tmod a c < 0
  · have an : ¬ 0 ≤ a := by
      intro an
      rw [tm an] at hn
      have := Int.emod_nonneg a (by omega : c ≠ 0)
      omega
    rw [if_pos hn]; rw [if_pos hn] at t1; rw [w64 (x := Int.tdiv a c) (by omega) (by omega), w64 (by omega) (by omega)]; congr 1; omega
  · rw [if_neg hn]; rw [if_neg hn] at t1; rw [w64 (by omega) (by omega), t1]

theorem days_f {y m : Int} (d : Int) (h1 : 1 ≤ m) (h2 : m ≤ 12) (y0 : -1000000 ≤ y) (y1 : y ≤ 1000000) (d0 : -1000 ≤ d) (d1 : d ≤ 1000) :
    civil_days.f y m d = some (dn y m d) := by
  unfold civil_days.f
  by_cases hm : m ≤ 2
  · have e := days_eq (d := d) h1 h2 (y - 1) ((y - 1) / 400) (by rw [if_pos hm]) rfl
    rw [if_pos hm, w64 (x := y - 1) (by omega) (by omega), floor_eq _ 400 (by omega) (by omega) (by omega)]
    simp only [Option.bind_some]
    simp (disch := omega) only [w64, td, tm]
    rw [e]
  · have e := days_eq (y := y) (d := d) h1 h2 y (y / 400) (by rw [if_neg hm]) rfl
    rw [if_neg hm, floor_eq _ 400 (by omega) (by omega) (by omega)]
    simp only [Option.bind_some]
    simp (disch := omega) only [w64, td, tm]
    rw [e]

theorem inRange_f (n : Int) : civil_inRange.f n = some (decide (lo ≤ n ∧ n ≤ hi)) := by
  unfold civil_inRange.f
  rw [days_f 1 (by omega) (by omega) (by omega) (by omega) (by omega) (by omega), lo_eq]
  simp only [Option.bind_some]
  rw [days_f 31 (by omega) (by omega) (by omega) (by omega) (by omega) (by omega), hi_eq]
  simp only [Option.bind_some]
  by_cases h : lo ≤ n
  · rw [if_pos h]; simp [h]
  · rw [if_neg h]; simp [h]

set_option maxHeartbeats 2000000 in
theorem date_f (n : Int) (h0 : -1000000000 ≤ n) (h1 : n ≤ 1000000000) : ∃ y m d, civil_date.f n = some (y, m, d) ∧ Ok y m d ∧ dn y m d = n := by
  obtain ⟨z, hz⟩ : ∃ z, z = n + 719468 := ⟨_, rfl⟩
  obtain ⟨e, he⟩ : ∃ e, e = z / 146097 := ⟨_, rfl⟩
  obtain ⟨q, hq⟩ : ∃ q, q = T (z - e * 146097) / 365 := ⟨_, rfl⟩
  obtain ⟨a, b, c, dd, ff⟩ := march e (e * 400 + q) q he hq rfl
  have hb := ld_bd (e * 400 + q + 1)
  have hS : S q = 365 * q + q / 4 - q / 100 := rfl
  obtain ⟨mp, hmp⟩ : ∃ mp, mp = (5 * (z - e * 146097 - S q) + 2) / 153 := ⟨_, rfl⟩
  obtain ⟨m0, m1, mo, md⟩ := month c dd mp hmp
  have p0 : 0 ≤ z - e * 146097 := by omega
  have p1 : z - e * 146097 ≤ 146096 := by omega
  have p2 : -10000000 ≤ e ∧ e ≤ 10000000 := by omega
  unfold T at hq
  refine ⟨_, _, _, ?_, mo, by omega⟩
  unfold civil_date.f
  rw [w64 (x := n + 719468) (by omega) (by omega), ← hz, floor_eq z 146097 (by omega) (by omega) (by omega), ← he]
  simp only [Option.bind_some]
  rw [hS] at hmp c dd
  rw [hS]
  have w1 : wrap64 (z - wrap64 (e * 146097)) = z - e * 146097 := by rw [w64 (x := e * 146097) (by omega) (by omega), w64 (by omega) (by omega)]
  rw [w1]
  generalize hdoe : z - e * 146097 = D at *
  have w2' : Int.tdiv (wrap64 ((wrap64 ((wrap64 (D - (wrap64 (Int.tdiv D 1460)))) + (wrap64 (Int.tdiv D 36524)))) - (wrap64 (Int.tdiv D 146096)))) 365 = q := by
    simp (disch := omega) only [w64, td]; omega
  have wq : wrap64 q = q := w64 (by omega) (by omega)
  simp only [w2', wq]
  have w3 : wrap64 (D - (wrap64 ((wrap64 ((wrap64 (365 * q)) + (wrap64 (Int.tdiv q 4)))) - (wrap64 (Int.tdiv q 100))))) = D - (365 * q + q / 4 - q / 100) := by
    simp (disch := omega) only [w64, td]
  simp only [w3]
  generalize hw : D - (365 * q + q / 4 - q / 100) = w at *
  have w4 : wrap64 (Int.tdiv (wrap64 ((wrap64 (5 * w)) + 2)) 153) = mp := by
    simp (disch := omega) only [w64, td]; omega
  simp only [w4]
  have w5 : wrap64 ((Int.tmod (wrap64 (mp + 2)) 12) + 1) = (mp + 2) % 12 + 1 := by
    simp (disch := omega) only [w64, tm]
  simp only [w5]
  have w6 : wrap64 ((wrap64 (w - (wrap64 (Int.tdiv (wrap64 ((wrap64 (153 * mp)) + 2)) 5)))) + 1) = w - (153 * mp + 2) / 5 + 1 := by
    simp (disch := omega) only [w64, td]
  simp only [w6]
  have w7 : wrap64 ((wrap64 (e * 400)) + q) = e * 400 + q := by simp (disch := omega) only [w64]
  simp only [w7]
  have w8 : wrap64 (e * 400 + q + 1) = e * 400 + q + 1 := by simp (disch := omega) only [w64]
  simp only [w8]
  split <;> rfl

theorem date_at {n y m d : Int} (h0 : -1000000000 ≤ n) (h1 : n ≤ 1000000000) (ho : Ok y m d) (hd : dn y m d = n) : civil_date.f n = some (y, m, d) := by
  obtain ⟨y', m', d', e, o, f⟩ := date_f n h0 h1
  obtain ⟨rfl, rfl, rfl⟩ := dn_inj ho o (by omega)
  exact e

theorem Date_f (n : Int) : (∃ y m d, civil_Date.f n = some (y, m, d, none) ∧ Ok y m d ∧ dn y m d = n ∧ lo ≤ n ∧ n ≤ hi) ∨ (civil_Date.f n = some (0, 0, 0, some 24) ∧ ¬ (lo ≤ n ∧ n ≤ hi)) := by
  unfold civil_Date.f
  rw [inRange_f]
  simp only [Option.bind_some]
  by_cases h : lo ≤ n ∧ n ≤ hi
  · left
    obtain ⟨y, m, d, e, o, f⟩ := date_f n (by unfold lo at h; omega) (by unfold hi at h; omega)
    exact ⟨y, m, d, by rw [if_pos (by simpa using h), e]; rfl, o, f, h.1, h.2⟩
  · right; exact ⟨by rw [if_neg (by simpa using h)], h⟩

theorem Days_ok {y m d : Int} (ho : Ok y m d) (y0 : -40000 ≤ y) (y1 : y ≤ 40000) (k : Nat) (hk : 2 ≤ k) : civil_Days.f k y m d = some (dn y m d, none) := by
  obtain ⟨h1, h2, h3, h4⟩ := ho
  have := len_le y m
  unfold civil_Days.f
  rw [if_neg (by omega), if_neg (by omega), if_neg (by omega), length_eq y m k hk]
  simp only [Option.bind_some]
  rw [if_neg (by omega), days_f d h1 h2 (by omega) (by omega) (by omega) (by omega)]; rfl
theorem Days_no {y m d : Int} (h : y < -40000 ∨ y > 40000 ∨ d < 1 ∨ d > len y m) (k : Nat) (hk : 2 ≤ k) : civil_Days.f k y m d = some (0, some 24) := by
  unfold civil_Days.f
  by_cases a : y < -40000
  · rw [if_pos a]
  · rw [if_neg a]
    by_cases b : y > 40000
    · rw [if_pos b]
    · rw [if_neg b]
      by_cases c : d < 1
      · rw [if_pos c]
      · rw [if_neg c, length_eq y m k hk]; simp only [Option.bind_some]; rw [if_pos (by omega)]

theorem Weekday_f (n : Int) : civil_Weekday.f n = some (wd n) := by
  unfold civil_Weekday.f wd
  obtain ⟨t1, t2⟩ := tdm n 7 (by omega)
  have h1 := t2
  congr 1
  by_cases hn : Int.tmod n 7 < 0
  · rw [if_pos hn] at t2
    simp (disch := omega) only [w64, tm]; omega
  · rw [if_neg hn] at t2
    simp (disch := omega) only [w64, tm]; omega

theorem alive_f (k : Nat) (hk : 2 ≤ k) : amphoralaw19_alive.f k = some true := by
  unfold amphoralaw19_alive.f
  have o : Ok 1970 1 1 := by unfold Ok; decide
  have o' : Ok 2000 2 29 := by unfold Ok; decide
  have e : civil_Date.f 0 = some (1970, 1, 1, none) := by
    rcases Date_f 0 with ⟨y, m, d, h, h1, h2, _, _⟩ | ⟨_, h⟩
    · obtain ⟨rfl, rfl, rfl⟩ := dn_inj o h1 (by rw [h2]; decide)
      exact h
    · exact absurd ⟨by decide, by decide⟩ h
  rw [e, Days_ok o' (by omega) (by omega) k hk, Weekday_f]
  decide

/-- The week of a day in range: the year and the number of its Thursday. -/
theorem week_thu {n : Int} (h : lo ≤ n ∧ n ≤ hi) : ∃ y m d, Ok y m d ∧ dn y m d = n + 4 - wd n ∧ J y ≤ n + 4 - wd n ∧ n + 4 - wd n < J (y + 1) ∧ -40001 ≤ y ∧ y ≤ 40001 ∧
    civil_Week.f n = some (y, (n + 4 - wd n - J y) / 7 + 1, none) := by
  have h' := h
  unfold lo hi at h'
  have w : 1 ≤ wd n ∧ wd n ≤ 7 := by unfold wd; omega
  obtain ⟨y, m, d, e, o, f⟩ := date_f (n + 4 - wd n) (by omega) (by omega)
  have i := dn_in o
  have jl := J_lo; have jh := J_hi
  have j1 := J_succ (-40001); have j2 := ld_bd (-40001)
  have e1 : (-40001 : Int) + 1 = -40000 := rfl
  rw [e1] at j1
  have j3 := J_succ 40001; have j4 := ld_bd 40001
  have e2 : (40001 : Int) + 1 = 40002 := rfl
  rw [e2] at j3
  have y0 : -40001 ≤ y := by
    by_cases c : -40001 ≤ y
    · exact c
    · have := J_mono (y := y + 1) (z := -40001) (by omega); omega
  have y1 : y ≤ 40001 := by
    by_cases c : y ≤ 40001
    · exact c
    · have := J_mono (y := 40002) (z := y) (by omega); omega
  refine ⟨y, m, d, o, f, by omega, by omega, y0, y1, ?_⟩
  unfold civil_Week.f
  rw [inRange_f, decide_eq_true h]
  simp only [Option.bind_some, if_true]
  rw [Weekday_f]
  simp only [Option.bind_some]
  rw [w64 (x := n + 4) (by omega) (by omega), w64 (x := n + 4 - wd n) (by omega) (by omega), e]
  simp only [Option.bind_some]
  rw [days_f 1 (by omega) (by omega) (by omega) (by omega) (by omega) (by omega)]
  have hd : dn y 1 1 = J y := by unfold dn; rw [cum_one]; omega
  rw [hd]
  simp only [Option.bind_some]
  have js := J_succ y; have lb := ld_bd y
  simp (disch := omega) only [w64, td]
theorem week_no {n : Int} (h : ¬ (lo ≤ n ∧ n ≤ hi)) : civil_Week.f n = some (0, 0, some 24) := by
  unfold civil_Week.f
  rw [inRange_f, decide_eq_false h]
  rfl

/-- The week of a Monday and a day of it. -/
theorem wk_at {a y : Int} (i : Int) (ha : wd a = 1) (h0 : 0 ≤ i) (h1 : i < 7) (r : lo ≤ a + i ∧ a + i ≤ hi) (p : J y ≤ a + 3) (q : a + 3 < J (y + 1)) :
    civil_Week.f (a + i) = some (y, (a + 3 - J y) / 7 + 1, none) ∧ wd (a + i) = i + 1 := by
  have w : wd (a + i) = i + 1 := by unfold wd at *; omega
  obtain ⟨y', m, d, o, e, s, t, _, _, f⟩ := week_thu r
  have e4 : a + i + 4 - wd (a + i) = a + 3 := by omega
  rw [e4] at s t f
  have := year_of p q s t
  subst this
  exact ⟨f, w⟩
theorem rows_l (a y W : Int) (ha : wd a = 1) (r : lo ≤ a ∧ a + 7 ≤ hi) (p : J y ≤ a + 3) (q : a + 3 < J (y + 1)) (hW : W = (a + 3 - J y) / 7 + 1) (j : Nat) : ∀ (k : Nat) (i : Int), j + 5 ≤ k → i + j = 7 → 0 ≤ i →
    amphoralaw19_CivilRows.l0 k a y W i = some true := by
  have r' := r
  unfold lo hi at r'
  induction j with
  | zero =>
    intro k i hk h1 h2
    obtain ⟨k, rfl⟩ : ∃ j, k = j + 1 := ⟨k - 1, by omega⟩
    have yr : ∃ y' m d, civil_Date.f (a + 3) = some (y', m, d, none) ∧ Ok y' m d ∧ dn y' m d = a + 3 := by
      rcases Date_f (a + 3) with ⟨y', m, d, e, o, f, _, _⟩ | ⟨_, h⟩
      · exact ⟨y', m, d, e, o, f⟩
      · exact absurd ⟨by omega, by omega⟩ h
    obtain ⟨y', m, d, e, o, f⟩ := yr
    have i1 := dn_in o
    have yy := year_of p q (z := y') (by omega) (by omega)
    subst yy
    have w7 : wd (a + 7) = 1 := by unfold wd at *; omega
    obtain ⟨z, m', d', o', e', s, t, _, _, f'⟩ := week_thu (n := a + 7) ⟨by omega, by omega⟩
    have e4 : a + 7 + 4 - wd (a + 7) = a + 10 := by omega
    rw [e4] at s t f'
    simp only [amphoralaw19_CivilRows.l0]
    rw [if_neg (by omega), w64 (x := a + 3) (by omega) (by omega), w64 (x := a + 7) (by omega) (by omega), e, f']
    simp only [Option.bind_some, Option.isNone_none, if_true]
    have Jb := J_mono (y := -40010) (z := y) (by
      by_cases c : -40010 ≤ y
      · exact c
      · have := J_mono (y := y + 1) (z := -40010) (by omega)
        have : J (-40010) = -15332880 := by decide
        omega)
    have jl : J (-40010) = -15332880 := by decide
    have yb : -40010 ≤ y ∧ y ≤ 40010 := by
      constructor
      · by_cases c : -40010 ≤ y
        · exact c
        · have := J_mono (y := y + 1) (z := -40010) (by omega)
          omega
      · by_cases c : y ≤ 40010
        · exact c
        · have := J_mono (y := 40010) (z := y) (by omega)
          have : J 40010 = 13893825 := by decide
          omega
    have js := J_succ y; have lb := ld_bd y
    have Wb : 1 ≤ W ∧ W ≤ 53 := by omega
    rw [w64 (x := W + 1) (by omega) (by omega), w64 (x := y + 1) (by omega) (by omega)]
    by_cases c : a + 10 < J (y + 1)
    · have zz := year_of (y := y) (z := z) (n := a + 10) (by omega) (by omega) s t
      subst zz
      have : (a + 10 - J y) / 7 + 1 = W + 1 := by omega
      simp [this]
    · have j2 := J_succ (y + 1); have j3 := ld_bd (y + 1)
      have zz := year_of (y := y + 1) (z := z) (n := a + 10) (by omega) (by omega) s t
      subst zz
      have w1 : (a + 10 - J (y + 1)) / 7 + 1 = 1 := by omega
      have ne : ¬ (y + 1 = y) := by omega
      have w52 : W ≥ 52 := by omega
      rw [if_neg ne, w1]; simp [w52]
  | succ j ih =>
    intro k i hk h1 h2
    obtain ⟨k, rfl⟩ : ∃ j, k = j + 1 := ⟨k - 1, by omega⟩
    obtain ⟨f, w⟩ := wk_at i ha h2 (by omega) ⟨by omega, by omega⟩ p q
    simp only [amphoralaw19_CivilRows.l0]
    rw [if_pos (by omega), w64 (x := a + i) (by omega) (by omega), f]
    simp only [Option.bind_some, Option.isNone_none, if_true]
    rw [← hW, if_pos rfl, Weekday_f, w]
    simp only [Option.bind_some]
    rw [w64 (x := i + 1) (by omega) (by omega), if_pos rfl]
    exact ih k (i + 1) (by omega) (by omega) (by omega)
end CivilRowsAid
open CivilRowsAid

theorem CivilRows : amphoralaw19_CivilRows.Pure := by
  intro n hn
  obtain ⟨K, hK⟩ : ∃ K : Nat, 50 ≤ K := ⟨50, Nat.le_refl _⟩
  refine ⟨K + 2, ?_⟩
  unfold amphoralaw19_CivilRows.f
  rw [alive_f (K + 2) (by omega)]
  simp only [Option.bind_some, if_true]
  by_cases h0 : n < -14000000
  · rw [if_pos h0]; simp only [amphoralaw19_CivilRows.j0, if_true]
  · rw [if_neg h0]
    by_cases h1 : n > 13000000
    · rw [decide_eq_true h1]; simp only [amphoralaw19_CivilRows.j0, if_true]
    · rw [decide_eq_false h1]
      simp only [amphoralaw19_CivilRows.j0, Bool.false_eq_true, if_false]
      rw [Weekday_f]
      simp only [Option.bind_some]
      have wb : 1 ≤ wd n ∧ wd n ≤ 7 := by unfold wd; omega
      have wa : wd (n - wd n + 1) = 1 := by unfold wd; omega
      rw [w64 (x := n - wd n) (by omega) (by omega), w64 (x := n - wd n + 1) (by omega) (by omega)]
      obtain ⟨a, rfl⟩ : ∃ a, a = n - wd n + 1 := ⟨_, rfl⟩
      obtain ⟨y, m, d, o, e, s, t, y0, y1, f⟩ := week_thu (n := n - wd n + 1) ⟨by unfold lo; omega, by unfold hi; omega⟩
      rw [f]
      rw [wa] at s t f
      have e3 : n - wd n + 1 + 4 - 1 = n - wd n + 1 + 3 := by omega
      rw [e3] at s t f
      simp only [Option.bind_some, Option.isNone_none, if_true]
      have js := J_succ y; have lb := ld_bd y
      rw [if_neg (by omega), decide_eq_false (by omega)]
      simp only [amphoralaw19_CivilRows.j1, Bool.false_eq_true, if_false]
      rw [wa, e3]
      exact rows_l _ y _ wa ⟨by unfold lo; omega, by unfold hi; omega⟩ s t rfl 7 K 0 (by omega) (by omega) (by omega)

end Go.Proofs.Ytlgjojhenohjnaa.Pure
