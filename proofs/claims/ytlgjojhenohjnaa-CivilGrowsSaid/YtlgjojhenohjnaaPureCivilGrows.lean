/- The statement CivilGrows of layer 19, over plain numbers: buckets never fall as time goes on, and those of one day are one. Conditions: none. -/
import Derived.Test.YtlgjojhenohjnaaOCivilGrows
import Derived.Test.YtlgjojhenohjnaaCivMath
namespace Go.Proofs.Ytlgjojhenohjnaa.Pure
open Go.RowKit Go.Proofs.Ytlgjojhenohjnaa.PCivilDates Go.Proofs.Ytlgjojhenohjnaa.OCivilGrows Go.Proofs.YtlgjojhenohjnaaW.PrintWords Go.Proofs.YtlgjojhenohjnaaW.PrintLast Go.Proofs.Ytlgjojhenohjnaa.CM
namespace CivilGrowsAid

theorem leap_eq (y : Int) : civil_Leap.f y = some (leap y) := by
  unfold civil_Leap.f leap
  have e : (Int.tmod y 400 == 0) = decide (y % 400 = 0) := by rw [Bool.eq_iff_iff]; simp [tm0]
  rw [e]; simp only [tm0]
  by_cases h1 : y % 4 = 0 <;> by_cases h2 : y % 100 = 0 <;> by_cases h3 : y % 400 = 0 <;> simp [h1, h2, h3]

theorem length_eq (y m : Int) (k : Nat) (hk : 2 ≤ k) : civil_Length.f k y m = some (len y m) := by
  obtain ⟨k, rfl⟩ : ∃ j, k = j + 2 := ⟨k - 2, by omega⟩
  by_cases h : 1 ≤ m ∧ m ≤ 12
  · rcases m_cases h.1 h.2 with rfl | rfl | rfl | rfl | rfl | rfl | rfl | rfl | rfl | rfl | rfl | rfl
    case inr.inl =>
      simp [civil_Length.f, civil_Length.j0, civil_Length.j1, leap_eq, len, ld]
      cases leap y <;> rfl
    all_goals simp [civil_Length.f, civil_Length.j0, civil_Length.j1, len]
  · rw [len_out y h]
    have n1 : m ≠ 1 := by omega
    have n2 : m ≠ 2 := by omega
    have n3 : m ≠ 3 := by omega
    have n4 : m ≠ 4 := by omega
    have n5 : m ≠ 5 := by omega
    have n6 : m ≠ 6 := by omega
    have n7 : m ≠ 7 := by omega
    have n8 : m ≠ 8 := by omega
    have n9 : m ≠ 9 := by omega
    have n10 : m ≠ 10 := by omega
    have n11 : m ≠ 11 := by omega
    have n12 : m ≠ 12 := by omega
    simp [civil_Length.f, civil_Length.j0, civil_Length.j1, n1, n2, n3, n4, n5, n6, n7, n8, n9, n10, n11, n12]

theorem floor_eq (a c : Int) (hc : 0 < c) (h0 : -9223372036854775808 ≤ a) (h1 : a ≤ 9223372036854775807) : civil_floor.f a c = some (a / c) := by
  obtain ⟨t1, t2⟩ := tdm a c hc
  have b := ediv_bd a c hc
  unfold civil_floor.f
  rw [if_neg (by omega)]
  by_cases hn : Int.tmod a c < 0
  · have an : ¬ 0 ≤ a := by
      intro an
      rw [tm an] at hn
      have := Int.emod_nonneg a (by omega : c ≠ 0)
      omega
    rw [if_pos hn]; rw [if_pos hn] at t1; rw [w64 (x := Int.tdiv a c) (by omega) (by omega), w64 (by omega) (by omega)]; congr 1; omega
  · rw [if_neg hn]; rw [if_neg hn] at t1; rw [w64 (by omega) (by omega), t1]

theorem days_f {y m : Int} (d : Int) (h1 : 1 ≤ m) (h2 : m ≤ 12) (y0 : -1000000 ≤ y) (y1 : y ≤ 1000000) (d0 : -1000 ≤ d) (d1 : d ≤ 1000) :
    civil_days.f y m d = some (dn y m d) := by
  unfold civil_days.f
  by_cases hm : m ≤ 2
  · have e := days_eq (d := d) h1 h2 (y - 1) ((y - 1) / 400) (by rw [if_pos hm]) rfl
    rw [if_pos hm, w64 (x := y - 1) (by omega) (by omega), floor_eq _ 400 (by omega) (by omega) (by omega)]
    simp only [Option.bind_some]
    simp (disch := omega) only [w64, td, tm]
    rw [e]
  · have e := days_eq (y := y) (d := d) h1 h2 y (y / 400) (by rw [if_neg hm]) rfl
    rw [if_neg hm, floor_eq _ 400 (by omega) (by omega) (by omega)]
    simp only [Option.bind_some]
    simp (disch := omega) only [w64, td, tm]
    rw [e]

theorem inRange_f (n : Int) : civil_inRange.f n = some (decide (lo ≤ n ∧ n ≤ hi)) := by
  unfold civil_inRange.f
  rw [days_f 1 (by omega) (by omega) (by omega) (by omega) (by omega) (by omega), lo_eq]
  simp only [Option.bind_some]
  rw [days_f 31 (by omega) (by omega) (by omega) (by omega) (by omega) (by omega), hi_eq]
  simp only [Option.bind_some]
  by_cases h : lo ≤ n
  · rw [if_pos h]; simp [h]
  · rw [if_neg h]; simp [h]

set_option maxHeartbeats 2000000 in
theorem date_f (n : Int) (h0 : -1000000000 ≤ n) (h1 : n ≤ 1000000000) : ∃ y m d, civil_date.f n = some (y, m, d) ∧ Ok y m d ∧ dn y m d = n := by
  obtain ⟨z, hz⟩ : ∃ z, z = n + 719468 := ⟨_, rfl⟩
  obtain ⟨e, he⟩ : ∃ e, e = z / 146097 := ⟨_, rfl⟩
  obtain ⟨q, hq⟩ : ∃ q, q = T (z - e * 146097) / 365 := ⟨_, rfl⟩
  obtain ⟨a, b, c, dd, ff⟩ := march e (e * 400 + q) q he hq rfl
  have hb := ld_bd (e * 400 + q + 1)
  have hS : S q = 365 * q + q / 4 - q / 100 := rfl
  obtain ⟨mp, hmp⟩ : ∃ mp, mp = (5 * (z - e * 146097 - S q) + 2) / 153 := ⟨_, rfl⟩
  obtain ⟨m0, m1, mo, md⟩ := month c dd mp hmp
  have p0 : 0 ≤ z - e * 146097 := by omega
  have p1 : z - e * 146097 ≤ 146096 := by omega
  have p2 : -10000000 ≤ e ∧ e ≤ 10000000 := by omega
  unfold T at hq
  refine ⟨_, _, _, ?_, mo, by omega⟩
  unfold civil_date.f
  rw [w64 (x := n + 719468) (by omega) (by omega), ← hz, floor_eq z 146097 (by omega) (by omega) (by omega), ← he]
  simp only [Option.bind_some]
  rw [hS] at hmp c dd
  rw [hS]
  have w1 : wrap64 (z - wrap64 (e * 146097)) = z - e * 146097 := by rw [w64 (x := e * 146097) (by omega) (by omega), w64 (by omega) (by omega)]
  rw [w1]
  generalize hdoe : z - e * 146097 = D at *
  have w2' : Int.tdiv (wrap64 ((wrap64 ((wrap64 (D - (wrap64 (Int.tdiv D 1460)))) + (wrap64 (Int.tdiv D 36524)))) - (wrap64 (Int.tdiv D 146096)))) 365 = q := by
    simp (disch := omega) only [w64, td]; omega
  have wq : wrap64 q = q := w64 (by omega) (by omega)
  simp only [w2', wq]
  have w3 : wrap64 (D - (wrap64 ((wrap64 ((wrap64 (365 * q)) + (wrap64 (Int.tdiv q 4)))) - (wrap64 (Int.tdiv q 100))))) = D - (365 * q + q / 4 - q / 100) := by
    simp (disch := omega) only [w64, td]
  simp only [w3]
  generalize hw : D - (365 * q + q / 4 - q / 100) = w at *
  have w4 : wrap64 (Int.tdiv (wrap64 ((wrap64 (5 * w)) + 2)) 153) = mp := by
    simp (disch := omega) only [w64, td]; omega
  simp only [w4]
  have w5 : wrap64 ((Int.tmod (wrap64 (mp + 2)) 12) + 1) = (mp + 2) % 12 + 1 := by
    simp (disch := omega) only [w64, tm]
  simp only [w5]
  have w6 : wrap64 ((wrap64 (w - (wrap64 (Int.tdiv (wrap64 ((wrap64 (153 * mp)) + 2)) 5)))) + 1) = w - (153 * mp + 2) / 5 + 1 := by
    simp (disch := omega) only [w64, td]
  simp only [w6]
  have w7 : wrap64 ((wrap64 (e * 400)) + q) = e * 400 + q := by simp (disch := omega) only [w64]
  simp only [w7]
  have w8 : wrap64 (e * 400 + q + 1) = e * 400 + q + 1 := by simp (disch := omega) only [w64]
  simp only [w8]
  split <;> rfl

theorem date_at {n y m d : Int} (h0 : -1000000000 ≤ n) (h1 : n ≤ 1000000000) (ho : Ok y m d) (hd : dn y m d = n) : civil_date.f n = some (y, m, d) := by
  obtain ⟨y', m', d', e, o, f⟩ := date_f n h0 h1
  obtain ⟨rfl, rfl, rfl⟩ := dn_inj ho o (by omega)
  exact e

theorem Date_f (n : Int) : (∃ y m d, civil_Date.f n = some (y, m, d, none) ∧ Ok y m d ∧ dn y m d = n ∧ lo ≤ n ∧ n ≤ hi) ∨ (civil_Date.f n = some (0, 0, 0, some 24) ∧ ¬ (lo ≤ n ∧ n ≤ hi)) := by
  unfold civil_Date.f
  rw [inRange_f]
  simp only [Option.bind_some]
  by_cases h : lo ≤ n ∧ n ≤ hi
  · left
    obtain ⟨y, m, d, e, o, f⟩ := date_f n (by unfold lo at h; omega) (by unfold hi at h; omega)
    exact ⟨y, m, d, by rw [if_pos (by simpa using h), e]; rfl, o, f, h.1, h.2⟩
  · right; exact ⟨by rw [if_neg (by simpa using h)], h⟩

theorem Days_ok {y m d : Int} (ho : Ok y m d) (y0 : -40000 ≤ y) (y1 : y ≤ 40000) (k : Nat) (hk : 2 ≤ k) : civil_Days.f k y m d = some (dn y m d, none) := by
  obtain ⟨h1, h2, h3, h4⟩ := ho
  have := len_le y m
  unfold civil_Days.f
  rw [if_neg (by omega), if_neg (by omega), if_neg (by omega), length_eq y m k hk]
  simp only [Option.bind_some]
  rw [if_neg (by omega), days_f d h1 h2 (by omega) (by omega) (by omega) (by omega)]; rfl
theorem Days_no {y m d : Int} (h : y < -40000 ∨ y > 40000 ∨ d < 1 ∨ d > len y m) (k : Nat) (hk : 2 ≤ k) : civil_Days.f k y m d = some (0, some 24) := by
  unfold civil_Days.f
  by_cases a : y < -40000
  · rw [if_pos a]
  · rw [if_neg a]
    by_cases b : y > 40000
    · rw [if_pos b]
    · rw [if_neg b]
      by_cases c : d < 1
      · rw [if_pos c]
      · rw [if_neg c, length_eq y m k hk]; simp only [Option.bind_some]; rw [if_pos (by omega)]

theorem Weekday_f (n : Int) : civil_Weekday.f n = some (wd n) := by
  unfold civil_Weekday.f wd
  obtain ⟨t1, t2⟩ := tdm n 7 (by omega)
  have h1 := t2
  congr 1
  by_cases hn : Int.tmod n 7 < 0
  · rw [if_pos hn] at t2
    simp (disch := omega) only [w64, tm]; omega
  · rw [if_neg hn] at t2
    simp (disch := omega) only [w64, tm]; omega

theorem alive_f (k : Nat) (hk : 2 ≤ k) : amphoralaw19_alive.f k = some true := by
  unfold amphoralaw19_alive.f
  have o : Ok 1970 1 1 := by unfold Ok; decide
  have o' : Ok 2000 2 29 := by unfold Ok; decide
  have e : civil_Date.f 0 = some (1970, 1, 1, none) := by
    rcases Date_f 0 with ⟨y, m, d, h, h1, h2, _, _⟩ | ⟨_, h⟩
    · obtain ⟨rfl, rfl, rfl⟩ := dn_inj o h1 (by rw [h2]; decide)
      exact h
    · exact absurd ⟨by decide, by decide⟩ h
  rw [e, Days_ok o' (by omega) (by omega) k hk, Weekday_f]
  decide

/-- The week of a day in range: the year and the number of its Thursday. -/
theorem week_thu {n : Int} (h : lo ≤ n ∧ n ≤ hi) : ∃ y m d, Ok y m d ∧ dn y m d = n + 4 - wd n ∧ J y ≤ n + 4 - wd n ∧ n + 4 - wd n < J (y + 1) ∧ -40001 ≤ y ∧ y ≤ 40001 ∧
    civil_Week.f n = some (y, (n + 4 - wd n - J y) / 7 + 1, none) := by
  have h' := h
  unfold lo hi at h'
  have w : 1 ≤ wd n ∧ wd n ≤ 7 := by unfold wd; omega
  obtain ⟨y, m, d, e, o, f⟩ := date_f (n + 4 - wd n) (by omega) (by omega)
  have i := dn_in o
  have jl := J_lo; have jh := J_hi
  have j1 := J_succ (-40001); have j2 := ld_bd (-40001)
  have e1 : (-40001 : Int) + 1 = -40000 := rfl
  rw [e1] at j1
  have j3 := J_succ 40001; have j4 := ld_bd 40001
  have e2 : (40001 : Int) + 1 = 40002 := rfl
  rw [e2] at j3
  have y0 : -40001 ≤ y := by
    by_cases c : -40001 ≤ y
    · exact c
    · have := J_mono (y := y + 1) (z := -40001) (by omega); omega
  have y1 : y ≤ 40001 := by
    by_cases c : y ≤ 40001
    · exact c
    · have := J_mono (y := 40002) (z := y) (by omega); omega
  refine ⟨y, m, d, o, f, by omega, by omega, y0, y1, ?_⟩
  unfold civil_Week.f
  rw [inRange_f, decide_eq_true h]
  simp only [Option.bind_some, if_true]
  rw [Weekday_f]
  simp only [Option.bind_some]
  rw [w64 (x := n + 4) (by omega) (by omega), w64 (x := n + 4 - wd n) (by omega) (by omega), e]
  simp only [Option.bind_some]
  rw [days_f 1 (by omega) (by omega) (by omega) (by omega) (by omega) (by omega)]
  have hd : dn y 1 1 = J y := by unfold dn; rw [cum_one]; omega
  rw [hd]
  simp only [Option.bind_some]
  have js := J_succ y; have lb := ld_bd y
  simp (disch := omega) only [w64, td]
theorem week_no {n : Int} (h : ¬ (lo ≤ n ∧ n ≤ hi)) : civil_Week.f n = some (0, 0, some 24) := by
  unfold civil_Week.f
  rw [inRange_f, decide_eq_false h]
  rfl

theorem Day_f (t : Int) (h0 : -9223372036854775808 ≤ t) (h1 : t ≤ 9223372036854775807) : civil_Day.f t = some (t / 86400) := by
  unfold civil_Day.f; rw [floor_eq t 86400 (by omega) h0 h1]; rfl
theorem Hour_f (t : Int) (h0 : -9223372036854775808 ≤ t) (h1 : t ≤ 9223372036854775807) : civil_Hour.f t = some (t / 3600) := by
  unfold civil_Hour.f; rw [floor_eq t 3600 (by omega) h0 h1]; rfl
/-- A day of a time is in range; its date and its week. -/
theorem day_of (t : Int) (h0 : -1099511627776 ≤ t) (h1 : t ≤ 1099511627776) : ∃ y m d z, Ok y m d ∧ dn y m d = t / 86400 ∧ -40000 ≤ y ∧ y ≤ 40000 ∧ lo ≤ t / 86400 ∧ t / 86400 ≤ hi ∧
    J z ≤ t / 86400 + 4 - wd (t / 86400) ∧ t / 86400 + 4 - wd (t / 86400) < J (z + 1) ∧ -40001 ≤ z ∧ z ≤ 40001 ∧
    civil_date.f (t / 86400) = some (y, m, d) ∧ civil_Week.f (t / 86400) = some (z, (t / 86400 + 4 - wd (t / 86400) - J z) / 7 + 1, none) := by
  obtain ⟨y, m, d, e, o, f⟩ := date_f (t / 86400) (by omega) (by omega)
  have r : lo ≤ t / 86400 ∧ t / 86400 ≤ hi := ⟨by unfold lo; omega, by unfold hi; omega⟩
  obtain ⟨z, m', d', o', e', s, u, z0, z1, f'⟩ := week_thu r
  have i := dn_in o
  have q := (range_iff (n := t / 86400) (y := y) (by omega) (by omega)).1 r
  exact ⟨y, m, d, z, o, f, q.1, q.2, r.1, r.2, s, u, z0, z1, e, f'⟩
/-- The bucket of a time with a date's year and month and a week's year. -/
def bk (kind t y m z : Int) : Int :=
  if kind = 1 then t / 3600 else if kind = 2 then t / 86400 else if kind = 3 then 100 * z + ((t / 86400 + 4 - wd (t / 86400) - J z) / 7 + 1) else if kind = 4 then 100 * y + m else y
theorem Bucket_ok {kind t y m d z : Int} (k1 : 1 ≤ kind) (k5 : kind ≤ 5) (h0 : -1099511627776 ≤ t) (h1 : t ≤ 1099511627776) (o : Ok y m d) (yb : -40000 ≤ y ∧ y ≤ 40000)
    (a : J z ≤ t / 86400 + 4 - wd (t / 86400)) (b : t / 86400 + 4 - wd (t / 86400) < J (z + 1)) (zb : -40001 ≤ z ∧ z ≤ 40001)
    (e : civil_date.f (t / 86400) = some (y, m, d)) (f : civil_Week.f (t / 86400) = some (z, (t / 86400 + 4 - wd (t / 86400) - J z) / 7 + 1, none)) (k : Nat) (hk : 1 ≤ k) :
    civil_Bucket.f k kind t = some (bk kind t y m z, none) := by
  obtain ⟨k, rfl⟩ : ∃ j, k = j + 1 := ⟨k - 1, by omega⟩
  obtain ⟨m1, m2, _, _⟩ := o
  have js := J_succ z; have lb := ld_bd z
  unfold civil_Bucket.f
  rw [if_neg (by omega), decide_eq_false (by omega)]
  simp only [civil_Bucket.j0, Bool.false_eq_true, if_false]
  rw [Day_f t (by omega) (by omega)]
  simp only [Option.bind_some]
  rw [e, f, Hour_f t (by omega) (by omega)]
  simp only [Option.bind_some]
  unfold bk
  by_cases c1 : kind = 1
  · rw [if_pos c1, if_pos c1]
  rw [if_neg c1, if_neg c1]
  by_cases c2 : kind = 2
  · rw [if_pos c2, if_pos c2]
  rw [if_neg c2, if_neg c2]
  by_cases c3 : kind = 3
  · rw [if_pos c3, if_pos c3]
    simp (disch := omega) only [w64]
  rw [if_neg c3, if_neg c3]
  by_cases c4 : kind = 4
  · rw [if_pos c4, if_pos c4]
    simp (disch := omega) only [w64]
  rw [if_neg c4, if_neg c4, if_pos (by omega)]

theorem bk_mono {kind t u y m d z y' m' d' z' : Int} (htu : t ≤ u) (o : Ok y m d) (o' : Ok y' m' d') (e : dn y m d = t / 86400) (e' : dn y' m' d' = u / 86400)
    (a : J z ≤ t / 86400 + 4 - wd (t / 86400)) (b : t / 86400 + 4 - wd (t / 86400) < J (z + 1)) (a' : J z' ≤ u / 86400 + 4 - wd (u / 86400)) (b' : u / 86400 + 4 - wd (u / 86400) < J (z' + 1)) : bk kind t y m z ≤ bk kind u y' m' z' := by
  have dd : t / 86400 ≤ u / 86400 := by omega
  have yy := dn_year o o' (by omega)
  unfold bk
  by_cases c1 : kind = 1
  · rw [if_pos c1, if_pos c1]; omega
  rw [if_neg c1, if_neg c1]
  by_cases c2 : kind = 2
  · rw [if_pos c2, if_pos c2]; omega
  rw [if_neg c2, if_neg c2]
  by_cases c3 : kind = 3
  · rw [if_pos c3, if_pos c3]
    have th : t / 86400 + 4 - wd (t / 86400) ≤ u / 86400 + 4 - wd (u / 86400) := by unfold wd; omega
    have js := J_succ z; have lb := ld_bd z
    by_cases c : z = z'
    · subst c; omega
    · have zz : z < z' := by
        by_cases q : z' < z
        · have := J_mono (y := z' + 1) (z := z) (by omega); omega
        · omega
      omega
  rw [if_neg c3, if_neg c3]
  by_cases c4 : kind = 4
  · rw [if_pos c4, if_pos c4]
    by_cases c : y = y'
    · subst c
      have := dn_month o o' (by omega); omega
    · obtain ⟨p1, p2, _, _⟩ := o
      obtain ⟨q1, q2, _, _⟩ := o'
      omega
  rw [if_neg c4, if_neg c4]; exact yy
theorem bk_same {kind t u y m d z y' m' d' z' : Int} (hk : kind ≠ 1) (htu : t / 86400 = u / 86400) (o : Ok y m d) (o' : Ok y' m' d') (e : dn y m d = t / 86400) (e' : dn y' m' d' = u / 86400)
    (a : J z ≤ t / 86400 + 4 - wd (t / 86400)) (b : t / 86400 + 4 - wd (t / 86400) < J (z + 1)) (a' : J z' ≤ u / 86400 + 4 - wd (u / 86400)) (b' : u / 86400 + 4 - wd (u / 86400) < J (z' + 1)) : bk kind t y m z = bk kind u y' m' z' := by
  obtain ⟨rfl, rfl, rfl⟩ := dn_inj o o' (by omega)
  rw [← htu] at a' b'
  have := year_of a b a' b'
  subst this
  unfold bk
  rw [if_neg hk, if_neg hk, htu]
end CivilGrowsAid
open CivilGrowsAid

theorem CivilGrows : amphoralaw19_CivilGrows.Pure := by
  intro kind t more hkind ht hmore
  obtain ⟨K, hK⟩ : ∃ K : Nat, 10 ≤ K := ⟨10, Nat.le_refl _⟩
  refine ⟨K + 2, ?_⟩
  have hj : amphoralaw19_CivilGrows.j0 (K + 2) kind t more true = some true := by simp only [amphoralaw19_CivilGrows.j0, if_true]
  unfold amphoralaw19_CivilGrows.f
  rw [alive_f (K + 2) (by omega)]
  simp only [Option.bind_some, if_true]
  by_cases k1 : kind < 1
  · rw [if_pos k1, hj]
  rw [if_neg k1]
  by_cases k5 : kind > 5
  · rw [if_pos k5, hj]
  rw [if_neg k5]
  by_cases t0 : t < -549755813888
  · rw [if_pos t0, hj]
  rw [if_neg t0]
  by_cases t1 : t > 549755813888
  · rw [decide_eq_true t1, hj]
  rw [decide_eq_false t1]
  simp only [amphoralaw19_CivilGrows.j0, Bool.false_eq_true, if_false]
  have hu : 0 ≤ IntKind.u64.wrap more := by
    unfold IntKind.wrap
    simp [IntKind.signed, IntKind.bits]; omega
  have hx : ∃ x, wrap64 (Int.tmod (IntKind.u64.wrap more) 1073741824) = x ∧ 0 ≤ x ∧ x < 1073741824 := by
    refine ⟨_, rfl, ?_⟩
    rw [tm hu, w64 (by omega) (by omega)]; omega
  obtain ⟨x, ex, x0, x1⟩ := hx
  rw [ex, w64 (x := t + x) (by omega) (by omega)]
  obtain ⟨y, m, d, z, o, e, y0, y1, r0, r1, a, b, z0, z1, f, g⟩ := day_of t (by omega) (by omega)
  obtain ⟨y', m', d', z', o', e', y0', y1', r0', r1', a', b', z0', z1', f', g'⟩ := day_of (t + x) (by omega) (by omega)
  rw [Bucket_ok (by omega) (by omega) (by omega) (by omega) o ⟨y0, y1⟩ a b ⟨z0, z1⟩ f g (K + 1) (by omega), Bucket_ok (by omega) (by omega) (by omega) (by omega) o' ⟨y0', y1'⟩ a' b' ⟨z0', z1'⟩ f' g' (K + 1) (by omega)]
  simp only [Option.bind_some, Option.isNone_none, if_true]
  have mono := bk_mono (kind := kind) (by omega : t ≤ t + x) o o' e e' a b a' b'
  rw [decide_eq_false (by omega)]
  simp only [amphoralaw19_CivilGrows.j1, Bool.false_eq_true, if_false]
  by_cases c1 : kind = 1
  · rw [if_pos c1]
  rw [if_neg c1, w64 (x := t + x) (by omega) (by omega), Day_f t (by omega) (by omega), Day_f (t + x) (by omega) (by omega)]
  simp only [Option.bind_some]
  by_cases c : t / 86400 = (t + x) / 86400
  · rw [if_pos c, bk_same c1 c o o' e e' a b a' b']; simp
  · rw [if_neg c]

end Go.Proofs.Ytlgjojhenohjnaa.Pure
