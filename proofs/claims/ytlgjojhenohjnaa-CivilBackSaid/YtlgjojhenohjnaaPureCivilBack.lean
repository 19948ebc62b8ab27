/- The statement CivilBack of layer 19, over plain numbers: a day's date has that day, and the next day's date is the next date. Conditions: none. -/
import Derived.Test.YtlgjojhenohjnaaOCivilBack
import Derived.Test.YtlgjojhenohjnaaCivMath
namespace Go.Proofs.Ytlgjojhenohjnaa.Pure
open Go.RowKit Go.Proofs.Ytlgjojhenohjnaa.PCivilDates Go.Proofs.Ytlgjojhenohjnaa.OCivilBack Go.Proofs.YtlgjojhenohjnaaW.PrintWords Go.Proofs.YtlgjojhenohjnaaW.PrintLast Go.Proofs.Ytlgjojhenohjnaa.CM
namespace CivilBackAid

theorem leap_eq (y : Int) : civil_Leap.f y = some (leap y) := by
  unfold civil_Leap.f leap
  have e : (Int.tmod y 400 == 0) = decide (y % 400 = 0) := by rw [Bool.eq_iff_iff]; simp [tm0]
  rw [e]; simp only [tm0]
  by_cases h1 : y % 4 = 0 <;> by_cases h2 : y % 100 = 0 <;> by_cases h3 : y % 400 = 0 <;> simp [h1, h2, h3]

theorem length_eq (y m : Int) (k : Nat) (hk : 2 ≤ k) : civil_Length.f k y m = some (len y m) := by
  obtain ⟨k, rfl⟩ : ∃ j, k = j + 2 := ⟨k - 2, by omega⟩
  by_cases h : 1 ≤ m ∧ m ≤ 12
  · rcases m_cases h.1 h.2 with rfl | rfl | rfl | rfl | rfl | rfl | rfl | rfl | rfl | rfl | rfl | rfl
    case inr.inl =>
      simp [civil_Length.f, civil_Length.j0, civil_Length.j1, leap_eq, len, ld]
      cases leap y <;> rfl
    all_goals simp [civil_Length.f, civil_Length.j0, civil_Length.j1, len]
  · rw [len_out y h]
    have n1 : m ≠ 1 := by omega
    have n2 : m ≠ 2 := by omega
    have n3 : m ≠ 3 := by omega
    have n4 : m ≠ 4 := by omega
    have n5 : m ≠ 5 := by omega
    have n6 : m ≠ 6 := by omega
    have n7 : m ≠ 7 := by omega
    have n8 : m ≠ 8 := by omega
    have n9 : m ≠ 9 := by omega
    have n10 : m ≠ 10 := by omega
    have n11 : m ≠ 11 := by omega
    have n12 : m ≠ 12 := by omega
    simp [civil_Length.f, civil_Length.j0, civil_Length.j1, n1, n2, n3, n4, n5, n6, n7, n8, n9, n10, n11, n12]

theorem floor_eq (a c : Int) (hc : 0 < c) (h0 : -9223372036854775808 ≤ a) (h1 : a ≤ 9223372036854775807) : civil_floor.f a c = some (a / c) := by
  obtain ⟨t1, t2⟩ := tdm a c hc
  have b := ediv_bd a c hc
  unfold civil_floor.f
  rw [if_neg (by omega)]
  by_cases hn : Int.tmod a c < 0
  · have an : ¬ 0 ≤ a := by
      intro an
      rw [tm an] at hn
      have := Int.emod_nonneg a (by omega : c ≠ 0)
      omega
    rw [if_pos hn]; rw [if_pos hn] at t1; rw [w64 (x := Int.tdiv a c) (by omega) (by omega), w64 (by omega) (by omega)]; congr 1; omega
  · rw [if_neg hn]; rw [if_neg hn] at t1; rw [w64 (by omega) (by omega), t1]

theorem days_f {y m : Int} (d : Int) (h1 : 1 ≤ m) (h2 : m ≤ 12) (y0 : -1000000 ≤ y) (y1 : y ≤ 1000000) (d0 : -1000 ≤ d) (d1 : d ≤ 1000) :
    civil_days.f y m d = some (dn y m d) := by
  unfold civil_days.f
  by_cases hm : m ≤ 2
  · have e := days_eq (d := d) h1 h2 (y - 1) ((y - 1) / 400) (by rw [if_pos hm]) rfl
    rw [if_pos hm, w64 (x := y - 1) (by omega) (by omega), floor_eq _ 400 (by omega) (by omega) (by omega)]
    simp only [Option.bind_some]
    simp (disch := omega) only [w64, td, tm]
    rw [e]
  · have e := days_eq (y := y) (d := d) h1 h2 y (y / 400) (by rw [if_neg hm]) rfl
    rw [if_neg hm, floor_eq _ 400 (by omega) (by omega) (by omega)]
    simp only [Option.bind_some]
    simp (disch := omega) only [w64, td, tm]
    rw [e]

theorem inRange_f (n : Int) : civil_inRange.f n = some (decide (lo ≤ n ∧ n ≤ hi)) := by
  unfold civil_inRange.f
  rw [days_f 1 (by omega) (by omega) (by omega) (by omega) (by omega) (by omega), lo_eq]
  simp only [Option.bind_some]
  rw [days_f 31 (by omega) (by omega) (by omega) (by omega) (by omega) (by omega), hi_eq]
  simp only [Option.bind_some]
  by_cases h : lo ≤ n
  · rw [if_pos h]; simp [h]
  · rw [if_neg h]; simp [h]

set_option maxHeartbeats 2000000 in
theorem date_f (n : Int) (h0 : -1000000000 ≤ n) (h1 : n ≤ 1000000000) : ∃ y m d, civil_date.f n = some (y, m, d) ∧ Ok y m d ∧ dn y m d = n := by
  obtain ⟨z, hz⟩ : ∃ z, z = n + 719468 := ⟨_, rfl⟩
  obtain ⟨e, he⟩ : ∃ e, e = z / 146097 := ⟨_, rfl⟩
  obtain ⟨q, hq⟩ : ∃ q, q = T (z - e * 146097) / 365 := ⟨_, rfl⟩
  obtain ⟨a, b, c, dd, ff⟩ := march e (e * 400 + q) q he hq rfl
  have hb := ld_bd (e * 400 + q + 1)
  have hS : S q = 365 * q + q / 4 - q / 100 := rfl
  obtain ⟨mp, hmp⟩ : ∃ mp, mp = (5 * (z - e * 146097 - S q) + 2) / 153 := ⟨_, rfl⟩
  obtain ⟨m0, m1, mo, md⟩ := month c dd mp hmp
  have p0 : 0 ≤ z - e * 146097 := by omega
  have p1 : z - e * 146097 ≤ 146096 := by omega
  have p2 : -10000000 ≤ e ∧ e ≤ 10000000 := by omega
  unfold T at hq
  refine ⟨_, _, _, ?_, mo, by omega⟩
  unfold civil_date.f
  rw [w64 (x := n + 719468) (by omega) (by omega), ← hz, floor_eq z 146097 (by omega) (by omega) (by omega), ← he]
  simp only [Option.bind_some]
  rw [hS] at hmp c dd
  rw [hS]
  have w1 : wrap64 (z - wrap64 (e * 146097)) = z - e * 146097 := by rw [w64 (x := e * 146097) (by omega) (by omega), w64 (by omega) (by omega)]
  rw [w1]
  generalize hdoe : z - e * 146097 = D at *
  have w2' : Int.tdiv (wrap64 ((wrap64 ((wrap64 (D - (wrap64 (Int.tdiv D 1460)))) + (wrap64 (Int.tdiv D 36524)))) - (wrap64 (Int.tdiv D 146096)))) 365 = q := by
    simp (disch := omega) only [w64, td]; omega
  have wq : wrap64 q = q := w64 (by omega) (by omega)
  simp only [w2', wq]
  have w3 : wrap64 (D - (wrap64 ((wrap64 ((wrap64 (365 * q)) + (wrap64 (Int.tdiv q 4)))) - (wrap64 (Int.tdiv q 100))))) = D - (365 * q + q / 4 - q / 100) := by
    simp (disch := omega) only [w64, td]
  simp only [w3]
  generalize hw : D - (365 * q + q / 4 - q / 100) = w at *
  have w4 : wrap64 (Int.tdiv (wrap64 ((wrap64 (5 * w)) + 2)) 153) = mp := by
    simp (disch := omega) only [w64, td]; omega
  simp only [w4]
  have w5 : wrap64 ((Int.tmod (wrap64 (mp + 2)) 12) + 1) = (mp + 2) % 12 + 1 := by
    simp (disch := omega) only [w64, tm]
  simp only [w5]
  have w6 : wrap64 ((wrap64 (w - (wrap64 (Int.tdiv (wrap64 ((wrap64 (153 * mp)) + 2)) 5)))) + 1) = w - (153 * mp + 2) / 5 + 1 := by
    simp (disch := omega) only [w64, td]
  simp only [w6]
  have w7 : wrap64 ((wrap64 (e * 400)) + q) = e * 400 + q := by simp (disch := omega) only [w64]
  simp only [w7]
  have w8 : wrap64 (e * 400 + q + 1) = e * 400 + q + 1 := by simp (disch := omega) only [w64]
  simp only [w8]
  split <;> rfl

theorem date_at {n y m d : Int} (h0 : -1000000000 ≤ n) (h1 : n ≤ 1000000000) (ho : Ok y m d) (hd : dn y m d = n) : civil_date.f n = some (y, m, d) := by
  obtain ⟨y', m', d', e, o, f⟩ := date_f n h0 h1
  obtain ⟨rfl, rfl, rfl⟩ := dn_inj ho o (by omega)
  exact e

theorem Date_f (n : Int) : (∃ y m d, civil_Date.f n = some (y, m, d, none) ∧ Ok y m d ∧ dn y m d = n ∧ lo ≤ n ∧ n ≤ hi) ∨ (civil_Date.f n = some (0, 0, 0, some 24) ∧ ¬ (lo ≤ n ∧ n ≤ hi)) := by
  unfold civil_Date.f
  rw [inRange_f]
  simp only [Option.bind_some]
  by_cases h : lo ≤ n ∧ n ≤ hi
  · left
    obtain ⟨y, m, d, e, o, f⟩ := date_f n (by unfold lo at h; omega) (by unfold hi at h; omega)
    exact ⟨y, m, d, by rw [if_pos (by simpa using h), e]; rfl, o, f, h.1, h.2⟩
  · right; exact ⟨by rw [if_neg (by simpa using h)], h⟩

theorem Days_ok {y m d : Int} (ho : Ok y m d) (y0 : -40000 ≤ y) (y1 : y ≤ 40000) (k : Nat) (hk : 2 ≤ k) : civil_Days.f k y m d = some (dn y m d, none) := by
  obtain ⟨h1, h2, h3, h4⟩ := ho
  have := len_le y m
  unfold civil_Days.f
  rw [if_neg (by omega), if_neg (by omega), if_neg (by omega), length_eq y m k hk]
  simp only [Option.bind_some]
  rw [if_neg (by omega), days_f d h1 h2 (by omega) (by omega) (by omega) (by omega)]; rfl
theorem Days_no {y m d : Int} (h : y < -40000 ∨ y > 40000 ∨ d < 1 ∨ d > len y m) (k : Nat) (hk : 2 ≤ k) : civil_Days.f k y m d = some (0, some 24) := by
  unfold civil_Days.f
  by_cases a : y < -40000
  · rw [if_pos a]
  · rw [if_neg a]
    by_cases b : y > 40000
    · rw [if_pos b]
    · rw [if_neg b]
      by_cases c : d < 1
      · rw [if_pos c]
      · rw [if_neg c, length_eq y m k hk]; simp only [Option.bind_some]; rw [if_pos (by omega)]

theorem Weekday_f (n : Int) : civil_Weekday.f n = some (wd n) := by
  unfold civil_Weekday.f wd
  obtain ⟨t1, t2⟩ := tdm n 7 (by omega)
  have h1 := t2
  congr 1
  by_cases hn : Int.tmod n 7 < 0
  · rw [if_pos hn] at t2
    simp (disch := omega) only [w64, tm]; omega
  · rw [if_neg hn] at t2
    simp (disch := omega) only [w64, tm]; omega

theorem alive_f (k : Nat) (hk : 2 ≤ k) : amphoralaw19_alive.f k = some true := by
  unfold amphoralaw19_alive.f
  have o : Ok 1970 1 1 := by unfold Ok; decide
  have o' : Ok 2000 2 29 := by unfold Ok; decide
  have e : civil_Date.f 0 = some (1970, 1, 1, none) := by
    rcases Date_f 0 with ⟨y, m, d, h, h1, h2, _, _⟩ | ⟨_, h⟩
    · obtain ⟨rfl, rfl, rfl⟩ := dn_inj o h1 (by rw [h2]; decide)
      exact h
    · exact absurd ⟨by decide, by decide⟩ h
  rw [e, Days_ok o' (by omega) (by omega) k hk, Weekday_f]
  decide

theorem next {y m d y' m' d' : Int} (h : Ok y m d) (h' : Ok y' m' d') (hn : dn y' m' d' = dn y m d + 1) :
    (d + 1 ≤ len y m → y' = y ∧ m' = m ∧ d' = d + 1) ∧ (d + 1 > len y m → m < 12 → y' = y ∧ m' = m + 1 ∧ d' = 1) ∧ (d + 1 > len y m → m = 12 → y' = y + 1 ∧ m' = 1 ∧ d' = 1) := by
  obtain ⟨h1, h2, h3, h4⟩ := h
  have c := cum_succ y h1 h2
  refine ⟨fun a => ?_, fun a b => ?_, fun a b => ?_⟩
  · exact dn_inj h' ⟨h1, h2, by omega, by omega⟩ (by rw [hn]; unfold dn; omega)
  · have l := len_bd y (m := m + 1) (by omega) (by omega)
    exact dn_inj h' ⟨by omega, by omega, by omega, by omega⟩ (by rw [hn]; unfold dn; omega)
  · subst b
    have l := len_bd (y + 1) (m := 1) (by omega) (by omega)
    have s := J_succ y; have t := cum_13 y; have u := cum_one (y + 1)
    have e : (12 : Int) + 1 = 13 := rfl
    rw [e] at c
    exact dn_inj h' ⟨by omega, by omega, by omega, by omega⟩ (by rw [hn]; unfold dn; omega)
end CivilBackAid
open CivilBackAid

theorem CivilBack : amphoralaw19_CivilBack.Pure := by
  intro n hn
  obtain ⟨K, hK⟩ : ∃ K : Nat, 10 ≤ K := ⟨10, Nat.le_refl _⟩
  refine ⟨K, ?_⟩
  unfold amphoralaw19_CivilBack.f
  rw [alive_f K (by omega)]
  simp only [Option.bind_some, if_true]
  obtain ⟨K, rfl⟩ : ∃ j, K = j + 2 := ⟨K - 2, by omega⟩
  by_cases h0 : n < -14000000
  · rw [if_pos h0]; simp only [amphoralaw19_CivilBack.j0, if_true]
  · rw [if_neg h0]
    by_cases h1 : n > 13000000
    · rw [decide_eq_true h1]; simp only [amphoralaw19_CivilBack.j0, if_true]
    · rw [decide_eq_false h1]
      simp only [amphoralaw19_CivilBack.j0, Bool.false_eq_true, if_false]
      rw [w64 (x := n + 1) (by omega) (by omega)]
      rcases Date_f n with ⟨y, m, d, e, o, f, _, _⟩ | ⟨_, h⟩
      · rcases Date_f (n + 1) with ⟨y', m', d', e', o', f', _, _⟩ | ⟨_, h⟩
        · rw [e, e']
          simp only [Option.bind_some, Option.isNone_none, if_true]
          have di := dn_in o
          have di' := dn_in o'
          have r := (range_iff (n := n) (y := y) (by omega) (by omega)).1 ⟨by omega, by omega⟩
          have r' := (range_iff (n := n + 1) (y := y') (by omega) (by omega)).1 ⟨by omega, by omega⟩
          rw [Days_ok o (by omega) (by omega) _ (by omega)]
          simp only [Option.bind_some, Option.isNone_none, if_true]
          obtain ⟨nx1, nx2, nx3⟩ := next o o' (by omega)
          obtain ⟨o1, o2, o3, o4⟩ := o
          have ll := len_le y m
          have ne : (dn y m d != n) = false := by rw [f]; simp
          rw [ne]
          simp only [amphoralaw19_CivilBack.j1, Bool.false_eq_true, if_false]
          rw [length_eq _ _ _ (by omega)]
          simp only [Option.bind_some]
          rw [w64 (x := d + 1) (by omega) (by omega), w64 (x := m + 1) (by omega) (by omega), w64 (x := y + 1) (by omega) (by omega)]
          by_cases hl : d + 1 > len y m
          · rw [if_pos hl]
            by_cases hm : m + 1 > 12
            · rw [if_pos hm]
              obtain ⟨rfl, rfl, rfl⟩ := nx3 hl (by omega)
              simp
            · rw [if_neg hm]
              obtain ⟨rfl, rfl, rfl⟩ := nx2 hl (by omega)
              simp
          · rw [if_neg hl, if_neg (by omega)]
            obtain ⟨rfl, rfl, rfl⟩ := nx1 (by omega)
            simp
        · exact absurd ⟨by unfold lo; omega, by unfold hi; omega⟩ h
      · exact absurd ⟨by unfold lo; omega, by unfold hi; omega⟩ h

end Go.Proofs.Ytlgjojhenohjnaa.Pure
