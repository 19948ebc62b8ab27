/- The statement CivilYears of layer 19, over plain numbers: a year's months have 365 or 366 days together, and 400 years have 146097. Conditions: none. -/
import Derived.Test.YtlgjojhenohjnaaPCivilYearsx3
import Derived.Test.YtlgjojhenohjnaaCivMath
namespace Go.Proofs.Ytlgjojhenohjnaa.Pure
open Go.RowKit Go.Proofs.Ytlgjojhenohjnaa.PCivilYears Go.Proofs.YtlgjojhenohjnaaW.PrintWords Go.Proofs.YtlgjojhenohjnaaW.PrintLast Go.Proofs.Ytlgjojhenohjnaa.CM
namespace CivilYearsAid

theorem leap_eq (y : Int) : civil_Leap.f y = some (leap y) := by
  unfold civil_Leap.f leap
  have e : (Int.tmod y 400 == 0) = decide (y % 400 = 0) := by rw [Bool.eq_iff_iff]; simp [tm0]
  rw [e]; simp only [tm0]
  by_cases h1 : y % 4 = 0 <;> by_cases h2 : y % 100 = 0 <;> by_cases h3 : y % 400 = 0 <;> simp [h1, h2, h3]

theorem length_eq (y m : Int) (k : Nat) (hk : 2 ≤ k) : civil_Length.f k y m = some (len y m) := by
  obtain ⟨k, rfl⟩ : ∃ j, k = j + 2 := ⟨k - 2, by omega⟩
  by_cases h : 1 ≤ m ∧ m ≤ 12
  · rcases m_cases h.1 h.2 with rfl | rfl | rfl | rfl | rfl | rfl | rfl | rfl | rfl | rfl | rfl | rfl
    case inr.inl =>
      simp [civil_Length.f, civil_Length.j0, civil_Length.j1, leap_eq, len, ld]
      cases leap y <;> rfl
    all_goals simp [civil_Length.f, civil_Length.j0, civil_Length.j1, len]
  · rw [len_out y h]
    have n1 : m ≠ 1 := by omega
    have n2 : m ≠ 2 := by omega
    have n3 : m ≠ 3 := by omega
    have n4 : m ≠ 4 := by omega
    have n5 : m ≠ 5 := by omega
    have n6 : m ≠ 6 := by omega
    have n7 : m ≠ 7 := by omega
    have n8 : m ≠ 8 := by omega
    have n9 : m ≠ 9 := by omega
    have n10 : m ≠ 10 := by omega
    have n11 : m ≠ 11 := by omega
    have n12 : m ≠ 12 := by omega
    simp [civil_Length.f, civil_Length.j0, civil_Length.j1, n1, n2, n3, n4, n5, n6, n7, n8, n9, n10, n11, n12]

theorem floor_eq (a c : Int) (hc : 0 < c) (h0 : -4000000000000000000 ≤ a) (h1 : a ≤ 4000000000000000000) : civil_floor.f a c = some (a / c) := by
  obtain ⟨t1, t2⟩ := tdm a c hc
  have b := ediv_bd a c hc
  unfold civil_floor.f
  rw [if_neg (by omega)]
  by_cases hn : Int.tmod a c < 0
  · rw [if_pos hn]; rw [if_pos hn] at t1; rw [w64 (x := Int.tdiv a c) (by omega) (by omega), w64 (by omega) (by omega)]; congr 1; omega
  · rw [if_neg hn]; rw [if_neg hn] at t1; rw [w64 (by omega) (by omega), t1]

theorem days_f {y m : Int} (d : Int) (h1 : 1 ≤ m) (h2 : m ≤ 12) (y0 : -1000000 ≤ y) (y1 : y ≤ 1000000) (d0 : -1000 ≤ d) (d1 : d ≤ 1000) :
    civil_days.f y m d = some (dn y m d) := by
  unfold civil_days.f
  by_cases hm : m ≤ 2
  · have e := days_eq (d := d) h1 h2 (y - 1) ((y - 1) / 400) (by rw [if_pos hm]) rfl
    rw [if_pos hm, w64 (x := y - 1) (by omega) (by omega), floor_eq _ 400 (by omega) (by omega) (by omega)]
    simp only [Option.bind_some]
    simp (disch := omega) only [w64, td, tm]
    rw [e]
  · have e := days_eq (y := y) (d := d) h1 h2 y (y / 400) (by rw [if_neg hm]) rfl
    rw [if_neg hm, floor_eq _ 400 (by omega) (by omega) (by omega)]
    simp only [Option.bind_some]
    simp (disch := omega) only [w64, td, tm]
    rw [e]

theorem inRange_f (n : Int) : civil_inRange.f n = some (decide (lo ≤ n ∧ n ≤ hi)) := by
  unfold civil_inRange.f
  rw [days_f 1 (by omega) (by omega) (by omega) (by omega) (by omega) (by omega), lo_eq]
  simp only [Option.bind_some]
  rw [days_f 31 (by omega) (by omega) (by omega) (by omega) (by omega) (by omega), hi_eq]
  simp only [Option.bind_some]
  by_cases h : lo ≤ n
  · rw [if_pos h]; simp [h]
  · rw [if_neg h]; simp [h]

set_option maxHeartbeats 2000000 in
theorem date_f (n : Int) (h0 : -1000000000 ≤ n) (h1 : n ≤ 1000000000) : ∃ y m d, civil_date.f n = some (y, m, d) ∧ Ok y m d ∧ dn y m d = n := by
  obtain ⟨z, hz⟩ : ∃ z, z = n + 719468 := ⟨_, rfl⟩
  obtain ⟨e, he⟩ : ∃ e, e = z / 146097 := ⟨_, rfl⟩
  obtain ⟨q, hq⟩ : ∃ q, q = T (z - e * 146097) / 365 := ⟨_, rfl⟩
  obtain ⟨a, b, c, dd, ff⟩ := march e (e * 400 + q) q he hq rfl
  have hb := ld_bd (e * 400 + q + 1)
  have hS : S q = 365 * q + q / 4 - q / 100 := rfl
  obtain ⟨mp, hmp⟩ : ∃ mp, mp = (5 * (z - e * 146097 - S q) + 2) / 153 := ⟨_, rfl⟩
  obtain ⟨m0, m1, mo, md⟩ := month c dd mp hmp
  have p0 : 0 ≤ z - e * 146097 := by omega
  have p1 : z - e * 146097 ≤ 146096 := by omega
  have p2 : -10000000 ≤ e ∧ e ≤ 10000000 := by omega
  unfold T at hq
  refine ⟨_, _, _, ?_, mo, by omega⟩
  unfold civil_date.f
  rw [w64 (x := n + 719468) (by omega) (by omega), ← hz, floor_eq z 146097 (by omega) (by omega) (by omega), ← he]
  simp only [Option.bind_some]
  rw [hS] at hmp c dd
  rw [hS]
  have w1 : wrap64 (z - wrap64 (e * 146097)) = z - e * 146097 := by rw [w64 (x := e * 146097) (by omega) (by omega), w64 (by omega) (by omega)]
  rw [w1]
  generalize hdoe : z - e * 146097 = D at *
  have w2' : Int.tdiv (wrap64 ((wrap64 ((wrap64 (D - (wrap64 (Int.tdiv D 1460)))) + (wrap64 (Int.tdiv D 36524)))) - (wrap64 (Int.tdiv D 146096)))) 365 = q := by
    simp (disch := omega) only [w64, td]; omega
  have wq : wrap64 q = q := w64 (by omega) (by omega)
  simp only [w2', wq]
  have w3 : wrap64 (D - (wrap64 ((wrap64 ((wrap64 (365 * q)) + (wrap64 (Int.tdiv q 4)))) - (wrap64 (Int.tdiv q 100))))) = D - (365 * q + q / 4 - q / 100) := by
    simp (disch := omega) only [w64, td]
  simp only [w3]
  generalize hw : D - (365 * q + q / 4 - q / 100) = w at *
  have w4 : wrap64 (Int.tdiv (wrap64 ((wrap64 (5 * w)) + 2)) 153) = mp := by
    simp (disch := omega) only [w64, td]; omega
  simp only [w4]
  have w5 : wrap64 ((Int.tmod (wrap64 (mp + 2)) 12) + 1) = (mp + 2) % 12 + 1 := by
    simp (disch := omega) only [w64, tm]
  simp only [w5]
  have w6 : wrap64 ((wrap64 (w - (wrap64 (Int.tdiv (wrap64 ((wrap64 (153 * mp)) + 2)) 5)))) + 1) = w - (153 * mp + 2) / 5 + 1 := by
    simp (disch := omega) only [w64, td]
  simp only [w6]
  have w7 : wrap64 ((wrap64 (e * 400)) + q) = e * 400 + q := by simp (disch := omega) only [w64]
  simp only [w7]
  have w8 : wrap64 (e * 400 + q + 1) = e * 400 + q + 1 := by simp (disch := omega) only [w64]
  simp only [w8]
  split <;> rfl

theorem date_at {n y m d : Int} (h0 : -1000000000 ≤ n) (h1 : n ≤ 1000000000) (ho : Ok y m d) (hd : dn y m d = n) : civil_date.f n = some (y, m, d) := by
  obtain ⟨y', m', d', e, o, f⟩ := date_f n h0 h1
  obtain ⟨rfl, rfl, rfl⟩ := dn_inj ho o (by omega)
  exact e

theorem Date_f (n : Int) : (∃ y m d, civil_Date.f n = some (y, m, d, none) ∧ Ok y m d ∧ dn y m d = n ∧ lo ≤ n ∧ n ≤ hi) ∨ (civil_Date.f n = some (0, 0, 0, some 24) ∧ ¬ (lo ≤ n ∧ n ≤ hi)) := by
  unfold civil_Date.f
  rw [inRange_f]
  simp only [Option.bind_some]
  by_cases h : lo ≤ n ∧ n ≤ hi
  · left
    obtain ⟨y, m, d, e, o, f⟩ := date_f n (by unfold lo at h; omega) (by unfold hi at h; omega)
    exact ⟨y, m, d, by rw [if_pos (by simpa using h), e]; rfl, o, f, h.1, h.2⟩
  · right; exact ⟨by rw [if_neg (by simpa using h)], h⟩

theorem Days_ok {y m d : Int} (ho : Ok y m d) (y0 : -40000 ≤ y) (y1 : y ≤ 40000) (k : Nat) (hk : 2 ≤ k) : civil_Days.f k y m d = some (dn y m d, none) := by
  obtain ⟨h1, h2, h3, h4⟩ := ho
  have := len_le y m
  unfold civil_Days.f
  rw [if_neg (by omega), if_neg (by omega), if_neg (by omega), length_eq y m k hk]
  simp only [Option.bind_some]
  rw [if_neg (by omega), days_f d h1 h2 (by omega) (by omega) (by omega) (by omega)]; rfl
theorem Days_no {y m d : Int} (h : y < -40000 ∨ y > 40000 ∨ d < 1 ∨ d > len y m) (k : Nat) (hk : 2 ≤ k) : civil_Days.f k y m d = some (0, some 24) := by
  unfold civil_Days.f
  by_cases a : y < -40000
  · rw [if_pos a]
  · rw [if_neg a]
    by_cases b : y > 40000
    · rw [if_pos b]
    · rw [if_neg b]
      by_cases c : d < 1
      · rw [if_pos c]
      · rw [if_neg c, length_eq y m k hk]; simp only [Option.bind_some]; rw [if_pos (by omega)]

theorem Weekday_f (n : Int) : civil_Weekday.f n = some (wd n) := by
  unfold civil_Weekday.f wd
  obtain ⟨t1, t2⟩ := tdm n 7 (by omega)
  have h1 := t2
  congr 1
  by_cases hn : Int.tmod n 7 < 0
  · rw [if_pos hn] at t2
    simp (disch := omega) only [w64, tm]; omega
  · rw [if_neg hn] at t2
    simp (disch := omega) only [w64, tm]; omega

theorem alive_f (k : Nat) (hk : 2 ≤ k) : amphoralaw19_alive.f k = some true := by
  unfold amphoralaw19_alive.f
  have o : Ok 1970 1 1 := by unfold Ok; decide
  have o' : Ok 2000 2 29 := by unfold Ok; decide
  have e : civil_Date.f 0 = some (1970, 1, 1, none) := by
    rcases Date_f 0 with ⟨y, m, d, h, h1, h2, _, _⟩ | ⟨_, h⟩
    · obtain ⟨rfl, rfl, rfl⟩ := dn_inj o h1 (by rw [h2]; decide)
      exact h
    · exact absurd ⟨by decide, by decide⟩ h
  rw [e, Days_ok o' (by omega) (by omega) k hk, Weekday_f]
  decide

theorem round (y : Int) (j : Nat) : ∀ (k : Nat) (s m : Int), j + 12 ≤ k → m + j = 15 → -1 ≤ m → s = (if m ≤ 1 then 0 else if 13 ≤ m then 365 + ld y else cum y m) →
    (∀ k', 9 ≤ k' → ∃ r, r = true ∧ amphoralaw19_CivilYears.j1 k' y (365 + ld y) false = some r) → amphoralaw19_CivilYears.l0 k y s m = some true := by
  induction j with
  | zero =>
    intro k s m hk h1 h2 hs hj
    obtain ⟨k, rfl⟩ : ∃ j, k = j + 1 := ⟨k - 1, by omega⟩
    rw [if_neg (by omega), if_pos (by omega)] at hs
    subst hs
    obtain ⟨r, rfl, e⟩ := hj k (by omega)
    simp only [amphoralaw19_CivilYears.l0]
    rw [if_neg (by omega), leap_eq, leap_ld]
    simp only [Option.bind_some]
    have hb := ld_bd y
    by_cases h : ld y = 0
    · rw [h] at e ⊢
      simpa using e
    · have h : ld y = 1 := by omega
      rw [h] at e ⊢
      simpa using e
  | succ j ih =>
    intro k s m hk h1 h2 hs hj
    obtain ⟨k, rfl⟩ : ∃ j, k = j + 1 := ⟨k - 1, by omega⟩
    have hb := ld_bd y
    have hl := len_le y m
    have step : s + len y m = (if m + 1 ≤ 1 then 0 else if 13 ≤ m + 1 then 365 + ld y else cum y (m + 1)) := by
      by_cases a : 1 ≤ m ∧ m ≤ 12
      · have c := cum_succ y a.1 a.2
        have c1 := cum_one y
        rw [if_neg (by omega)]
        by_cases b : m = 12
        · subst b; have := cum_13 y; rw [if_pos (by omega)]; rw [if_neg (by omega), if_neg (by omega)] at hs
          have e : (12 : Int) + 1 = 13 := rfl
          rw [e] at c; omega
        · rw [if_neg (by omega)]
          by_cases b' : m = 1
          · subst b'; rw [if_pos (by omega)] at hs; omega
          · rw [if_neg (by omega), if_neg (by omega)] at hs; omega
      · rw [len_out y a]
        by_cases b : m < 1
        · rw [if_pos (by omega)] at hs ⊢; omega
        · rw [if_neg (by omega), if_pos (by omega)] at hs ⊢; omega
    have sb : 0 ≤ s ∧ s ≤ 366 := by
      rw [hs]
      by_cases a : m ≤ 1
      · rw [if_pos a]; omega
      · rw [if_neg a]
        by_cases b : 13 ≤ m
        · rw [if_pos b]; omega
        · rw [if_neg b]; have := cum_bd y (m := m) (by omega) (by omega); omega
    have nx := ih k (s + len y m) (m + 1) (by omega) (by omega) (by omega) step hj
    simp only [amphoralaw19_CivilYears.l0]
    rw [if_pos (by omega), length_eq _ _ _ (by omega)]
    simp only [Option.bind_some]
    rw [w64 (x := s + len y m) (by omega) (by omega), w64 (x := m + 1) (by omega) (by omega), nx]
    by_cases a : m < 1
    · rw [if_pos a, len_out y (by omega)]; rfl
    · rw [if_neg a]
      by_cases b : m ≤ 12
      · have := len_bd y (m := m) (by omega) b
        have e : (len y m == 0) = false := by simp; omega
        rw [e, decide_eq_false (by omega)]; rfl
      · rw [len_out y (by omega), decide_eq_true (by omega)]; rfl
end CivilYearsAid
open CivilYearsAid

theorem CivilYears : amphoralaw19_CivilYears.Pure := by
  intro y hy
  obtain ⟨K, hK⟩ : ∃ K : Nat, 50 ≤ K := ⟨50, Nat.le_refl _⟩
  refine ⟨K, ?_⟩
  unfold amphoralaw19_CivilYears.f
  rw [alive_f K (by omega)]
  simp only [Option.bind_some, if_true]
  refine round y 16 K 0 (-1) (by omega) (by omega) (by omega) (by rw [if_pos (by omega)]) (fun k hk => ⟨true, rfl, ?_⟩)
  obtain ⟨k, rfl⟩ : ∃ j, k = j + 2 := ⟨k - 2, by omega⟩
  simp only [amphoralaw19_CivilYears.j1, Bool.false_eq_true, if_false]
  by_cases h0 : y < -39000
  · rw [if_pos h0]; simp only [amphoralaw19_CivilYears.j2, if_true]
  · rw [if_neg h0]
    by_cases h1 : y > 39000
    · rw [decide_eq_true h1]; simp only [amphoralaw19_CivilYears.j2, if_true]
    · rw [decide_eq_false h1]
      simp only [amphoralaw19_CivilYears.j2, Bool.false_eq_true, if_false]
      rw [w64 (x := y + 1) (by omega) (by omega), w64 (x := y + 400) (by omega) (by omega)]
      have ok : ∀ z, Ok z 1 1 := fun z => ⟨by omega, by omega, by omega, by have := len_bd z (m := 1) (by omega) (by omega); omega⟩
      have dz : ∀ z, dn z 1 1 = J z := by intro z; unfold dn; rw [cum_one]; omega
      rw [Days_ok (ok y) (by omega) (by omega) _ (by omega), Days_ok (ok (y + 1)) (by omega) (by omega) _ (by omega), Days_ok (ok (y + 400)) (by omega) (by omega) _ (by omega)]
      simp only [Option.bind_some, Option.isNone_none, if_true, dz]
      have := ld_bd y
      rw [J_succ, J_400, w64 (by omega) (by omega), w64 (by omega) (by omega), if_pos (by omega)]
      congr 1; simp; omega

end Go.Proofs.Ytlgjojhenohjnaa.Pure
