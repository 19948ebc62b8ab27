/- PathPairs and PathNests in plain Lean. Conditions: none. -/
import Derived.Test.YtplhgoccnjgkpaaDoorPM6
namespace Go.Proofs.YtplhgoccnjgkpaaDoor
open Go.RowKit Go.Proofs.YtplhgoccnjgkpaaDoor.PPath Go.Proofs.YtplhgoccnjgkpaaDoorW.PrintWords Go.Proofs.YtplhgoccnjgkpaaDoorW.PrintLast
set_option linter.unusedSimpArgs false
set_option linter.unusedVariables false
namespace PM
/-! ### PathPairs -/
theorem pairs (a b : ByteArray) (wa : a.size ≤ 1048576) (wb : b.size ≤ 1048576) : ∃ k, amphoralaw08_PathPairs.f k a b = some true := by
  refine ⟨2 * a.size + 2 * b.size + 7000, ?_⟩
  unfold amphoralaw08_PathPairs.f
  rw [alive_f _ (by omega), Option.bind_some, if_pos rfl, cmp_f a b _ (by omega) (by omega) (by omega), rcmp_f a b _ (by omega) (by omega) (by omega), Option.bind_some, Option.bind_some, if_pos rfl, above_f a b _ (by omega), rabove_f a b _ (by omega), Option.bind_some, Option.bind_some]
  simp
/-! ### PathNests -/
theorem nests (a b c : ByteArray) (wa : a.size ≤ 140737488351232) (wb : b.size ≤ 140737488351232) (wc : c.size ≤ 140737488351232) : ∃ k, amphoralaw08_PathNests.f k a b c = some true := by
  refine ⟨2 * a.size + 2 * b.size + 1000 + 2, ?_⟩
  have hj1f : amphoralaw08_PathNests.j1 (2 * a.size + 2 * b.size + 1000) a b c false = some true := by
    obtain ⟨k, hk⟩ : ∃ j, 2 * a.size + 2 * b.size + 1000 = j + 1 := ⟨2 * a.size + 2 * b.size + 999, by omega⟩
    rw [hk]
    simp only [amphoralaw08_PathNests.j1]
    rw [if_neg (by simp), above_f a b _ (by omega), Option.bind_some]
    by_cases h1 : AboveP a b
    · rw [decide_eq_true h1, if_pos rfl, above_f b c _ (by omega), Option.bind_some]
      by_cases h2 : AboveP b c
      · rw [decide_eq_true h2, if_pos rfl, above_f a c _ (by omega), Option.bind_some, decide_eq_true (above_trans h1 h2)]
      · rw [decide_eq_false h2, if_neg (by simp)]
    · rw [decide_eq_false h1, if_neg (by simp)]
  have hj0 : amphoralaw08_PathNests.j0 (2 * a.size + 2 * b.size + 1000 + 2) a b c false = some true := by
    have hj1f' : amphoralaw08_PathNests.j1 (2 * a.size + 2 * b.size + 1000 + 1) a b c false = some true := (amphoralaw08_PathNests.mono_l _).2 _ _ _ _ _ hj1f
    simp only [amphoralaw08_PathNests.j0]
    rw [if_neg (by simp), above_f a b _ (by omega), Option.bind_some]
    by_cases h1 : AboveP a b
    · rw [decide_eq_true h1, if_pos rfl, good_f c _ (by omega), Option.bind_some]
      by_cases h2 : GoodP c
      · rw [decide_eq_true h2, if_pos rfl, ba_tl, ba_tl]
        by_cases h3 : c.data.toList = a.data.toList
        · rw [if_pos h3]; exact hj1f'
        · rw [if_neg h3, above_f a c _ (by omega), Option.bind_some]
          by_cases h4 : AboveP a c
          · rw [decide_eq_true h4]; exact hj1f'
          · rw [decide_eq_false h4]
            simp only [amphoralaw08_PathNests.j1, Bool.not_false]
            rw [if_pos trivial, cmp_f a c _ (by omega) (by omega) (by omega), cmp_f b c _ (by omega) (by omega) (by omega), Option.bind_some, Option.bind_some, above_nest h1 h2 (fun e => h3 (by rw [e])) h4]
            simp
      · rw [decide_eq_false h2, if_neg (by simp)]; exact hj1f'
    · rw [decide_eq_false h1, if_neg (by simp)]; exact hj1f'
  unfold amphoralaw08_PathNests.f
  rw [alive_f _ (by omega), Option.bind_some, if_pos rfl, above_f a b _ (by omega), Option.bind_some]
  by_cases h1 : AboveP a b
  · rw [decide_eq_true h1, if_pos rfl, cmp_f a b _ (by omega) (by omega) (by omega), Option.bind_some, if_pos (above_cmp h1), above_f b a _ (by omega), Option.bind_some, decide_eq_false (above_anti h1)]
    exact hj0
  · rw [decide_eq_false h1, if_neg (by simp)]
    exact hj0
end PM
end Go.Proofs.YtplhgoccnjgkpaaDoor
