/- The laws of paths in plain Lean. Conditions: none. -/
import Derived.Test.YtplhgoccnjgkpaaDoorPM5
namespace Go.Proofs.YtplhgoccnjgkpaaDoor
open Go.RowKit Go.Proofs.YtplhgoccnjgkpaaDoor.PPath Go.Proofs.YtplhgoccnjgkpaaDoorW.PrintWords Go.Proofs.YtplhgoccnjgkpaaDoorW.PrintLast
set_option linter.unusedSimpArgs false
set_option linter.unusedVariables false
namespace PM
/-! ### the chapter's example -/
theorem alive_norm : normB (⟨#[47, 97, 47, 47, 98, 47, 46, 47, 99, 47, 46, 46, 47, 100, 47]⟩ : ByteArray) = ((⟨#[97, 47, 98, 47, 100]⟩ : ByteArray), none) := by decide +kernel
theorem alive_good1 : GoodP (⟨#[97, 47, 98]⟩ : ByteArray) := by decide +kernel
theorem alive_good2 : ¬ GoodP (⟨#[97, 47]⟩ : ByteArray) := by decide +kernel
theorem alive_cmp : cQ (⟨#[97, 47, 98]⟩ : ByteArray) (⟨#[97, 46, 98]⟩ : ByteArray) = -1 := by decide +kernel
theorem alive_f (k : Nat) (hk : 1000 ≤ k) : amphoralaw08_alive.f k = some true := by
  unfold amphoralaw08_alive.f
  rw [normal_f _ k (by show 15 ≤ _; omega) (by show 15 + 2 ≤ k; omega), alive_norm, Option.bind_some]
  simp only [Option.isNone_none]
  rw [if_pos trivial, ba_tl, if_pos rfl, good_f _ k (by omega), Option.bind_some, decide_eq_true alive_good1, if_pos rfl, good_f _ k (by omega), Option.bind_some, decide_eq_false alive_good2, if_neg (by simp)]
  rw [cmp_f _ _ k (by show 3 ≤ _; omega) (by show 3 ≤ _; omega) (by show 2 * 3 + 3 ≤ k; omega), Option.bind_some, alive_cmp]; rfl
/-! ### PathOrders -/
theorem orders (a b c : ByteArray) (wa : a.size ≤ 140737488351232) (wb : b.size ≤ 140737488351232) (wc : c.size ≤ 140737488351232) : ∃ k, amphoralaw08_PathOrders.f k a b c = some true := by
  refine ⟨2 * a.size + 2 * b.size + 1000, ?_⟩
  unfold amphoralaw08_PathOrders.f
  rw [alive_f _ (by omega), Option.bind_some, if_pos rfl, cmp_f a b _ (by omega) (by omega) (by omega), cmp_f b c _ (by omega) (by omega) (by omega), cmp_f a c _ (by omega) (by omega) (by omega), cmp_f b a _ (by omega) (by omega) (by omega)]
  simp only [Option.bind_some]
  have t1 := cQ_isCmp.tri a b
  have t2 := cQ_isCmp.tri b c
  have t3 := cQ_isCmp.tri a c
  have an := cQ_isCmp.anti a b
  have ac := cQ_isCmp.anti b c
  have ad := cQ_isCmp.anti a c
  have tr := cQ_isCmp.trans a b c
  have tr2 := cQ_isCmp.trans c b a
  rw [if_pos (by rw [w64 (by omega) (by omega)]; omega)]
  have he : ((cQ a b == 0) != (a.toList == b.toList)) = false := by
    rw [ba_tl, ba_tl]
    by_cases h : a = b
    · subst h
      rw [cQ_isCmp.self]; simp
    · have h1 : ¬ cQ a b = 0 := fun e => h ((cQ_isCmp.eq0 a b).1 e)
      have h2 : ¬ a.data.toList = b.data.toList := fun e => h (ba_ext e)
      rw [show (cQ a b == 0) = false by simpa using h1, show (a.data.toList == b.data.toList) = false by simpa using h2]; rfl
  rw [he, if_neg (by simp), if_neg (by omega), if_neg (by omega)]
  generalize cQ a b = x at *
  generalize cQ b c = y at *
  generalize cQ a c = z at *
  by_cases h1 : x ≤ 0
  · rw [if_pos h1]
    by_cases h2 : y ≤ 0
    · rw [if_pos h2, if_neg (by omega)]
      by_cases h3 : x ≥ 0
      · rw [if_pos h3]
        by_cases h4 : y ≥ 0
        · rw [if_pos h4, decide_eq_false (by omega)]; rfl
        · rw [if_neg h4]; rfl
      · rw [if_neg h3]; rfl
    · rw [if_neg h2]
      by_cases h3 : x ≥ 0
      · rw [if_pos h3]
        by_cases h4 : y ≥ 0
        · rw [if_pos h4, decide_eq_false (by omega)]; rfl
        · rw [if_neg h4]; rfl
      · rw [if_neg h3]; rfl
  · rw [if_neg h1]
    by_cases h3 : x ≥ 0
    · rw [if_pos h3]
      by_cases h4 : y ≥ 0
      · rw [if_pos h4, decide_eq_false (by omega)]; rfl
      · rw [if_neg h4]; rfl
    · rw [if_neg h3]; rfl
end PM
end Go.Proofs.YtplhgoccnjgkpaaDoor
