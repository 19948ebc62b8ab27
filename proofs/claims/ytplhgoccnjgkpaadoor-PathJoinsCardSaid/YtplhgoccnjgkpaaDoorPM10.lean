/- PathJoins in plain Lean. Conditions: none. -/
import Derived.Test.YtplhgoccnjgkpaaDoorOJoins
import Derived.Test.YtplhgoccnjgkpaaDoorPM6
namespace Go.Proofs.YtplhgoccnjgkpaaDoor
open Go.RowKit Go.Proofs.YtplhgoccnjgkpaaDoor.PPath Go.Proofs.YtplhgoccnjgkpaaDoorW.PrintWords Go.Proofs.YtplhgoccnjgkpaaDoorW.PrintLast
set_option linter.unusedSimpArgs false
set_option linter.unusedVariables false
namespace PM
theorem num_0 : amphoranum_Num.f none = some 0 := rfl
theorem num_12 : amphoranum_Num.f (some 12) = some 12 := rfl
theorem joins (l : List ByteArray) (s : ByteArray) (hz : ∀ x ∈ l, x.size ≤ 140737488351232) : ∃ k, OJ.Ok k l s := by
  refine ⟨1829587348566036 + 500000, alive_f _ (by omega), ?_⟩
  by_cases h1 : 3000 < l.length
  · exact .inl h1
  by_cases h2 : 20000 < s.size
  · exact .inr (.inl ⟨by omega, h2⟩)
  refine .inr (.inr ⟨by omega, by omega, ?_⟩)
  have hj := pjoin_f l (1829587348566036 + 500000) (fun x hx => by have := hz x hx; omega) (by omega) (by omega)
  have hr := rjoin_f l (1829587348566036 + 500000) 1829587348566036 (fun x hx => by have := hz x hx; omega) (fun x hx => by have := hz x hx; omega) (by omega) (by omega)
  have hn := normal_f s (1829587348566036 + 500000) (by omega) (by omega)
  have hm := rnormal_f s (1829587348566036 + 500000) (by omega) (by omega)
  have ht := texts_f l l (1829587348566036 + 500000) (by omega) (by omega)
  rw [decide_eq_true rfl] at ht
  have hnum : amphoranum_Num.f (normB s).2 = some ((normB s).2.getD 0) := by
    have h2 : (normB s).2 = none ∨ (normB s).2 = some 12 := by
      unfold normB
      split
      · exact .inr rfl
      · split
        · exact .inl rfl
        · exact .inr rfl
    rcases h2 with h2 | h2 <;> rw [h2] <;> rfl
  by_cases h : JoinP l
  · rw [if_pos h] at hj hr
    exact ⟨_, _, _, _, _, _, hj, hr, num_0, hn, hm, hnum, ht⟩
  · rw [if_neg h] at hj hr
    exact ⟨_, _, _, _, _, _, hj, hr, num_12, hn, hm, hnum, ht⟩
end PM
end Go.Proofs.YtplhgoccnjgkpaaDoor
