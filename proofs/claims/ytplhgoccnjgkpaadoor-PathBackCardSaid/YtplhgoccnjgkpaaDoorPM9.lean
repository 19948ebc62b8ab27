/- PathBack in plain Lean. Conditions: none. -/
import Derived.Test.YtplhgoccnjgkpaaDoorPPathx9
import Derived.Test.YtplhgoccnjgkpaaDoorPM6
namespace Go.Proofs.YtplhgoccnjgkpaaDoor
open Go.RowKit Go.Proofs.YtplhgoccnjgkpaaDoor.PPath Go.Proofs.YtplhgoccnjgkpaaDoorW.PrintWords Go.Proofs.YtplhgoccnjgkpaaDoorW.PrintLast
set_option linter.unusedSimpArgs false
set_option linter.unusedVariables false
namespace PM
theorem back_join (l : List ByteArray) (k : Nat) (hl : l.length ≤ 1000) (hz : ∀ x ∈ l, x.size ≤ 9223372036854775807) (hk : 30000 ≤ k) :
    ((path_Join.f k l).bind fun bt314 => (if bt314.2.isNone = true then ((path_Good.f k bt314.1).bind fun t317 => (if t317 = true then ((path_Split.f k bt314.1).bind fun t318 => ((amphoranum_Texts.f k t318 l).bind fun t321 => (some t321))) else (some false))) else (if bt314.1.toList = ([] : List UInt8) then (some true) else (some false)))) = some true := by
  rw [pjoin_f l k hz (by omega) (by omega), Option.bind_some]
  by_cases h : JoinP l
  · rw [if_pos h]
    obtain ⟨g, e⟩ := good_join h
    simp only [Option.isNone_none]
    rw [if_pos trivial, good_f _ k (by omega), Option.bind_some, decide_eq_true g, if_pos rfl, split_f _ k (by omega), Option.bind_some, splitB_good g, e, texts_f l l k (by omega) (by omega), Option.bind_some]
    simp
  · rw [if_neg h]
    simp only [Option.isNone_some]
    rw [if_neg (by simp), ba_tl, if_pos rfl]
theorem back_j2 (s : ByteArray) (l : List ByteArray) (k : Nat) (hs : s.size ≤ 20000) (hl : l.length ≤ 1000) (hz : ∀ x ∈ l, x.size ≤ 9223372036854775807) (hk : 30000 ≤ k) :
    amphoralaw08_PathBack.j2 (k + 1) s l = some true := by
  have hJ := back_join l k hl hz hk
  simp only [amphoralaw08_PathBack.j2]
  rw [normal_f s k (by omega) (by omega), Option.bind_some]
  by_cases hn : (normB s).2.isNone = true
  · have g : GoodP (normB s).1 := norm_ok (Option.isNone_iff_eq_none.1 hn)
    have gs := g.1
    rw [if_pos hn, normal_f _ k (by omega) (by omega), Option.bind_some, norm_good g]
    simp only [Option.isNone_none]
    rw [if_pos trivial, if_pos trivial, good_f _ k (by omega), Option.bind_some, decide_eq_true g, if_pos rfl]
    exact hJ
  · rw [if_neg hn]
    exact hJ
theorem back_j1 (s : ByteArray) (l : List ByteArray) (k : Nat) (hg : GoodP s) (hl : l.length ≤ 1000) (hz : ∀ x ∈ l, x.size ≤ 9223372036854775807) (hk : 30000 ≤ k) :
    amphoralaw08_PathBack.j1 (k + 2) s l false = some true := by
  have hs := hg.1
  have hJ := back_j2 s l k (by omega) hl hz hk
  have hpl := pieces_len s
  simp only [amphoralaw08_PathBack.j1]
  rw [if_neg (by simp), parent_f s _ (by omega) (by omega), Option.bind_some, depth_f s _ (by omega), Option.bind_some, splitB_good hg]
  unfold parentB
  by_cases h2 : 2 ≤ (pieces s).length
  · have hj := dl_good hg h2
    obtain ⟨g1, e1⟩ := good_join hj
    have hps := g1.1
    rw [if_pos (show GoodP s ∧ 2 ≤ (pieces s).length from ⟨hg, h2⟩)]
    dsimp only
    rw [decide_eq_true (show ((pieces s).length : Int) > 1 by omega), if_neg (by simp), if_pos rfl, if_pos (by omega), base_f s _ (by omega), Option.bind_some]
    have hb : baseB s = (pieces s).getLast (pieces_ne s) := by unfold baseB; rw [dif_pos hg]
    have hbs : (baseB s).size ≤ s.size := by rw [hb]; exact pieces_size (List.getLast_mem _)
    have hcat : joinB (pieces s).dropLast ++ (⟨#[47]⟩ : ByteArray) ++ baseB s = s := by
      rw [← joinB_snoc hj.1, hb, List.dropLast_concat_getLast, joinB_pieces]
    rw [if_pos (by rw [ByteArray.size_append]; show _ + 1 + _ ≤ _; omega), hcat, if_pos rfl]
    have hab : AboveP (joinB (pieces s).dropLast) s := above_iff.2 ⟨g1, hg, [baseB s], by simp, by rw [e1, hb, List.dropLast_concat_getLast]⟩
    rw [above_f _ s _ (by omega), Option.bind_some, decide_eq_true hab, if_pos rfl, depth_f _ _ (by omega), Option.bind_some, Option.bind_some, splitB_good g1, e1, List.length_dropLast]
    rw [if_pos (by rw [w64 (by omega) (by omega)]; omega)]
    exact hJ
  · rw [if_neg (show ¬ (GoodP s ∧ 2 ≤ (pieces s).length) from fun h => h2 h.2)]
    dsimp only
    rw [decide_eq_false (show ¬ ((pieces s).length : Int) > 1 by omega), if_neg (by simp), if_neg (by simp)]
    exact hJ
theorem back (s : ByteArray) (l : List ByteArray) (hz : ∀ x ∈ l, x.size ≤ 9223372036854775807) : ∃ k, amphoralaw08_PathBack.f k s l = some true := by
  refine ⟨30004, ?_⟩
  unfold amphoralaw08_PathBack.f
  rw [alive_f _ (by omega), Option.bind_some, if_pos rfl]
  have hT : amphoralaw08_PathBack.j0 30004 s l true = some true := by simp only [amphoralaw08_PathBack.j0]; rw [if_pos trivial]
  by_cases h1 : (s.size : Int) > 20000
  · rw [if_pos h1]; exact hT
  · rw [if_neg h1]
    by_cases h2 : (l.length : Int) > 1000
    · rw [decide_eq_true h2]; exact hT
    · rw [decide_eq_false h2]
      simp only [amphoralaw08_PathBack.j0]
      rw [if_neg (by simp), good_f s _ (by omega), Option.bind_some]
      by_cases hg : GoodP s
      · have hs := hg.1
        rw [decide_eq_true hg, if_pos rfl, split_f s _ (by omega), Option.bind_some, splitB_good hg]
        have hpl := pieces_len s
        rw [pjoin_f _ _ (fun x hx => by have := pieces_size hx; omega) (by omega) (by omega), Option.bind_some, if_pos (join_good hg), joinB_pieces, normal_f s _ (by omega) (by omega), Option.bind_some, norm_good hg]
        simp only [Option.isNone_none]
        rw [if_pos trivial, if_pos trivial, if_pos trivial]
        rw [show (s.toList != s.toList) = false by simp]
        exact back_j1 s l 30001 hg (by omega) hz (by omega)
      · rw [decide_eq_false hg, if_neg (by simp)]
        exact back_j2 s l 30002 (by omega) (by omega) hz (by omega)
end PM
end Go.Proofs.YtplhgoccnjgkpaaDoor
