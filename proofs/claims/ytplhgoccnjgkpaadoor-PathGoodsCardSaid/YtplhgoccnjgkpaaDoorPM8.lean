/- PathGoods in plain Lean. Conditions: none. -/
import Derived.Test.YtplhgoccnjgkpaaDoorPPathx8
import Derived.Test.YtplhgoccnjgkpaaDoorPM6
namespace Go.Proofs.YtplhgoccnjgkpaaDoor
open Go.RowKit Go.Proofs.YtplhgoccnjgkpaaDoor.PPath Go.Proofs.YtplhgoccnjgkpaaDoorW.PrintWords Go.Proofs.YtplhgoccnjgkpaaDoorW.PrintLast
set_option linter.unusedSimpArgs false
set_option linter.unusedVariables false
namespace PM
/-! ### PathGoods -/
theorem goods_j (s : ByteArray) (m : Int) (k : Nat) (p : ByteArray) (ok : Bool) (base : ByteArray) (hb : base = baseB s) (hs : s.size ≤ 4611686018427387904) (hk : 13 * s.size + 7000 ≤ k) :
    amphoralaw08_PathGoods.j0 (k + 1) s m p ok p ok (splitB s) base = some true := by
  subst hb
  have hl : (splitB s).length ≤ 401 := by
    by_cases hg : GoodP s
    · rw [splitB_good hg]; have := pieces_len s; have := hg.1; omega
    · rw [splitB_bad hg]; simp
  simp only [amphoralaw08_PathGoods.j0]
  rw [good_f s k (by omega), rgood_f s k (by omega), Option.bind_some, Option.bind_some, if_pos (by simp), split_f s k (by omega), Option.bind_some, texts_f _ _ k (by omega) (by omega), Option.bind_some, decide_eq_true rfl, if_pos rfl, if_pos trivial, if_pos (by simp)]
  rw [base_f s k (by omega), Option.bind_some, if_pos rfl, depth_f s k (by omega), Option.bind_some, if_pos rfl, text_f s m (by omega), rtext_f s m k hs (by omega), Option.bind_some, Option.bind_some]
  simp
theorem goods (s : ByteArray) (m : Int) (ws : s.size ≤ 140737488351232) : ∃ k, amphoralaw08_PathGoods.f k s m = some true := by
  refine ⟨13 * s.size + 7000 + 1, ?_⟩
  unfold amphoralaw08_PathGoods.f
  rw [alive_f _ (by omega), Option.bind_some, if_pos rfl, parent_f s _ (by omega) (by omega), rparent_f s _ (by omega), rsplit_f s _ (by omega)]
  simp only [Option.bind_some]
  by_cases hg : GoodP s
  · have hl0 := splitB_len.2 hg
    have hl : (splitB s).length ≤ 401 := by rw [splitB_good hg]; have := pieces_len s; have := hg.1; omega
    rw [if_pos (by omega), w64 (by omega) (by omega), if_pos (by omega), if_pos (by omega)]
    refine goods_j s m _ _ _ _ ?_ (by omega) (by omega)
    rw [show ((splitB s).length : Int) - 1 = (((splitB s).length - 1 : Nat) : Int) by omega, rd_get _ _ (by omega)]
    unfold baseB
    rw [dif_pos hg, List.getLast_eq_getElem]
    simp only [splitB_good hg]
  · rw [splitB_bad hg, if_neg (by simp)]
    have := goods_j s m (13 * s.size + 7000) (parentB s).1 (parentB s).2 (⟨#[]⟩ : ByteArray) (by unfold baseB; rw [dif_neg hg]) (by omega) (by omega)
    rw [splitB_bad hg] at this
    exact this
end PM
end Go.Proofs.YtplhgoccnjgkpaaDoor
