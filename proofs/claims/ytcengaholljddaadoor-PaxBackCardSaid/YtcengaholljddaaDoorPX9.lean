import Derived.Test.YtcengaholljddaaDoorPX8
namespace Go.Proofs.YtcengaholljddaaDoor
open Go.RowKit Go.Proofs.YtcengaholljddaaDoor.PPax Go.Proofs.YtcengaholljddaaDoorW.PrintWords Go.Proofs.YtcengaholljddaaDoorW.PrintLast
set_option linter.unusedSimpArgs false
set_option linter.unusedVariables false
namespace PX
theorem num_0 : amphoranum_Num.f none = some 0 := rfl
theorem num_15 : amphoranum_Num.f (some 15) = some 15 := rfl
theorem decodes (l : List Int) (hB : Byt l) : ∃ k res e q, 300 ≤ k ∧ pax_Decode.f k l = some (res, e) ∧ amphoraref11_Decode.f k l = some (res, q) ∧ amphoranum_Num.f e = some q ∧ amphoraref11_Same.f k res res = some true := by
  refine ⟨3000000, (dOut (decV l)).1, (dOut (decV l)).2, (dOut2 (decV l)).2, by omega, decode_f l _ (by omega), ?_, ?_, ?_⟩
  · rw [rdecode_f l hB _ (by omega)]; cases decV l <;> rfl
  · cases decV l <;> rfl
  · cases hd : decV l with
    | none => exact same_f [] (by decide) _ (by simp)
    | some o =>
      have : o.length ≤ 65536 := by
        unfold decV at hd
        split at hd
        · cases hd
        · have := dec_len _ _ _ _ hd; simp at this; omega
      exact same_f o (by omega) _ (by omega)
end PX
end Go.Proofs.YtcengaholljddaaDoor
