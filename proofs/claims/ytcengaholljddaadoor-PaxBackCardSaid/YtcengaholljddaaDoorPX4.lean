import Derived.Test.YtcengaholljddaaDoorPX3
namespace Go.Proofs.YtcengaholljddaaDoor
open Go.RowKit Go.Proofs.YtcengaholljddaaDoor.PPax Go.Proofs.YtcengaholljddaaDoorW.PrintWords Go.Proofs.YtcengaholljddaaDoorW.PrintLast
namespace PX
/-! ### the chapter's example -/
def aK : ByteArray := ⟨#[112, 97, 116, 104]⟩
def aV : ByteArray := ⟨#[120]⟩
def aLn : ByteArray := ⟨#[57, 32, 112, 97, 116, 104, 61, 120, 10]⟩
theorem itoaB9 : itoaB 9 = (⟨#[57]⟩ : ByteArray) := by
  have : Lib.itoa 9 = [57] := by
    rw [show (9 : Int) = ((9 : Nat) : Int) from rfl, Lib.itoa_nonneg, Lib.decDigits, dif_pos (by omega)]; rfl
  unfold itoaB; rw [this]
theorem alive_line : lineB aK aV = some aLn := by
  have h1 : (restB aK aV).size = 8 := rfl
  unfold lineB
  rw [h1, show dgs 8 = 1 from rfl, if_pos ⟨by decide +kernel, by decide +kernel, by omega⟩]
  show some (itoaB 9 ++ restB aK aV) = _
  rw [itoaB9]; decide +kernel
theorem alive_first (k : Nat) (hk : 200 ≤ k) : pax_first.f k aliveL = some (aK, aV, 9) := by
  have h1 : spI aliveL = 1 := by decide +kernel
  have h2 : dig aliveL = [57] := by unfold dig; rw [h1]; rfl
  have h3 : Lib.atoiAll (strOfNums (dig aliveL)).data.toList = .ok 9 := by rw [h2]; decide +kernel
  have h4 : pax_first.g k aliveL 9 = some (aK, aV, 9) := by
    unfold pax_first.g
    rw [h2]
    have c1 : strings_Cut.f (strOfNums ((aliveL.take (9 : Int).toNat).drop (([57] : List Int).length + 1))) (⟨#[61]⟩ : ByteArray) = some (aK, ⟨#[120, 10]⟩, true) := by decide +kernel
    have c2 : strings_CutSuffix.f (⟨#[120, 10]⟩ : ByteArray) (⟨#[10]⟩ : ByteArray) = some (aV, true) := by decide +kernel
    have c3 : aLn.toList = (strOfNums (aliveL.take (9 : Int).toNat)).toList := by
      rw [show strOfNums (aliveL.take (9 : Int).toNat) = aLn from by decide +kernel]
    rw [c1, Option.bind_some]
    show ((strings_CutSuffix.f (⟨#[120, 10]⟩ : ByteArray) (⟨#[10]⟩ : ByteArray)).bind _) = _
    rw [c2, Option.bind_some, if_pos rfl, if_pos rfl]
    show ((pax_Line.f k aK aV).bind _) = _
    rw [line_f aK aV k (by show 4 + 120 ≤ k; omega), alive_line, Option.bind_some]
    show (if (none : Option Int).isNone = true then (if aLn.toList = (strOfNums (aliveL.take (9 : Int).toNat)).toList then some (aK, aV, 9) else none1) else none1) = _
    rw [if_pos (by rfl), if_pos c3]
  unfold pax_first.f
  rw [if_pos (by decide), if_pos (by rw [h1]; decide), h3]
  show (if (aliveL.length : Int) < 9 then none1 else if (9 : Int) < ((dig aliveL).length : Int) + 1 then none1 else pax_first.g k aliveL 9) = _
  rw [if_neg (by decide), if_neg (by rw [h2]; decide), h4]
theorem alive_f (k : Nat) (hk : 300 ≤ k) : amphoralaw11_alive.f k = some true := by
  have hL : pax_Line.f k (⟨#[112, 97, 116, 104]⟩ : ByteArray) (⟨#[120]⟩ : ByteArray) = some (aLn, none) := by
    have := line_f aK aV k (by show 4 + 120 ≤ k; omega); rw [alive_line] at this; exact this
  have hD : pax_Decode.f k aliveL = some ([⟨aK, aV⟩], none) := by
    obtain ⟨k, rfl⟩ : ∃ j, k = j + 2 := ⟨k - 2, by omega⟩
    unfold pax_Decode.f
    rw [if_neg (by decide)]
    simp only [pax_Decode.l0]
    rw [if_pos (by decide), alive_first (k + 1) (by omega), Option.bind_some]
    show (if (9 : Int) = 0 then _ else _) = _
    rw [if_neg (by decide), if_neg (by decide), if_pos (by decide), if_pos (by decide), if_pos (by decide), if_neg (by decide)]
    rfl
  unfold amphoralaw11_alive.f
  rw [hL, hD]
  show (if aLn.toList = _ ∧ aK.toList = _ ∧ aV.toList = _ then _ else _) = _
  rw [ByteArray.toList_eq, ByteArray.toList_eq, ByteArray.toList_eq]
  rw [if_pos ⟨rfl, rfl, rfl⟩]
theorem lines (a0 a1 : ByteArray) (w0 : a0.size ≤ 140737488351232) : ∃ k, amphoralaw11_PaxLines.f k a0 a1 = some true := by
  refine ⟨a0.size + 71000, ?_⟩
  unfold amphoralaw11_PaxLines.f
  rw [alive_f _ (by omega), Option.bind_some, if_pos rfl, line_f _ _ _ (by omega), Option.bind_some, rline_f _ _ w0 _ (by omega), Option.bind_some]
  cases lineB a0 a1 with
  | none => show (if (⟨#[]⟩ : ByteArray).toList = (⟨#[]⟩ : ByteArray).toList then _ else _) = _; rw [if_pos rfl]; rfl
  | some s => show (if s.toList = s.toList then _ else _) = _; rw [if_pos rfl]; rfl
end PX
end Go.Proofs.YtcengaholljddaaDoor
