import Derived.Test.YtcengaholljddaaDoorPX10
import Derived.Test.YtcengaholljddaaDoorOCounts
namespace Go.Proofs.YtcengaholljddaaDoor
open Go.RowKit Go.Proofs.YtcengaholljddaaDoor.PPax Go.Proofs.YtcengaholljddaaDoorW.PrintWords Go.Proofs.YtcengaholljddaaDoorW.PrintLast
set_option linter.unusedSimpArgs false
set_option linter.unusedVariables false
namespace PX
theorem lib_bytesOf (s : ByteArray) : Lib.bytesOf (bytesOf s) = bl s := by
  unfold Lib.bytesOf bytesOf
  rw [List.map_map]
  have : ((fun n : Int => UInt8.ofNat n.toNat) ∘ fun b : UInt8 => (b.toNat : Int)) = id := by
    funext b
    show UInt8.ofNat ((b.toNat : Int)).toNat = b
    rw [Int.toNat_natCast]
    exact UInt8.ofNat_toNat
  rw [this, List.map_id]
theorem decV_line {key val s : ByteArray} (h : lineB key val = some s) : decV (bytesOf s) = some [⟨key, val⟩] := by
  obtain ⟨h1, h2, h3, h4⟩ := lineB_shape h
  have hl : (bytesOf s).length = s.size := bytesOf_length s
  have hL : Line (Lib.bytesOf (bytesOf s)) key val s.size := ⟨s, h, rfl, by rw [lib_bytesOf, List.take_of_length_le (by rw [bl_len]; exact Nat.le_refl _)]⟩
  have hst := stepV_of (b := bytesOf s) (by omega) hL
  unfold decV
  rw [if_neg (by omega), hl]
  obtain ⟨m, hm⟩ : ∃ m, s.size = m + 1 := ⟨s.size - 1, by omega⟩
  rw [hm]
  unfold dec
  rw [if_neg (by omega), hst]
  have hd : (bytesOf s).drop s.size = [] := List.drop_eq_nil_of_le (by omega)
  show (if badK [] key = true then none else dec m ((bytesOf s).drop s.size) ([] ++ [⟨key, val⟩])) = _
  rw [if_neg (by simp [badK]), hd]
  cases m with
  | zero => rfl
  | succ m => unfold dec; rw [if_pos List.length_nil]; rfl
theorem decV_cut {key val s : ByteArray} (h : lineB key val = some s) (c : Nat) (h0 : 0 < c) (h1 : c < s.size) : decV (bytesOf (s.extract 0 c)) = none := by
  obtain ⟨a1, a2, a3, a4⟩ := lineB_shape h
  have hz : (s.extract 0 c).size = c := by rw [ByteArray.size_extract]; omega
  have hl : (bytesOf (s.extract 0 c)).length = c := by rw [bytesOf_length, hz]
  have hls : (bytesOf s).length = s.size := bytesOf_length s
  have hL : Line (Lib.bytesOf (bytesOf s)) key val s.size := ⟨s, h, rfl, by rw [lib_bytesOf, List.take_of_length_le (by rw [bl_len]; exact Nat.le_refl _)]⟩
  have hb : Lib.bytesOf (bytesOf (s.extract 0 c)) = (bl s).take c := by rw [lib_bytesOf, bl_ext, Nat.sub_zero, List.drop_zero]
  unfold decV
  rw [if_neg (by omega), hl]
  obtain ⟨m, hm⟩ : ∃ m, c = m + 1 := ⟨c - 1, by omega⟩
  rw [hm]
  unfold dec
  rw [← hm, if_neg (by omega)]
  cases hs : stepV (Lib.bytesOf (bytesOf (s.extract 0 c))) with
  | none => rfl
  | some p =>
    exfalso
    obtain ⟨key', val', n'⟩ := p
    have hp := stepV_some hs
    rw [hb] at hp
    obtain ⟨_, hn, _, _, _⟩ := hp.at
    rw [List.length_take, bl_len] at hn
    obtain ⟨L, l1, l2, l3⟩ := hp
    have hL2 : Line (Lib.bytesOf (bytesOf s)) key' val' n' := ⟨L, l1, l2, by rw [l3, lib_bytesOf, List.take_take, Nat.min_eq_left (by omega)]⟩
    have := (line_uniq (b := bytesOf s) (by omega) hL hL2).2.2
    omega
theorem get_bl (s : ByteArray) (i : Nat) (h : i < s.size) : s[i]'h = (bl s)[i]'(by rw [bl_len]; exact h) := rfl
theorem counts (key val : ByteArray) : ∃ k, 300 ≤ k ∧ (pax_Line.f k key val = some ((⟨#[]⟩ : ByteArray), some 15) ∨ ∃ s n, OC.Facts k key val s n ∧ pax_Decode.f k (bytesOf s) = some ([⟨key, val⟩], none) ∧
    ∀ cut : Int, 0 < cut → cut < s.size → pax_Decode.f k (bytesOf (s.extract 0 cut.toNat)) = some ([], some 15)) := by
  refine ⟨key.size + 3000000, by omega, ?_⟩
  have hf := line_f key val (key.size + 3000000) (by omega)
  cases hL : lineB key val with
  | none => rw [hL] at hf; exact .inl hf
  | some s =>
    rw [hL] at hf
    obtain ⟨a1, a2, a3, a4⟩ := lineB_shape hL
    have hz : s.size = Lib.nDigits s.size + key.size + val.size + 3 := by
      have := congrArg List.length a1
      rw [bytesL_length, bl_len] at this
      exact this
    have hi : (itoaB (s.size : Int)).size = Lib.nDigits s.size := itoaB_size s.size
    have hib : bl (itoaB (s.size : Int)) = Lib.decDigits s.size := by unfold itoaB; rw [Lib.itoa_nonneg]
    refine .inr ⟨s, itoaB (s.size : Int), ⟨hf, dec_f s.size (by omega) _ (by omega), by omega, a2, ?_, ?_⟩, ?_, ?_⟩
    · rw [beq_iff_eq, str_beq]
      apply bl_inj
      rw [bl_ext, bl_append, hib, Nat.sub_zero, List.drop_zero, hi]
      have hsh : bl s = (Lib.decDigits s.size ++ [32]) ++ (bl key ++ 61 :: (bl val ++ [10])) := by rw [a1]; unfold bytesL; simp
      have hl : (Lib.decDigits s.size ++ [32]).length = Lib.nDigits s.size + 1 := by rw [List.length_append, Lib.decDigits_length]; rfl
      rw [hsh, List.take_left' hl]
    · intro h
      rw [get_bl s _ h]
      have hsh : bl s = (Lib.decDigits s.size ++ 32 :: (bl key ++ 61 :: bl val)) ++ [10] := by rw [a1]; unfold bytesL; simp
      have hl : (Lib.decDigits s.size ++ 32 :: (bl key ++ 61 :: bl val)).length = s.size - 1 := by
        have := congrArg List.length hsh
        rw [bl_len, List.length_append] at this
        change _ = _ + 1 at this
        omega
      have he : (bl s)[s.size - 1]? = some 10 := by rw [hsh, List.getElem?_append_right (by omega), hl, Nat.sub_self]; rfl
      rw [List.getElem?_eq_getElem (by rw [bl_len]; exact h)] at he
      rw [Option.some.inj he]; rfl
    · rw [decode_f _ _ (by omega), decV_line hL]; rfl
    · intro cut c0 c1
      rw [decode_f _ _ (by omega), decV_cut hL cut.toNat (by omega) (by omega)]; rfl
end PX
end Go.Proofs.YtcengaholljddaaDoor
