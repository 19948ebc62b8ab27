import Derived.Test.YtcengaholljddaaDoorPX5
namespace Go.Proofs.YtcengaholljddaaDoor
open Go.RowKit Go.Proofs.YtcengaholljddaaDoor.PPax Go.Proofs.YtcengaholljddaaDoorW.PrintWords Go.Proofs.YtcengaholljddaaDoorW.PrintLast
namespace PX
def iEq (s : ByteArray) : Int := Lib.indexByte (bl s) 61
theorem iEq_le (s : ByteArray) : -1 ≤ iEq s ∧ (0 ≤ iEq s → iEq s + 1 ≤ s.size) := by
  unfold iEq
  refine ⟨Lib.indexByte_ge _ _, fun h => ?_⟩
  obtain ⟨o, ho⟩ := Int.eq_ofNat_of_zero_le h
  have h1 := (Lib.indexByte_some ho).1
  have h2 := (List.getElem?_eq_some_iff.1 h1).1
  rw [bl_len] at h2
  omega
theorem cut_f (s : ByteArray) (hs : s.size ≤ 1000000) : strings_Cut.f s (⟨#[61]⟩ : ByteArray) = some (if 0 ≤ iEq s then (s.extract 0 (iEq s).toNat, s.extract (iEq s + 1).toNat s.size, true) else (s, (⟨#[]⟩ : ByteArray), false)) := by
  have hi := iEq_le s
  have e1 : stringslite_Index.f s (⟨#[61]⟩ : ByteArray) = some (iEq s) := by unfold stringslite_Index.f; rw [if_pos (show (⟨#[61]⟩ : ByteArray).size = 1 from rfl)]; rfl
  unfold strings_Cut.f stringslite_Cut.f
  rw [e1, Option.bind_some]
  have e2 : wrap64 (iEq s + (((⟨#[61]⟩ : ByteArray).size : Nat) : Int)) = iEq s + 1 := by
    show wrap64 (iEq s + 1) = _
    by_cases h : 0 ≤ iEq s
    · have := hi.2 h; rw [w64 (by omega) (by omega)]
    · rw [w64 (by omega) (by omega)]
  rw [e2]
  by_cases h : 0 ≤ iEq s
  · have := hi.2 h
    rw [if_pos (by omega), if_pos h, if_pos (by omega), if_pos (by omega), if_pos (by omega), if_pos h]; rfl
  · rw [if_neg (by omega), if_neg h]; rfl
def hasNl (s : ByteArray) : Bool := decide (1 ≤ s.size) && ((s.extract (s.size - 1) s.size).toList == (⟨#[10]⟩ : ByteArray).toList)
theorem suf_f (s : ByteArray) (hs : s.size ≤ 1000000) : strings_CutSuffix.f s (⟨#[10]⟩ : ByteArray) = some (if hasNl s = true then (s.extract 0 (s.size - 1), true) else (s, false)) := by
  unfold strings_CutSuffix.f stringslite_CutSuffix.f stringslite_HasSuffix.f hasNl
  have e0 : (⟨#[10]⟩ : ByteArray).size = 1 := rfl
  rw [e0]
  by_cases h : 1 ≤ s.size
  · have e2 : wrap64 ((s.size : Int) - ((1 : Nat) : Int)) = ((s.size - 1 : Nat) : Int) := by rw [w64 (by omega) (by omega)]; omega
    rw [e2, if_pos (by omega), if_pos (by omega), if_pos (by omega), Option.bind_some, decide_eq_true h, Bool.true_and]
    have e3 : (((s.size - 1 : Nat) : Int)).toNat = s.size - 1 := by omega
    rw [e3]
    cases hc : ((s.extract (s.size - 1) s.size).toList == (⟨#[10]⟩ : ByteArray).toList) with
    | true => rw [if_pos rfl, if_pos (by omega), if_pos (by omega), if_pos rfl]; rfl
    | false => rw [if_neg (by simp), if_neg (by simp)]; rfl
  · rw [if_neg (by omega), Option.bind_some, if_neg (by simp), decide_eq_false h, Bool.false_and, if_neg (by simp)]; rfl
theorem cut_app (s key : ByteArray) (R : List UInt8) (hs : s.size ≤ 1000000) (h : bl s = bl key ++ 61 :: R) (hk : ∀ x ∈ bl key, x ≠ 61) : strings_Cut.f s (⟨#[61]⟩ : ByteArray) = some (key, ⟨R.toArray⟩, true) := by
  have e : iEq s = (key.size : Int) := by unfold iEq; rw [h, index_app _ _ _ hk, bl_len]
  have hz : s.size = key.size + 1 + R.length := by rw [← bl_len, h, List.length_append, List.length_cons, bl_len]; omega
  rw [cut_f s hs, e, if_pos (by omega)]
  congr 2
  · apply bl_inj; rw [bl_ext, h]
    simp only [Int.toNat_natCast, Nat.sub_zero, List.drop_zero]
    rw [List.take_append_of_le_length (by rw [bl_len]; omega), List.take_of_length_le (by rw [bl_len]; omega)]
  · congr 1
    apply bl_inj; rw [bl_ext, h]
    have e2 : ((key.size : Int) + 1).toNat = (bl key).length + 1 := by rw [bl_len]; omega
    rw [e2, List.drop_append]
    simp only [List.drop_eq_nil_of_le (show (bl key).length ≤ (bl key).length + 1 by omega), Nat.add_sub_cancel_left, List.drop_succ_cons, List.drop_zero, List.nil_append]
    rw [List.take_of_length_le (by rw [bl_len]; omega)]
theorem suf_app (s val : ByteArray) (hs : s.size ≤ 1000000) (h : bl s = bl val ++ [10]) : strings_CutSuffix.f s (⟨#[10]⟩ : ByteArray) = some (val, true) := by
  have hz : s.size = val.size + 1 := by rw [← bl_len, h, List.length_append, bl_len]; rfl
  have hn : hasNl s = true := by
    unfold hasNl
    rw [decide_eq_true (by omega), Bool.true_and, beq_iff_eq, ByteArray.toList_eq, ByteArray.toList_eq]
    show bl _ = _
    rw [bl_ext, h, hz, Nat.add_sub_cancel, List.drop_append, bl_len, Nat.sub_self, List.drop_eq_nil_of_le (by rw [bl_len]; omega)]
    simp
  rw [suf_f s hs, hn, if_pos rfl]
  congr 2
  apply bl_inj; rw [bl_ext, h, hz]
  simp only [Nat.add_sub_cancel, Nat.sub_zero, List.drop_zero]
  rw [List.take_append_of_le_length (by rw [bl_len]; omega), List.take_of_length_le (by rw [bl_len]; omega)]
/-! ### pax.first -/
theorem str_beq {s t : ByteArray} : s.toList = t.toList ↔ s = t := by
  rw [ByteArray.toList_eq, ByteArray.toList_eq]; exact ⟨fun h => bl_inj h, fun h => by rw [h]⟩
theorem first_sound (b : List Int) (h1 : 1 ≤ b.length) (h2 : b.length ≤ 65536) (k : Nat) (hk : 70000 ≤ k) :
    pax_first.f k b = none1 ∨ ∃ key val n, Line (Lib.bytesOf b) key val n ∧ pax_first.f k b = some (key, val, (n : Int)) := by
  unfold pax_first.f
  rw [if_pos ⟨h1, h2⟩]
  split
  case isFalse => exact .inl rfl
  rename_i hI
  split
  case h_2 => exact .inl rfl
  rename_i n hA
  split
  · exact .inl rfl
  rename_i hg
  split
  · exact .inl rfl
  rename_i hl
  unfold pax_first.g
  have hS : (strOfNums ((b.take n.toNat).drop ((dig b).length + 1))).size ≤ 65536 := by rw [strOfNums_size, List.length_drop, List.length_take]; omega
  have c1 := cut_f _ (Nat.le_trans hS (by decide))
  obtain ⟨⟨key, v0, ok⟩, hc⟩ : ∃ x, x = (if 0 ≤ iEq (strOfNums ((b.take n.toNat).drop ((dig b).length + 1))) then ((strOfNums ((b.take n.toNat).drop ((dig b).length + 1))).extract 0 (iEq (strOfNums ((b.take n.toNat).drop ((dig b).length + 1)))).toNat, (strOfNums ((b.take n.toNat).drop ((dig b).length + 1))).extract (iEq (strOfNums ((b.take n.toNat).drop ((dig b).length + 1))) + 1).toNat (strOfNums ((b.take n.toNat).drop ((dig b).length + 1))).size, true) else (strOfNums ((b.take n.toNat).drop ((dig b).length + 1)), (⟨#[]⟩ : ByteArray), false)) := ⟨_, rfl⟩
  rw [← hc] at c1
  have hks : key.size ≤ 65536 ∧ v0.size ≤ 65536 := by
    split at hc
    · injection hc with a b; injection b with b c
      rw [a, b]; simp only [ByteArray.size_extract]; omega
    · injection hc with a b; injection b with b c
      rw [a, b]; exact ⟨hS, by decide⟩
  rw [c1, Option.bind_some]
  show ((strings_CutSuffix.f v0 (⟨#[10]⟩ : ByteArray)).bind fun e => if ok = true then (if e.2 = true then ((pax_Line.f k key e.1).bind fun q => if q.2.isNone = true then (if q.1.toList = (strOfNums (b.take n.toNat)).toList then some (key, e.1, n) else none1) else none1) else none1) else none1) = none1 ∨ _
  have c2 := suf_f v0 (Nat.le_trans hks.2 (by decide))
  obtain ⟨⟨val, en⟩, hc2⟩ : ∃ x, x = (if hasNl v0 = true then (v0.extract 0 (v0.size - 1), true) else (v0, false)) := ⟨_, rfl⟩
  rw [← hc2] at c2
  rw [c2, Option.bind_some]
  show (if ok = true then (if en = true then ((pax_Line.f k key val).bind fun q => if q.2.isNone = true then (if q.1.toList = (strOfNums (b.take n.toNat)).toList then some (key, val, n) else none1) else none1) else none1) else none1) = none1 ∨ _
  split
  case isFalse => exact .inl rfl
  split
  case isFalse => exact .inl rfl
  rw [line_f key val k (by omega), Option.bind_some]
  cases hL : lineB key val with
  | none => left; show (if (some (15 : Int)).isNone = true then _ else none1) = none1; rw [if_neg (by simp)]
  | some L =>
    show (if (none : Option Int).isNone = true then (if L.toList = (strOfNums (b.take n.toNat)).toList then some (key, val, n) else none1) else none1) = none1 ∨ ∃ key' val' n', _ ∧ (if (none : Option Int).isNone = true then (if L.toList = (strOfNums (b.take n.toNat)).toList then some (key, val, n) else none1) else none1) = _
    rw [if_pos (by rfl)]
    split
    case isFalse => exact .inl rfl
    case isTrue hq =>
      right
      have hq := str_beq.1 hq
      have hz : L.size = n.toNat := by rw [hq, strOfNums_size, List.length_take]; omega
      refine ⟨key, val, n.toNat, ⟨L, hL, hz, ?_⟩, ?_⟩
      · rw [hq, bl_str]; unfold Lib.bytesOf; rw [List.map_take]
      · rw [Int.toNat_of_nonneg (by omega)]
theorem first_complete (b : List Int) (h2 : b.length ≤ 65536) (k : Nat) (hk : 70000 ≤ k) (key val : ByteArray) (n : Nat) (h : Line (Lib.bytesOf b) key val n) :
    pax_first.f k b = some (key, val, (n : Int)) := by
  obtain ⟨ha, hn, h5, h6, hkw⟩ := h.at
  obtain ⟨L, hL, hz, hb⟩ := h
  have hlen : (Lib.bytesOf b).length = b.length := by simp [Lib.bytesOf]
  rw [hlen] at hn
  have hB : Lib.bytesOf b = Lib.decDigits n ++ 32 :: (bl key ++ 61 :: (bl val ++ (10 :: (Lib.bytesOf b).drop n))) := by
    conv => lhs; rw [← List.take_append_drop n (Lib.bytesOf b), ha]
    unfold bytesL
    simp only [List.append_assoc, List.cons_append, List.nil_append]
  have hdl := Lib.decDigits_length n
  have hn2 : n = Lib.nDigits n + key.size + val.size + 3 := by
    have := congrArg List.length ha
    rw [List.length_take, hlen, bytesL_length] at this; omega
  have hI : spI b = (Lib.nDigits n : Int) := by unfold spI; rw [hB, index_app _ _ _ (dig_no32 n), hdl]
  have hdg : dig b = b.take (Lib.nDigits n) := by unfold dig; rw [hI, Int.toNat_natCast]
  have hdgl : (dig b).length = Lib.nDigits n := by rw [hdg, List.length_take]; omega
  have hbt : ∀ m, Lib.bytesOf (b.take m) = (Lib.bytesOf b).take m := fun m => by unfold Lib.bytesOf; rw [List.map_take]
  have hA : Lib.atoiAll (strOfNums (dig b)).data.toList = .ok (n : Int) := by
    have : (strOfNums (dig b)).data.toList = Lib.decDigits n := by
      show bl _ = _
      rw [bl_str, hdg, hbt, hB, List.take_append_of_le_length (by omega), List.take_of_length_le (by omega)]
    rw [this]; exact atoi_dig n (by omega)
  have hS : bl (strOfNums ((b.take n).drop (Lib.nDigits n + 1))) = bl key ++ 61 :: (bl val ++ [10]) := by
    rw [bl_str]
    have : Lib.bytesOf ((b.take n).drop (Lib.nDigits n + 1)) = ((Lib.bytesOf b).take n).drop (Lib.nDigits n + 1) := by unfold Lib.bytesOf; rw [List.map_drop, List.map_take]
    rw [this, ha]; unfold bytesL
    rw [List.drop_append, hdl, List.drop_eq_nil_of_le (by omega), Nat.add_sub_cancel_left, List.nil_append, List.drop_succ_cons, List.drop_zero]
  have hSs : (strOfNums ((b.take n).drop (Lib.nDigits n + 1))).size ≤ 1000000 := by rw [strOfNums_size, List.length_drop, List.length_take]; omega
  have hT : strOfNums (b.take n) = L := by apply bl_inj; rw [bl_str, hbt, hb]
  unfold pax_first.f
  rw [if_pos ⟨by omega, h2⟩, if_pos (by omega), hA]
  show (if (b.length : Int) < (n : Int) then none1 else if (n : Int) < ((dig b).length : Int) + 1 then none1 else pax_first.g k b (n : Int)) = _
  rw [if_neg (by omega), if_neg (by omega)]
  unfold pax_first.g
  rw [Int.toNat_natCast, hdgl, cut_app _ key (bl val ++ [10]) hSs hS (key_no61 hkw), Option.bind_some]
  show ((strings_CutSuffix.f (⟨(bl val ++ [10]).toArray⟩ : ByteArray) (⟨#[10]⟩ : ByteArray)).bind _) = _
  have hsuf : strings_CutSuffix.f (⟨(bl val ++ [10]).toArray⟩ : ByteArray) (⟨#[10]⟩ : ByteArray) = some (val, true) :=
    suf_app (⟨(bl val ++ [10]).toArray⟩ : ByteArray) val (by show (bl val ++ [10]).toArray.size ≤ _; rw [List.size_toArray, List.length_append, bl_len]; show _ + 1 ≤ _; omega) rfl
  rw [hsuf, Option.bind_some, if_pos rfl, if_pos rfl]
  show ((pax_Line.f k key val).bind _) = _
  rw [line_f key val k (by omega), hL, Option.bind_some]
  show (if (none : Option Int).isNone = true then (if L.toList = (strOfNums (b.take n)).toList then some (key, val, (n : Int)) else none1) else none1) = _
  rw [if_pos (by rfl), if_pos (by rw [hT])]
end PX
end Go.Proofs.YtcengaholljddaaDoor
