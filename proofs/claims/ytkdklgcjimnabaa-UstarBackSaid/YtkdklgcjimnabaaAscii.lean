/- Which strings strings.IndexFunc finds no byte in that is 0 or above 127: those of whose bytes none is. No program in sight. Conditions: none. -/
import Derived.Lib.DecodeN
import Derived.Shelf.GgClosure.StringsIndexFuncTop
import Derived.Lib.Bytes
import Derived.Lib.Bytealg
namespace Go.Proofs.Ytkdklgcjimnabaa.Asc
set_option linter.unusedVariables false
set_option linter.unusedSimpArgs false
theorem dec_hi (n b0 b1 b2 b3 : Nat) (h : 128 ≤ b0) : 127 < (Lib.decodeN n b0 b1 b2 b3).1 := by
  unfold Lib.decodeN
  rw [if_neg (by omega)]
  repeat' split
  all_goals (simp only []; omega)
def isBad (n : Nat) : Bool := decide (n = 0) || decide (127 < n)
theorem asciiB_from (s : ByteArray) : ∀ (f pos : Nat), s.size - pos ≤ f → decide (Lib.idxFuncFrom isBad true s f pos < 0) = (s.data.toList.drop pos).all (fun c => decide (c ≠ 0) && decide (c ≤ 127))
  | 0, pos, h => by
    have : s.data.toList.length ≤ pos := by rw [Array.length_toList]; show s.size ≤ pos; omega
    rw [List.drop_eq_nil_of_le this]
    rfl
  | f + 1, pos, h => by
    unfold Lib.idxFuncFrom
    by_cases hlt : pos < s.size
    · rw [if_pos hlt]
      have hl : pos < s.data.toList.length := by rw [Array.length_toList]; exact hlt
      rw [List.drop_eq_getElem_cons hl, List.all_cons]
      have hb : s.get! pos = s.data.toList[pos] := by
        rw [Array.getElem_toList]
        show s.data[pos]! = _
        exact getElem!_pos s.data pos hlt
      have hz : ∀ c : UInt8, c ≠ 0 ↔ c.toNat ≠ 0 := fun c => ⟨fun h e => h (UInt8.toNat_inj.1 e), fun h e => h (by rw [e]; rfl)⟩
      by_cases hc : (s.get! pos).toNat < 128
      · have hd : Utf8.decode s pos = ((s.get! pos).toNat, 1) := by
          rw [Lib.decode_at]
          unfold Lib.decodeN
          rw [if_pos hc]
        rw [hd]
        by_cases h0 : (s.get! pos).toNat = 0
        · have e : isBad (s.get! pos).toNat = true := by simp [isBad, h0]
          rw [if_pos e]
          have : ¬ s.data.toList[pos] ≠ 0 := by rw [hz, ← hb]; exact fun h => h h0
          rw [decide_eq_false this]
          simp
        · have e : ¬ isBad (s.get! pos).toNat = true := by simp [isBad, h0]; omega
          rw [if_neg e]
          have t1 : s.data.toList[pos] ≠ 0 := by rw [hz, ← hb]; exact h0
          have t2 : s.data.toList[pos] ≤ 127 := by rw [UInt8.le_iff_toNat_le, ← hb]; show _ ≤ 127; omega
          rw [decide_eq_true t1, decide_eq_true t2, Bool.true_and, Bool.true_and]
          exact asciiB_from s f (pos + 1) (by omega)
      · have hh : 127 < (Utf8.decode s pos).1 := by
          rw [Lib.decode_at]
          exact dec_hi _ _ _ _ _ (by omega)
        have e : isBad (Utf8.decode s pos).1 = true := by unfold isBad; rw [decide_eq_true hh, Bool.or_true]
        rw [if_pos e]
        have t2 : ¬ s.data.toList[pos] ≤ 127 := by rw [UInt8.le_iff_toNat_le, ← hb]; show ¬ _ ≤ 127; omega
        rw [decide_eq_false t2, Bool.and_false, Bool.false_and]
        exact decide_eq_false (by omega)
    · rw [if_neg hlt, List.drop_eq_nil_of_le (by rw [Array.length_toList]; show s.size ≤ pos; omega)]
      rfl
theorem ascii_idx (s : ByteArray) : decide (Lib.idxFunc isBad true s < 0) = s.data.toList.all (fun c => decide (c ≠ 0) && decide (c ≤ 127)) := by
  unfold Lib.idxFunc
  rw [asciiB_from s s.size 0 (by omega), List.drop_zero]
/-- No zero byte. -/
def nz (c : Int) : Bool := !(UInt8.ofNat c.toNat == 0)
theorem idx_nz : ∀ (L : List Int), (-1 ≤ Lib.indexByte (Lib.bytesOf L) 0 ∧ Lib.indexByte (Lib.bytesOf L) 0 + 1 ≤ L.length) ∧
    L.take (if 0 ≤ Lib.indexByte (Lib.bytesOf L) 0 then (Lib.indexByte (Lib.bytesOf L) 0).toNat else L.length) = L.takeWhile nz
  | [] => ⟨by simp [Lib.bytesOf, Lib.indexByte], by simp⟩
  | c :: L => by
    obtain ⟨⟨h1, h2⟩, h3⟩ := idx_nz L
    obtain ⟨I, hI⟩ : ∃ I, Lib.indexByte (Lib.bytesOf L) 0 = I := ⟨_, rfl⟩
    rw [hI] at h1 h2 h3
    have e : Lib.indexByte (Lib.bytesOf (c :: L)) 0 = if (UInt8.ofNat c.toNat == 0) = true then 0 else if (I == -1) = true then -1 else I + 1 := by rw [← hI]; rfl
    by_cases h0 : (UInt8.ofNat c.toNat == 0) = true
    · have e1 : Lib.indexByte (Lib.bytesOf (c :: L)) 0 = 0 := by rw [e, if_pos h0]
      have en : nz c = false := by unfold nz; rw [h0]; rfl
      have et : (c :: L).takeWhile nz = [] := by rw [List.takeWhile_cons, en]; rfl
      rw [e1, et]
      exact ⟨⟨by omega, by rw [List.length_cons]; omega⟩, rfl⟩
    · have en : nz c = true := by unfold nz; rw [Bool.eq_false_iff.2 h0]; rfl
      have et : (c :: L).takeWhile nz = c :: L.takeWhile nz := by rw [List.takeWhile_cons, en]; rfl
      by_cases hm : I = -1
      · have e1 : Lib.indexByte (Lib.bytesOf (c :: L)) 0 = -1 := by rw [e, if_neg h0, if_pos (by rw [hm]; rfl)]
        rw [hm] at h3
        rw [e1, et, ← h3]
        exact ⟨⟨by omega, by rw [List.length_cons]; omega⟩, rfl⟩
      · have e1 : Lib.indexByte (Lib.bytesOf (c :: L)) 0 = I + 1 := by rw [e, if_neg h0, if_neg (by rw [beq_iff_eq]; exact hm)]
        have a1 : 0 ≤ I := by omega
        have a2 : 0 ≤ I + 1 := by omega
        have a3 : (I + 1).toNat = I.toNat + 1 := by omega
        rw [if_pos a1] at h3
        rw [e1, et, ← h3, if_pos a2, a3, List.take_succ_cons]
        exact ⟨⟨by omega, by rw [List.length_cons]; omega⟩, rfl⟩
end Go.Proofs.Ytkdklgcjimnabaa.Asc
