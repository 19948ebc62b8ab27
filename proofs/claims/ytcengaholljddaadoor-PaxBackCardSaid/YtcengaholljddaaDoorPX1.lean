import Derived.Test.YtcengaholljddaaDoorPPaxx4
namespace Go.Proofs.YtcengaholljddaaDoor
open Go.RowKit Go.Proofs.YtcengaholljddaaDoor.PPax Go.Proofs.YtcengaholljddaaDoorW.PrintWords Go.Proofs.YtcengaholljddaaDoorW.PrintLast
namespace PX
theorem w64 {n : Int} (h0 : -9223372036854775808 ≤ n) (h1 : n < 9223372036854775808) : wrap64 n = n := by unfold wrap64; omega
theorem data_length (s : ByteArray) : s.data.toList.length = s.size := by rw [Array.length_toList]; rfl
theorem bt_get (s : ByteArray) (i : Nat) (h : i < s.size) : bt s (i : Int) = ((s.data.toList[i]'(by rw [data_length]; exact h)).toNat : Int) := by
  have q := bt_at s (i : Int) (by omega)
  simp only [Int.toNat_natCast] at q
  rw [← q]
  simp [ByteArray.getElem_eq_getElem_data]
/-! ### keywords -/
def okc (c : UInt8) : Bool := decide (33 ≤ c.toNat) && (decide (c.toNat ≤ 126) && !decide (c.toNat = 61))
def allB (s : ByteArray) : Bool := s.data.toList.all okc
def kwB (s : ByteArray) : Bool := decide (1 ≤ s.size) && (decide (s.size ≤ 100) && allB s)
theorem okc_bt {s : ByteArray} {i : Nat} (h : i < s.size) : okc (s.data.toList[i]'(by rw [data_length]; exact h)) = (decide (33 ≤ bt s i) && (decide (bt s i ≤ 126) && !decide (bt s i = 61))) := by
  rw [bt_get s i h]; unfold okc
  congr 1
  · apply decide_eq_decide.2; omega
  · congr 1
    · apply decide_eq_decide.2; omega
    · congr 1; apply decide_eq_decide.2; omega
theorem all_step {s : ByteArray} {i : Nat} (h : i < s.size) : (s.data.toList.drop i).all okc = ((decide (33 ≤ bt s i) && (decide (bt s i ≤ 126) && !decide (bt s i = 61))) && (s.data.toList.drop (i + 1)).all okc) := by
  rw [← okc_bt h, List.drop_eq_getElem_cons (by rw [data_length]; exact h), List.all_cons]
theorem kw_l (s : ByteArray) (hs : s.size ≤ 100) : ∀ (n i k : Nat), i + n = s.size → n + 1 ≤ k → pax_keyword.l0 k s (s.size : Int) (i : Int) = some ((s.data.toList.drop i).all okc) := by
  intro n
  induction n with
  | zero =>
    intro i k hi hk
    obtain ⟨k, rfl⟩ : ∃ j, k = j + 1 := ⟨k - 1, by omega⟩
    simp only [pax_keyword.l0]
    rw [if_neg (by omega), List.drop_eq_nil_of_le (by rw [data_length]; omega)]; rfl
  | succ n ih =>
    intro i k hi hk
    obtain ⟨k, rfl⟩ : ∃ j, k = j + 1 := ⟨k - 1, by omega⟩
    have e1 : wrap64 ((i : Int) + 1) = ((i + 1 : Nat) : Int) := by rw [w64 (by omega) (by omega)]; omega
    simp only [pax_keyword.l0, e1, ih (i + 1) k (by omega) (by omega)]
    rw [if_pos (by omega : (i : Int) < (s.size : Int)), if_pos (by omega : (0 : Int) ≤ (i : Int)), if_pos (by omega : (i : Int) < (s.size : Int)), all_step (s := s) (i := i) (by omega)]
    by_cases h1 : bt s i < 33
    · rw [if_pos h1, decide_eq_false (by omega : ¬ 33 ≤ bt s i)]; rfl
    · rw [if_neg h1, decide_eq_true (by omega : 33 ≤ bt s i)]
      by_cases h2 : bt s i > 126
      · rw [if_pos h2, decide_eq_false (by omega : ¬ bt s i ≤ 126)]; rfl
      · rw [if_neg h2, decide_eq_true (by omega : bt s i ≤ 126)]
        by_cases h3 : bt s i = 61
        · rw [if_pos h3, decide_eq_true h3]; rfl
        · rw [if_neg h3, decide_eq_false h3]; rfl
theorem size_nil {p : ByteArray} : p.toList = ([] : List UInt8) ↔ p.size = 0 := by
  have e : p.toList = p.data.toList := ByteArray.toList_eq p
  rw [e]
  constructor
  · intro h; rw [← data_length, h]; rfl
  · intro h; rw [← data_length] at h; exact List.eq_nil_of_length_eq_zero h
theorem kw_f (s : ByteArray) (k : Nat) (hk : s.size + 102 ≤ k) : pax_keyword.f k s = some (kwB s) := by
  obtain ⟨k, rfl⟩ : ∃ j, k = j + 1 := ⟨k - 1, by omega⟩
  unfold pax_keyword.f kwB
  by_cases h0 : s.size = 0
  · rw [if_pos (size_nil.2 h0), decide_eq_false (by omega : ¬ 1 ≤ s.size)]; simp only [pax_keyword.j0, if_true]; rfl
  · rw [if_neg (fun h => h0 (size_nil.1 h)), decide_eq_true (by omega : 1 ≤ s.size)]
    simp only [pax_keyword.j0]
    by_cases h1 : s.size ≤ 100
    · rw [if_neg (by rw [decide_eq_true_eq]; omega), decide_eq_true h1]
      rw [show (0 : Int) = ((0 : Nat) : Int) from rfl, kw_l s h1 s.size 0 k (by omega) (by omega)]; rfl
    · rw [if_pos (by rw [decide_eq_true_eq]; omega), decide_eq_false h1]; rfl
theorem rkw_l (s : ByteArray) (hs : s.size ≤ 140737488351232) : ∀ (n i k : Nat), i + n = s.size → n + 1 ≤ k → amphoraref11_keyword.l0 k s (i : Int) = some ((s.data.toList.drop i).all okc && (decide (1 ≤ s.size) && decide (s.size ≤ 100))) := by
  intro n
  induction n with
  | zero =>
    intro i k hi hk
    obtain ⟨k, rfl⟩ : ∃ j, k = j + 1 := ⟨k - 1, by omega⟩
    simp only [amphoraref11_keyword.l0]
    rw [if_neg (by omega), List.drop_eq_nil_of_le (by rw [data_length]; omega)]
    by_cases h : 1 ≤ s.size
    · rw [if_pos (by omega), decide_eq_true h]; simp; omega
    · rw [if_neg (by omega), decide_eq_false h]; rfl
  | succ n ih =>
    intro i k hi hk
    obtain ⟨k, rfl⟩ : ∃ j, k = j + 1 := ⟨k - 1, by omega⟩
    have e1 : wrap64 ((i : Int) + 1) = ((i + 1 : Nat) : Int) := by rw [w64 (by omega) (by omega)]; omega
    simp only [amphoraref11_keyword.l0, e1, ih (i + 1) k (by omega) (by omega)]
    rw [if_pos (by omega : (i : Int) < (s.size : Int)), if_pos (by omega : (0 : Int) ≤ (i : Int)), all_step (s := s) (i := i) (by omega)]
    by_cases h1 : bt s i ≤ 32
    · rw [if_pos h1, decide_eq_false (by omega : ¬ 33 ≤ bt s i)]; rfl
    · rw [if_neg h1, decide_eq_true (by omega : 33 ≤ bt s i)]
      by_cases h2 : bt s i ≥ 127
      · rw [if_pos h2, decide_eq_false (by omega : ¬ bt s i ≤ 126)]; rfl
      · rw [if_neg h2, decide_eq_true (by omega : bt s i ≤ 126)]
        by_cases h3 : bt s i = 61
        · rw [if_pos h3, decide_eq_true h3]; rfl
        · rw [if_neg h3, decide_eq_false h3]; rfl
theorem rkw_f (s : ByteArray) (hs : s.size ≤ 140737488351232) (k : Nat) (hk : s.size + 102 ≤ k) : amphoraref11_keyword.f k s = some (kwB s) := by
  unfold amphoraref11_keyword.f kwB
  rw [show (0 : Int) = ((0 : Nat) : Int) from rfl, rkw_l s hs s.size 0 k (by omega) (by omega), List.drop_zero]
  unfold allB
  cases List.all s.data.toList okc <;> simp
end PX
end Go.Proofs.YtcengaholljddaaDoor
