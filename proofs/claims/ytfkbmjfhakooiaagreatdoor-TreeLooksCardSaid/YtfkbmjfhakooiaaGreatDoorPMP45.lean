/- The reference's words on paths in plain Lean. Conditions: as each theorem says. -/
import Derived.Test.YtfkbmjfhakooiaaGreatDoorPTreex6
import Derived.Test.YtfkbmjfhakooiaaGreatDoorPM23
import Derived.Test.YtfkbmjfhakooiaaGreatDoorPTreex3
import Derived.Test.YtfkbmjfhakooiaaGreatDoorPTreex8
import Derived.Test.YtfkbmjfhakooiaaGreatDoorPTreex9
import Derived.Test.YtfkbmjfhakooiaaGreatDoorPTreex4
/- The references on paths in plain Lean. Conditions: as each theorem says. -/
namespace Go.Proofs.YtfkbmjfhakooiaaGreatDoor
open Go.RowKit Go.Proofs.YtfkbmjfhakooiaaGreatDoor.PTree Go.Proofs.YtfkbmjfhakooiaaGreatDoorW.PrintWords Go.Proofs.YtfkbmjfhakooiaaGreatDoorW.PrintLast
set_option linter.unusedSimpArgs false
set_option linter.unusedVariables false
namespace PM
/-! ### utf -/
theorem getD_get {l : List UInt8} {i : Nat} (h : i < l.length) : l.getD i 0 = l[i] := by rw [List.getD_eq_getElem?_getD, List.getElem?_eq_getElem h]; rfl
/-- The loop over what follows a lead byte. -/
theorem utf_l1_end (s : ByteArray) (i n k : Nat) (lo hi : Int) (hs : s.size ≤ 4611686018427387904) (hi2 : i ≤ s.size) (hn : n ≤ 4) : amphoraref08_utf.l1 (k + 1) s (i : Int) (n : Int) lo hi (n : Int) = amphoraref08_utf.l0 k s ((i + n : Nat) : Int) := by
  simp only [amphoraref08_utf.l1]
  rw [if_neg (by omega), w64 (by omega) (by omega), Int.natCast_add]
theorem utf_l1_step (s : ByteArray) (i n j k : Nat) (lo hi : Int) (hs : s.size ≤ 4611686018427387904) (hj : j < n) (hn : i + n ≤ s.size) (hn4 : n ≤ 4) :
    amphoraref08_utf.l1 (k + 1) s (i : Int) (n : Int) lo hi (j : Int) = if ((s.data.toList.drop i).getD j 0).toNat < lo then some false else if ((s.data.toList.drop i).getD j 0).toNat > hi then some false else amphoraref08_utf.l1 k s (i : Int) (n : Int) 128 191 ((j + 1 : Nat) : Int) := by
  simp only [amphoraref08_utf.l1]
  rw [if_pos (by omega), w64 (show -9223372036854775808 ≤ (i : Int) + (j : Int) by omega) (by omega), w64 (show -9223372036854775808 ≤ (j : Int) + 1 by omega) (by omega), if_pos (by omega), if_pos (by omega), ← Int.natCast_add, bt_get s (i + j) (by omega)]
  have : (s.data.toList.drop i).getD j 0 = s.data.toList[i + j]'(by rw [dl]; omega) := by
    rw [getD_get (by rw [List.length_drop, dl]; omega), List.getElem_drop]
  rw [this, Int.natCast_add]; rfl
theorem utf_j4 (s : ByteArray) (i n k : Nat) (lo hi : Int) (hs : s.size ≤ 4611686018427387904) (hi2 : i ≤ s.size) (hn : n ≤ 4) :
    amphoraref08_utf.j4 (k + 2) s (i : Int) (n : Int) lo hi = if n = 0 ∨ s.size < i + n then some false else amphoraref08_utf.l1 k s (i : Int) (n : Int) lo hi 1 := by
  simp only [amphoraref08_utf.j4, amphoraref08_utf.j5]
  by_cases h0 : n = 0
  · subst h0; rw [if_pos (by omega), if_pos trivial, if_pos (.inl rfl)]
  · rw [if_neg (by omega), w64 (by omega) (by omega)]
    by_cases h1 : s.size < i + n
    · rw [decide_eq_true (by omega), if_pos rfl, if_pos (.inr h1)]
    · rw [decide_eq_false (by omega), if_neg (by simp), if_neg (by omega)]
/-- How many bytes a lead byte asks, and the bounds of the next. -/
def leadN (b : Nat) : Nat × Nat × Nat :=
  if b < 194 then (0, 128, 191) else if b < 224 then (2, 128, 191) else if b = 224 then (3, 160, 191) else if b = 237 then (3, 128, 159) else if b < 240 then (3, 128, 191) else if b = 240 then (4, 144, 191) else if b < 244 then (4, 128, 191) else if b = 244 then (4, 128, 143) else (0, 128, 191)
theorem leadN_le (b : Nat) : (leadN b).1 ≤ 4 ∧ (leadN b).1 ≠ 1 := by
  unfold leadN
  repeat' split
  all_goals decide
theorem utf_lead (s : ByteArray) (i k : Nat) (hi : i < s.size) (h0 : 128 ≤ ((s.data.toList.drop i).getD 0 0).toNat) :
    ∃ q, k ≤ q ∧ q ≤ k + 5 ∧ amphoraref08_utf.l0 (k + 6) s (i : Int) = amphoraref08_utf.j4 q s (i : Int) ((leadN ((s.data.toList.drop i).getD 0 0).toNat).1 : Int) ((leadN ((s.data.toList.drop i).getD 0 0).toNat).2.1 : Int) ((leadN ((s.data.toList.drop i).getD 0 0).toNat).2.2 : Int) := by
  have hb : bt s (i : Int) = (((s.data.toList.drop i).getD 0 0).toNat : Int) := by
    rw [bt_get s i hi, getD_get (by rw [List.length_drop, dl]; omega), List.getElem_drop]; rfl
  obtain ⟨b, hbb⟩ : ∃ b : Nat, b = ((s.data.toList.drop i).getD 0 0).toNat := ⟨_, rfl⟩
  have hb256 : b < 256 := by rw [hbb]; exact UInt8.toNat_lt _
  rw [← hbb] at hb h0 ⊢
  simp only [amphoraref08_utf.l0]
  rw [if_pos (by omega), if_pos (by omega), hb, if_neg (by omega)]
  unfold leadN
  by_cases c0 : b < 194
  · rw [if_neg (by omega), if_pos c0]
    refine ⟨k + 2, by omega, by omega, ?_⟩
    simp only [amphoraref08_utf.j1, amphoraref08_utf.j2, amphoraref08_utf.j3]
    rw [if_neg (by simp), if_neg (by omega), if_neg (by simp), if_neg (by omega), if_neg (by simp)]; rfl
  rw [if_pos (by omega), if_neg c0]
  by_cases c1 : b < 224
  · rw [if_pos c1]
    refine ⟨k + 4, by omega, by omega, ?_⟩
    simp only [amphoraref08_utf.j1]
    rw [decide_eq_true (by omega), if_pos rfl]; rfl
  rw [if_neg c1]
  simp only [amphoraref08_utf.j1]
  rw [decide_eq_false (by omega), if_neg (by simp), if_pos (by omega)]
  simp only [amphoraref08_utf.j2]
  by_cases c2 : b < 240
  · rw [decide_eq_true (by omega), if_pos rfl]
    refine ⟨k + 3, by omega, by omega, ?_⟩
    by_cases d1 : b = 224
    · rw [if_pos (by omega), if_neg (by omega), if_pos d1]; rfl
    · rw [if_neg (by omega), if_neg d1]
      by_cases d2 : b = 237
      · rw [if_pos (by omega), if_pos d2]; rfl
      · rw [if_neg (by omega), if_neg d2, if_pos c2]; rfl
  rw [decide_eq_false (by omega), if_neg (by simp), if_pos (by omega), if_neg (by omega), if_neg (by omega), if_neg c2]
  simp only [amphoraref08_utf.j3]
  refine ⟨k + 2, by omega, by omega, ?_⟩
  by_cases c3 : b ≤ 244
  · rw [decide_eq_true (by omega), if_pos rfl]
    by_cases d1 : b = 240
    · rw [if_pos (by omega), if_neg (by omega), if_pos d1]; rfl
    · rw [if_neg (by omega), if_neg d1]
      by_cases d2 : b = 244
      · rw [if_pos (by omega), if_neg (by omega), if_pos d2]; rfl
      · rw [if_neg (by omega), if_pos (by omega)]; rfl
  · rw [decide_eq_false (by omega), if_neg (by simp), if_neg (by omega), if_neg (by omega), if_neg (by omega)]; rfl
/-- checkN at what the tables say is leadN's test. -/
theorem checkN_lead (n b b1 b2 b3 : Nat) (hb : 128 ≤ b) (hb2 : b < 256) : Lib.checkN n b1 b2 b3 (Lib.firstT b % 8) (Lib.accLo (Lib.firstT b / 16)) (Lib.accHi (Lib.firstT b / 16)) =
    if (leadN b).1 = 0 ∨ n < (leadN b).1 ∨ b1 < (leadN b).2.1 ∨ (leadN b).2.2 < b1 ∨ (3 ≤ (leadN b).1 ∧ (b2 < 128 ∨ 191 < b2)) ∨ (4 ≤ (leadN b).1 ∧ (b3 < 128 ∨ 191 < b3)) then none else some (leadN b).1 := by
  unfold leadN
  by_cases c0 : b < 194
  · simp [Lib.firstT, Lib.checkN, show ¬ b < 128 by omega, c0]
  by_cases c1 : b < 224
  · simp [Lib.firstT, Lib.checkN, Lib.accLo, Lib.accHi, or_assoc, show ¬ b < 128 by omega, c0, c1]
  by_cases c2 : b = 224
  · subst c2; simp [Lib.firstT, Lib.checkN, Lib.accLo, Lib.accHi, or_assoc]
  by_cases c4 : b = 237
  · subst c4; simp [Lib.firstT, Lib.checkN, Lib.accLo, Lib.accHi, or_assoc]
  by_cases c5 : b < 240
  · by_cases c3 : b < 237
    · simp [Lib.firstT, Lib.checkN, Lib.accLo, Lib.accHi, or_assoc, show ¬ b < 128 by omega, c0, c1, c2, c3, c4, c5]
    · simp [Lib.firstT, Lib.checkN, Lib.accLo, Lib.accHi, or_assoc, show ¬ b < 128 by omega, c0, c1, c2, c3, c4, c5]
  by_cases c6 : b = 240
  · subst c6; simp [Lib.firstT, Lib.checkN, Lib.accLo, Lib.accHi, or_assoc]
  by_cases c7 : b < 244
  · simp [Lib.firstT, Lib.checkN, Lib.accLo, Lib.accHi, or_assoc, show ¬ b < 128 by omega, show ¬ b < 237 by omega, c0, c1, c2, c4, c5, c6, c7]
  by_cases c8 : b = 244
  · subst c8; simp [Lib.firstT, Lib.checkN, Lib.accLo, Lib.accHi, or_assoc]
  · simp [Lib.firstT, Lib.checkN, Lib.accLo, Lib.accHi, or_assoc, show ¬ b < 128 by omega, show ¬ b < 237 by omega, c0, c1, c2, c4, c5, c6, c7, c8]
theorem utf_l (s : ByteArray) (hs : s.size ≤ 4611686018427387904) : ∀ (m i k : Nat), i + m = s.size → 12 * m + 12 ≤ k → amphoraref08_utf.l0 k s (i : Int) = some (Lib.validD (s.data.toList.drop i)) := by
  intro m
  induction m using Nat.strongRecOn with
  | _ m ih =>
  intro i k hi hk
  obtain ⟨k, rfl⟩ : ∃ j, k = j + 12 := ⟨k - 12, by omega⟩
  by_cases hm : m = 0
  · subst hm
    simp only [amphoraref08_utf.l0]
    rw [if_neg (by omega), List.drop_eq_nil_of_le (by rw [dl]; omega)]; rfl
  have hlt : i < s.size := by omega
  have hne : s.data.toList.drop i ≠ [] := by intro h; have := congrArg List.length h; rw [List.length_drop, dl] at this; simp at this; omega
  have hget : (s.data.toList.drop i).getD 0 0 = s.data.toList[i]'(by rw [dl]; omega) := by rw [getD_get (by rw [List.length_drop, dl]; omega), List.getElem_drop]; rfl
  by_cases hb : ((s.data.toList.drop i).getD 0 0).toNat < 128
  · simp only [amphoraref08_utf.l0]
    rw [if_pos (by omega), if_pos (by omega), bt_get s i hlt, ← hget, if_pos (by omega)]
    have e1 := utf_j4 s i 1 (k + 9) 128 191 hs (by omega) (by omega)
    rw [show ((1 : Nat) : Int) = 1 from rfl] at e1
    rw [e1, if_neg (by omega)]
    have e2 := utf_l1_end s i 1 (k + 8) 128 191 hs (by omega) (by omega)
    rw [show ((1 : Nat) : Int) = 1 from rfl] at e2
    rw [e2, ih (m - 1) (by omega) (i + 1) (k + 8) (by omega) (by omega)]
    rw [List.drop_eq_getElem_cons (i := i) (by rw [dl]; omega), Lib.validD_cons _ _ (by rw [← hget]; exact hb)]
  · obtain ⟨q, q1, q2, e⟩ := utf_lead s i (k + 6) hlt (by omega)
    rw [e, Lib.validD_lead _ hne (by omega), checkN_lead _ _ _ _ _ (by omega) (UInt8.toNat_lt _)]
    obtain ⟨n, lo, hi2, hn⟩ : ∃ n lo hi, leadN ((s.data.toList.drop i).getD 0 0).toNat = (n, lo, hi) := ⟨_, _, _, rfl⟩
    have h4 := leadN_le ((s.data.toList.drop i).getD 0 0).toNat
    rw [hn] at h4 ⊢
    dsimp only at h4 ⊢
    obtain ⟨q, rfl⟩ : ∃ j, q = j + 6 := ⟨q - 6, by omega⟩
    rw [utf_j4 s i n (q + 4) _ _ hs (by omega) h4.1]
    rw [List.length_drop, dl]
    by_cases hz : n = 0 ∨ s.size < i + n
    · rw [if_pos hz, if_pos (by omega)]
    · rw [if_neg hz]
      have hn2 : 2 ≤ n := by omega
      have hrec : ∀ k', 12 * m ≤ k' → amphoraref08_utf.l0 k' s ((i + n : Nat) : Int) = some (Lib.validD ((s.data.toList.drop i).drop n)) := by
        intro k' hk'
        rw [List.drop_drop]
        exact ih (m - n) (by omega) (i + n) k' (by omega) (by omega)
      have s1 := utf_l1_step s i n 1 (q + 3) lo hi2 hs (by omega) (by omega) h4.1
      rw [show ((1 : Nat) : Int) = 1 from rfl] at s1
      rw [s1]
      by_cases c1 : ((s.data.toList.drop i).getD 1 0).toNat < lo
      · rw [if_pos (by omega), if_pos (by omega)]
      rw [if_neg (by omega)]
      by_cases c2 : hi2 < ((s.data.toList.drop i).getD 1 0).toNat
      · rw [if_pos (by omega), if_pos (by omega)]
      rw [if_neg (by omega)]
      by_cases d2 : n = 2
      · subst d2
        rw [utf_l1_end s i 2 (q + 2) 128 191 hs (by omega) (by omega), hrec _ (by omega), if_neg (by omega)]
      rw [utf_l1_step s i n (1 + 1) (q + 2) 128 191 hs (by omega) (by omega) h4.1, show (1 + 1 : Nat) = 2 from rfl]
      by_cases c3 : ((s.data.toList.drop i).getD 2 0).toNat < 128
      · rw [if_pos (by omega), if_pos (by omega)]
      rw [if_neg (by omega)]
      by_cases c4 : 191 < ((s.data.toList.drop i).getD 2 0).toNat
      · rw [if_pos (by omega), if_pos (by omega)]
      rw [if_neg (by omega)]
      by_cases d3 : n = 3
      · subst d3
        rw [utf_l1_end s i 3 (q + 1) 128 191 hs (by omega) (by omega), hrec _ (by omega), if_neg (by omega)]
      have d4 : n = 4 := by omega
      subst d4
      rw [utf_l1_step s i 4 (2 + 1) (q + 1) 128 191 hs (by omega) (by omega) h4.1, show (2 + 1 : Nat) = 3 from rfl]
      by_cases c5 : ((s.data.toList.drop i).getD 3 0).toNat < 128
      · rw [if_pos (by omega), if_pos (by omega)]
      rw [if_neg (by omega)]
      by_cases c6 : 191 < ((s.data.toList.drop i).getD 3 0).toNat
      · rw [if_pos (by omega), if_pos (by omega)]
      rw [if_neg (by omega), utf_l1_end s i 4 q 128 191 hs (by omega) (by omega), hrec _ (by omega), if_neg (by omega)]
theorem utf_f (s : ByteArray) (k : Nat) (hs : s.size ≤ 4611686018427387904) (hk : 12 * s.size + 12 ≤ k) : amphoraref08_utf.f k s = some (Lib.validD s.data.toList) := utf_l s hs s.size 0 k (by omega) hk
/-! ### Text, Pieces, Part, Split -/
theorem rtext_l (s : ByteArray) (hs : s.size ≤ 4611686018427387904) : ∀ (m i k : Nat), i + m = s.size → m + 12 * s.size + 13 ≤ k → amphoraref08_Text.l0 k s (i : Int) = some (decide (0 ∉ s.data.toList.drop i) && Lib.validD s.data.toList)
  | 0, i, k, hi, hk => by
    obtain ⟨k, rfl⟩ : ∃ j, k = j + 1 := ⟨k - 1, by omega⟩
    simp only [amphoraref08_Text.l0]
    rw [if_neg (by omega), utf_f s k hs (by omega), Option.bind_some, List.drop_eq_nil_of_le (by rw [dl]; omega)]
    simp
  | m + 1, i, k, hi, hk => by
    obtain ⟨k, rfl⟩ : ∃ j, k = j + 1 := ⟨k - 1, by omega⟩
    simp only [amphoraref08_Text.l0]
    rw [if_pos (by omega), if_pos (by omega), bt_get s i (by omega), List.drop_eq_getElem_cons (by rw [dl]; omega)]
    by_cases h0 : s.data.toList[i]'(by rw [dl]; omega) = 0
    · rw [if_pos (by rw [h0]; rfl)]
      rw [decide_eq_false (fun h => h (by rw [h0]; exact List.mem_cons_self ..))]; rfl
    · have h0' : ¬ ((s.data.toList[i]'(by rw [dl]; omega)).toNat : Int) = 0 := by
        intro h
        apply h0
        apply UInt8.toNat_inj.1
        have : (s.data.toList[i]'(by rw [dl]; omega)).toNat = 0 := by omega
        rw [this]; rfl
      rw [if_neg h0', w64 (by omega) (by omega), show (i : Int) + 1 = ((i + 1 : Nat) : Int) by omega, rtext_l s hs m (i + 1) k (by omega) (by omega)]
      congr 2
      apply decide_eq_decide.2
      rw [List.mem_cons, not_or]
      exact ⟨fun h => ⟨fun e => h0 e.symm, h⟩, fun h => h.2⟩
theorem rtext_f (s : ByteArray) (m : Int) (k : Nat) (hs : s.size ≤ 4611686018427387904) (hk : 13 * s.size + 20 ≤ k) : amphoraref08_Text.f k s m = some (decide (TextP s m)) := by
  obtain ⟨k, rfl⟩ : ∃ j, k = j + 1 := ⟨k - 1, by omega⟩
  unfold amphoraref08_Text.f
  simp only [amphoraref08_Text.j0]
  by_cases h1 : s.size = 0
  · rw [if_pos (by omega), if_pos trivial, decide_eq_false (fun h => by have := h.1; omega)]
  · rw [if_neg (by omega)]
    by_cases h2 : (s.size : Int) > m
    · rw [decide_eq_true h2, if_pos rfl, decide_eq_false (fun h => by have := h.2.1; omega)]
    · rw [decide_eq_false h2, if_neg (by simp)]
      have := rtext_l s hs s.size 0 k (by omega) (by omega)
      rw [show ((0 : Nat) : Int) = 0 from rfl, List.drop_zero] at this
      rw [this]
      congr 1
      by_cases h3 : Lib.validD s.data.toList = true
      · rw [h3, Bool.and_true]
        apply decide_eq_decide.2
        exact ⟨fun h => ⟨by omega, by omega, h3, h⟩, fun h => h.2.2.2⟩
      · rw [Bool.eq_false_iff.2 h3, Bool.and_false, decide_eq_false (fun h => h3 h.2.2.1)]
theorem pieces_cut (s : ByteArray) (from_ i : Nat) (hf : from_ ≤ i) (hi : i < s.size) (h47 : s.data.toList[i]'(by rw [dl]; omega) = 47) (hn : 47 ∉ (s.extract from_ i).data.toList) :
    pieces (s.extract from_ s.size) = s.extract from_ i :: pieces (s.extract (i + 1) s.size) := by
  have hl : ∀ a, (s.extract a s.size).data.toList = s.data.toList.drop a := fun a => by rw [ext_list, List.take_of_length_le (by rw [dl]; exact Nat.le_refl _)]
  apply map_dl_inj
  rw [pieces_lists, List.map_cons, pieces_lists, hl, hl]
  have e : s.data.toList.drop from_ = (s.extract from_ i).data.toList ++ 47 :: s.data.toList.drop (i + 1) := by
    rw [ext_list, ← h47, ← List.drop_eq_getElem_cons (by rw [dl]; omega)]
    conv => lhs; rw [← List.take_append_drop i s.data.toList]
    rw [List.drop_append_of_le_length (by rw [List.length_take, dl]; omega)]
  rw [e, splitL_cut, splitL_plain hn]; rfl
theorem rpieces_l (s : ByteArray) (hs : s.size ≤ 4611686018427387904) : ∀ (m i f k : Nat) (out : List ByteArray), i + m = s.size → f ≤ i → 47 ∉ (s.extract f i).data.toList → out.length + m < 8796093022208 → m + 2 ≤ k →
    amphoraref08_Pieces.l0 k s out (f : Int) (i : Int) = some (out ++ pieces (s.extract f s.size))
  | 0, i, f, k, out, hi, hf, hn, ho, hk => by
    obtain ⟨k, rfl⟩ : ∃ j, k = j + 2 := ⟨k - 2, by omega⟩
    simp only [amphoraref08_Pieces.l0]
    rw [if_pos (by omega), if_pos (by omega), if_pos (by omega), if_pos (by omega), if_pos (by omega), w64 (by omega) (by omega), if_neg (by omega)]
    have hi2 : i = s.size := by omega
    subst hi2
    rw [Int.toNat_natCast, Int.toNat_natCast, pieces_none (ib_neg.2 hn)]
  | m + 1, i, f, k, out, hi, hf, hn, ho, hk => by
    obtain ⟨k, rfl⟩ : ∃ j, k = j + 1 := ⟨k - 1, by omega⟩
    simp only [amphoraref08_Pieces.l0]
    rw [if_pos (by omega), if_neg (by omega), if_pos (by omega), if_pos (by omega), bt_get s i (by omega), w64 (by omega) (by omega), show (i : Int) + 1 = ((i + 1 : Nat) : Int) by omega]
    by_cases h47 : s.data.toList[i]'(by rw [dl]; omega) = 47
    · rw [if_pos (by rw [h47]; rfl), if_pos (by omega), if_pos (by omega), if_pos (by omega), Int.toNat_natCast, Int.toNat_natCast]
      rw [rpieces_l s hs m (i + 1) (i + 1) k _ (by omega) (Nat.le_refl _) (by rw [ext_list]; simp [List.drop_take]) (by rw [List.length_append]; simp only [List.length_cons, List.length_nil]; omega) (by omega)]
      rw [pieces_cut s f i hf (by omega) h47 hn, List.append_assoc]; rfl
    · have h47' : ¬ ((s.data.toList[i]'(by rw [dl]; omega)).toNat : Int) = 47 := by
        intro h
        apply h47
        apply UInt8.toNat_inj.1
        have : (s.data.toList[i]'(by rw [dl]; omega)).toNat = 47 := by omega
        rw [this]; rfl
      rw [if_neg h47', rpieces_l s hs m (i + 1) f k out (by omega) (by omega) ?_ (by omega) (by omega)]
      rw [ext_list] at hn ⊢
      rw [List.take_add_one, List.getElem?_eq_getElem (by rw [dl]; omega)]
      rw [List.drop_append_of_le_length (by rw [List.length_take, dl]; omega)]
      intro h
      rcases List.mem_append.1 h with h | h
      · exact hn h
      · simp at h; exact h47 h.symm
theorem rpieces_f (s : ByteArray) (k : Nat) (hs : s.size ≤ 1000000000000) (hk : s.size + 2 ≤ k) : amphoraref08_Pieces.f k s = some (pieces s) := by
  unfold amphoraref08_Pieces.f
  have := rpieces_l s (by omega) s.size 0 0 k [] (by omega) (Nat.le_refl _) (by rw [ext_list]; simp) (by simp; omega) hk
  rw [show ((0 : Nat) : Int) = 0 from rfl, ByteArray.extract_zero_size] at this
  exact this
theorem pieces_one {s : ByteArray} : (pieces s).length = 1 ↔ 47 ∉ s.data.toList := by
  rw [← splitL_one, ← pieces_lists, List.length_map]
theorem rpart_f (s : ByteArray) (k : Nat) (hs : s.size ≤ 4611686018427387904) (hk : 13 * s.size + 20 ≤ k) : amphoraref08_Part.f k s = some (decide (PartP s)) := by
  unfold amphoraref08_Part.f
  rw [rtext_f s 120 k (by omega) hk, Option.bind_some, ba_tl]
  by_cases h0 : TextP s 120
  · rw [decide_eq_true h0, if_pos rfl]
    by_cases h1 : s.data.toList = [46]
    · rw [if_pos h1, decide_eq_false (fun h => h.2.1 h1)]
    · rw [if_neg h1]
      by_cases h2 : s.data.toList = [46, 46]
      · rw [if_pos h2, decide_eq_false (fun h => h.2.2.1 h2)]
      · rw [if_neg h2, rpieces_f s k (by have := h0.2.1; omega) (by omega), Option.bind_some]
        congr 1
        by_cases h3 : 47 ∈ s.data.toList
        · rw [decide_eq_false (fun h => h.2.2.2 h3)]
          rw [beq_eq_false_iff_ne]
          intro h
          exact pieces_one.1 (by omega) h3
        · rw [decide_eq_true (show PartP s from ⟨h0, h1, h2, h3⟩)]
          rw [beq_iff_eq, pieces_one.2 h3]; rfl
  · rw [decide_eq_false h0, if_neg (by simp), decide_eq_false (fun h => h0 h.1)]
theorem rd_get (xs : List ByteArray) (i : Nat) (h : i < xs.length) : rdOf ByteArray.empty xs (i : Int) = xs[i] := by unfold rdOf; rw [Int.toNat_natCast, List.getD_eq_getElem?_getD, List.getElem?_eq_getElem h]; rfl
theorem rsplit_l (xs : List ByteArray) (B : Nat) (hB : B ≤ 1000000000000) (hz : ∀ x ∈ xs, x.size ≤ B) (hl : xs.length ≤ 1000000000000) : ∀ (m i k : Nat), i + m = xs.length → m + 13 * B + 21 ≤ k → amphoraref08_Split.l0 k xs (i : Int) = some (if ∀ x ∈ xs.drop i, PartP x then xs else [])
  | 0, i, k, hi, hk => by
    obtain ⟨k, rfl⟩ : ∃ j, k = j + 1 := ⟨k - 1, by omega⟩
    simp only [amphoraref08_Split.l0]
    rw [if_neg (by omega), if_pos (by rw [List.drop_eq_nil_of_le (by omega)]; simp)]
  | m + 1, i, k, hi, hk => by
    obtain ⟨k, rfl⟩ : ∃ j, k = j + 1 := ⟨k - 1, by omega⟩
    simp only [amphoraref08_Split.l0]
    have hlt : i < xs.length := by omega
    have hsz := hz _ (List.getElem_mem hlt)
    rw [if_pos (by omega), if_pos (by omega), rd_get xs i hlt, rpart_f _ k (by omega) (by omega), Option.bind_some, List.drop_eq_getElem_cons hlt]
    by_cases hp : PartP xs[i]
    · rw [decide_eq_true hp, if_pos rfl, w64 (by omega) (by omega), show (i : Int) + 1 = ((i + 1 : Nat) : Int) by omega, rsplit_l xs B hB hz hl m (i + 1) k (by omega) (by omega)]
      congr 1
      by_cases hq : ∀ x ∈ xs.drop (i + 1), PartP x
      · rw [if_pos hq, if_pos (fun x hx => by rcases List.mem_cons.1 hx with rfl | hx; exact hp; exact hq x hx)]
      · rw [if_neg hq, if_neg (fun h => hq (fun x hx => h x (List.mem_cons_of_mem _ hx)))]
    · rw [decide_eq_false hp, if_neg (by simp), if_neg (fun h => hp (h xs[i] (List.mem_cons_self ..)))]
theorem rsplit_f (s : ByteArray) (k : Nat) (hk : 6000 ≤ k) : amphoraref08_Split.f k s = some (splitB s) := by
  unfold amphoraref08_Split.f splitB
  by_cases h0 : s.size ≤ 400
  · rw [if_neg (by omega), rpieces_f s k (by omega) (by omega), Option.bind_some]
    have hl := pieces_len s
    have := rsplit_l (pieces s) 400 (by omega) (fun x hx => by have := pieces_size hx; omega) (by omega) (pieces s).length 0 k (by omega) (by omega)
    rw [show ((0 : Nat) : Int) = 0 from rfl, List.drop_zero] at this
    rw [this]
    congr 1
    by_cases h1 : ∀ x ∈ pieces s, PartP x
    · rw [if_pos h1, if_pos ⟨h0, h1⟩]
    · rw [if_neg h1, if_neg (fun h => h1 h.2)]
  · rw [if_pos (by omega), if_neg (fun h => h0 h.1)]
end PM
end Go.Proofs.YtfkbmjfhakooiaaGreatDoor

/- The references on paths in plain Lean, more. Conditions: as each theorem says. -/
namespace Go.Proofs.YtfkbmjfhakooiaaGreatDoor
open Go.RowKit Go.Proofs.YtfkbmjfhakooiaaGreatDoor.PTree Go.Proofs.YtfkbmjfhakooiaaGreatDoorW.PrintWords Go.Proofs.YtfkbmjfhakooiaaGreatDoorW.PrintLast
set_option linter.unusedSimpArgs false
set_option linter.unusedVariables false
namespace PM
theorem bo_append (a b : ByteArray) : bytesOf (a ++ b) = bytesOf a ++ bytesOf b := by unfold bytesOf; simp
theorem str_bytes (s : ByteArray) : strOfNums (bytesOf s) = s := by
  apply ba_ext
  unfold strOfNums bytesOf
  rw [ba_mk, List.map_map]
  simp [Function.comp_def]
theorem joinB_snoc {p : List ByteArray} (hp : p ≠ []) (x : ByteArray) : joinB (p ++ [x]) = joinB p ++ (⟨#[47]⟩ : ByteArray) ++ x := by
  apply ba_ext
  rw [joinB_list]
  unfold lists
  rw [List.map_append, joinL_append (by simpa using hp) (by simp)]
  simp only [List.map_cons, List.map_nil, joinL_one]
  simp [joinB, lists]
theorem joinB_one (x : ByteArray) : joinB [x] = x := ba_ext (by rw [joinB_list]; exact joinL_one _)
theorem take_snoc {α : Type} {l : List α} {i : Nat} (h : i < l.length) : l.take (i + 1) = l.take i ++ [l[i]] := by
  rw [List.take_add_one, List.getElem?_eq_getElem h]; rfl
theorem joinB_take_le (xs : List ByteArray) (i : Nat) : (joinB (xs.take i)).size ≤ (joinB xs).size := by
  by_cases h : xs.take i = []
  · rw [h]; exact Nat.zero_le _
  · have h2 : xs ≠ [] := by intro e; rw [e] at h; simp at h
    have e1 := joinB_size h
    have e2 := joinB_size h2
    have e3 := tot_append (xs.take i) (xs.drop i)
    rw [List.take_append_drop] at e3
    omega
theorem rjoin_l (xs : List ByteArray) (hz : ∀ x ∈ xs, x.size ≤ 4611686018427387904) (B : Nat) (hB : ∀ x ∈ xs, 13 * x.size + 20 ≤ B) (hl : xs.length ≤ 1000000000000) : ∀ (m i k : Nat), i + m = xs.length → (joinB (xs.take i)).size ≤ 400 → m + 1 + B ≤ k →
    amphoraref08_Join.l0 k xs (bytesOf (joinB (xs.take i))) (i : Int) = some (if (∀ x ∈ xs.drop i, PartP x) ∧ (joinB xs).size ≤ 400 ∧ xs ≠ [] then (joinB xs, 0) else ((⟨#[]⟩ : ByteArray), 12))
  | 0, i, k, hi, hn, hk => by
    obtain ⟨k, rfl⟩ : ∃ j, k = j + 1 := ⟨k - 1, by omega⟩
    simp only [amphoraref08_Join.l0]
    rw [if_neg (by omega), List.drop_eq_nil_of_le (by omega)]
    have ht : xs.take i = xs := List.take_of_length_le (by omega)
    rw [ht] at hn ⊢
    by_cases h : xs = []
    · rw [if_pos (by rw [h]; rfl), if_neg (fun q => q.2.2 h)]
    · rw [if_neg (by have := List.length_pos_iff.2 h; omega), if_pos ⟨by simp, hn, h⟩, str_bytes]
  | m + 1, i, k, hi, hn, hk => by
    obtain ⟨k, rfl⟩ : ∃ j, k = j + 1 := ⟨k - 1, by omega⟩
    have hlt : i < xs.length := by omega
    have hmem := List.getElem_mem hlt
    simp only [amphoraref08_Join.l0]
    rw [if_pos (by omega), if_pos (by omega), rd_get xs i hlt, rpart_f _ k (hz _ hmem) (by have := hB _ hmem; omega), Option.bind_some]
    have hd := List.drop_eq_getElem_cons hlt
    by_cases hp : PartP xs[i]
    · have hps := part_size hp
      have key : ∀ (y : List Int), y = bytesOf (joinB (xs.take (i + 1))) → (if (y.length : Int) > 400 then some ((⟨#[]⟩ : ByteArray), (12 : Int)) else amphoraref08_Join.l0 k xs y (wrap64 ((i : Int) + 1))) = some (if (∀ x ∈ xs.drop i, PartP x) ∧ (joinB xs).size ≤ 400 ∧ xs ≠ [] then (joinB xs, 0) else ((⟨#[]⟩ : ByteArray), 12)) := by
        intro y hy
        subst hy
        rw [bytesOf_length]
        by_cases hb : (((joinB (xs.take (i + 1))).size : Nat) : Int) > 400
        · rw [if_pos hb, if_neg (fun h => by have := joinB_take_le xs (i + 1); have := h.2.1; omega)]
        · rw [if_neg hb, w64 (by omega) (by omega), show (i : Int) + 1 = ((i + 1 : Nat) : Int) by omega, rjoin_l xs hz B hB hl m (i + 1) k (by omega) (by omega) (by omega)]
          have : ((∀ x ∈ xs.drop i, PartP x) ∧ (joinB xs).size ≤ 400 ∧ xs ≠ []) ↔ ((∀ x ∈ xs.drop (i + 1), PartP x) ∧ (joinB xs).size ≤ 400 ∧ xs ≠ []) := by
            constructor
            · rintro ⟨h1, h2⟩; exact ⟨fun x hx => h1 x (by rw [hd]; exact List.mem_cons_of_mem _ hx), h2⟩
            · rintro ⟨h1, h2⟩
              refine ⟨fun x hx => ?_, h2⟩
              rw [hd] at hx
              rcases List.mem_cons.1 hx with rfl | hx
              · exact hp
              · exact h1 x hx
          by_cases hq : ((∀ x ∈ xs.drop i, PartP x) ∧ (joinB xs).size ≤ 400 ∧ xs ≠ [])
          · rw [if_pos hq, if_pos (this.1 hq)]
          · rw [if_neg hq, if_neg (fun h => hq (this.2 h))]
      rw [decide_eq_true hp, if_pos rfl]
      by_cases h0 : (i : Int) > 0
      · have hne : xs.take i ≠ [] := by intro e; have := congrArg List.length e; rw [List.length_take, Nat.min_eq_left (by omega)] at this; simp only [List.length_nil] at this; omega
        rw [if_pos h0, bytesOf_length, if_pos (by omega), Option.bind_some]
        rw [if_pos (by rw [List.length_append, bytesOf_length]; simp only [List.length_cons, List.length_nil]; omega), Option.bind_some]
        refine key _ ?_
        rw [take_snoc hlt, joinB_snoc hne, bo_append, bo_append]; rfl
      · obtain rfl : i = 0 := by omega
        rw [if_neg h0, if_pos (by rw [bytesOf_length]; omega), Option.bind_some]
        refine key _ ?_
        rw [take_snoc hlt, List.take_zero]
        show bytesOf (joinB []) ++ _ = bytesOf (joinB [xs[0]])
        rw [joinB_one]; rfl
    · rw [decide_eq_false hp, if_neg (by simp), if_neg (fun h => hp (h.1 xs[i] (by rw [hd]; exact List.mem_cons_self ..)))]
theorem rjoin_f (xs : List ByteArray) (k B : Nat) (hz : ∀ x ∈ xs, x.size ≤ 4611686018427387904) (hB : ∀ x ∈ xs, 13 * x.size + 20 ≤ B) (hl : xs.length ≤ 1000000000000) (hk : xs.length + 1 + B ≤ k) :
    amphoraref08_Join.f k xs = some (if JoinP xs then (joinB xs, 0) else ((⟨#[]⟩ : ByteArray), 12)) := by
  unfold amphoraref08_Join.f
  have := rjoin_l xs hz B hB hl xs.length 0 k (by omega) (Nat.zero_le _) hk
  rw [show ((0 : Nat) : Int) = 0 from rfl, List.drop_zero, List.take_zero, show bytesOf (joinB []) = [] from rfl] at this
  rw [this]
  congr 1
  by_cases h : JoinP xs
  · rw [if_pos h, if_pos ⟨h.2.1, by have := joinB_size h.1; have := h.2.2; omega, h.1⟩]
  · rw [if_neg h, if_neg (fun q => h ⟨q.2.2, q.1, by have := joinB_size q.2.2; have := q.2.1; omega⟩)]
/-! ### Normal -/
/-! ### Above -/
theorem rabove_l (p q : List ByteArray) (hp : p.length ≤ 4611686018427387904) (hpq : p.length ≤ q.length) : ∀ (m i k : Nat), i + m = p.length → m + 1 ≤ k → amphoraref08_Above.l0 k p q (i : Int) = some (decide (p.drop i <+: q.drop i))
  | 0, i, k, hi, hk => by
    obtain ⟨k, rfl⟩ : ∃ j, k = j + 1 := ⟨k - 1, by omega⟩
    simp only [amphoraref08_Above.l0]
    rw [if_neg (by omega), List.drop_eq_nil_of_le (show p.length ≤ i by omega), decide_eq_true List.nil_prefix]
  | m + 1, i, k, hi, hk => by
    obtain ⟨k, rfl⟩ : ∃ j, k = j + 1 := ⟨k - 1, by omega⟩
    have hlt : i < p.length := by omega
    have hlq : i < q.length := by omega
    simp only [amphoraref08_Above.l0]
    rw [if_pos (by omega), if_pos (by omega), if_pos (by omega), rd_get p i hlt, rd_get q i hlq, ba_tl, ba_tl]
    have e : (p.drop i <+: q.drop i) ↔ (p[i] = q[i] ∧ p.drop (i + 1) <+: q.drop (i + 1)) := by
      rw [List.drop_eq_getElem_cons hlt, List.drop_eq_getElem_cons hlq, List.cons_prefix_cons]
    by_cases h : p[i].data.toList = q[i].data.toList
    · rw [if_pos h, w64 (by omega) (by omega), show (i : Int) + 1 = ((i + 1 : Nat) : Int) by omega, rabove_l p q hp hpq m (i + 1) k (by omega) (by omega)]
      congr 1
      apply decide_eq_decide.2
      rw [e]
      exact ⟨fun q => ⟨ba_ext h, q⟩, fun q => q.2⟩
    · rw [if_neg h, decide_eq_false (fun q => h (by rw [(e.1 q).1]))]
theorem rabove_tail (a b : ByteArray) (k : Nat) (hk : 500 ≤ k) : (if ((splitB a).length : Int) = 0 then amphoraref08_Above.j0 (k + 1) (splitB a) (splitB b) true else amphoraref08_Above.j0 (k + 1) (splitB a) (splitB b) (decide (((splitB b).length : Int) ≤ ((splitB a).length : Int)))) = some (decide (AboveP a b)) := by
  simp only [amphoraref08_Above.j0]
  by_cases ha : GoodP a
  · have hal := splitB_len.2 ha
    have hall : (splitB a).length ≤ 401 := by rw [splitB_good ha]; have := pieces_len a; have := ha.1; omega
    rw [if_neg (by omega)]
    by_cases hb : (splitB b).length ≤ (splitB a).length
    · rw [decide_eq_true (by omega), if_pos rfl, decide_eq_false]
      intro h
      obtain ⟨g1, g2, r, hr, e⟩ := above_iff.1 h
      rw [splitB_good g1, splitB_good g2, e, List.length_append] at hb
      have := List.length_pos_iff.2 hr
      omega
    · rw [decide_eq_false (by omega), if_neg (by simp)]
      have hgb : GoodP b := splitB_len.1 (by omega)
      have := rabove_l (splitB a) (splitB b) (by omega) (by omega) (splitB a).length 0 k (by omega) (by omega)
      rw [show ((0 : Nat) : Int) = 0 from rfl, List.drop_zero, List.drop_zero] at this
      rw [this]
      congr 1
      apply decide_eq_decide.2
      rw [above_iff]
      rw [splitB_good ha, splitB_good hgb] at hb ⊢
      constructor
      · rintro ⟨r, hr⟩
        refine ⟨ha, hgb, r, ?_, hr.symm⟩
        rintro rfl
        rw [List.append_nil] at hr
        rw [hr] at hb; omega
      · rintro ⟨_, _, r, _, e⟩
        exact ⟨r, e.symm⟩
  · rw [splitB_bad ha, if_pos (by rfl), if_pos trivial, decide_eq_false (fun h => ha h.1)]
theorem rabove_f (a b : ByteArray) (k : Nat) (hk : 6000 ≤ k) : amphoraref08_Above.f k a b = some (decide (AboveP a b)) := by
  unfold amphoraref08_Above.f
  rw [rsplit_f a _ hk, rsplit_f b _ hk, Option.bind_some, Option.bind_some]
  obtain ⟨k, rfl⟩ : ∃ j, k = j + 1 := ⟨k - 1, by omega⟩
  exact rabove_tail a b k (by omega)
/-! ### Parent, Base, Depth, Good -/
theorem last_spec (s : ByteArray) : (Lib.lastIndexByte s 47 = -1 ∧ 47 ∉ s.data.toList) ∨ ∃ i : Nat, Lib.lastIndexByte s 47 = i ∧ i < s.size ∧ pieces s = pieces (s.extract 0 i) ++ [s.extract (i + 1) s.size] := by
  have hg : ∀ j (h : j < s.size), s.data[j]! = s.data.toList[j]'(by rw [dl]; exact h) := fun j h => by
    rw [getElem!_pos s.data j h]; simp
  rcases Lib.lastIndexByte_spec s 47 with ⟨e, hn⟩ | ⟨i, hi, e, hc, hn⟩
  · refine .inl ⟨e, fun h => ?_⟩
    obtain ⟨j, hj, e2⟩ := List.getElem_of_mem h
    rw [dl] at hj
    refine hn j hj ?_
    rw [hg j hj, e2]; rfl
  · refine .inr ⟨i, e, hi, ?_⟩
    have h1 : s.data.toList[i]? = some 47 := by
      rw [List.getElem?_eq_getElem (by rw [dl]; exact hi)]
      congr 1
      apply UInt8.toNat_inj.1
      rw [← hg i hi]
      have : (47 : UInt8).toNat = 47 := rfl
      omega
    have h2 : ∀ j, i < j → s.data.toList[j]? ≠ some 47 := by
      intro j hj h
      obtain ⟨hl, e2⟩ := List.getElem?_eq_some_iff.1 h
      rw [dl] at hl
      refine hn j hj hl ?_
      rw [hg j hl, e2]; rfl
    apply map_dl_inj
    rw [pieces_lists, List.map_append, pieces_lists, splitL_last h1 h2, ext_list, List.drop_zero]
    simp only [List.map_cons, List.map_nil]
    rw [ext_list, List.take_of_length_le (show s.data.toList.length ≤ s.size by rw [dl]; exact Nat.le_refl _)]
def parentB (s : ByteArray) : ByteArray × Bool := if GoodP s ∧ 2 ≤ (pieces s).length then (joinB (pieces s).dropLast, true) else ((⟨#[]⟩ : ByteArray), false)
theorem parent_f (s : ByteArray) (k : Nat) (hs : s.size < 4611686018427387904) (hk : 500 ≤ k) : path_Parent.f k s = some (parentB s) := by
  unfold path_Parent.f strings_LastIndexByte.f parentB
  rw [if_pos hs, Option.bind_some, good_f s k hk, Option.bind_some]
  rcases last_spec s with ⟨e, hn⟩ | ⟨i, e, hi, hp⟩
  · rw [e, if_pos (by omega), if_neg (fun h => by have := pieces_one.2 hn; omega)]
  · rw [e, if_neg (by omega)]
    have h2 : 2 ≤ (pieces s).length := by
      rw [hp, List.length_append]
      have := List.length_pos_iff.2 (pieces_ne (s.extract 0 i))
      simp only [List.length_cons, List.length_nil]; omega
    by_cases hg : GoodP s
    · rw [decide_eq_true hg, if_pos rfl, if_pos (by omega), if_pos (by omega), if_pos ⟨hg, h2⟩, Int.toNat_natCast, hp, List.dropLast_concat, joinB_pieces]
    · rw [decide_eq_false hg, if_neg (by simp), if_neg (fun h => hg h.1)]
theorem dl_good {s : ByteArray} (hg : GoodP s) (h2 : 2 ≤ (pieces s).length) : JoinP (pieces s).dropLast := by
  refine ⟨?_, fun x hx => hg.2 x (List.dropLast_subset _ hx), ?_⟩
  · intro e; have := congrArg List.length e; rw [List.length_dropLast] at this; simp at this; omega
  · have e := tot_append (pieces s).dropLast [(pieces s).getLast (pieces_ne s)]
    rw [List.dropLast_concat_getLast, tot_pieces] at e
    have := hg.1
    omega
theorem rparent_f (s : ByteArray) (k : Nat) (hk : 6000 ≤ k) : amphoraref08_Parent.f k s = some (parentB s) := by
  unfold amphoraref08_Parent.f parentB
  rw [rsplit_f s k hk, Option.bind_some]
  by_cases hg : GoodP s
  · rw [splitB_good hg]
    have hl := pieces_len s
    have hs := hg.1
    by_cases h2 : 2 ≤ (pieces s).length
    · rw [if_neg (by omega), w64 (by omega) (by omega), if_pos (by omega), if_pos (by omega), if_pos ⟨hg, h2⟩]
      rw [show (((pieces s).length : Int) - 1).toNat = (pieces s).length - 1 by omega, ← List.dropLast_eq_take]
      have hz : ∀ x ∈ (pieces s).dropLast, x.size ≤ 400 := fun x hx => by have := pieces_size (List.dropLast_subset _ hx); omega
      rw [rjoin_f _ k 5220 (fun x hx => by have := hz x hx; omega) (fun x hx => by have := hz x hx; omega) (by rw [List.length_dropLast]; omega) (by rw [List.length_dropLast]; omega), Option.bind_some, if_pos (dl_good hg h2)]
    · rw [if_pos (by omega), if_neg (fun h => h2 h.2)]
  · rw [splitB_bad hg, if_pos (by simp), if_neg (fun h => hg h.1)]
def baseB (s : ByteArray) : ByteArray := if h : GoodP s then (pieces s).getLast (pieces_ne s) else (⟨#[]⟩ : ByteArray)
theorem base_f (s : ByteArray) (k : Nat) (hk : 500 ≤ k) : path_Base.f k s = some (baseB s) := by
  unfold path_Base.f baseB
  rw [good_f s k hk, Option.bind_some]
  by_cases hg : GoodP s
  · have hs := hg.1
    rw [decide_eq_true hg, if_pos rfl, dif_pos hg]
    unfold strings_LastIndexByte.f
    rw [if_pos (by omega), Option.bind_some]
    rcases last_spec s with ⟨e, hn⟩ | ⟨i, e, hi, hp⟩
    · rw [e, show wrap64 (-1 + 1) = 0 from (w64 (n := -1 + 1) (by omega) (by omega)).trans (by omega), if_pos (by omega), if_pos (by omega)]
      congr 1
      have e1 := pieces_none (ib_neg.2 hn)
      simp only [e1, List.getLast_singleton]
      exact ByteArray.extract_zero_size
    · rw [e, w64 (by omega) (by omega), if_pos (by omega), if_pos (by omega), show ((i : Int) + 1).toNat = i + 1 by omega]
      congr 1
      simp only [hp, List.getLast_concat]
  · rw [decide_eq_false hg, if_neg (by simp), dif_neg hg]
theorem texts_l (p q : List ByteArray) (hl : p.length = q.length) (hp : p.length ≤ 4611686018427387904) : ∀ (m i k : Nat), i + m = p.length → m + 1 ≤ k → amphoranum_Texts.l0 k p q (p.length : Int) (i : Int) = some (decide (p.drop i = q.drop i))
  | 0, i, k, hi, hk => by
    obtain ⟨k, rfl⟩ : ∃ j, k = j + 1 := ⟨k - 1, by omega⟩
    simp only [amphoranum_Texts.l0]
    rw [if_neg (by omega), List.drop_eq_nil_of_le (show p.length ≤ i by omega), List.drop_eq_nil_of_le (show q.length ≤ i by omega)]; rfl
  | m + 1, i, k, hi, hk => by
    obtain ⟨k, rfl⟩ : ∃ j, k = j + 1 := ⟨k - 1, by omega⟩
    have hlt : i < p.length := by omega
    have hlq : i < q.length := by omega
    simp only [amphoranum_Texts.l0]
    rw [if_pos (by omega), if_pos (by omega), if_pos (by omega), if_pos (by omega), rd_get p i hlt, rd_get q i hlq, ba_tl, ba_tl]
    have e : (p.drop i = q.drop i) ↔ (p[i] = q[i] ∧ p.drop (i + 1) = q.drop (i + 1)) := by
      rw [List.drop_eq_getElem_cons hlt, List.drop_eq_getElem_cons hlq, List.cons.injEq]
    by_cases h : p[i].data.toList = q[i].data.toList
    · rw [if_pos h, w64 (by omega) (by omega), show (i : Int) + 1 = ((i + 1 : Nat) : Int) by omega, texts_l p q hl hp m (i + 1) k (by omega) (by omega)]
      congr 1
      apply decide_eq_decide.2
      rw [e]
      exact ⟨fun q => ⟨ba_ext h, q⟩, fun q => q.2⟩
    · rw [if_neg h, decide_eq_false (fun q => h (by rw [(e.1 q).1]))]
end PM
end Go.Proofs.YtfkbmjfhakooiaaGreatDoor
