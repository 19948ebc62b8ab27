/- What the printed functions of the document's answer compute: texts, pieces, parts, splits, joins. Conditions: none. -/
import Derived.Test.YtplhgoccnjgkpaaDoorPPathx6
import Derived.Test.YtplhgoccnjgkpaaDoorPM3
namespace Go.Proofs.YtplhgoccnjgkpaaDoor
open Go.RowKit Go.Proofs.YtplhgoccnjgkpaaDoor.PPath Go.Proofs.YtplhgoccnjgkpaaDoorW.PrintWords Go.Proofs.YtplhgoccnjgkpaaDoorW.PrintLast
set_option linter.unusedSimpArgs false
set_option linter.unusedVariables false
namespace PM
/-! ### utf -/
theorem getD_get {l : List UInt8} {i : Nat} (h : i < l.length) : l.getD i 0 = l[i] := by rw [List.getD_eq_getElem?_getD, List.getElem?_eq_getElem h]; rfl
/-- The loop over what follows a lead byte. -/
theorem utf_l1_end (s : ByteArray) (i n k : Nat) (lo hi : Int) (hs : s.size ≤ 4611686018427387904) (hi2 : i ≤ s.size) (hn : n ≤ 4) : amphoraref08_utf.l1 (k + 1) s (i : Int) (n : Int) lo hi (n : Int) = amphoraref08_utf.l0 k s ((i + n : Nat) : Int) := by
  simp only [amphoraref08_utf.l1]
  rw [if_neg (by omega), w64 (by omega) (by omega), Int.natCast_add]
theorem utf_l1_step (s : ByteArray) (i n j k : Nat) (lo hi : Int) (hs : s.size ≤ 4611686018427387904) (hj : j < n) (hn : i + n ≤ s.size) (hn4 : n ≤ 4) :
    amphoraref08_utf.l1 (k + 1) s (i : Int) (n : Int) lo hi (j : Int) = if ((s.data.toList.drop i).getD j 0).toNat < lo then some false else if ((s.data.toList.drop i).getD j 0).toNat > hi then some false else amphoraref08_utf.l1 k s (i : Int) (n : Int) 128 191 ((j + 1 : Nat) : Int) := by
  simp only [amphoraref08_utf.l1]
  rw [if_pos (by omega), w64 (show -9223372036854775808 ≤ (i : Int) + (j : Int) by omega) (by omega), w64 (show -9223372036854775808 ≤ (j : Int) + 1 by omega) (by omega), if_pos (by omega), if_pos (by omega), ← Int.natCast_add, bt_get s (i + j) (by omega)]
  have : (s.data.toList.drop i).getD j 0 = s.data.toList[i + j]'(by rw [dl]; omega) := by
    rw [getD_get (by rw [List.length_drop, dl]; omega), List.getElem_drop]
  rw [this, Int.natCast_add]; rfl
theorem utf_j4 (s : ByteArray) (i n k : Nat) (lo hi : Int) (hs : s.size ≤ 4611686018427387904) (hi2 : i ≤ s.size) (hn : n ≤ 4) :
    amphoraref08_utf.j4 (k + 2) s (i : Int) (n : Int) lo hi = if n = 0 ∨ s.size < i + n then some false else amphoraref08_utf.l1 k s (i : Int) (n : Int) lo hi 1 := by
  simp only [amphoraref08_utf.j4, amphoraref08_utf.j5]
  by_cases h0 : n = 0
  · subst h0; rw [if_pos (by omega), if_pos trivial, if_pos (.inl rfl)]
  · rw [if_neg (by omega), w64 (by omega) (by omega)]
    by_cases h1 : s.size < i + n
    · rw [decide_eq_true (by omega), if_pos rfl, if_pos (.inr h1)]
    · rw [decide_eq_false (by omega), if_neg (by simp), if_neg (by omega)]
/-- How many bytes a lead byte asks, and the bounds of the next. -/
def leadN (b : Nat) : Nat × Nat × Nat :=
  if b < 194 then (0, 128, 191) else if b < 224 then (2, 128, 191) else if b = 224 then (3, 160, 191) else if b = 237 then (3, 128, 159) else if b < 240 then (3, 128, 191) else if b = 240 then (4, 144, 191) else if b < 244 then (4, 128, 191) else if b = 244 then (4, 128, 143) else (0, 128, 191)
theorem leadN_le (b : Nat) : (leadN b).1 ≤ 4 ∧ (leadN b).1 ≠ 1 := by
  unfold leadN
  repeat' split
  all_goals decide
theorem utf_lead (s : ByteArray) (i k : Nat) (hi : i < s.size) (h0 : 128 ≤ ((s.data.toList.drop i).getD 0 0).toNat) :
    ∃ q, k ≤ q ∧ q ≤ k + 5 ∧ amphoraref08_utf.l0 (k + 6) s (i : Int) = amphoraref08_utf.j4 q s (i : Int) ((leadN ((s.data.toList.drop i).getD 0 0).toNat).1 : Int) ((leadN ((s.data.toList.drop i).getD 0 0).toNat).2.1 : Int) ((leadN ((s.data.toList.drop i).getD 0 0).toNat).2.2 : Int) := by
  have hb : bt s (i : Int) = (((s.data.toList.drop i).getD 0 0).toNat : Int) := by
    rw [bt_get s i hi, getD_get (by rw [List.length_drop, dl]; omega), List.getElem_drop]; rfl
  obtain ⟨b, hbb⟩ : ∃ b : Nat, b = ((s.data.toList.drop i).getD 0 0).toNat := ⟨_, rfl⟩
  have hb256 : b < 256 := by rw [hbb]; exact UInt8.toNat_lt _
  rw [← hbb] at hb h0 ⊢
  simp only [amphoraref08_utf.l0]
  rw [if_pos (by omega), if_pos (by omega), hb, if_neg (by omega)]
  unfold leadN
  by_cases c0 : b < 194
  · rw [if_neg (by omega), if_pos c0]
    refine ⟨k + 2, by omega, by omega, ?_⟩
    simp only [amphoraref08_utf.j1, amphoraref08_utf.j2, amphoraref08_utf.j3]
    rw [if_neg (by simp), if_neg (by omega), if_neg (by simp), if_neg (by omega), if_neg (by simp)]; rfl
  rw [if_pos (by omega), if_neg c0]
  by_cases c1 : b < 224
  · rw [if_pos c1]
    refine ⟨k + 4, by omega, by omega, ?_⟩
    simp only [amphoraref08_utf.j1]
    rw [decide_eq_true (by omega), if_pos rfl]; rfl
  rw [if_neg c1]
  simp only [amphoraref08_utf.j1]
  rw [decide_eq_false (by omega), if_neg (by simp), if_pos (by omega)]
  simp only [amphoraref08_utf.j2]
  by_cases c2 : b < 240
  · rw [decide_eq_true (by omega), if_pos rfl]
    refine ⟨k + 3, by omega, by omega, ?_⟩
    by_cases d1 : b = 224
    · rw [if_pos (by omega), if_neg (by omega), if_pos d1]; rfl
    · rw [if_neg (by omega), if_neg d1]
      by_cases d2 : b = 237
      · rw [if_pos (by omega), if_pos d2]; rfl
      · rw [if_neg (by omega), if_neg d2, if_pos c2]; rfl
  rw [decide_eq_false (by omega), if_neg (by simp), if_pos (by omega), if_neg (by omega), if_neg (by omega), if_neg c2]
  simp only [amphoraref08_utf.j3]
  refine ⟨k + 2, by omega, by omega, ?_⟩
  by_cases c3 : b ≤ 244
  · rw [decide_eq_true (by omega), if_pos rfl]
    by_cases d1 : b = 240
    · rw [if_pos (by omega), if_neg (by omega), if_pos d1]; rfl
    · rw [if_neg (by omega), if_neg d1]
      by_cases d2 : b = 244
      · rw [if_pos (by omega), if_neg (by omega), if_pos d2]; rfl
      · rw [if_neg (by omega), if_pos (by omega)]; rfl
  · rw [decide_eq_false (by omega), if_neg (by simp), if_neg (by omega), if_neg (by omega), if_neg (by omega)]; rfl
/-- checkN at what the tables say is leadN's test. -/
theorem checkN_lead (n b b1 b2 b3 : Nat) (hb : 128 ≤ b) (hb2 : b < 256) : Lib.checkN n b1 b2 b3 (Lib.firstT b % 8) (Lib.accLo (Lib.firstT b / 16)) (Lib.accHi (Lib.firstT b / 16)) =
    if (leadN b).1 = 0 ∨ n < (leadN b).1 ∨ b1 < (leadN b).2.1 ∨ (leadN b).2.2 < b1 ∨ (3 ≤ (leadN b).1 ∧ (b2 < 128 ∨ 191 < b2)) ∨ (4 ≤ (leadN b).1 ∧ (b3 < 128 ∨ 191 < b3)) then none else some (leadN b).1 := by
  unfold leadN
  by_cases c0 : b < 194
  · simp [Lib.firstT, Lib.checkN, show ¬ b < 128 by omega, c0]
  by_cases c1 : b < 224
  · simp [Lib.firstT, Lib.checkN, Lib.accLo, Lib.accHi, or_assoc, show ¬ b < 128 by omega, c0, c1]
  by_cases c2 : b = 224
  · subst c2; simp [Lib.firstT, Lib.checkN, Lib.accLo, Lib.accHi, or_assoc]
  by_cases c4 : b = 237
  · subst c4; simp [Lib.firstT, Lib.checkN, Lib.accLo, Lib.accHi, or_assoc]
  by_cases c5 : b < 240
  · by_cases c3 : b < 237
    · simp [Lib.firstT, Lib.checkN, Lib.accLo, Lib.accHi, or_assoc, show ¬ b < 128 by omega, c0, c1, c2, c3, c4, c5]
    · simp [Lib.firstT, Lib.checkN, Lib.accLo, Lib.accHi, or_assoc, show ¬ b < 128 by omega, c0, c1, c2, c3, c4, c5]
  by_cases c6 : b = 240
  · subst c6; simp [Lib.firstT, Lib.checkN, Lib.accLo, Lib.accHi, or_assoc]
  by_cases c7 : b < 244
  · simp [Lib.firstT, Lib.checkN, Lib.accLo, Lib.accHi, or_assoc, show ¬ b < 128 by omega, show ¬ b < 237 by omega, c0, c1, c2, c4, c5, c6, c7]
  by_cases c8 : b = 244
  · subst c8; simp [Lib.firstT, Lib.checkN, Lib.accLo, Lib.accHi, or_assoc]
  · simp [Lib.firstT, Lib.checkN, Lib.accLo, Lib.accHi, or_assoc, show ¬ b < 128 by omega, show ¬ b < 237 by omega, c0, c1, c2, c4, c5, c6, c7, c8]
theorem utf_l (s : ByteArray) (hs : s.size ≤ 4611686018427387904) : ∀ (m i k : Nat), i + m = s.size → 12 * m + 12 ≤ k → amphoraref08_utf.l0 k s (i : Int) = some (Lib.validD (s.data.toList.drop i)) := by
  intro m
  induction m using Nat.strongRecOn with
  | _ m ih =>
  intro i k hi hk
  obtain ⟨k, rfl⟩ : ∃ j, k = j + 12 := ⟨k - 12, by omega⟩
  by_cases hm : m = 0
  · subst hm
    simp only [amphoraref08_utf.l0]
    rw [if_neg (by omega), List.drop_eq_nil_of_le (by rw [dl]; omega)]; rfl
  have hlt : i < s.size := by omega
  have hne : s.data.toList.drop i ≠ [] := by intro h; have := congrArg List.length h; rw [List.length_drop, dl] at this; simp at this; omega
  have hget : (s.data.toList.drop i).getD 0 0 = s.data.toList[i]'(by rw [dl]; omega) := by rw [getD_get (by rw [List.length_drop, dl]; omega), List.getElem_drop]; rfl
  by_cases hb : ((s.data.toList.drop i).getD 0 0).toNat < 128
  · simp only [amphoraref08_utf.l0]
    rw [if_pos (by omega), if_pos (by omega), bt_get s i hlt, ← hget, if_pos (by omega)]
    have e1 := utf_j4 s i 1 (k + 9) 128 191 hs (by omega) (by omega)
    rw [show ((1 : Nat) : Int) = 1 from rfl] at e1
    rw [e1, if_neg (by omega)]
    have e2 := utf_l1_end s i 1 (k + 8) 128 191 hs (by omega) (by omega)
    rw [show ((1 : Nat) : Int) = 1 from rfl] at e2
    rw [e2, ih (m - 1) (by omega) (i + 1) (k + 8) (by omega) (by omega)]
    rw [List.drop_eq_getElem_cons (i := i) (by rw [dl]; omega), Lib.validD_cons _ _ (by rw [← hget]; exact hb)]
  · obtain ⟨q, q1, q2, e⟩ := utf_lead s i (k + 6) hlt (by omega)
    rw [e, Lib.validD_lead _ hne (by omega), checkN_lead _ _ _ _ _ (by omega) (UInt8.toNat_lt _)]
    obtain ⟨n, lo, hi2, hn⟩ : ∃ n lo hi, leadN ((s.data.toList.drop i).getD 0 0).toNat = (n, lo, hi) := ⟨_, _, _, rfl⟩
    have h4 := leadN_le ((s.data.toList.drop i).getD 0 0).toNat
    rw [hn] at h4 ⊢
    dsimp only at h4 ⊢
    obtain ⟨q, rfl⟩ : ∃ j, q = j + 6 := ⟨q - 6, by omega⟩
    rw [utf_j4 s i n (q + 4) _ _ hs (by omega) h4.1]
    rw [List.length_drop, dl]
    by_cases hz : n = 0 ∨ s.size < i + n
    · rw [if_pos hz, if_pos (by omega)]
    · rw [if_neg hz]
      have hn2 : 2 ≤ n := by omega
      have hrec : ∀ k', 12 * m ≤ k' → amphoraref08_utf.l0 k' s ((i + n : Nat) : Int) = some (Lib.validD ((s.data.toList.drop i).drop n)) := by
        intro k' hk'
        rw [List.drop_drop]
        exact ih (m - n) (by omega) (i + n) k' (by omega) (by omega)
      have s1 := utf_l1_step s i n 1 (q + 3) lo hi2 hs (by omega) (by omega) h4.1
      rw [show ((1 : Nat) : Int) = 1 from rfl] at s1
      rw [s1]
      by_cases c1 : ((s.data.toList.drop i).getD 1 0).toNat < lo
      · rw [if_pos (by omega), if_pos (by omega)]
      rw [if_neg (by omega)]
      by_cases c2 : hi2 < ((s.data.toList.drop i).getD 1 0).toNat
      · rw [if_pos (by omega), if_pos (by omega)]
      rw [if_neg (by omega)]
      by_cases d2 : n = 2
      · subst d2
        rw [utf_l1_end s i 2 (q + 2) 128 191 hs (by omega) (by omega), hrec _ (by omega), if_neg (by omega)]
      rw [utf_l1_step s i n (1 + 1) (q + 2) 128 191 hs (by omega) (by omega) h4.1, show (1 + 1 : Nat) = 2 from rfl]
      by_cases c3 : ((s.data.toList.drop i).getD 2 0).toNat < 128
      · rw [if_pos (by omega), if_pos (by omega)]
      rw [if_neg (by omega)]
      by_cases c4 : 191 < ((s.data.toList.drop i).getD 2 0).toNat
      · rw [if_pos (by omega), if_pos (by omega)]
      rw [if_neg (by omega)]
      by_cases d3 : n = 3
      · subst d3
        rw [utf_l1_end s i 3 (q + 1) 128 191 hs (by omega) (by omega), hrec _ (by omega), if_neg (by omega)]
      have d4 : n = 4 := by omega
      subst d4
      rw [utf_l1_step s i 4 (2 + 1) (q + 1) 128 191 hs (by omega) (by omega) h4.1, show (2 + 1 : Nat) = 3 from rfl]
      by_cases c5 : ((s.data.toList.drop i).getD 3 0).toNat < 128
      · rw [if_pos (by omega), if_pos (by omega)]
      rw [if_neg (by omega)]
      by_cases c6 : 191 < ((s.data.toList.drop i).getD 3 0).toNat
      · rw [if_pos (by omega), if_pos (by omega)]
      rw [if_neg (by omega), utf_l1_end s i 4 q 128 191 hs (by omega) (by omega), hrec _ (by omega), if_neg (by omega)]
theorem utf_f (s : ByteArray) (k : Nat) (hs : s.size ≤ 4611686018427387904) (hk : 12 * s.size + 12 ≤ k) : amphoraref08_utf.f k s = some (Lib.validD s.data.toList) := utf_l s hs s.size 0 k (by omega) hk
/-! ### Text, Pieces, Part, Split -/
theorem rtext_l (s : ByteArray) (hs : s.size ≤ 4611686018427387904) : ∀ (m i k : Nat), i + m = s.size → m + 12 * s.size + 13 ≤ k → amphoraref08_Text.l0 k s (i : Int) = some (decide (0 ∉ s.data.toList.drop i) && Lib.validD s.data.toList)
  | 0, i, k, hi, hk => by
    obtain ⟨k, rfl⟩ : ∃ j, k = j + 1 := ⟨k - 1, by omega⟩
    simp only [amphoraref08_Text.l0]
    rw [if_neg (by omega), utf_f s k hs (by omega), Option.bind_some, List.drop_eq_nil_of_le (by rw [dl]; omega)]
    simp
  | m + 1, i, k, hi, hk => by
    obtain ⟨k, rfl⟩ : ∃ j, k = j + 1 := ⟨k - 1, by omega⟩
    simp only [amphoraref08_Text.l0]
    rw [if_pos (by omega), if_pos (by omega), bt_get s i (by omega), List.drop_eq_getElem_cons (by rw [dl]; omega)]
    by_cases h0 : s.data.toList[i]'(by rw [dl]; omega) = 0
    · rw [if_pos (by rw [h0]; rfl)]
      rw [decide_eq_false (fun h => h (by rw [h0]; exact List.mem_cons_self ..))]; rfl
    · have h0' : ¬ ((s.data.toList[i]'(by rw [dl]; omega)).toNat : Int) = 0 := by
        intro h
        apply h0
        apply UInt8.toNat_inj.1
        have : (s.data.toList[i]'(by rw [dl]; omega)).toNat = 0 := by omega
        rw [this]; rfl
      rw [if_neg h0', w64 (by omega) (by omega), show (i : Int) + 1 = ((i + 1 : Nat) : Int) by omega, rtext_l s hs m (i + 1) k (by omega) (by omega)]
      congr 2
      apply decide_eq_decide.2
      rw [List.mem_cons, not_or]
      exact ⟨fun h => ⟨fun e => h0 e.symm, h⟩, fun h => h.2⟩
theorem rtext_f (s : ByteArray) (m : Int) (k : Nat) (hs : s.size ≤ 4611686018427387904) (hk : 13 * s.size + 20 ≤ k) : amphoraref08_Text.f k s m = some (decide (TextP s m)) := by
  obtain ⟨k, rfl⟩ : ∃ j, k = j + 1 := ⟨k - 1, by omega⟩
  unfold amphoraref08_Text.f
  simp only [amphoraref08_Text.j0]
  by_cases h1 : s.size = 0
  · rw [if_pos (by omega), if_pos trivial, decide_eq_false (fun h => by have := h.1; omega)]
  · rw [if_neg (by omega)]
    by_cases h2 : (s.size : Int) > m
    · rw [decide_eq_true h2, if_pos rfl, decide_eq_false (fun h => by have := h.2.1; omega)]
    · rw [decide_eq_false h2, if_neg (by simp)]
      have := rtext_l s hs s.size 0 k (by omega) (by omega)
      rw [show ((0 : Nat) : Int) = 0 from rfl, List.drop_zero] at this
      rw [this]
      congr 1
      by_cases h3 : Lib.validD s.data.toList = true
      · rw [h3, Bool.and_true]
        apply decide_eq_decide.2
        exact ⟨fun h => ⟨by omega, by omega, h3, h⟩, fun h => h.2.2.2⟩
      · rw [Bool.eq_false_iff.2 h3, Bool.and_false, decide_eq_false (fun h => h3 h.2.2.1)]
theorem ext_size (s : ByteArray) (a b : Nat) : (s.extract a b).size = min b s.size - a := by rw [ByteArray.size_extract]
theorem pieces_cut (s : ByteArray) (from_ i : Nat) (hf : from_ ≤ i) (hi : i < s.size) (h47 : s.data.toList[i]'(by rw [dl]; omega) = 47) (hn : 47 ∉ (s.extract from_ i).data.toList) :
    pieces (s.extract from_ s.size) = s.extract from_ i :: pieces (s.extract (i + 1) s.size) := by
  have hl : ∀ a, (s.extract a s.size).data.toList = s.data.toList.drop a := fun a => by rw [ext_list, List.take_of_length_le (by rw [dl]; exact Nat.le_refl _)]
  apply map_dl_inj
  rw [pieces_lists, List.map_cons, pieces_lists, hl, hl]
  have e : s.data.toList.drop from_ = (s.extract from_ i).data.toList ++ 47 :: s.data.toList.drop (i + 1) := by
    rw [ext_list, ← h47, ← List.drop_eq_getElem_cons (by rw [dl]; omega)]
    conv => lhs; rw [← List.take_append_drop i s.data.toList]
    rw [List.drop_append_of_le_length (by rw [List.length_take, dl]; omega)]
  rw [e, splitL_cut, splitL_plain hn]; rfl
theorem rpieces_l (s : ByteArray) (hs : s.size ≤ 4611686018427387904) : ∀ (m i f k : Nat) (out : List ByteArray), i + m = s.size → f ≤ i → 47 ∉ (s.extract f i).data.toList → out.length + m < 8796093022208 → m + 2 ≤ k →
    amphoraref08_Pieces.l0 k s out (f : Int) (i : Int) = some (out ++ pieces (s.extract f s.size))
  | 0, i, f, k, out, hi, hf, hn, ho, hk => by
    obtain ⟨k, rfl⟩ : ∃ j, k = j + 2 := ⟨k - 2, by omega⟩
    simp only [amphoraref08_Pieces.l0]
    rw [if_pos (by omega), if_pos (by omega), if_pos (by omega), if_pos (by omega), if_pos (by omega), w64 (by omega) (by omega), if_neg (by omega)]
    have hi2 : i = s.size := by omega
    subst hi2
    rw [Int.toNat_natCast, Int.toNat_natCast, pieces_none (ib_neg.2 hn)]
  | m + 1, i, f, k, out, hi, hf, hn, ho, hk => by
    obtain ⟨k, rfl⟩ : ∃ j, k = j + 1 := ⟨k - 1, by omega⟩
    simp only [amphoraref08_Pieces.l0]
    rw [if_pos (by omega), if_neg (by omega), if_pos (by omega), if_pos (by omega), bt_get s i (by omega), w64 (by omega) (by omega), show (i : Int) + 1 = ((i + 1 : Nat) : Int) by omega]
    by_cases h47 : s.data.toList[i]'(by rw [dl]; omega) = 47
    · rw [if_pos (by rw [h47]; rfl), if_pos (by omega), if_pos (by omega), if_pos (by omega), Int.toNat_natCast, Int.toNat_natCast]
      rw [rpieces_l s hs m (i + 1) (i + 1) k _ (by omega) (Nat.le_refl _) (by rw [ext_list]; simp [List.drop_take]) (by rw [List.length_append]; simp only [List.length_cons, List.length_nil]; omega) (by omega)]
      rw [pieces_cut s f i hf (by omega) h47 hn, List.append_assoc]; rfl
    · have h47' : ¬ ((s.data.toList[i]'(by rw [dl]; omega)).toNat : Int) = 47 := by
        intro h
        apply h47
        apply UInt8.toNat_inj.1
        have : (s.data.toList[i]'(by rw [dl]; omega)).toNat = 47 := by omega
        rw [this]; rfl
      rw [if_neg h47', rpieces_l s hs m (i + 1) f k out (by omega) (by omega) ?_ (by omega) (by omega)]
      rw [ext_list] at hn ⊢
      rw [List.take_add_one, List.getElem?_eq_getElem (by rw [dl]; omega)]
      rw [List.drop_append_of_le_length (by rw [List.length_take, dl]; omega)]
      intro h
      rcases List.mem_append.1 h with h | h
      · exact hn h
      · simp at h; exact h47 h.symm
theorem rpieces_f (s : ByteArray) (k : Nat) (hs : s.size ≤ 1000000000000) (hk : s.size + 2 ≤ k) : amphoraref08_Pieces.f k s = some (pieces s) := by
  unfold amphoraref08_Pieces.f
  have := rpieces_l s (by omega) s.size 0 0 k [] (by omega) (Nat.le_refl _) (by rw [ext_list]; simp) (by simp; omega) hk
  rw [show ((0 : Nat) : Int) = 0 from rfl, ByteArray.extract_zero_size] at this
  exact this
theorem pieces_one {s : ByteArray} : (pieces s).length = 1 ↔ 47 ∉ s.data.toList := by
  rw [← splitL_one, ← pieces_lists, List.length_map]
theorem rpart_f (s : ByteArray) (k : Nat) (hs : s.size ≤ 4611686018427387904) (hk : 13 * s.size + 20 ≤ k) : amphoraref08_Part.f k s = some (decide (PartP s)) := by
  unfold amphoraref08_Part.f
  rw [rtext_f s 120 k (by omega) hk, Option.bind_some, ba_tl]
  by_cases h0 : TextP s 120
  · rw [decide_eq_true h0, if_pos rfl]
    by_cases h1 : s.data.toList = [46]
    · rw [if_pos h1, decide_eq_false (fun h => h.2.1 h1)]
    · rw [if_neg h1]
      by_cases h2 : s.data.toList = [46, 46]
      · rw [if_pos h2, decide_eq_false (fun h => h.2.2.1 h2)]
      · rw [if_neg h2, rpieces_f s k (by have := h0.2.1; omega) (by omega), Option.bind_some]
        congr 1
        by_cases h3 : 47 ∈ s.data.toList
        · rw [decide_eq_false (fun h => h.2.2.2 h3)]
          rw [beq_eq_false_iff_ne]
          intro h
          exact pieces_one.1 (by omega) h3
        · rw [decide_eq_true (show PartP s from ⟨h0, h1, h2, h3⟩)]
          rw [beq_iff_eq, pieces_one.2 h3]; rfl
  · rw [decide_eq_false h0, if_neg (by simp), decide_eq_false (fun h => h0 h.1)]
theorem rd_get (xs : List ByteArray) (i : Nat) (h : i < xs.length) : rdOf ByteArray.empty xs (i : Int) = xs[i] := by unfold rdOf; rw [Int.toNat_natCast, List.getD_eq_getElem?_getD, List.getElem?_eq_getElem h]; rfl
theorem rsplit_l (xs : List ByteArray) (B : Nat) (hB : B ≤ 1000000000000) (hz : ∀ x ∈ xs, x.size ≤ B) (hl : xs.length ≤ 1000000000000) : ∀ (m i k : Nat), i + m = xs.length → m + 13 * B + 21 ≤ k → amphoraref08_Split.l0 k xs (i : Int) = some (if ∀ x ∈ xs.drop i, PartP x then xs else [])
  | 0, i, k, hi, hk => by
    obtain ⟨k, rfl⟩ : ∃ j, k = j + 1 := ⟨k - 1, by omega⟩
    simp only [amphoraref08_Split.l0]
    rw [if_neg (by omega), if_pos (by rw [List.drop_eq_nil_of_le (by omega)]; simp)]
  | m + 1, i, k, hi, hk => by
    obtain ⟨k, rfl⟩ : ∃ j, k = j + 1 := ⟨k - 1, by omega⟩
    simp only [amphoraref08_Split.l0]
    have hlt : i < xs.length := by omega
    have hsz := hz _ (List.getElem_mem hlt)
    rw [if_pos (by omega), if_pos (by omega), rd_get xs i hlt, rpart_f _ k (by omega) (by omega), Option.bind_some, List.drop_eq_getElem_cons hlt]
    by_cases hp : PartP xs[i]
    · rw [decide_eq_true hp, if_pos rfl, w64 (by omega) (by omega), show (i : Int) + 1 = ((i + 1 : Nat) : Int) by omega, rsplit_l xs B hB hz hl m (i + 1) k (by omega) (by omega)]
      congr 1
      by_cases hq : ∀ x ∈ xs.drop (i + 1), PartP x
      · rw [if_pos hq, if_pos (fun x hx => by rcases List.mem_cons.1 hx with rfl | hx; exact hp; exact hq x hx)]
      · rw [if_neg hq, if_neg (fun h => hq (fun x hx => h x (List.mem_cons_of_mem _ hx)))]
    · rw [decide_eq_false hp, if_neg (by simp), if_neg (fun h => hp (h xs[i] (List.mem_cons_self ..)))]
theorem rsplit_f (s : ByteArray) (k : Nat) (hk : 6000 ≤ k) : amphoraref08_Split.f k s = some (splitB s) := by
  unfold amphoraref08_Split.f splitB
  by_cases h0 : s.size ≤ 400
  · rw [if_neg (by omega), rpieces_f s k (by omega) (by omega), Option.bind_some]
    have hl := pieces_len s
    have := rsplit_l (pieces s) 400 (by omega) (fun x hx => by have := pieces_size hx; omega) (by omega) (pieces s).length 0 k (by omega) (by omega)
    rw [show ((0 : Nat) : Int) = 0 from rfl, List.drop_zero] at this
    rw [this]
    congr 1
    by_cases h1 : ∀ x ∈ pieces s, PartP x
    · rw [if_pos h1, if_pos ⟨h0, h1⟩]
    · rw [if_neg h1, if_neg (fun h => h1 h.2)]
  · rw [if_pos (by omega), if_neg (fun h => h0 h.1)]
end PM
end Go.Proofs.YtplhgoccnjgkpaaDoor
