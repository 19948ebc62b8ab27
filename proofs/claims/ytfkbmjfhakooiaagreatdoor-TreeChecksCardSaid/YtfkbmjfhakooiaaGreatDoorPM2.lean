/- What the printed functions of paths compute: texts, parts, pieces. Conditions: none. -/
import Derived.Test.YtfkbmjfhakooiaaGreatDoorPTreex2
import Derived.Test.YtfkbmjfhakooiaaGreatDoorPM1
import Derived.Lib.ValidLaws
import Derived.Lib.LastIndexByte
namespace Go.Proofs.YtfkbmjfhakooiaaGreatDoor
open Go.RowKit Go.Proofs.YtfkbmjfhakooiaaGreatDoor.PTree Go.Proofs.YtfkbmjfhakooiaaGreatDoorW.PrintWords Go.Proofs.YtfkbmjfhakooiaaGreatDoorW.PrintLast
set_option linter.unusedSimpArgs false
set_option linter.unusedVariables false
namespace PM
theorem w64 {n : Int} (h0 : -9223372036854775808 ≤ n) (h1 : n < 9223372036854775808) : wrap64 n = n := by unfold wrap64; omega
theorem dl (s : ByteArray) : s.data.toList.length = s.size := by rw [Array.length_toList]; rfl
theorem ba_ext {a b : ByteArray} (h : a.data.toList = b.data.toList) : a = b := by apply ByteArray.ext; apply Array.ext'; exact h
theorem ba_mk (l : List UInt8) : (⟨l.toArray⟩ : ByteArray).data.toList = l := rfl
theorem ext_list (r : ByteArray) (a b : Nat) : (r.extract a b).data.toList = (r.data.toList.take b).drop a := by
  simp [List.extract_eq_take_drop, List.drop_take]
theorem bt_get (s : ByteArray) (i : Nat) (h : i < s.size) : bt s (i : Int) = ((s.data.toList[i]'(by rw [dl]; exact h)).toNat : Int) := by
  have q := bt_at s (i : Int) (by omega)
  simp only [Int.toNat_natCast] at q
  rw [← q]
  simp [ByteArray.getElem_eq_getElem_data]
theorem ib_neg {c : UInt8} : ∀ {l : List UInt8}, Lib.indexByte l c < 0 ↔ c ∉ l
  | [] => by simp [Lib.indexByte]
  | b :: t => by
    have ih := ib_neg (c := c) (l := t)
    have hg := Lib.indexByte_ge t c
    unfold Lib.indexByte
    by_cases hb : b = c
    · subst hb; simp
    · have hb2 : (b == c) = false := by simp [hb]
      rw [hb2, if_neg (by simp)]
      rw [List.mem_cons, not_or]
      by_cases h2 : Lib.indexByte t c = -1
      · rw [h2]; simp; exact ⟨fun e => hb e.symm, ih.1 (by omega)⟩
      · rw [if_neg (by simpa using h2)]
        constructor
        · intro q; omega
        · intro q; have := ih.2 q.2; omega
theorem ib_some {c : UInt8} : ∀ {l : List UInt8} {p : Nat}, Lib.indexByte l c = p → l.count c = (l.drop (p + 1)).count c + 1
  | [], p, h => by unfold Lib.indexByte at h; omega
  | b :: t, p, h => by
    have hg := Lib.indexByte_ge t c
    unfold Lib.indexByte at h
    by_cases hb : b = c
    · subst hb
      simp at h
      obtain rfl : p = 0 := by omega
      simp
    · have hb2 : (b == c) = false := by simp [hb]
      rw [hb2, if_neg (by simp)] at h
      by_cases h2 : Lib.indexByte t c = -1
      · rw [h2] at h; simp at h
      · rw [if_neg (by simpa using h2)] at h
        obtain ⟨k, rfl⟩ : ∃ k, p = k + 1 := ⟨p - 1, by omega⟩
        have ih := ib_some (c := c) (l := t) (p := k) (by omega)
        rw [List.count_cons, hb2, List.drop_succ_cons, ih]; simp
/-! ### Text, part -/
def TextP (s : ByteArray) (m : Int) : Prop := 1 ≤ s.size ∧ (s.size : Int) ≤ m ∧ Lib.validD s.data.toList = true ∧ 0 ∉ s.data.toList
instance (s : ByteArray) (m : Int) : Decidable (TextP s m) := inferInstanceAs (Decidable (_ ∧ _ ∧ _ ∧ _))
def PartP (s : ByteArray) : Prop := TextP s 120 ∧ s.data.toList ≠ [46] ∧ s.data.toList ≠ [46, 46] ∧ 47 ∉ s.data.toList
instance (s : ByteArray) : Decidable (PartP s) := inferInstanceAs (Decidable (_ ∧ _ ∧ _ ∧ _))
theorem text_f (s : ByteArray) (m : Int) (hs : s.size ≤ 9223372036854775807) : path_Text.f s m = some (decide (TextP s m)) := by
  unfold path_Text.f
  rw [ba_tl]
  by_cases h0 : s.data.toList = []
  · rw [if_pos h0]
    have : s.size = 0 := by rw [← dl, h0]; rfl
    rw [decide_eq_false (fun h => by have := h.1; omega)]
  · rw [if_neg h0]
    have h1 : 1 ≤ s.size := by rw [← dl]; exact List.length_pos_iff.2 h0
    by_cases h2 : (s.size : Int) ≤ m
    · rw [if_pos h2]
      unfold utf8_ValidString.f
      rw [if_pos hs, Option.bind_some]
      by_cases h3 : Lib.validD s.data.toList = true
      · rw [if_pos h3]
        unfold strings_IndexByte.f
        rw [Option.bind_some]
        show some (decide (Lib.indexByte s.data.toList 0 < 0)) = _
        congr 1
        apply decide_eq_decide.2
        rw [ib_neg]
        exact ⟨fun h => ⟨h1, h2, h3, h⟩, fun h => h.2.2.2⟩
      · rw [if_neg h3, decide_eq_false (fun h => h3 h.2.2.1)]
    · rw [if_neg h2, decide_eq_false (fun h => h2 h.2.1)]
theorem part_f (s : ByteArray) (hs : s.size ≤ 9223372036854775807) : path_part.f s = some (decide (PartP s)) := by
  unfold path_part.f
  rw [text_f s 120 hs, Option.bind_some, ba_tl]
  by_cases h0 : TextP s 120
  · rw [decide_eq_true h0, if_pos rfl]
    by_cases h1 : s.data.toList = [46]
    · rw [if_pos h1, decide_eq_false (fun h => h.2.1 h1)]
    · rw [if_neg h1]
      by_cases h2 : s.data.toList = [46, 46]
      · rw [if_pos h2, decide_eq_false (fun h => h.2.2.1 h2)]
      · rw [if_neg h2]
        unfold strings_Contains.f strings_Index.f
        rw [if_pos (by rfl), Option.bind_some, Option.bind_some]
        show some (!decide (Lib.indexByte s.data.toList 47 ≥ 0)) = _
        congr 1
        rw [← decide_not]
        apply decide_eq_decide.2
        rw [show (¬ Lib.indexByte s.data.toList 47 ≥ 0) ↔ 47 ∉ s.data.toList from by rw [← ib_neg]; omega]
        exact ⟨fun h => ⟨h0, h1, h2, h⟩, fun h => h.2.2.2⟩
  · rw [decide_eq_false h0, if_neg (by simp), decide_eq_false (fun h => h0 h.1)]
/-! ### Split -/
theorem pieces_mem {s x : ByteArray} (h : x ∈ pieces s) : 47 ∉ x.data.toList := by
  unfold pieces at h
  obtain ⟨l, hl, rfl⟩ := List.mem_map.1 h
  exact splitL_mem hl
theorem pieces_lists (s : ByteArray) : (pieces s).map (·.data.toList) = splitL s.data.toList := by
  unfold pieces; rw [List.map_map]; simp [Function.comp_def]
theorem map_dl_inj {a b : List ByteArray} (h : a.map (·.data.toList) = b.map (·.data.toList)) : a = b := by
  induction a generalizing b with
  | nil => cases b with
    | nil => rfl
    | cons y b => simp at h
  | cons x a ih =>
    cases b with
    | nil => simp at h
    | cons y b =>
      simp only [List.map_cons, List.cons.injEq] at h
      rw [ba_ext h.1, ih h.2]
theorem pieces_ne (s : ByteArray) : pieces s ≠ [] := by unfold pieces; simp [splitL_ne]
theorem pieces_inj {a b : ByteArray} (h : pieces a = pieces b) : a = b := ba_ext (splitL_inj (by rw [← pieces_lists, ← pieces_lists, h]))
theorem pieces_size {s x : ByteArray} (h : x ∈ pieces s) : x.size ≤ s.size := by
  have h1 : x.data.toList ∈ splitL s.data.toList := by rw [← pieces_lists]; exact List.mem_map.2 ⟨x, h, rfl⟩
  have h2 := splitL_len' s.data.toList
  have h3 : ∀ (l : List (List UInt8)) (y : List UInt8), y ∈ l → y.length ≤ Lib.lens l := by
    intro l
    induction l with
    | nil => intro y hy; simp at hy
    | cons z l ih =>
      intro y hy
      simp only [Lib.lens, List.map_cons, List.sum_cons] at ih ⊢
      rcases List.mem_cons.1 hy with rfl | hy
      · omega
      · have := ih y hy; omega
  have h4 := h3 _ _ h1
  have h5 : 0 < (splitL s.data.toList).length := List.length_pos_iff.2 (splitL_ne _)
  rw [dl] at h2 h4
  omega
theorem gen_l : ∀ (m : Nat) (x : ByteArray) (i n k : Nat) (l : List ByteArray), x.data.toList.count 47 = m → i + m = n → l.length = n + 1 → n ≤ 1000000 → x.size ≤ 1000000 → m + 1 ≤ k →
    strings_genSplit.l0 k x (⟨#[47]⟩ : ByteArray) 0 (n : Int) l (i : Int) = some (l.take i ++ pieces x)
  | 0, x, i, n, k, l, hc, hi, hl, hn, hx, hk => by
    obtain ⟨k, rfl⟩ : ∃ j, k = j + 1 := ⟨k - 1, by omega⟩
    unfold strings_genSplit.l0
    rw [if_neg (by omega), if_pos (by omega), if_pos (by omega), w64 (by omega) (by omega), if_pos (by omega), if_pos (by omega)]
    rw [show ((i : Int) + 1).toNat = i + 1 by omega, Int.toNat_natCast]
    rw [pieces_none (ib_neg.2 (List.count_eq_zero.1 hc))]
    rw [List.take_set, List.take_add_one, List.getElem?_eq_getElem (by omega)]
    simp only [Option.toList_some]
    rw [List.set_append_right _ _ (by simp; omega)]
    simp [Nat.min_eq_left (show i ≤ l.length by omega)]
  | m + 1, x, i, n, k, l, hc, hi, hl, hn, hx, hk => by
    obtain ⟨k, rfl⟩ : ∃ j, k = j + 1 := ⟨k - 1, by omega⟩
    unfold strings_genSplit.l0
    have h0 : ¬ Lib.indexByte x.data.toList 47 < 0 := by
      rw [ib_neg]
      intro h
      rw [List.count_eq_zero.2 h] at hc
      omega
    obtain ⟨p, hp⟩ : ∃ p : Nat, Lib.indexByte x.data.toList 47 = p := ⟨(Lib.indexByte x.data.toList 47).toNat, by omega⟩
    obtain ⟨e1, e2⟩ := pieces_some hp
    have e3 := ib_some hp
    have hidx : strings_Index.f x (⟨#[47]⟩ : ByteArray) = some (p : Int) := by
      unfold strings_Index.f idx1
      rw [if_pos (by rfl)]
      exact congrArg some hp
    rw [if_pos (by omega), hidx, Option.bind_some, if_neg (by omega)]
    have z : ((⟨#[47]⟩ : ByteArray).size : Int) = 1 := rfl
    rw [z]
    rw [w64 (show -9223372036854775808 ≤ (p : Int) + 0 by omega) (by omega), w64 (show -9223372036854775808 ≤ (p : Int) + 1 by omega) (by omega), w64 (show -9223372036854775808 ≤ (i : Int) + 1 by omega) (by omega)]
    rw [if_pos (by omega), if_pos (by omega), if_pos (by omega), if_pos (by omega), if_pos (by omega), if_pos (by omega)]
    rw [show ((p : Int) + 1).toNat = p + 1 by omega, show ((p : Int) + 0).toNat = p by omega, Int.toNat_natCast, show (i : Int) + 1 = ((i + 1 : Nat) : Int) by omega]
    have hy : (x.extract (p + 1) x.size).data.toList = x.data.toList.drop (p + 1) := by rw [ext_list, List.take_of_length_le (by rw [dl]; omega)]
    have hys : (x.extract (p + 1) x.size).size ≤ 1000000 := by rw [← dl, hy, List.length_drop, dl]; omega
    rw [gen_l m (x.extract (p + 1) x.size) (i + 1) n k (l.set i (x.extract 0 p)) (by rw [hy]; omega) (by omega) (by rw [List.length_set]; exact hl) hn hys (by omega)]
    rw [e1]
    congr 1
    rw [List.take_set, List.take_add_one, List.getElem?_eq_getElem (by omega)]
    simp only [Option.toList_some]
    rw [List.set_append_right _ _ (by simp; omega)]
    simp [Nat.min_eq_left (show i ≤ l.length by omega)]
theorem ssplit_f (s : ByteArray) (k : Nat) (hs : s.size ≤ 400) (hk : 500 ≤ k) : strings_Split.f k s (⟨#[47]⟩ : ByteArray) = some (pieces s) := by
  unfold strings_Split.f strings_genSplit.f
  have hc : s.data.toList.count 47 ≤ 400 := Nat.le_trans List.count_le_length (by rw [dl]; exact hs)
  rw [ba_tl, if_neg (by omega), if_neg (by simp), if_pos (by omega)]
  unfold strings_Count.f
  rw [if_pos (by rfl), Option.bind_some]
  have hcc : Lib.countByte s.data.toList ((⟨#[47]⟩ : ByteArray).data.toList.headD 0) = s.data.toList.count 47 := rfl
  rw [hcc, w64 (by omega) (by omega)]
  obtain ⟨k, rfl⟩ : ∃ j, k = j + 1 := ⟨k - 1, by omega⟩
  simp only [strings_genSplit.j0]
  have hm : mn ((s.data.toList.count 47 : Int) + 1) (wrap64 ((s.size : Int) + 1)) = ((s.data.toList.count 47 + 1 : Nat) : Int) := by
    have : s.data.toList.count 47 ≤ s.size := Nat.le_trans List.count_le_length (by rw [dl]; exact Nat.le_refl _)
    rw [w64 (by omega) (by omega)]
    unfold mn
    split <;> omega
  rw [hm, if_pos (by omega), if_pos (by omega), w64 (by omega) (by omega)]
  rw [show (((s.data.toList.count 47 + 1 : Nat) : Int) - 1) = ((s.data.toList.count 47 : Nat) : Int) by omega, Int.toNat_natCast]
  have hgl := gen_l _ s 0 (s.data.toList.count 47) k (List.replicate (s.data.toList.count 47 + 1) (⟨#[]⟩ : ByteArray)) rfl (by omega) (by rw [List.length_replicate]) (by omega) (by omega) (by omega)
  rw [show ((0 : Nat) : Int) = 0 from rfl] at hgl
  rw [hgl]
  rfl
theorem anyBad_f : ∀ (l : List ByteArray), (∀ x ∈ l, x.size ≤ 9223372036854775807) → anyBad l = some (decide (¬ ∀ x ∈ l, PartP x))
  | [], _ => by simp [anyBad]
  | x :: r, h => by
    unfold anyBad
    rw [part_f x (h x (by simp)), Option.bind_some, anyBad_f r (fun y hy => h y (List.mem_cons_of_mem _ hy)), Option.bind_some]
    congr 1
    by_cases h1 : PartP x <;> simp [h1]
def splitB (s : ByteArray) : List ByteArray := if s.size ≤ 400 ∧ ∀ x ∈ pieces s, PartP x then pieces s else []
theorem split_f (s : ByteArray) (k : Nat) (hk : 500 ≤ k) : path_Split.f k s = some (splitB s) := by
  unfold path_Split.f splitB
  by_cases h0 : s.size ≤ 400
  · rw [if_neg (by omega), ssplit_f s k h0 hk, Option.bind_some]
    have hl := pieces_len s
    rw [if_pos (by omega), anyBad_f _ (fun x hx => by have := pieces_size hx; omega), Option.bind_some]
    by_cases h1 : ∀ x ∈ pieces s, PartP x
    · rw [decide_eq_false (fun h => h h1), if_neg (by simp), if_pos ⟨h0, h1⟩]
    · rw [decide_eq_true h1, if_pos rfl, if_neg (fun h => h1 h.2)]
  · rw [if_pos (by omega), if_neg (fun h => h0 h.1)]
def GoodP (s : ByteArray) : Prop := s.size ≤ 400 ∧ ∀ x ∈ pieces s, PartP x
instance (s : ByteArray) : Decidable (GoodP s) := inferInstanceAs (Decidable (_ ∧ _))
theorem splitB_good {s : ByteArray} (h : GoodP s) : splitB s = pieces s := if_pos h
theorem splitB_bad {s : ByteArray} (h : ¬ GoodP s) : splitB s = [] := if_neg h
theorem splitB_len {s : ByteArray} : 0 < (splitB s).length ↔ GoodP s := by
  by_cases h : GoodP s
  · rw [splitB_good h]; exact ⟨fun _ => h, fun _ => List.length_pos_iff.2 (pieces_ne s)⟩
  · rw [splitB_bad h]; simp [h]
theorem good_f (s : ByteArray) (k : Nat) (hk : 500 ≤ k) : path_Good.f k s = some (decide (GoodP s)) := by
  unfold path_Good.f
  rw [split_f s k hk, Option.bind_some]
  congr 1
  apply decide_eq_decide.2
  rw [← splitB_len]; omega
end PM
end Go.Proofs.YtfkbmjfhakooiaaGreatDoor
