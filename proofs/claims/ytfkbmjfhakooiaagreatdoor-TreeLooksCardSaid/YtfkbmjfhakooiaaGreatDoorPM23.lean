/- Paths in plain Lean. Conditions: as each theorem says. -/
import Derived.Test.YtfkbmjfhakooiaaGreatDoorPTreex2
import Derived.Test.YtfkbmjfhakooiaaGreatDoorPM1
import Derived.Lib.ValidLaws
import Derived.Lib.LastIndexByte
import Derived.Test.YtfkbmjfhakooiaaGreatDoorPTreex3
import Derived.Test.YtfkbmjfhakooiaaGreatDoorPTreex7
/- What the printed functions of paths compute: texts, parts, pieces. Conditions: none. -/
namespace Go.Proofs.YtfkbmjfhakooiaaGreatDoor
open Go.RowKit Go.Proofs.YtfkbmjfhakooiaaGreatDoor.PTree Go.Proofs.YtfkbmjfhakooiaaGreatDoorW.PrintWords Go.Proofs.YtfkbmjfhakooiaaGreatDoorW.PrintLast
set_option linter.unusedSimpArgs false
set_option linter.unusedVariables false
namespace PM
theorem w64 {n : Int} (h0 : -9223372036854775808 ≤ n) (h1 : n < 9223372036854775808) : wrap64 n = n := by unfold wrap64; omega
theorem dl (s : ByteArray) : s.data.toList.length = s.size := by rw [Array.length_toList]; rfl
theorem ba_ext {a b : ByteArray} (h : a.data.toList = b.data.toList) : a = b := by apply ByteArray.ext; apply Array.ext'; exact h
theorem ba_mk (l : List UInt8) : (⟨l.toArray⟩ : ByteArray).data.toList = l := rfl
theorem ext_list (r : ByteArray) (a b : Nat) : (r.extract a b).data.toList = (r.data.toList.take b).drop a := by
  simp [List.extract_eq_take_drop, List.drop_take]
theorem bt_get (s : ByteArray) (i : Nat) (h : i < s.size) : bt s (i : Int) = ((s.data.toList[i]'(by rw [dl]; exact h)).toNat : Int) := by
  have q := bt_at s (i : Int) (by omega)
  simp only [Int.toNat_natCast] at q
  rw [← q]
  simp [ByteArray.getElem_eq_getElem_data]
theorem ib_neg {c : UInt8} : ∀ {l : List UInt8}, Lib.indexByte l c < 0 ↔ c ∉ l
  | [] => by simp [Lib.indexByte]
  | b :: t => by
    have ih := ib_neg (c := c) (l := t)
    have hg := Lib.indexByte_ge t c
    unfold Lib.indexByte
    by_cases hb : b = c
    · subst hb; simp
    · have hb2 : (b == c) = false := by simp [hb]
      rw [hb2, if_neg (by simp)]
      rw [List.mem_cons, not_or]
      by_cases h2 : Lib.indexByte t c = -1
      · rw [h2]; simp; exact ⟨fun e => hb e.symm, ih.1 (by omega)⟩
      · rw [if_neg (by simpa using h2)]
        constructor
        · intro q; omega
        · intro q; have := ih.2 q.2; omega
theorem ib_some {c : UInt8} : ∀ {l : List UInt8} {p : Nat}, Lib.indexByte l c = p → l.count c = (l.drop (p + 1)).count c + 1
  | [], p, h => by unfold Lib.indexByte at h; omega
  | b :: t, p, h => by
    have hg := Lib.indexByte_ge t c
    unfold Lib.indexByte at h
    by_cases hb : b = c
    · subst hb
      simp at h
      obtain rfl : p = 0 := by omega
      simp
    · have hb2 : (b == c) = false := by simp [hb]
      rw [hb2, if_neg (by simp)] at h
      by_cases h2 : Lib.indexByte t c = -1
      · rw [h2] at h; simp at h
      · rw [if_neg (by simpa using h2)] at h
        obtain ⟨k, rfl⟩ : ∃ k, p = k + 1 := ⟨p - 1, by omega⟩
        have ih := ib_some (c := c) (l := t) (p := k) (by omega)
        rw [List.count_cons, hb2, List.drop_succ_cons, ih]; simp
/-! ### Text, part -/
def TextP (s : ByteArray) (m : Int) : Prop := 1 ≤ s.size ∧ (s.size : Int) ≤ m ∧ Lib.validD s.data.toList = true ∧ 0 ∉ s.data.toList
instance (s : ByteArray) (m : Int) : Decidable (TextP s m) := inferInstanceAs (Decidable (_ ∧ _ ∧ _ ∧ _))
def PartP (s : ByteArray) : Prop := TextP s 120 ∧ s.data.toList ≠ [46] ∧ s.data.toList ≠ [46, 46] ∧ 47 ∉ s.data.toList
instance (s : ByteArray) : Decidable (PartP s) := inferInstanceAs (Decidable (_ ∧ _ ∧ _ ∧ _))
theorem text_f (s : ByteArray) (m : Int) (hs : s.size ≤ 9223372036854775807) : path_Text.f s m = some (decide (TextP s m)) := by
  unfold path_Text.f
  rw [ba_tl]
  by_cases h0 : s.data.toList = []
  · rw [if_pos h0]
    have : s.size = 0 := by rw [← dl, h0]; rfl
    rw [decide_eq_false (fun h => by have := h.1; omega)]
  · rw [if_neg h0]
    have h1 : 1 ≤ s.size := by rw [← dl]; exact List.length_pos_iff.2 h0
    by_cases h2 : (s.size : Int) ≤ m
    · rw [if_pos h2]
      unfold utf8_ValidString.f
      rw [if_pos hs, Option.bind_some]
      by_cases h3 : Lib.validD s.data.toList = true
      · rw [if_pos h3]
        unfold strings_IndexByte.f
        rw [Option.bind_some]
        show some (decide (Lib.indexByte s.data.toList 0 < 0)) = _
        congr 1
        apply decide_eq_decide.2
        rw [ib_neg]
        exact ⟨fun h => ⟨h1, h2, h3, h⟩, fun h => h.2.2.2⟩
      · rw [if_neg h3, decide_eq_false (fun h => h3 h.2.2.1)]
    · rw [if_neg h2, decide_eq_false (fun h => h2 h.2.1)]
theorem part_f (s : ByteArray) (hs : s.size ≤ 9223372036854775807) : path_part.f s = some (decide (PartP s)) := by
  unfold path_part.f
  rw [text_f s 120 hs, Option.bind_some, ba_tl]
  by_cases h0 : TextP s 120
  · rw [decide_eq_true h0, if_pos rfl]
    by_cases h1 : s.data.toList = [46]
    · rw [if_pos h1, decide_eq_false (fun h => h.2.1 h1)]
    · rw [if_neg h1]
      by_cases h2 : s.data.toList = [46, 46]
      · rw [if_pos h2, decide_eq_false (fun h => h.2.2.1 h2)]
      · rw [if_neg h2]
        unfold strings_Contains.f strings_Index.f
        rw [if_pos (by rfl), Option.bind_some, Option.bind_some]
        show some (!decide (Lib.indexByte s.data.toList 47 ≥ 0)) = _
        congr 1
        rw [← decide_not]
        apply decide_eq_decide.2
        rw [show (¬ Lib.indexByte s.data.toList 47 ≥ 0) ↔ 47 ∉ s.data.toList from by rw [← ib_neg]; omega]
        exact ⟨fun h => ⟨h0, h1, h2, h⟩, fun h => h.2.2.2⟩
  · rw [decide_eq_false h0, if_neg (by simp), decide_eq_false (fun h => h0 h.1)]
/-! ### Split -/
theorem pieces_lists (s : ByteArray) : (pieces s).map (·.data.toList) = splitL s.data.toList := by
  unfold pieces; rw [List.map_map]; simp [Function.comp_def]
theorem map_dl_inj {a b : List ByteArray} (h : a.map (·.data.toList) = b.map (·.data.toList)) : a = b := by
  induction a generalizing b with
  | nil => cases b with
    | nil => rfl
    | cons y b => simp at h
  | cons x a ih =>
    cases b with
    | nil => simp at h
    | cons y b =>
      simp only [List.map_cons, List.cons.injEq] at h
      rw [ba_ext h.1, ih h.2]
theorem pieces_ne (s : ByteArray) : pieces s ≠ [] := by unfold pieces; simp [splitL_ne]
theorem pieces_inj {a b : ByteArray} (h : pieces a = pieces b) : a = b := ba_ext (splitL_inj (by rw [← pieces_lists, ← pieces_lists, h]))
theorem pieces_size {s x : ByteArray} (h : x ∈ pieces s) : x.size ≤ s.size := by
  have h1 : x.data.toList ∈ splitL s.data.toList := by rw [← pieces_lists]; exact List.mem_map.2 ⟨x, h, rfl⟩
  have h2 := splitL_len' s.data.toList
  have h3 : ∀ (l : List (List UInt8)) (y : List UInt8), y ∈ l → y.length ≤ Lib.lens l := by
    intro l
    induction l with
    | nil => intro y hy; simp at hy
    | cons z l ih =>
      intro y hy
      simp only [Lib.lens, List.map_cons, List.sum_cons] at ih ⊢
      rcases List.mem_cons.1 hy with rfl | hy
      · omega
      · have := ih y hy; omega
  have h4 := h3 _ _ h1
  have h5 : 0 < (splitL s.data.toList).length := List.length_pos_iff.2 (splitL_ne _)
  rw [dl] at h2 h4
  omega
theorem gen_l : ∀ (m : Nat) (x : ByteArray) (i n k : Nat) (l : List ByteArray), x.data.toList.count 47 = m → i + m = n → l.length = n + 1 → n ≤ 1000000 → x.size ≤ 1000000 → m + 1 ≤ k →
    strings_genSplit.l0 k x (⟨#[47]⟩ : ByteArray) 0 (n : Int) l (i : Int) = some (l.take i ++ pieces x)
  | 0, x, i, n, k, l, hc, hi, hl, hn, hx, hk => by
    obtain ⟨k, rfl⟩ : ∃ j, k = j + 1 := ⟨k - 1, by omega⟩
    unfold strings_genSplit.l0
    rw [if_neg (by omega), if_pos (by omega), if_pos (by omega), w64 (by omega) (by omega), if_pos (by omega), if_pos (by omega)]
    rw [show ((i : Int) + 1).toNat = i + 1 by omega, Int.toNat_natCast]
    rw [pieces_none (ib_neg.2 (List.count_eq_zero.1 hc))]
    rw [List.take_set, List.take_add_one, List.getElem?_eq_getElem (by omega)]
    simp only [Option.toList_some]
    rw [List.set_append_right _ _ (by simp; omega)]
    simp [Nat.min_eq_left (show i ≤ l.length by omega)]
  | m + 1, x, i, n, k, l, hc, hi, hl, hn, hx, hk => by
    obtain ⟨k, rfl⟩ : ∃ j, k = j + 1 := ⟨k - 1, by omega⟩
    unfold strings_genSplit.l0
    have h0 : ¬ Lib.indexByte x.data.toList 47 < 0 := by
      rw [ib_neg]
      intro h
      rw [List.count_eq_zero.2 h] at hc
      omega
    obtain ⟨p, hp⟩ : ∃ p : Nat, Lib.indexByte x.data.toList 47 = p := ⟨(Lib.indexByte x.data.toList 47).toNat, by omega⟩
    obtain ⟨e1, e2⟩ := pieces_some hp
    have e3 := ib_some hp
    have hidx : strings_Index.f x (⟨#[47]⟩ : ByteArray) = some (p : Int) := by
      unfold strings_Index.f idx1
      rw [if_pos (by rfl)]
      exact congrArg some hp
    rw [if_pos (by omega), hidx, Option.bind_some, if_neg (by omega)]
    have z : ((⟨#[47]⟩ : ByteArray).size : Int) = 1 := rfl
    rw [z]
    rw [w64 (show -9223372036854775808 ≤ (p : Int) + 0 by omega) (by omega), w64 (show -9223372036854775808 ≤ (p : Int) + 1 by omega) (by omega), w64 (show -9223372036854775808 ≤ (i : Int) + 1 by omega) (by omega)]
    rw [if_pos (by omega), if_pos (by omega), if_pos (by omega), if_pos (by omega), if_pos (by omega), if_pos (by omega)]
    rw [show ((p : Int) + 1).toNat = p + 1 by omega, show ((p : Int) + 0).toNat = p by omega, Int.toNat_natCast, show (i : Int) + 1 = ((i + 1 : Nat) : Int) by omega]
    have hy : (x.extract (p + 1) x.size).data.toList = x.data.toList.drop (p + 1) := by rw [ext_list, List.take_of_length_le (by rw [dl]; omega)]
    have hys : (x.extract (p + 1) x.size).size ≤ 1000000 := by rw [← dl, hy, List.length_drop, dl]; omega
    rw [gen_l m (x.extract (p + 1) x.size) (i + 1) n k (l.set i (x.extract 0 p)) (by rw [hy]; omega) (by omega) (by rw [List.length_set]; exact hl) hn hys (by omega)]
    rw [e1]
    congr 1
    rw [List.take_set, List.take_add_one, List.getElem?_eq_getElem (by omega)]
    simp only [Option.toList_some]
    rw [List.set_append_right _ _ (by simp; omega)]
    simp [Nat.min_eq_left (show i ≤ l.length by omega)]
theorem ssplit_f (s : ByteArray) (k : Nat) (hs : s.size ≤ 400) (hk : 500 ≤ k) : strings_Split.f k s (⟨#[47]⟩ : ByteArray) = some (pieces s) := by
  unfold strings_Split.f strings_genSplit.f
  have hc : s.data.toList.count 47 ≤ 400 := Nat.le_trans List.count_le_length (by rw [dl]; exact hs)
  rw [ba_tl, if_neg (by omega), if_neg (by simp), if_pos (by omega)]
  unfold strings_Count.f
  rw [if_pos (by rfl), Option.bind_some]
  have hcc : Lib.countByte s.data.toList ((⟨#[47]⟩ : ByteArray).data.toList.headD 0) = s.data.toList.count 47 := rfl
  rw [hcc, w64 (by omega) (by omega)]
  obtain ⟨k, rfl⟩ : ∃ j, k = j + 1 := ⟨k - 1, by omega⟩
  simp only [strings_genSplit.j0]
  have hm : mn ((s.data.toList.count 47 : Int) + 1) (wrap64 ((s.size : Int) + 1)) = ((s.data.toList.count 47 + 1 : Nat) : Int) := by
    have : s.data.toList.count 47 ≤ s.size := Nat.le_trans List.count_le_length (by rw [dl]; exact Nat.le_refl _)
    rw [w64 (by omega) (by omega)]
    unfold mn
    split <;> omega
  rw [hm, if_pos (by omega), if_pos (by omega), w64 (by omega) (by omega)]
  rw [show (((s.data.toList.count 47 + 1 : Nat) : Int) - 1) = ((s.data.toList.count 47 : Nat) : Int) by omega, Int.toNat_natCast]
  have hgl := gen_l _ s 0 (s.data.toList.count 47) k (List.replicate (s.data.toList.count 47 + 1) (⟨#[]⟩ : ByteArray)) rfl (by omega) (by rw [List.length_replicate]) (by omega) (by omega) (by omega)
  rw [show ((0 : Nat) : Int) = 0 from rfl] at hgl
  rw [hgl]
  rfl
theorem anyBad_f : ∀ (l : List ByteArray), (∀ x ∈ l, x.size ≤ 9223372036854775807) → anyBad l = some (decide (¬ ∀ x ∈ l, PartP x))
  | [], _ => by simp [anyBad]
  | x :: r, h => by
    unfold anyBad
    rw [part_f x (h x (by simp)), Option.bind_some, anyBad_f r (fun y hy => h y (List.mem_cons_of_mem _ hy)), Option.bind_some]
    congr 1
    by_cases h1 : PartP x <;> simp [h1]
def splitB (s : ByteArray) : List ByteArray := if s.size ≤ 400 ∧ ∀ x ∈ pieces s, PartP x then pieces s else []
theorem split_f (s : ByteArray) (k : Nat) (hk : 500 ≤ k) : path_Split.f k s = some (splitB s) := by
  unfold path_Split.f splitB
  by_cases h0 : s.size ≤ 400
  · rw [if_neg (by omega), ssplit_f s k h0 hk, Option.bind_some]
    have hl := pieces_len s
    rw [if_pos (by omega), anyBad_f _ (fun x hx => by have := pieces_size hx; omega), Option.bind_some]
    by_cases h1 : ∀ x ∈ pieces s, PartP x
    · rw [decide_eq_false (fun h => h h1), if_neg (by simp), if_pos ⟨h0, h1⟩]
    · rw [decide_eq_true h1, if_pos rfl, if_neg (fun h => h1 h.2)]
  · rw [if_pos (by omega), if_neg (fun h => h0 h.1)]
def GoodP (s : ByteArray) : Prop := s.size ≤ 400 ∧ ∀ x ∈ pieces s, PartP x
instance (s : ByteArray) : Decidable (GoodP s) := inferInstanceAs (Decidable (_ ∧ _))
theorem splitB_good {s : ByteArray} (h : GoodP s) : splitB s = pieces s := if_pos h
theorem splitB_bad {s : ByteArray} (h : ¬ GoodP s) : splitB s = [] := if_neg h
theorem splitB_len {s : ByteArray} : 0 < (splitB s).length ↔ GoodP s := by
  by_cases h : GoodP s
  · rw [splitB_good h]; exact ⟨fun _ => h, fun _ => List.length_pos_iff.2 (pieces_ne s)⟩
  · rw [splitB_bad h]; simp [h]
theorem good_f (s : ByteArray) (k : Nat) (hk : 500 ≤ k) : path_Good.f k s = some (decide (GoodP s)) := by
  unfold path_Good.f
  rw [split_f s k hk, Option.bind_some]
  congr 1
  apply decide_eq_decide.2
  rw [← splitB_len]; omega
end PM
end Go.Proofs.YtfkbmjfhakooiaaGreatDoor

/- What the printed functions of paths compute: joins, orders, what lies above. Conditions: none. -/
namespace Go.Proofs.YtfkbmjfhakooiaaGreatDoor
open Go.RowKit Go.Proofs.YtfkbmjfhakooiaaGreatDoor.PTree Go.Proofs.YtfkbmjfhakooiaaGreatDoorW.PrintWords Go.Proofs.YtfkbmjfhakooiaaGreatDoorW.PrintLast
set_option linter.unusedSimpArgs false
set_option linter.unusedVariables false
namespace PM
/-! ### joins -/
def lists (xs : List ByteArray) : List (List UInt8) := xs.map (·.data.toList)
def joinB (xs : List ByteArray) : ByteArray := ⟨(joinL (lists xs)).toArray⟩
def tot : List ByteArray → Nat
  | [] => 0
  | x :: r => x.size + 1 + tot r
theorem lists_pieces (s : ByteArray) : lists (pieces s) = splitL s.data.toList := pieces_lists s
theorem joinB_list (xs : List ByteArray) : (joinB xs).data.toList = joinL (lists xs) := rfl
theorem tot_lens : ∀ xs : List ByteArray, tot xs = Lib.lens (lists xs) + xs.length
  | [] => rfl
  | x :: r => by
    have ih := tot_lens r
    simp only [tot, lists, Lib.lens, List.map_cons, List.sum_cons, List.length_cons] at ih ⊢
    rw [ih, dl]; omega
theorem joinB_size {xs : List ByteArray} (h : xs ≠ []) : (joinB xs).size + 1 = tot xs := by
  rw [tot_lens, ← dl, joinB_list, joinL_length (by unfold lists; simpa using h)]
  unfold lists; rw [List.length_map]
theorem joinB_pieces (s : ByteArray) : joinB (pieces s) = s := ba_ext (by rw [joinB_list, lists_pieces, joinL_splitL])
theorem tot_append : ∀ p r : List ByteArray, tot (p ++ r) = tot p + tot r
  | [], r => by simp [tot]
  | x :: p, r => by rw [List.cons_append, tot, tot, tot_append p r]; omega
theorem tot_pieces (s : ByteArray) : tot (pieces s) = s.size + 1 := by rw [← joinB_size (pieces_ne s), joinB_pieces]
def JoinP (xs : List ByteArray) : Prop := xs ≠ [] ∧ (∀ x ∈ xs, PartP x) ∧ tot xs ≤ 401
instance (xs : List ByteArray) : Decidable (JoinP xs) := inferInstanceAs (Decidable (_ ∧ _ ∧ _))
theorem part_size {x : ByteArray} (h : PartP x) : x.size ≤ 120 := by have := h.1.2.1; omega
/-! ### Normal -/
/-! ### Compare -/
def cB (a b : ByteArray) : Int := Lib.compareBytes a.data.toList b.data.toList
theorem cB_isCmp : IsCmp cB where
  anti a b := cmpB_isCmp.anti _ _
  eq0 a b := by unfold cB; rw [cmpB_isCmp.eq0]; exact ⟨ba_ext, fun h => by rw [h]⟩
  tri a b := cmpB_isCmp.tri _ _
  trans a b d := cmpB_isCmp.trans _ _ _
def cQ (a b : ByteArray) : Int := lexC cB (pieces a) (pieces b)
theorem cQ_isCmp : IsCmp cQ where
  anti a b := (lexC_isCmp cB_isCmp).anti _ _
  eq0 a b := by unfold cQ; rw [(lexC_isCmp cB_isCmp).eq0]; exact ⟨pieces_inj, fun h => by rw [h]⟩
  tri a b := (lexC_isCmp cB_isCmp).tri _ _
  trans a b d := (lexC_isCmp cB_isCmp).trans _ _ _
theorem cut_f (s : ByteArray) (hs : s.size ≤ 4611686018427387904) : ∃ h r m, strings_Cut.f s (⟨#[47]⟩ : ByteArray) = some (h, r, m) ∧ ((m = false ∧ pieces s = [h]) ∨ (m = true ∧ pieces s = h :: pieces r ∧ r.size < s.size)) := by
  unfold strings_Cut.f stringslite_Cut.f stringslite_Index.f idx1
  rw [if_pos (by rfl), Option.bind_some]
  have hh : ((⟨#[47]⟩ : ByteArray).data.toList.headD 0) = (47 : UInt8) := rfl
  have z : ((⟨#[47]⟩ : ByteArray).size : Int) = 1 := rfl
  rw [hh, z]
  by_cases h0 : Lib.indexByte s.data.toList 47 < 0
  · rw [if_neg (by omega), Option.bind_some]
    exact ⟨_, _, _, rfl, .inl ⟨rfl, pieces_none h0⟩⟩
  · obtain ⟨p, hp⟩ : ∃ p : Nat, Lib.indexByte s.data.toList 47 = p := ⟨(Lib.indexByte s.data.toList 47).toNat, by omega⟩
    obtain ⟨e1, e2⟩ := pieces_some hp
    rw [hp, w64 (show -9223372036854775808 ≤ (p : Int) + 1 by omega) (by omega), if_pos (by omega), if_pos (by omega), if_pos (by omega), if_pos (by omega), if_pos (by omega), Option.bind_some]
    refine ⟨_, _, _, rfl, .inr ⟨rfl, ?_, ?_⟩⟩
    · rw [e1, Int.toNat_natCast, show ((p : Int) + 1).toNat = p + 1 by omega]
    · rw [ByteArray.size_extract, show ((p : Int) + 1).toNat = p + 1 by omega]; omega
theorem cmp_l : ∀ (n : Nat) (a b : ByteArray) (k : Nat), a.size ≤ n → a.size ≤ 4611686018427387904 → b.size ≤ 4611686018427387904 → 2 * n + 3 ≤ k → path_Compare.l0 k a b = some (cQ a b) := by
  intro n
  induction n with
  | zero =>
    intro a b k ha hA hB hk
    obtain ⟨k, rfl⟩ : ∃ j, k = j + 2 := ⟨k - 2, by omega⟩
    simp only [path_Compare.l0]
    obtain ⟨h1, r1, m1, e1, p1⟩ := cut_f a hA
    obtain ⟨h2, r2, m2, e2, p2⟩ := cut_f b hB
    rw [e1, e2, Option.bind_some, Option.bind_some]
    simp only [strings_Compare.f, Option.bind_some]
    rcases p1 with ⟨rfl, p1⟩ | ⟨rfl, p1, q1⟩
    · unfold cQ
      rw [p1]
      have hcb : ∀ q : List ByteArray, lexC cB [h1] (h2 :: q) = if cB h1 h2 = 0 then lexC cB [] q else cB h1 h2 := fun q => rfl
      rcases p2 with ⟨rfl, p2⟩ | ⟨rfl, p2, q2⟩
      · rw [p2, hcb]
        by_cases hz : Lib.compareBytes h1.data.toList h2.data.toList = 0
        · rw [if_pos hz, if_pos (show cB h1 h2 = 0 from hz)]; rfl
        · rw [if_neg hz, if_neg (show ¬ cB h1 h2 = 0 from hz)]; rfl
      · rw [p2, hcb]
        by_cases hz : Lib.compareBytes h1.data.toList h2.data.toList = 0
        · rw [if_pos hz, if_pos (show cB h1 h2 = 0 from hz)]
          obtain ⟨x, r, e⟩ := List.exists_cons_of_ne_nil (pieces_ne r2)
          rw [e]; rfl
        · rw [if_neg hz, if_neg (show ¬ cB h1 h2 = 0 from hz)]; rfl
    · omega
  | succ n ih =>
    intro a b k ha hA hB hk
    obtain ⟨k, rfl⟩ : ∃ j, k = j + 2 := ⟨k - 2, by omega⟩
    simp only [path_Compare.l0]
    obtain ⟨h1, r1, m1, e1, p1⟩ := cut_f a hA
    obtain ⟨h2, r2, m2, e2, p2⟩ := cut_f b hB
    rw [e1, e2, Option.bind_some, Option.bind_some]
    simp only [strings_Compare.f, Option.bind_some]
    have hcb : ∀ p q : List ByteArray, lexC cB (h1 :: p) (h2 :: q) = if cB h1 h2 = 0 then lexC cB p q else cB h1 h2 := fun p q => rfl
    unfold cQ
    rcases p1 with ⟨rfl, p1⟩ | ⟨rfl, p1, q1⟩
    · rw [p1]
      rcases p2 with ⟨rfl, p2⟩ | ⟨rfl, p2, q2⟩
      · rw [p2, hcb]
        by_cases hz : Lib.compareBytes h1.data.toList h2.data.toList = 0
        · rw [if_pos hz, if_pos (show cB h1 h2 = 0 from hz)]; rfl
        · rw [if_neg hz, if_neg (show ¬ cB h1 h2 = 0 from hz)]; rfl
      · rw [p2, hcb]
        by_cases hz : Lib.compareBytes h1.data.toList h2.data.toList = 0
        · rw [if_pos hz, if_pos (show cB h1 h2 = 0 from hz)]
          obtain ⟨x, r, e⟩ := List.exists_cons_of_ne_nil (pieces_ne r2)
          rw [e]; rfl
        · rw [if_neg hz, if_neg (show ¬ cB h1 h2 = 0 from hz)]; rfl
    · rw [p1]
      rcases p2 with ⟨rfl, p2⟩ | ⟨rfl, p2, q2⟩
      · rw [p2, hcb]
        by_cases hz : Lib.compareBytes h1.data.toList h2.data.toList = 0
        · rw [if_pos hz, if_pos (show cB h1 h2 = 0 from hz)]
          obtain ⟨x, r, e⟩ := List.exists_cons_of_ne_nil (pieces_ne r1)
          rw [e]; rfl
        · rw [if_neg hz, if_neg (show ¬ cB h1 h2 = 0 from hz)]; rfl
      · rw [p2, hcb]
        by_cases hz : Lib.compareBytes h1.data.toList h2.data.toList = 0
        · rw [if_pos hz, if_pos (show cB h1 h2 = 0 from hz)]
          exact ih r1 r2 k (by omega) (by omega) (by omega) (by omega)
        · rw [if_neg hz, if_neg (show ¬ cB h1 h2 = 0 from hz)]; rfl
theorem cmp_f (a b : ByteArray) (k : Nat) (hA : a.size ≤ 4611686018427387904) (hB : b.size ≤ 4611686018427387904) (hk : 2 * a.size + 3 ≤ k) : path_Compare.f k a b = some (cQ a b) := cmp_l a.size a b k (Nat.le_refl _) hA hB hk
/-! ### Above -/
def AboveP (a b : ByteArray) : Prop := GoodP a ∧ GoodP b ∧ (a.data.toList ++ [47]) <+: b.data.toList
instance (a b : ByteArray) : Decidable (AboveP a b) := inferInstanceAs (Decidable (_ ∧ _ ∧ _))
theorem hasPrefix_f (b p : ByteArray) : strings_HasPrefix.f b p = some (decide (p.data.toList <+: b.data.toList)) := by
  unfold strings_HasPrefix.f stringslite_HasPrefix.f
  by_cases h : (b.size : Int) ≥ (p.size : Int)
  · rw [if_pos h, if_pos (by omega), if_pos (by omega), Option.bind_some, Int.toNat_natCast, ba_tl, ba_tl, ext_list, List.drop_zero]
    congr 1
    by_cases he : List.take p.size b.data.toList = p.data.toList
    · rw [decide_eq_true (List.prefix_iff_eq_take.2 (by rw [dl]; exact he.symm))]; simpa using he
    · rw [decide_eq_false (fun h => he (by have := List.prefix_iff_eq_take.1 h; rw [dl] at this; exact this.symm))]; simpa using he
  · rw [if_neg h, Option.bind_some]
    rw [decide_eq_false]
    intro hp
    have := hp.length_le
    rw [dl, dl] at this; omega
theorem above_f (a b : ByteArray) (k : Nat) (hk : 500 ≤ k) : path_Above.f k a b = some (decide (AboveP a b)) := by
  unfold path_Above.f
  rw [good_f a k hk, good_f b k hk, Option.bind_some, Option.bind_some]
  by_cases ha : GoodP a
  · rw [decide_eq_true ha, if_pos rfl]
    by_cases hb : GoodP b
    · rw [decide_eq_true hb, if_pos rfl, if_pos (by have := ha.1; omega), hasPrefix_f, Option.bind_some]
      congr 1
      apply decide_eq_decide.2
      rw [show (a ++ (⟨#[47]⟩ : ByteArray)).data.toList = a.data.toList ++ [47] by simp]
      exact ⟨fun h => ⟨ha, hb, h⟩, fun h => h.2.2⟩
    · rw [decide_eq_false hb, if_neg (by simp), decide_eq_false (fun h => hb h.2.1)]
  · rw [decide_eq_false ha, if_neg (by simp), decide_eq_false (fun h => ha h.1)]
theorem prefix_B {a b : ByteArray} : (a.data.toList ++ [47]) <+: b.data.toList ↔ ∃ r, r ≠ [] ∧ pieces b = pieces a ++ r := by
  rw [prefix_pieces]
  constructor
  · rintro ⟨r, hr, e⟩
    refine ⟨r.map fun l => ⟨l.toArray⟩, by simpa using hr, ?_⟩
    unfold pieces
    rw [e, List.map_append]
  · rintro ⟨r, hr, e⟩
    refine ⟨lists r, by unfold lists; simpa using hr, ?_⟩
    rw [← pieces_lists, ← pieces_lists, e, List.map_append]; rfl
theorem above_iff {a b : ByteArray} : AboveP a b ↔ GoodP a ∧ GoodP b ∧ ∃ r, r ≠ [] ∧ pieces b = pieces a ++ r := by
  unfold AboveP; rw [prefix_B]
/-! ### Nests -/
end PM
end Go.Proofs.YtfkbmjfhakooiaaGreatDoor
