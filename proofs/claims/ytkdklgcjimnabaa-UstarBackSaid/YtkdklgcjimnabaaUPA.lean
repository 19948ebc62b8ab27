/- What the printed functions of ustar compute, in closed form: split, fits, octal, sum, Encode, text, number, Decode. Conditions: as each theorem says. -/
import Derived.Test.YtkdklgcjimnabaaPUstarx6
import Derived.Test.YtkdklgcjimnabaaUMath
import Derived.KernelRfl
namespace Go.Proofs.Ytkdklgcjimnabaa.PUstar
open Go.RowKit Go.Proofs.YtkdklgcjimnabaaW.PrintWords Go.Proofs.YtkdklgcjimnabaaW.PrintLast
set_option linter.unusedVariables false
set_option linter.unusedSimpArgs false
namespace UP
theorem w64 {n : Int} (h0 : -9223372036854775808 ≤ n) (h1 : n < 9223372036854775808) : wrap64 n = n := UM.w64 h0 h1
/-! ### split -/
def cut (s : ByteArray) : Nat → Nat → ByteArray × ByteArray × Bool
  | 0, _ => (⟨#[]⟩, ⟨#[]⟩, false)
  | n + 1, i => if bt s i = 47 ∧ 1 ≤ i ∧ i ≤ 155 ∧ i + 2 ≤ s.size ∧ s.size ≤ i + 101 then (s.extract 0 i, s.extract (i + 1) s.size, true) else cut s n (i + 1)
def splitS (p : ByteArray) : ByteArray × ByteArray × Bool :=
  if p.size = 0 ∨ asciiB p = false then (⟨#[]⟩, ⟨#[]⟩, false) else if p.size ≤ 100 then (⟨#[]⟩, p, true) else cut p p.size 0
theorem split_l (s : ByteArray) (hs : s.size ≤ 140737488351232) : ∀ (n i k : Nat), i + n = s.size → n + 1 ≤ k → ustar_split.l0 k s (s.size : Int) (i : Int) = some (cut s n i) := by
  intro n
  induction n with
  | zero =>
    intro i k hi hk
    obtain ⟨k, rfl⟩ : ∃ j, k = j + 1 := ⟨k - 1, by omega⟩
    simp only [ustar_split.l0]
    rw [if_neg (by omega)]; rfl
  | succ n ih =>
    intro i k hi hk
    obtain ⟨k, rfl⟩ : ∃ j, k = j + 1 := ⟨k - 1, by omega⟩
    have e1 : wrap64 ((i : Int) + 1) = ((i + 1 : Nat) : Int) := by rw [w64 (by omega) (by omega)]; omega
    have e2 : wrap64 (wrap64 ((s.size : Int) - (i : Int)) - 1) = (s.size : Int) - (i : Int) - 1 := by rw [w64 (n := (s.size : Int) - (i : Int)) (by omega) (by omega), w64 (by omega) (by omega)]
    simp only [ustar_split.l0, e1, e2, ih (i + 1) k (by omega) (by omega), cut]
    rw [if_pos (by omega : (i : Int) < (s.size : Int)), if_pos (by omega : (0 : Int) ≤ (i : Int)), if_pos (by omega : (i : Int) < (s.size : Int))]
    by_cases h1 : bt s i = 47
    · by_cases h2 : 1 ≤ i
      · by_cases h3 : i ≤ 155
        · by_cases h4 : i + 2 ≤ s.size
          · by_cases h5 : s.size ≤ i + 101
            · rw [if_pos h1, if_pos (by omega), if_pos (by omega), if_pos (by omega), if_pos (by omega), if_pos (by omega), if_pos (by omega), if_pos (by omega), if_pos ⟨h1, h2, h3, h4, h5⟩]
              have e3 : ((i : Nat) : Int).toNat = i := by omega
              have e4 : ((i + 1 : Nat) : Int).toNat = i + 1 := by omega
              rw [e3, e4]
            · rw [if_pos h1, if_pos (by omega), if_pos (by omega), if_pos (by omega), if_neg (by omega), if_neg (fun h => h5 h.2.2.2.2)]
          · rw [if_pos h1, if_pos (by omega), if_pos (by omega), if_neg (by omega), if_neg (fun h => h4 h.2.2.2.1)]
        · rw [if_pos h1, if_pos (by omega), if_neg (by omega), if_neg (fun h => h3 h.2.2.1)]
      · rw [if_pos h1, if_neg (by omega), if_neg (fun h => h2 h.2.1)]
    · rw [if_neg h1, if_neg (fun h => h1 h.1)]
theorem size_nil {p : ByteArray} : p.toList = ([] : List UInt8) ↔ p.size = 0 := by
  rw [UM.toList_nil]
  constructor
  · intro h; rw [h]; rfl
  · intro h; apply ByteArray.ext; apply Array.eq_empty_of_size_eq_zero; exact h
theorem split_f (p : ByteArray) (hs : p.size ≤ 140737488351232) (k : Nat) (hk : p.size + 2 ≤ k) : ustar_split.f k p = some (splitS p) := by
  obtain ⟨k, rfl⟩ : ∃ j, k = j + 1 := ⟨k - 1, by omega⟩
  unfold ustar_split.f splitS
  by_cases h0 : p.size = 0
  · rw [if_pos (size_nil.2 h0), if_pos (.inl h0)]; simp only [ustar_split.j0, if_true]
  · rw [if_neg (fun h => h0 (size_nil.1 h))]
    simp only [ustar_ascii.f, if_pos hs, Option.bind_some, ustar_split.j0]
    cases hA : asciiB p with
    | false => rw [if_pos (by rfl), if_pos (.inr rfl)]
    | true =>
      rw [if_neg (c := (!true) = true) (by decide), if_neg (c := p.size = 0 ∨ true = false) (fun h => h.elim h0 (fun h => by cases h))]
      by_cases h1 : p.size ≤ 100
      · rw [if_pos (by omega), if_pos h1]
      · rw [if_neg (by omega), if_neg h1]
        exact split_l p hs p.size 0 k (by omega) (by omega)
theorem ascii_mem {s : ByteArray} : asciiB s = true ↔ ∀ c ∈ s.data.toList, c ≠ 0 ∧ c ≤ 127 := by
  unfold asciiB; rw [List.all_eq_true]
  constructor
  · intro h c hc; have := h c hc; simpa using this
  · intro h c hc; have := h c hc; simpa using this
theorem ascii_sub {s t : ByteArray} (h : asciiB s = true) (k : ∀ c ∈ t.data.toList, c ∈ s.data.toList) : asciiB t = true := ascii_mem.2 fun c hc => ascii_mem.1 h c (k c hc)
theorem ext_list (s : ByteArray) (a b : Nat) : (s.extract a b).data.toList = (s.data.toList.drop a).take (b - a) := by
  rw [ByteArray.data_extract, Array.toList_extract, List.extract_eq_take_drop]
theorem mem_ext {s : ByteArray} {a b : Nat} : ∀ c ∈ (s.extract a b).data.toList, c ∈ s.data.toList := by
  intro c hc
  rw [ext_list] at hc
  exact List.mem_of_mem_drop (List.mem_of_mem_take hc)
def slash : ByteArray := ⟨#[47]⟩
theorem glue (s : ByteArray) (i : Nat) (hi : i + 2 ≤ s.size) (hb : bt s i = 47) : (s.extract 0 i ++ slash) ++ s.extract (i + 1) s.size = s := by
  apply ByteArray.ext; apply Array.ext'
  rw [ByteArray.data_append, ByteArray.data_append, Array.toList_append, Array.toList_append, ext_list, ext_list]
  have hl : s.data.toList.length = s.size := data_length s
  have hg : s.data.toList[i]'(by omega) = 47 := by
    unfold bt at hb
    have : ((s[i]'(by omega)).toNat : Int) = 47 := by
      have q := bt_at s (i : Int) (by omega)
      simp only [Int.toNat_natCast] at q
      rw [q]; exact hb
    have e : s.data.toList[i]'(by omega) = s[i]'(by omega) := by simp [ByteArray.getElem_eq_getElem_data]
    rw [e]; apply UInt8.toNat_inj.1
    show _ = 47
    omega
  show ((s.data.toList.drop 0).take (i - 0) ++ [47]) ++ (s.data.toList.drop (i + 1)).take (s.size - (i + 1)) = _
  rw [List.drop_zero, Nat.sub_zero, List.take_of_length_le (l := s.data.toList.drop (i + 1)) (by rw [List.length_drop]; omega), List.append_assoc, ← hg]
  show s.data.toList.take i ++ (s.data.toList[i] :: s.data.toList.drop (i + 1)) = _
  rw [List.getElem_cons_drop, List.take_append_drop]
theorem cut_ok (s : ByteArray) : ∀ (n i : Nat), (cut s n i).2.2 = true → ∃ j, i ≤ j ∧ bt s j = 47 ∧ 1 ≤ j ∧ j ≤ 155 ∧ j + 2 ≤ s.size ∧ s.size ≤ j + 101 ∧ cut s n i = (s.extract 0 j, s.extract (j + 1) s.size, true) := by
  intro n
  induction n with
  | zero => intro i h; cases h
  | succ n ih =>
    intro i h
    unfold cut at h ⊢
    split at h
    · next hc => rw [if_pos hc]; exact ⟨i, Nat.le_refl _, hc.1, hc.2.1, hc.2.2.1, hc.2.2.2.1, hc.2.2.2.2, rfl⟩
    · next hc => rw [if_neg hc]; obtain ⟨j, h1, h2⟩ := ih (i + 1) h; exact ⟨j, by omega, h2⟩
theorem cut_no (s : ByteArray) : ∀ (n i : Nat), (cut s n i).2.2 = false → cut s n i = (⟨#[]⟩, ⟨#[]⟩, false) := by
  intro n
  induction n with
  | zero => intro i h; rfl
  | succ n ih =>
    intro i h
    unfold cut at h ⊢
    split at h
    · cases h
    · next hc => rw [if_neg hc]; exact ih (i + 1) h
theorem split_no {p : ByteArray} (h : (splitS p).2.2 = false) : splitS p = (⟨#[]⟩, ⟨#[]⟩, false) := by
  unfold splitS at h ⊢
  split at h
  · next hc => rw [if_pos hc]
  · next hc =>
    rw [if_neg hc]
    split at h
    · cases h
    · next hd => rw [if_neg hd]; exact cut_no _ _ _ h
/-- What a split tells. -/
structure Sp (p pre name : ByteArray) : Prop where
  n1 : 1 ≤ name.size
  n2 : name.size ≤ 100
  p1 : pre.size ≤ 155
  an : asciiB name = true
  ap : asciiB pre = true
  j : (pre = ⟨#[]⟩ ∧ p = name ∧ p.size ≤ 100) ∨ (1 ≤ pre.size ∧ p = (pre ++ slash) ++ name ∧ 100 < p.size)
theorem split_ok {p : ByteArray} (h : (splitS p).2.2 = true) : Sp p (splitS p).1 (splitS p).2.1 := by
  unfold splitS at h ⊢
  split at h
  · cases h
  · next hc =>
    rw [if_neg hc]
    have h0 : p.size ≠ 0 := fun h => hc (.inl h)
    have hA : asciiB p = true := by cases hq : asciiB p with | true => rfl | false => exact absurd (.inr hq) hc
    split at h
    · next hd => rw [if_pos hd]; exact ⟨by show 1 ≤ p.size; omega, hd, Nat.zero_le _, hA, by rfl, .inl ⟨rfl, rfl, hd⟩⟩
    · next hd =>
      rw [if_neg hd]
      obtain ⟨j, h1, h2, h3, h4, h5, h6, e⟩ := cut_ok _ _ _ h
      rw [e]
      have z1 : (p.extract 0 j).size = j := by rw [ByteArray.size_extract]; omega
      have z2 : (p.extract (j + 1) p.size).size = p.size - (j + 1) := by rw [ByteArray.size_extract]; omega
      exact ⟨by show 1 ≤ (p.extract (j + 1) p.size).size; omega, by show (p.extract (j + 1) p.size).size ≤ 100; omega, by show (p.extract 0 j).size ≤ 155; omega, ascii_sub hA mem_ext, ascii_sub hA mem_ext,
        .inr ⟨by show 1 ≤ (p.extract 0 j).size; omega, (glue p j h5 h2).symm, by omega⟩⟩
/-! ### fits -/
def idB (n : Int) : Bool := decide (0 ≤ n) && decide (n < 2097152)
def tmB (n : Int) : Bool := decide (0 ≤ n) && decide (n < 8589934592)
def lkB (l : ByteArray) : Bool := !(l.size == 0) && (decide (l.size ≤ 100) && asciiB l)
def tyB (size typ : Int) (link : ByteArray) : Bool :=
  if typ = 49 ∨ typ = 50 then lkB link && size == 0 else if typ = 53 then link.size == 0 && size == 0 else if typ = 48 ∨ typ = 120 then link.size == 0 else false
def fitsS (mode uid gid size time typ : Int) (link : ByteArray) : Bool := idB mode && (idB uid && (idB gid && (tmB size && (tmB time && tyB size typ link))))
theorem id_f (n : Int) : ustar_FitsId.f n = some (idB n) := by
  unfold ustar_FitsId.f idB
  by_cases h : 0 ≤ n
  · rw [if_pos h]; simp [h]
  · rw [if_neg h]; simp [h]
theorem tm_f (n : Int) : ustar_FitsTime.f n = some (tmB n) := by
  unfold ustar_FitsTime.f tmB
  by_cases h : 0 ≤ n
  · rw [if_pos h]; simp [h]
  · rw [if_neg h]; simp [h]
theorem lk_f (l : ByteArray) : ustar_FitsLink.f l = some (lkB l) := by
  unfold ustar_FitsLink.f lkB
  by_cases h0 : l.size = 0
  · rw [if_pos (size_nil.2 h0)]; simp [h0]
  · rw [if_neg (fun h => h0 (size_nil.1 h))]
    by_cases h1 : l.size ≤ 100
    · rw [if_pos (by omega)]; simp [ustar_ascii.f, h0, h1, show l.size ≤ 140737488351232 by omega]
    · rw [if_neg (by omega)]; simp [h1]
theorem nil_beq (l : ByteArray) : (l.toList == ([] : List UInt8)) = (l.size == 0) := by
  by_cases h : l.size = 0
  · rw [size_nil.2 h, h]; rfl
  · have : l.toList ≠ [] := fun q => h (size_nil.1 q)
    rw [beq_eq_false_iff_ne.2 this, beq_eq_false_iff_ne.2 h]
theorem fits_f (p : ByteArray) (mode uid gid size time typ : Int) (link : ByteArray) (k : Nat) (hk : 3 ≤ k) : ustar_fits.f k p mode uid gid size time typ link = some (fitsS mode uid gid size time typ link) := by
  obtain ⟨k, rfl⟩ : ∃ j, k = j + 3 := ⟨k - 3, by omega⟩
  simp only [ustar_fits.f, id_f, tm_f, Option.bind_some, ustar_fits.j0, fitsS]
  cases idB mode
  · simp
  cases idB uid
  · simp
  cases idB gid
  · simp
  cases tmB size
  · simp
  cases tmB time
  · simp
  simp only [if_true, Bool.not_true, Bool.true_and, Bool.false_eq_true, if_false]
  unfold tyB
  by_cases h1 : typ = 49
  · subst h1; simp [ustar_fits.j1, lk_f]
    cases lkB link <;> simp
  · by_cases h2 : typ = 50
    · subst h2; simp [ustar_fits.j1, lk_f]
      cases lkB link <;> simp
    · rw [if_neg h1, if_neg (by omega)]
      have hb : (typ == 50) = false := by simp [h2]
      rw [hb]
      simp only [ustar_fits.j1, Bool.false_eq_true, if_false, nil_beq, size_nil]
      by_cases h3 : typ = 53
      · rw [if_pos h3, if_pos h3]
        by_cases h0 : link.size = 0
        · rw [if_pos h0, h0]; rfl
        · have q : (link.size == 0) = false := beq_eq_false_iff_ne.2 h0
          rw [if_neg h0, q]; rfl
      · rw [if_neg h3, if_neg h3]
        by_cases h4 : typ = 48
        · subst h4; simp
        · by_cases h5 : typ = 120
          · subst h5; simp
          · simp [h4, h5]
end UP
namespace UP
open UM CopyS
theorem oct_l (A B : List Int) (hA : A.length ≤ 1000) : ∀ (m : Nat) (X : List Int) (n : Int) (k : Nat) (B : List Int), X.length = m → m ≤ 1000 → 0 ≤ n → n < 9223372036854775808 → m + 1 ≤ k →
    ustar_block_octal.l0 k (A ++ (X ++ B)) (A.length : Int) n ((m : Int) - 1) = some (A ++ (od n m ++ B)) := by
  intro m
  induction m with
  | zero =>
    intro X n k B hX hm h0 h1 hk
    obtain ⟨k, rfl⟩ : ∃ j, k = j + 1 := ⟨k - 1, by omega⟩
    simp only [ustar_block_octal.l0]
    rw [if_neg (by omega), List.eq_nil_of_length_eq_zero hX]; rfl
  | succ m ih =>
    intro X n k B hX hm h0 h1 hk
    obtain ⟨k, rfl⟩ : ∃ j, k = j + 1 := ⟨k - 1, by omega⟩
    have hne : X ≠ [] := fun h => by rw [h] at hX; cases hX
    obtain ⟨Y, c, rfl⟩ : ∃ y c, X = y ++ [c] := ⟨_, _, (List.dropLast_concat_getLast hne).symm⟩
    have hY : Y.length = m := by simpa using hX
    have e0 : ((m + 1 : Nat) : Int) - 1 = (m : Int) := by omega
    have e1 : wrap64 ((A.length : Int) + (m : Int)) = ((A.length + m : Nat) : Int) := by rw [UP.w64 (by omega) (by omega)]; omega
    have e2 : wrap64 ((m : Int) - 1) = (m : Int) - 1 := UP.w64 (by omega) (by omega)
    have e3 : (wrap64 (48 + Go.bits .and .i64 n 7)) % 256 = 48 + n % 8 := by rw [and7 n h0 h1, UP.w64 (by omega) (by omega)]; omega
    have e4 : (((A.length + m : Nat) : Int)).toNat = A.length + m := by omega
    simp only [ustar_block_octal.l0, e0, e1, e2, e3, e4]
    have hl : (A ++ ((Y ++ [c]) ++ B)).length = A.length + (m + 1) + B.length := by simp [hY]; omega
    rw [if_pos (by omega), if_pos (by omega), if_pos (by rw [hl]; omega)]
    have e5 : (A ++ ((Y ++ [c]) ++ B)).set (A.length + m) (48 + n % 8) = A ++ (Y ++ ((48 + n % 8) :: B)) := by
      have := set_at (A ++ Y) B c (48 + n % 8) (A.length + m) (by simp [hY])
      simpa [List.append_assoc] using this
    rw [e5, ih Y (n / 8) k ((48 + n % 8) :: B) hY (by omega) (by omega) (by omega) (by omega)]
    simp [od, List.append_assoc]
theorem oct_f (A X B : List Int) (n p d : Int) (k : Nat) (hA : (A.length : Int) = p) (hX : (X.length : Int) = d) (hp : p ≤ 1000) (hd : d ≤ 1000) (h0 : 0 ≤ n) (h1 : n < 9223372036854775808) (hk : d + 1 ≤ k) :
    ustar_block_octal.f k (A ++ (X ++ B)) p d n = some (A ++ (od n X.length ++ B)) := by
  unfold ustar_block_octal.f
  rw [UP.w64 (by omega) (by omega), ← hA, ← hX]
  exact oct_l A B (by omega) X.length X n k B rfl (by omega) h0 h1 (by omega)
/-! ### sum -/
def sumS (l : List Int) : Int := tot (l.take 148) + 256 + tot (l.drop 156)
theorem rd_at (l : List Int) (i : Nat) (h : i < l.length) : rd l (i : Int) = l[i] := by
  unfold rd; simp [h]
def sg : Nat → List Int → Int
  | _, [] => 0
  | i, c :: r => (if i < 148 ∨ 156 ≤ i then c else 0) + sg (i + 1) r
theorem sg_eq (l : List Int) : ∀ i, sg i l = tot (l.take (148 - i)) + tot (l.drop (156 - i)) := by
  induction l with
  | nil => intro i; simp [sg, tot]
  | cons c r ih =>
    intro i
    rw [sg, ih (i + 1)]
    by_cases h1 : i < 148
    · have e1 : 148 - i = (148 - (i + 1)) + 1 := by omega
      have e2 : 156 - i = (156 - (i + 1)) + 1 := by omega
      rw [if_pos (.inl h1), e1, e2, List.take_succ_cons, List.drop_succ_cons, tot]
      omega
    · by_cases h2 : 156 ≤ i
      · have e1 : 148 - i = 0 := by omega
        have e2 : 156 - i = 0 := by omega
        have e3 : 148 - (i + 1) = 0 := by omega
        have e4 : 156 - (i + 1) = 0 := by omega
        rw [if_pos (.inr h2), e1, e2, e3, e4, List.take_zero, List.take_zero, List.drop_zero, List.drop_zero, tot, tot]
        omega
      · have e1 : 148 - i = 0 := by omega
        have e2 : 148 - (i + 1) = 0 := by omega
        have e3 : 156 - i = (156 - (i + 1)) + 1 := by omega
        rw [if_neg (by omega), e1, e2, e3, List.take_zero, List.take_zero, List.drop_succ_cons]
        omega
theorem sum_l (l : List Int) (hb : By l) (hl : l.length ≤ 100000) : ∀ (m i : Nat) (a : Int) (k : Nat), i + m = l.length → 0 ≤ a → a ≤ 300 * i + 300 → m + 1 ≤ k →
    ustar_block_sum.l0 k a l (l.length : Int) (i : Int) = some (a + sg i (l.drop i)) := by
  intro m
  induction m with
  | zero =>
    intro i a k h1 h3 h4 hk
    obtain ⟨k, rfl⟩ : ∃ j, k = j + 1 := ⟨k - 1, by omega⟩
    simp only [ustar_block_sum.l0]
    rw [if_neg (by omega), List.drop_eq_nil_of_le (by omega)]; simp [sg]
  | succ m ih =>
    intro i a k h1 h3 h4 hk
    obtain ⟨k, rfl⟩ : ∃ j, k = j + 1 := ⟨k - 1, by omega⟩
    have hi : i < l.length := by omega
    have hr := rd_at l i hi
    have hbd := hb l[i] (List.getElem_mem hi)
    have e1 : wrap64 ((i : Int) + 1) = ((i + 1 : Nat) : Int) := by rw [UP.w64 (by omega) (by omega)]; omega
    have e2 : wrap64 (a + wrap64 (rd l (i : Int))) = a + l[i] := by rw [hr, UP.w64 (n := l[i]) (by omega) (by omega), UP.w64 (by omega) (by omega)]
    have e3 : sg i (l.drop i) = (if i < 148 ∨ 156 ≤ i then l[i] else 0) + sg (i + 1) (l.drop (i + 1)) := by rw [List.drop_eq_getElem_cons hi, sg]
    simp only [ustar_block_sum.l0, e1, e2, e3]
    rw [if_pos (by omega), if_pos (by omega), if_pos (by omega)]
    by_cases h1 : i < 148
    · rw [if_pos (by omega), if_pos (.inl h1), ih (i + 1) _ k (by omega) (by omega) (by omega) (by omega)]; congr 1; omega
    · by_cases h2 : 156 ≤ i
      · rw [if_neg (by omega), if_pos (by omega), if_pos (.inr h2), ih (i + 1) _ k (by omega) (by omega) (by omega) (by omega)]; congr 1; omega
      · rw [if_neg (by omega), if_neg (by omega), if_neg (by omega), ih (i + 1) _ k (by omega) (by omega) (by omega) (by omega)]; congr 1; omega
theorem sum_f (l : List Int) (hb : By l) (hl : l.length ≤ 100000) (k : Nat) (hk : l.length + 1 ≤ k) : ustar_block_sum.f k l = some (sumS l) := by
  unfold ustar_block_sum.f
  have := sum_l l hb hl l.length 0 256 k (by omega) (by omega) (by omega) hk
  rw [show ((0 : Nat) : Int) = 0 by rfl] at this
  rw [this, List.drop_zero, sg_eq]; unfold sumS; rw [Nat.sub_zero, Nat.sub_zero]; congr 1; omega
/-! ### Encode -/
def spaces : List Int := List.replicate 8 32
/-- The block of a header that fits, the sum's field aside. -/
def blkS (pre name : ByteArray) (mode uid gid size time typ : Int) (link : ByteArray) (sum : List Int) : List Int := blkOf name mode uid gid size time sum typ link pre
def sumF (n : Int) : List Int := od n 6 ++ [0, 32]
def encS (pre name : ByteArray) (mode uid gid size time typ : Int) (link : ByteArray) : List Int :=
  blkS pre name mode uid gid size time typ link (sumF (tot (blkS pre name mode uid gid size time typ link spaces)))
theorem blk_length {pre name : ByteArray} {mode uid gid size time typ : Int} {link : ByteArray} {sum : List Int} (h1 : name.size ≤ 100) (h2 : pre.size ≤ 155) (h3 : link.size ≤ 100) (h4 : sum.length = 8) :
    (blkS pre name mode uid gid size time typ link sum).length = 512 := by
  unfold blkS blkOf
  simp only [List.length_append, padf_length _ _ h1, padf_length _ _ h2, padf_length _ _ h3, od_length, h4, zs_length, sbytes_length, List.length_cons, List.length_nil]
  decide
theorem By_blk {pre name : ByteArray} {mode uid gid size time typ : Int} {link : ByteArray} {sum : List Int} (ht : 0 ≤ typ ∧ typ < 256) (hs : By sum) : By (blkS pre name mode uid gid size time typ link sum) := by
  have z1 : By [0] := fun x hx => by simp at hx; omega
  have z2 : By [typ] := fun x hx => by simp at hx; omega
  exact (By_padf _ _).append (((By_od _ _).append z1).append (((By_od _ _).append z1).append (((By_od _ _).append z1).append (((By_od _ _).append z1).append (((By_od _ _).append z1).append (hs.append (z2.append ((By_padf _ _).append ((By_sb _).append ((By_zero _).append (((By_od _ _).append z1).append (((By_od _ _).append z1).append ((By_padf _ _).append (By_zero _))))))))))))))
set_option maxHeartbeats 2000000 in
theorem enc_j (k : Nat) (pre name p : ByteArray) (mode uid gid size time typ : Int) (link : ByteArray) (h1 : name.size ≤ 100) (h2 : pre.size ≤ 155) (h3 : link.size ≤ 100)
    (ht : 0 ≤ typ ∧ typ < 256) (hf : fitsS mode uid gid size time typ link = true) (hk : 600 ≤ k) :
    ustar_Encode.j0 (k + 1) pre name false p mode uid gid size time typ link = some (encS pre name mode uid gid size time typ link, none) := by
  unfold fitsS idB tmB at hf
  simp only [Bool.and_eq_true, decide_eq_true_eq] at hf
  obtain ⟨⟨m0, m1⟩, ⟨u0, u1⟩, ⟨g0, g1⟩, ⟨s0, s1⟩, ⟨t0, t1⟩, _⟩ := hf
  have eZ : (List.replicate 512 0 : List Int) = [] ++ (zs 100 ++ (zs 412)) := by rfl
  have c1 : CopyS.copyF (List.replicate 512 0 : List Int) 0 name = some (padf name 100 ++ (zs 7 ++ (zs 405))) := by
    unfold CopyS.copyF
    rw [eZ, copy_at [] _ _ name 0 rfl (by rw [zs_length]; exact h1), pad_of_zero]; rfl
  have lp := padf_length name 100 h1
  have lk := padf_length link 100 h3
  have lq := padf_length pre 155 h2
  have hm8 : CopyS.magicS.size = 8 := rfl
  have c2 := oct_f (padf name 100) (zs 7) (zs 405) mode 100 7 k (by omega) (by simp only [zs_length] <;> rfl) (by omega) (by omega) m0 (by omega) (by omega)
  have c3 := oct_f (padf name 100 ++ (od mode 7 ++ [0])) (zs 7) (zs 397) uid 108 7 k (by simp only [List.length_append, lp, lk, lq, od_length, sbytes_length, zs_length, List.length_cons, List.length_nil, hm8] <;> rfl) (by simp only [zs_length] <;> rfl) (by omega) (by omega) u0 (by omega) (by omega)
  have c4 := oct_f (padf name 100 ++ ((od mode 7 ++ [0]) ++ (od uid 7 ++ [0]))) (zs 7) (zs 389) gid 116 7 k (by simp only [List.length_append, lp, lk, lq, od_length, sbytes_length, zs_length, List.length_cons, List.length_nil, hm8] <;> rfl) (by simp only [zs_length] <;> rfl) (by omega) (by omega) g0 (by omega) (by omega)
  have c5 := oct_f (padf name 100 ++ ((od mode 7 ++ [0]) ++ ((od uid 7 ++ [0]) ++ (od gid 7 ++ [0])))) (zs 11) (zs 377) size 124 11 k (by simp only [List.length_append, lp, lk, lq, od_length, sbytes_length, zs_length, List.length_cons, List.length_nil, hm8] <;> rfl) (by simp only [zs_length] <;> rfl) (by omega) (by omega) s0 (by omega) (by omega)
  have c6 := oct_f (padf name 100 ++ ((od mode 7 ++ [0]) ++ ((od uid 7 ++ [0]) ++ ((od gid 7 ++ [0]) ++ (od size 11 ++ [0]))))) (zs 11) (zs 365) time 136 11 k (by simp only [List.length_append, lp, lk, lq, od_length, sbytes_length, zs_length, List.length_cons, List.length_nil, hm8] <;> rfl) (by simp only [zs_length] <;> rfl) (by omega) (by omega) t0 (by omega) (by omega)
  have c7 := set_at' (padf name 100 ++ ((od mode 7 ++ [0]) ++ ((od uid 7 ++ [0]) ++ ((od gid 7 ++ [0]) ++ ((od size 11 ++ [0]) ++ ((od time 11 ++ [0]) ++ zs 8)))))) (zs 355) 0 typ 156 (by simp only [List.length_append, lp, lk, lq, od_length, sbytes_length, zs_length, List.length_cons, List.length_nil, hm8] <;> rfl)
  have c8 := copy_at (padf name 100 ++ ((od mode 7 ++ [0]) ++ ((od uid 7 ++ [0]) ++ ((od gid 7 ++ [0]) ++ ((od size 11 ++ [0]) ++ ((od time 11 ++ [0]) ++ (zs 8 ++ [typ]))))))) (zs 100) (zs 255) link 157 (by simp only [List.length_append, lp, lk, lq, od_length, sbytes_length, zs_length, List.length_cons, List.length_nil, hm8] <;> rfl) (by rw [zs_length]; exact h3)
  rw [pad_of_zero] at c8
  have c9 := copy_at (padf name 100 ++ ((od mode 7 ++ [0]) ++ ((od uid 7 ++ [0]) ++ ((od gid 7 ++ [0]) ++ ((od size 11 ++ [0]) ++ ((od time 11 ++ [0]) ++ (zs 8 ++ ([typ] ++ padf link 100)))))))) (zs 8) (zs 247) CopyS.magicS 257 (by simp only [List.length_append, lp, lk, lq, od_length, sbytes_length, zs_length, List.length_cons, List.length_nil, hm8] <;> rfl) (by simp only [zs_length, hm8]; decide)
  have eM : sbytes CopyS.magicS ++ (zs 8).drop CopyS.magicS.size = sbytes CopyS.magicS := by rfl
  rw [eM] at c9
  have c10 := oct_f (padf name 100 ++ ((od mode 7 ++ [0]) ++ ((od uid 7 ++ [0]) ++ ((od gid 7 ++ [0]) ++ ((od size 11 ++ [0]) ++ ((od time 11 ++ [0]) ++ (zs 8 ++ ([typ] ++ (padf link 100 ++ (sbytes CopyS.magicS ++ zs 64)))))))))) (zs 7) (zs 176) 0 329 7 k (by simp only [List.length_append, lp, lk, lq, od_length, sbytes_length, zs_length, List.length_cons, List.length_nil, hm8] <;> rfl) (by simp only [zs_length] <;> rfl) (by omega) (by omega) (by omega) (by omega) (by omega)
  have c11 := oct_f (padf name 100 ++ ((od mode 7 ++ [0]) ++ ((od uid 7 ++ [0]) ++ ((od gid 7 ++ [0]) ++ ((od size 11 ++ [0]) ++ ((od time 11 ++ [0]) ++ (zs 8 ++ ([typ] ++ (padf link 100 ++ (sbytes CopyS.magicS ++ (zs 64 ++ (od 0 7 ++ [0])))))))))))) (zs 7) (zs 168) 0 337 7 k (by simp only [List.length_append, lp, lk, lq, od_length, sbytes_length, zs_length, List.length_cons, List.length_nil, hm8] <;> rfl) (by simp only [zs_length] <;> rfl) (by omega) (by omega) (by omega) (by omega) (by omega)
  have c12 := copy_at (padf name 100 ++ ((od mode 7 ++ [0]) ++ ((od uid 7 ++ [0]) ++ ((od gid 7 ++ [0]) ++ ((od size 11 ++ [0]) ++ ((od time 11 ++ [0]) ++ (zs 8 ++ ([typ] ++ (padf link 100 ++ (sbytes CopyS.magicS ++ (zs 64 ++ ((od 0 7 ++ [0]) ++ (od 0 7 ++ [0]))))))))))))) (zs 155) (zs 12) pre 345 (by simp only [List.length_append, lp, lk, lq, od_length, sbytes_length, zs_length, List.length_cons, List.length_nil, hm8] <;> rfl) (by rw [zs_length]; exact h2)
  rw [pad_of_zero] at c12
  have hB0 : By (zs 8) := By_zero 8
  have c13 := sum_f (blkS pre name mode uid gid size time typ link (zs 8)) (By_blk ht hB0) (by rw [blk_length h1 h2 h3 (zs_length 8)]; omega) k (by rw [blk_length h1 h2 h3 (zs_length 8)]; omega)
  have eS : sumS (blkS pre name mode uid gid size time typ link (zs 8)) = tot (blkS pre name mode uid gid size time typ link spaces) := by
    have q : ∀ s : List Int, s.length = 8 → blkS pre name mode uid gid size time typ link s = (padf name 100 ++ ((od mode 7 ++ [0]) ++ ((od uid 7 ++ [0]) ++ ((od gid 7 ++ [0]) ++ ((od size 11 ++ [0]) ++ (od time 11 ++ [0])))))) ++ (s ++ ([typ] ++ (padf link 100 ++ (sbytes magicS ++ (zs 64 ++ ((od 0 7 ++ [0]) ++ ((od 0 7 ++ [0]) ++ (padf pre 155 ++ zs 12)))))))) := by
      intro s _; unfold blkS blkOf; simp only [List.append_assoc]
    rw [q _ (zs_length 8), q spaces (by decide)]
    generalize hAA : (padf name 100 ++ ((od mode 7 ++ [0]) ++ ((od uid 7 ++ [0]) ++ ((od gid 7 ++ [0]) ++ ((od size 11 ++ [0]) ++ (od time 11 ++ [0])))))) = A
    have lA : A.length = 148 := by rw [← hAA]; exact (by simp only [List.length_append, lp, lk, lq, od_length, sbytes_length, zs_length, List.length_cons, List.length_nil, hm8] <;> rfl)
    generalize ([typ] ++ (padf link 100 ++ (sbytes magicS ++ (zs 64 ++ ((od 0 7 ++ [0]) ++ ((od 0 7 ++ [0]) ++ (padf pre 155 ++ zs 12))))))) = B
    unfold sumS
    have e1 : (A ++ (zs 8 ++ B)).take 148 = A := by rw [← lA]; exact List.take_left
    have e2 : (A ++ (zs 8 ++ B)).drop 156 = B := by
      rw [← List.append_assoc]; exact List.drop_left' (by rw [List.length_append, lA, zs_length])
    rw [e1, e2, tot_append, tot_append]
    have : tot spaces = 256 := by decide
    omega
  rw [eS] at c13
  have hT : 0 ≤ tot (blkS pre name mode uid gid size time typ link spaces) ∧ tot (blkS pre name mode uid gid size time typ link spaces) ≤ 255 * 512 := by
    have := tot_lt _ (By_blk (pre := pre) (name := name) (mode := mode) (uid := uid) (gid := gid) (size := size) (time := time) (link := link) ht (sum := spaces) (by intro x hx; have := List.eq_of_mem_replicate hx; omega))
    rw [blk_length h1 h2 h3 (by decide)] at this
    omega
  generalize hS : tot (blkS pre name mode uid gid size time typ link spaces) = S at *
  have c14 := oct_f (padf name 100 ++ ((od mode 7 ++ [0]) ++ ((od uid 7 ++ [0]) ++ ((od gid 7 ++ [0]) ++ ((od size 11 ++ [0]) ++ (od time 11 ++ [0])))))) (zs 6) ([0] ++ ([0] ++ ([typ] ++ (padf link 100 ++ (sbytes magicS ++ (zs 64 ++ ((od 0 7 ++ [0]) ++ ((od 0 7 ++ [0]) ++ (padf pre 155 ++ zs 12))))))))) S 148 6 k (by simp only [List.length_append, lp, lk, lq, od_length, sbytes_length, zs_length, List.length_cons, List.length_nil, hm8] <;> rfl) (by simp only [zs_length] <;> rfl) (by omega) (by omega) (by omega) (by omega) (by omega)
  have c15 := set_at' (padf name 100 ++ ((od mode 7 ++ [0]) ++ ((od uid 7 ++ [0]) ++ ((od gid 7 ++ [0]) ++ ((od size 11 ++ [0]) ++ ((od time 11 ++ [0]) ++ (od S 6 ++ [0]))))))) ([typ] ++ (padf link 100 ++ (sbytes magicS ++ (zs 64 ++ ((od 0 7 ++ [0]) ++ ((od 0 7 ++ [0]) ++ (padf pre 155 ++ zs 12))))))) 0 32 155 (by simp only [List.length_append, lp, lk, lq, od_length, sbytes_length, zs_length, List.length_cons, List.length_nil, hm8] <;> rfl)
  have z1 : zs 405 = [0] ++ (zs 7 ++ zs 397) := rfl
  have z2 : zs 397 = [0] ++ (zs 7 ++ zs 389) := rfl
  have z3 : zs 389 = [0] ++ (zs 11 ++ zs 377) := rfl
  have z4 : zs 377 = [0] ++ (zs 11 ++ zs 365) := rfl
  have z5 : zs 365 = [0] ++ (zs 8 ++ ([0] ++ zs 355)) := rfl
  have z6 : zs 355 = zs 100 ++ zs 255 := rfl
  have z7 : zs 255 = zs 8 ++ zs 247 := rfl
  have z8 : zs 247 = zs 64 ++ (zs 7 ++ zs 176) := rfl
  have z9 : zs 176 = [0] ++ (zs 7 ++ zs 168) := rfl
  have z10 : zs 168 = [0] ++ (zs 155 ++ zs 12) := rfl
  have z11 : zs 8 = zs 6 ++ ([0] ++ [0]) := rfl
  simp only [z1, z2, z3, z4, z5, z6, z7, z8, z9, z10, zs_length, List.append_assoc] at c1 c2 c3 c4 c5 c6 c7 c8 c9 c10 c11 c12
  have n512 : ((512 : Nat) : Int) = 512 := rfl
  have t156 : (156 : Int).toNat = 156 := rfl
  have t155 : (155 : Int).toNat = 155 := rfl
  have cf : ∀ l o s, CopyS.copyF l o s = some (copyL l o s) := fun _ _ _ => rfl
  have i1 : ((156 : Int) < 512) = True := eq_true (by decide)
  have i2 : ((157 : Int) ≤ 512) = True := eq_true (by decide)
  have i3 : ((257 : Int) ≤ 512) = True := eq_true (by decide)
  have i4 : ((345 : Int) ≤ 512) = True := eq_true (by decide)
  have i5 : ((155 : Int) < 512) = True := eq_true (by decide)
  have i6 : (512 ≤ 281474976710656) = True := eq_true (by decide)
  rw [cf] at c1
  have c1 := Option.some.inj c1
  unfold blkS blkOf at c13
  simp only [zs_length, List.append_assoc] at c13 c14 c15
  simp only [ustar_Encode.j0, c1, Option.bind_some, c2, c3, c4, c5, c6, c7, c8, c9, c10, c11, c12, cf, List.length_replicate, n512, t156, t155, Bool.false_eq_true, if_false, i1, i2, i3, i4, i5, i6, if_true]
  simp only [c13, Option.bind_some]
  simp only [z11, List.append_assoc, c14, Option.bind_some]
  rw [c15]
  unfold encS
  rw [hS]; unfold blkS blkOf sumF
  simp only [List.append_assoc]; rfl
end UP
namespace UP
end UP
namespace UP
open UM CopyS
theorem ty_link {size typ : Int} {link : ByteArray} (h : tyB size typ link = true) : link.size ≤ 100 := by
  unfold tyB at h
  split at h
  · unfold lkB at h
    simp only [Bool.and_eq_true, decide_eq_true_eq] at h
    exact h.1.2.1
  · split at h
    · simp only [Bool.and_eq_true, beq_iff_eq] at h; omega
    · split at h
      · simp only [beq_iff_eq] at h; omega
      · cases h
theorem fits_ty {mode uid gid size time typ : Int} {link : ByteArray} (h : fitsS mode uid gid size time typ link = true) : tyB size typ link = true := by
  unfold fitsS at h; simp only [Bool.and_eq_true] at h; exact h.2.2.2.2.2
/-- What Encode answers. -/
def encV (p : ByteArray) (mode uid gid size time typ : Int) (link : ByteArray) : List Int × Option Int :=
  if (splitS p).2.2 = true ∧ fitsS mode uid gid size time typ link = true then (encS (splitS p).1 (splitS p).2.1 mode uid gid size time typ link, none) else ([], some 14)
theorem enc_f (p : ByteArray) (mode uid gid size time typ : Int) (link : ByteArray) (hp : p.size ≤ 140737488351232) (ht : 0 ≤ typ ∧ typ < 256) (k : Nat) (hk : p.size + 700 ≤ k) :
    ustar_Encode.f k p mode uid gid size time typ link = some (encV p mode uid gid size time typ link) := by
  obtain ⟨k, rfl⟩ : ∃ j, k = j + 1 := ⟨k - 1, by omega⟩
  unfold ustar_Encode.f encV
  rw [split_f p hp (k + 1) (by omega), Option.bind_some]
  cases hS : (splitS p).2.2 with
  | false =>
    rw [if_neg (by decide), if_neg (fun h => by cases h.1)]
    simp only [ustar_Encode.j0, if_true]
  | true =>
    rw [if_pos rfl, fits_f _ _ _ _ _ _ _ _ (k + 1) (by omega), Option.bind_some]
    cases hF : fitsS mode uid gid size time typ link with
    | false =>
      rw [if_neg (fun h => by cases h.2)]
      simp only [ustar_Encode.j0, Bool.not_false, if_true]
    | true =>
      rw [if_pos ⟨rfl, rfl⟩]
      have s := split_ok hS
      exact enc_j k _ _ p mode uid gid size time typ link s.n2 s.p1 (ty_link (fits_ty hF)) ht hF (by omega)
/-! ### number, text -/
theorem rd_drop (l : List Int) (i : Nat) (h : i < l.length) : l.drop i = rd l (i : Int) :: l.drop (i + 1) := by
  rw [rd_at l i h]; exact List.drop_eq_getElem_cons h
theorem pow8 (i : Nat) (h : i ≤ 19) : (8 : Int) ^ i ≤ 8 ^ 19 := by
  have : (8 : Nat) ^ i ≤ 8 ^ 19 := Nat.pow_le_pow_right (by decide) h
  exact_mod_cast this
theorem num_l (X : List Int) (hb : By X) (hl : X.length ≤ 20) : ∀ (m i : Nat) (a : Int) (k : Nat), i + m = X.length → 0 ≤ a → a < 8 ^ i → m + 1 ≤ k →
    ustar_block_number.l0 k a X (X.length : Int) (i : Int) = some (num a (X.drop i)) := by
  intro m
  induction m with
  | zero =>
    intro i a k h1 h3 h4 hk
    obtain ⟨k, rfl⟩ : ∃ j, k = j + 1 := ⟨k - 1, by omega⟩
    simp only [ustar_block_number.l0]
    rw [if_neg (by omega), List.drop_eq_nil_of_le (by omega)]; rfl
  | succ m ih =>
    intro i a k h1 h3 h4 hk
    obtain ⟨k, rfl⟩ : ∃ j, k = j + 1 := ⟨k - 1, by omega⟩
    have hi : i < X.length := by omega
    have hr := rd_at X i hi
    have hbd := hb X[i] (List.getElem_mem hi)
    have hp : (8 : Int) ^ i ≤ 8 ^ 19 := pow8 i (by omega)
    have hq : (8 : Int) ^ 19 = 144115188075855872 := by decide
    have e1 : wrap64 ((i : Int) + 1) = ((i + 1 : Nat) : Int) := by rw [UP.w64 (by omega) (by omega)]; omega
    have e2 : Go.bits .or .i64 (wrap64 (a * 8)) (wrap64 (Go.bits .and .u8 (rd X (i : Int)) 7)) = a * 8 + X[i] % 8 := by
      rw [hr, and7b _ hbd.1 hbd.2, UP.w64 (n := X[i] % 8) (by omega) (by omega), UP.w64 (by omega) (by omega)]
      exact or8 a _ h3 (by omega) (by omega) (by omega)
    have e3 : num a (X.drop i) = num (a * 8 + X[i] % 8) (X.drop (i + 1)) := by rw [List.drop_eq_getElem_cons hi]; rfl
    simp only [ustar_block_number.l0, e1, e2, e3]
    rw [if_pos (by omega), if_pos (by omega), if_pos (by omega)]
    exact ih (i + 1) _ k (by omega) (by omega) (by rw [Int.pow_succ]; omega) (by omega)
/-- A field. -/
def fld (l : List Int) (p n : Nat) : List Int := (l.take (p + n)).drop p
theorem fld_length (l : List Int) (p n : Nat) (h : p + n ≤ l.length) : (fld l p n).length = n := by
  unfold fld; rw [List.length_drop, List.length_take]; omega
theorem By_fld {l : List Int} (h : By l) (p n : Nat) : By (fld l p n) := (h.take _).drop _
theorem num_f (l : List Int) (hb : By l) (hl : l.length = 512) (p n : Nat) (hpn : p + n ≤ 512) (hn : n ≤ 20) (k : Nat) (hk : 30 ≤ k) : ustar_block_number.f k l (p : Int) (n : Int) = some (num 0 (fld l p n)) := by
  unfold ustar_block_number.f
  have e : wrap64 ((p : Int) + (n : Int)) = ((p + n : Nat) : Int) := by rw [UP.w64 (by omega) (by omega)]; omega
  rw [e, hl, if_pos (by omega), if_pos (by omega), if_pos (by omega), Int.toNat_natCast, Int.toNat_natCast]
  have hf : (fld l p n).length = n := fld_length l p n (by omega)
  have := num_l (fld l p n) (By_fld hb p n) (by omega) (fld l p n).length 0 0 k (by omega) (by omega) (by decide) (by omega)
  rw [List.drop_zero] at this
  exact this
/-- A text field's text. -/
def txt (l : List Int) (p n : Nat) : ByteArray := strOfNums ((fld l p n).takeWhile Asc.nz)
theorem txt_f (l : List Int) (hl : l.length = 512) (p n : Nat) (hpn : p + n ≤ 512) (hn : 1 ≤ n) : ustar_block_text.f l (p : Int) (n : Int) = some (txt l p n) := by
  unfold ustar_block_text.f
  rw [if_pos (by omega)]
  unfold textB txt fld
  rw [show ((p : Int) + (n : Int)).toNat = p + n by omega, Int.toNat_natCast]
theorem txt_size (l : List Int) (p n : Nat) (h : p + n ≤ l.length) : (txt l p n).size ≤ n := by
  unfold txt; rw [strOfNums_size]
  have := List.takeWhile_sublist (p := Asc.nz) (l := fld l p n)
  have := this.length_le
  rw [fld_length l p n h] at this; exact this
def pathOf (pre name : ByteArray) : ByteArray := if pre.size = 0 then name else (pre ++ slash) ++ name
abbrev Out := ByteArray × Int × Int × Int × Int × Int × Int × ByteArray × Option Int
def bad : Out := ((⟨#[]⟩ : ByteArray), 0, 0, 0, 0, 0, 0, (⟨#[]⟩ : ByteArray), some 14)
/-- What Decode answers of a block. -/
def decV (l : List Int) : Out :=
  if (encV (pathOf (txt l 345 155) (txt l 0 100)) (num 0 (fld l 100 7)) (num 0 (fld l 108 7)) (num 0 (fld l 116 7)) (num 0 (fld l 124 11)) (num 0 (fld l 136 11)) (rd l 156) (txt l 157 100)) = (l, none) then
    (pathOf (txt l 345 155) (txt l 0 100), num 0 (fld l 100 7), num 0 (fld l 108 7), num 0 (fld l 116 7), num 0 (fld l 124 11), num 0 (fld l 136 11), rd l 156, txt l 157 100, none)
  else bad
theorem encV_none {p : ByteArray} {mode uid gid size time typ : Int} {link : ByteArray} (h : (encV p mode uid gid size time typ link).2 = none) : (splitS p).2.2 = true ∧ fitsS mode uid gid size time typ link = true ∧ encV p mode uid gid size time typ link = (encS (splitS p).1 (splitS p).2.1 mode uid gid size time typ link, none) := by
  unfold encV at h ⊢
  split at h
  · next hc => rw [if_pos hc]; exact ⟨hc.1, hc.2, rfl⟩
  · cases h
theorem encV_By {p : ByteArray} {mode uid gid size time typ : Int} {link : ByteArray} (ht : 0 ≤ typ ∧ typ < 256) : By (encV p mode uid gid size time typ link).1 := by
  unfold encV
  split
  · have z2 : By [0, 32] := fun x hx => by simp at hx; omega
    exact By_blk ht ((By_od _ _).append z2)
  · intro x hx; cases hx
theorem encV_length {p : ByteArray} {mode uid gid size time typ : Int} {link : ByteArray} (h : (encV p mode uid gid size time typ link).2 = none) : (encV p mode uid gid size time typ link).1.length = 512 := by
  obtain ⟨h1, h2, h3⟩ := encV_none h
  rw [h3]
  have s := split_ok h1
  exact blk_length s.n2 s.p1 (ty_link (fits_ty h2)) (by simp [sumF, od_length])
theorem dec_j (l : List Int) (hb : By l) (hl : l.length = 512) (p : ByteArray) (mode uid gid size time typ : Int) (link : ByteArray) (hp : p.size ≤ 1000) (ht : 0 ≤ typ ∧ typ < 256) (k : Nat) (hk : 2000 ≤ k) :
    ustar_Decode.j0 k l p mode uid gid size time typ link = some (if encV p mode uid gid size time typ link = (l, none) then (p, mode, uid, gid, size, time, typ, link, none) else bad) := by
  obtain ⟨k, rfl⟩ : ∃ j, k = j + 1 := ⟨k - 1, by omega⟩
  simp only [ustar_Decode.j0]
  rw [enc_f p mode uid gid size time typ link (by omega) ht k (by omega), Option.bind_some]
  cases hE : (encV p mode uid gid size time typ link).2 with
  | some v =>
    rw [if_neg (by simp), if_neg (fun h => by rw [h] at hE; cases hE)]; rfl
  | none =>
    rw [if_pos (by rfl)]
    simp only [bytes_Equal.f, Option.bind_some]
    by_cases hq : (encV p mode uid gid size time typ link).1 = l
    · rw [if_pos (by rw [hq]; exact beq_self_eq_true _), if_pos (by rw [← hq, ← hE])]
    · rw [if_neg (fun h => hq (str_inj (encV_By ht) hb (UM.toList_inj (eq_of_beq h)))), if_neg (fun h => hq (by rw [h]))]; rfl
theorem dec_f (l : List Int) (hb : By l) (hl : l.length = 512) (k : Nat) (hk : 2000 ≤ k) : ustar_Decode.f k l = some (decV l) := by
  unfold ustar_Decode.f
  have n1 := num_f l hb hl 100 7 (by omega) (by omega) k (by omega)
  have n2 := num_f l hb hl 108 7 (by omega) (by omega) k (by omega)
  have n3 := num_f l hb hl 116 7 (by omega) (by omega) k (by omega)
  have n4 := num_f l hb hl 124 11 (by omega) (by omega) k (by omega)
  have n5 := num_f l hb hl 136 11 (by omega) (by omega) k (by omega)
  have x1 := txt_f l hl 0 100 (by omega) (by omega)
  have x2 := txt_f l hl 157 100 (by omega) (by omega)
  have x3 := txt_f l hl 345 155 (by omega) (by omega)
  have ht : 0 ≤ rd l 156 ∧ rd l 156 < 256 := by
    have := rd_at l 156 (by omega)
    have q := hb l[156] (List.getElem_mem _)
    rw [show ((156 : Nat) : Int) = 156 by rfl] at this
    rw [this]; exact q
  have s1 := txt_size l 0 100 (by omega)
  have s3 := txt_size l 345 155 (by omega)
  rw [show ustar_block_number.f k l 100 7 = _ from n1, show ustar_block_number.f k l 108 7 = _ from n2, show ustar_block_number.f k l 116 7 = _ from n3, show ustar_block_number.f k l 124 11 = _ from n4, show ustar_block_number.f k l 136 11 = _ from n5,
    show ustar_block_text.f l 0 100 = _ from x1, show ustar_block_text.f l 157 100 = _ from x2, show ustar_block_text.f l 345 155 = _ from x3]
  simp only [Option.bind_some]
  rw [if_pos (by omega), if_pos (by omega)]
  by_cases h0 : (txt l 345 155).size = 0
  · rw [if_pos (size_nil.2 h0), dec_j l hb hl _ _ _ _ _ _ _ _ (by omega) ht k hk]
    unfold decV pathOf
    rw [if_pos h0]
  · have z1 : (txt l 345 155 ++ (⟨#[47]⟩ : ByteArray)).size = (txt l 345 155).size + 1 := by rw [ByteArray.size_append]; rfl
    rw [if_neg (fun h => h0 (size_nil.1 h)), if_pos (by omega), if_pos (by rw [z1]; omega), dec_j l hb hl _ _ _ _ _ _ _ _ (by rw [ByteArray.size_append, z1]; omega) ht k hk]
    unfold decV pathOf
    rw [if_neg h0]; rfl
/-! ### there and back -/
theorem tw (s : ByteArray) (hs : asciiB s = true) (n : Nat) : (padf s n).takeWhile Asc.nz = sbytes s := by
  unfold padf
  have h1 : ∀ c ∈ sbytes s, Asc.nz c = true := by
    intro c hc
    unfold sbytes at hc
    obtain ⟨b, hb, rfl⟩ := List.mem_map.1 hc
    have := (ascii_mem.1 hs b hb).1
    unfold Asc.nz
    simp [this]
  rw [List.takeWhile_append_of_pos h1]
  cases n - s.size with
  | zero => simp
  | succ m => rw [List.replicate_succ, List.takeWhile_cons_of_neg (by decide)]; simp
theorem pathOf_eq {p pre name : ByteArray} (s : Sp p pre name) : pathOf pre name = p := by
  unfold pathOf
  rcases s.j with ⟨h1, h2, _⟩ | ⟨h1, h2, _⟩
  · rw [h1, if_pos (by decide), h2]
  · rw [if_neg (by omega), h2]
theorem fld_of (A X B L : List Int) (p n : Nat) (h : L = A ++ (X ++ B)) (hp : A.length = p) (hn : X.length = n) : fld L p n = X := by
  rw [h]; exact seg A X B p n hp hn
theorem num0 (n : Int) (d : Nat) (h0 : 0 ≤ n) (h1 : n < 8 ^ d) : num 0 (od n d) = n := by
  rw [num_od n h0 d 0, Int.emod_eq_of_lt h0 h1]; omega
/-- What is read in a block. -/
theorem reads {pre name : ByteArray} {mode uid gid size time typ : Int} {link : ByteArray} {sum : List Int} (h1 : name.size ≤ 100) (h2 : pre.size ≤ 155) (h3 : link.size ≤ 100) (h4 : sum.length = 8) (L : List Int) (hL : blkS pre name mode uid gid size time typ link sum = L) :
    fld L 0 100 = padf name 100 ∧ fld L 100 7 = od mode 7 ∧ fld L 108 7 = od uid 7 ∧ fld L 116 7 = od gid 7 ∧ fld L 124 11 = od size 11 ∧ fld L 136 11 = od time 11 ∧ rd L 156 = typ ∧ fld L 157 100 = padf link 100 ∧ fld L 345 155 = padf pre 155 := by
  have lp := padf_length name 100 h1
  have lk := padf_length link 100 h3
  have lq := padf_length pre 155 h2
  have hm8 : CopyS.magicS.size = 8 := rfl
  unfold blkS blkOf at hL
  refine ⟨?_, ?_, ?_, ?_, ?_, ?_, ?_, ?_, ?_⟩
  · exact fld_of [] (padf name 100) _ L 0 100 hL.symm rfl lp
  · refine fld_of (padf name 100) (od mode 7) ([0] ++ ((od uid 7 ++ [0]) ++ ((od gid 7 ++ [0]) ++ ((od size 11 ++ [0]) ++ ((od time 11 ++ [0]) ++ (sum ++ ([typ] ++ (padf link 100 ++ (sbytes magicS ++ (zs 64 ++ ((od 0 7 ++ [0]) ++ ((od 0 7 ++ [0]) ++ (padf pre 155 ++ zs 12))))))))))))) L 100 7 ?_ lp (od_length _ _)
    rw [← hL]; simp only [List.append_assoc]
  · refine fld_of (padf name 100 ++ (od mode 7 ++ [0])) (od uid 7) ([0] ++ ((od gid 7 ++ [0]) ++ ((od size 11 ++ [0]) ++ ((od time 11 ++ [0]) ++ (sum ++ ([typ] ++ (padf link 100 ++ (sbytes magicS ++ (zs 64 ++ ((od 0 7 ++ [0]) ++ ((od 0 7 ++ [0]) ++ (padf pre 155 ++ zs 12)))))))))))) L 108 7 ?_ ?_ (od_length _ _)
    · rw [← hL]; simp only [List.append_assoc]
    · simp only [List.length_append, lp, od_length, List.length_cons, List.length_nil]
  · refine fld_of (padf name 100 ++ ((od mode 7 ++ [0]) ++ (od uid 7 ++ [0]))) (od gid 7) ([0] ++ ((od size 11 ++ [0]) ++ ((od time 11 ++ [0]) ++ (sum ++ ([typ] ++ (padf link 100 ++ (sbytes magicS ++ (zs 64 ++ ((od 0 7 ++ [0]) ++ ((od 0 7 ++ [0]) ++ (padf pre 155 ++ zs 12))))))))))) L 116 7 ?_ ?_ (od_length _ _)
    · rw [← hL]; simp only [List.append_assoc]
    · simp only [List.length_append, lp, od_length, List.length_cons, List.length_nil]
  · refine fld_of (padf name 100 ++ ((od mode 7 ++ [0]) ++ ((od uid 7 ++ [0]) ++ (od gid 7 ++ [0])))) (od size 11) ([0] ++ ((od time 11 ++ [0]) ++ (sum ++ ([typ] ++ (padf link 100 ++ (sbytes magicS ++ (zs 64 ++ ((od 0 7 ++ [0]) ++ ((od 0 7 ++ [0]) ++ (padf pre 155 ++ zs 12)))))))))) L 124 11 ?_ ?_ (od_length _ _)
    · rw [← hL]; simp only [List.append_assoc]
    · simp only [List.length_append, lp, od_length, List.length_cons, List.length_nil]
  · refine fld_of (padf name 100 ++ ((od mode 7 ++ [0]) ++ ((od uid 7 ++ [0]) ++ ((od gid 7 ++ [0]) ++ (od size 11 ++ [0]))))) (od time 11) ([0] ++ (sum ++ ([typ] ++ (padf link 100 ++ (sbytes magicS ++ (zs 64 ++ ((od 0 7 ++ [0]) ++ ((od 0 7 ++ [0]) ++ (padf pre 155 ++ zs 12))))))))) L 136 11 ?_ ?_ (od_length _ _)
    · rw [← hL]; simp only [List.append_assoc]
    · simp only [List.length_append, lp, od_length, List.length_cons, List.length_nil]
  · have e : L = (padf name 100 ++ ((od mode 7 ++ [0]) ++ ((od uid 7 ++ [0]) ++ ((od gid 7 ++ [0]) ++ ((od size 11 ++ [0]) ++ ((od time 11 ++ [0]) ++ sum)))))) ++ (typ :: (padf link 100 ++ (sbytes magicS ++ (zs 64 ++ ((od 0 7 ++ [0]) ++ ((od 0 7 ++ [0]) ++ (padf pre 155 ++ zs 12))))))) := by
      rw [← hL]; simp only [List.append_assoc]; rfl
    have l : (padf name 100 ++ ((od mode 7 ++ [0]) ++ ((od uid 7 ++ [0]) ++ ((od gid 7 ++ [0]) ++ ((od size 11 ++ [0]) ++ ((od time 11 ++ [0]) ++ sum)))))).length = 156 := by
      simp only [List.length_append, lp, od_length, List.length_cons, List.length_nil, h4]
    rw [e]
    show List.getD _ 156 0 = typ
    rw [List.getD_eq_getElem?_getD, ← l, List.getElem?_append_right (Nat.le_refl _), Nat.sub_self]; rfl
  · refine fld_of (padf name 100 ++ ((od mode 7 ++ [0]) ++ ((od uid 7 ++ [0]) ++ ((od gid 7 ++ [0]) ++ ((od size 11 ++ [0]) ++ ((od time 11 ++ [0]) ++ (sum ++ [typ]))))))) (padf link 100) (sbytes magicS ++ (zs 64 ++ ((od 0 7 ++ [0]) ++ ((od 0 7 ++ [0]) ++ (padf pre 155 ++ zs 12))))) L 157 100 ?_ ?_ lk
    · rw [← hL]; simp only [List.append_assoc]
    · simp only [List.length_append, lp, od_length, List.length_cons, List.length_nil, h4]
  · refine fld_of (padf name 100 ++ ((od mode 7 ++ [0]) ++ ((od uid 7 ++ [0]) ++ ((od gid 7 ++ [0]) ++ ((od size 11 ++ [0]) ++ ((od time 11 ++ [0]) ++ (sum ++ ([typ] ++ (padf link 100 ++ (sbytes magicS ++ (zs 64 ++ ((od 0 7 ++ [0]) ++ (od 0 7 ++ [0])))))))))))))  (padf pre 155) (zs 12) L 345 155 ?_ ?_ lq
    · rw [← hL]; simp only [List.append_assoc]
    · simp only [List.length_append, lp, lk, hm8, sbytes_length, zs_length, od_length, List.length_cons, List.length_nil, h4]
theorem ty_ascii {size typ : Int} {link : ByteArray} (h : tyB size typ link = true) : asciiB link = true := by
  have h0 : link.size = 0 → asciiB link = true := by
    intro h
    have : link = ⟨#[]⟩ := by apply ByteArray.ext; apply Array.eq_empty_of_size_eq_zero; exact h
    rw [this]; rfl
  unfold tyB at h
  split at h
  · unfold lkB at h
    simp only [Bool.and_eq_true, decide_eq_true_eq] at h
    exact h.1.2.2
  · split at h
    · simp only [Bool.and_eq_true, beq_iff_eq] at h; exact h0 h.1
    · split at h
      · simp only [beq_iff_eq] at h; exact h0 h
      · cases h
theorem dec_enc {p : ByteArray} {mode uid gid size time typ : Int} {link : ByteArray} {x : List Int} (h : encV p mode uid gid size time typ link = (x, none)) :
    decV x = (p, mode, uid, gid, size, time, typ, link, none) := by
  obtain ⟨h1, h2, h3⟩ := encV_none (show (encV p mode uid gid size time typ link).2 = none by rw [h])
  rw [h] at h3
  have hx : x = encS (splitS p).1 (splitS p).2.1 mode uid gid size time typ link := congrArg Prod.fst h3
  have s := split_ok h1
  have hl := ty_link (fits_ty h2)
  have ha := ty_ascii (fits_ty h2)
  have hf := h2
  unfold fitsS idB tmB at hf
  simp only [Bool.and_eq_true, decide_eq_true_eq] at hf
  obtain ⟨⟨m0, m1⟩, ⟨u0, u1⟩, ⟨g0, g1⟩, ⟨s0, s1⟩, ⟨t0, t1⟩, _⟩ := hf
  unfold encS at hx
  obtain ⟨r1, r2, r3, r4, r5, r6, r7, r8, r9⟩ := reads (pre := (splitS p).1) (name := (splitS p).2.1) s.n2 s.p1 hl (by simp [sumF, od_length]) x hx.symm
  have p7 : (8 : Int) ^ 7 = 2097152 := by decide
  have p11 : (8 : Int) ^ 11 = 8589934592 := by decide
  have e1 : txt x 0 100 = (splitS p).2.1 := by unfold txt; rw [r1, tw _ s.an, str_sb]
  have e2 : txt x 157 100 = link := by unfold txt; rw [r8, tw _ ha, str_sb]
  have e3 : txt x 345 155 = (splitS p).1 := by unfold txt; rw [r9, tw _ s.ap, str_sb]
  unfold decV
  rw [e1, e2, e3, r2, r3, r4, r5, r6, r7, pathOf_eq s, num0 mode 7 m0 (by omega), num0 uid 7 u0 (by omega), num0 gid 7 g0 (by omega), num0 size 11 s0 (by omega), num0 time 11 t0 (by omega), if_pos h]
theorem dec_ok {l : List Int} {p : ByteArray} {mode uid gid size time typ : Int} {link : ByteArray} (h : decV l = (p, mode, uid, gid, size, time, typ, link, none)) : encV p mode uid gid size time typ link = (l, none) := by
  unfold decV at h
  split at h
  · next hc =>
    simp only [Prod.mk.injEq, and_true] at h
    obtain ⟨a, b, c, d, e, f, g, i⟩ := h
    rw [← a, ← b, ← c, ← d, ← e, ← f, ← g, ← i]; exact hc
  · unfold bad at h; simp at h
theorem dec_either (l : List Int) : decV l = bad ∨ ∃ p mode uid gid size time typ link, decV l = (p, mode, uid, gid, size, time, typ, link, none) := by
  unfold decV
  split
  · exact .inr ⟨_, _, _, _, _, _, _, _, rfl⟩
  · exact .inl rfl
theorem str_append (a b : List Int) : strOfNums (a ++ b) = strOfNums a ++ strOfNums b := by
  unfold strOfNums; apply ByteArray.ext; simp
theorem empty_append (s : ByteArray) : (⟨#[]⟩ : ByteArray) ++ s = s := by apply ByteArray.ext; simp
end UP
end Go.Proofs.Ytkdklgcjimnabaa.PUstar
