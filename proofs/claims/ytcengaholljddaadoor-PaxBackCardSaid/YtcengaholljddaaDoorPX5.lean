import Derived.Test.YtcengaholljddaaDoorPX4
import Derived.Test.YtcengaholljddaaDoorPX3
namespace Go.Proofs.YtcengaholljddaaDoor
open Go.RowKit Go.Proofs.YtcengaholljddaaDoor.PPax Go.Proofs.YtcengaholljddaaDoorW.PrintWords Go.Proofs.YtcengaholljddaaDoorW.PrintLast
namespace PX
/-! ### a line's bytes -/
abbrev bl (s : ByteArray) : List UInt8 := s.data.toList
theorem bl_inj {s t : ByteArray} (h : bl s = bl t) : s = t := by apply ByteArray.ext; apply Array.ext'; exact h
theorem bl_append (s t : ByteArray) : bl (s ++ t) = bl s ++ bl t := by show (s ++ t).data.toList = _; rw [ByteArray.data_append, Array.toList_append]
theorem bl_ext (s : ByteArray) (a b : Nat) : bl (s.extract a b) = ((bl s).drop a).take (b - a) := by
  show (s.extract a b).data.toList = _
  rw [ByteArray.data_extract, Array.toList_extract, List.extract_eq_take_drop]
theorem bl_str (l : List Int) : bl (strOfNums l) = Lib.bytesOf l := by
  rw [← Lib.strOfNums_toList, ByteArray.toList_eq]
theorem bl_len (s : ByteArray) : (bl s).length = s.size := data_length s
/-- A line's bytes. -/
def bytesL (n : Nat) (key val : ByteArray) : List UInt8 := Lib.decDigits n ++ 32 :: (bl key ++ 61 :: (bl val ++ [10]))
theorem lineB_shape {key val L : ByteArray} (h : lineB key val = some L) : bl L = bytesL L.size key val ∧ L.size ≤ 65536 ∧ kwB key = true ∧ 5 ≤ L.size := by
  unfold lineB at h
  split at h
  case isFalse => cases h
  rename_i hc
  obtain ⟨h1, h2, h3⟩ := hc
  have h := Option.some.inj h
  have hz := restB_size key val
  have hd := dgs_le (restB key val).size
  have hk := kwB_size h1
  have hs : L.size = (restB key val).size + dgs (restB key val).size := by
    rw [← h, ByteArray.size_append, itoaB_size, dgs_nd _ (by omega)]; omega
  refine ⟨?_, by omega, h1, by omega⟩
  rw [hs, ← h, bl_append]
  unfold bytesL
  have e : bl (itoaB (((restB key val).size + dgs (restB key val).size : Nat) : Int)) = Lib.decDigits ((restB key val).size + dgs (restB key val).size) := by unfold itoaB; rw [Lib.itoa_nonneg]
  rw [e]
  unfold restB; simp only [bl_append, List.append_assoc]; rfl
theorem dig_digit (u : Nat) : ∀ c ∈ Lib.decDigits u, 48 ≤ c.toNat ∧ c.toNat ≤ 57 := by
  induction u using Nat.strongRecOn with
  | _ u ih =>
    intro c hc
    rw [Lib.decDigits] at hc
    split at hc
    · next h =>
      obtain rfl := List.mem_singleton.1 hc
      have : (UInt8.ofNat (48 + u)).toNat = 48 + u := by simp; omega
      omega
    · next h =>
      rcases List.mem_append.1 hc with hc | hc
      · exact ih (u / 10) (by omega) c hc
      · obtain rfl := List.mem_singleton.1 hc
        have : (UInt8.ofNat (48 + u % 10)).toNat = 48 + u % 10 := by simp; omega
        omega
def numU (a : Nat) (l : List UInt8) : Nat := l.foldl (fun a c => a * 10 + (c.toNat - 48)) a
theorem parse_dig : ∀ (l : List UInt8) (a : Nat), (∀ c ∈ l, 48 ≤ c.toNat ∧ c.toNat ≤ 57) → (a + 1) * 10 ^ l.length ≤ 1000000000000000000 → Lib.parseUint10 a l = .ok (numU a l) := by
  intro l
  induction l with
  | nil => intro a _ _; rfl
  | cons c r ih =>
    intro a hd ha
    have hc := hd c (List.mem_cons_self)
    rw [List.length_cons, Nat.pow_succ, Nat.mul_comm (10 ^ r.length) 10, ← Nat.mul_assoc] at ha
    have hp : 1 ≤ 10 ^ r.length := Nat.one_le_pow _ _ (by decide)
    have h1 : (a + 1) * 10 ≤ (a + 1) * 10 * 10 ^ r.length := Nat.le_mul_of_pos_right _ hp
    have h2 : (a * 10 + (c.toNat - 48) + 1) * 10 ^ r.length ≤ (a + 1) * 10 * 10 ^ r.length := Nat.mul_le_mul_right _ (by omega)
    simp only [Lib.parseUint10]
    rw [if_pos hc, if_neg (by omega), if_neg (by omega), ih _ (fun c hc => hd c (List.mem_cons_of_mem _ hc)) (by omega)]
    rfl
theorem numU_dig (u : Nat) : numU 0 (Lib.decDigits u) = u := by
  induction u using Nat.strongRecOn with
  | _ u ih =>
    rw [Lib.decDigits]
    split
    · next h =>
      show 0 * 10 + ((UInt8.ofNat (48 + u)).toNat - 48) = u
      have : (UInt8.ofNat (48 + u)).toNat = 48 + u := by simp; omega
      omega
    · next h =>
      unfold numU
      rw [List.foldl_append]
      show (numU 0 (Lib.decDigits (u / 10))) * 10 + ((UInt8.ofNat (48 + u % 10)).toNat - 48) = u
      rw [ih (u / 10) (by omega)]
      have : (UInt8.ofNat (48 + u % 10)).toNat = 48 + u % 10 := by simp; omega
      omega
theorem dig_ne (u : Nat) : Lib.decDigits u ≠ [] := by
  intro h; have := Lib.decDigits_length u; rw [h] at this; have := Lib.nDigits_pos u; simp at *; omega
theorem atoi_dig (u : Nat) (h : u < 100000) : Lib.atoiAll (Lib.decDigits u) = .ok (u : Int) := by
  have hl : (Lib.decDigits u).length ≤ 5 := by rw [Lib.decDigits_length]; exact nd_le u h
  have hp : Lib.parseUint10 0 (Lib.decDigits u) = .ok u := by
    rw [parse_dig _ 0 (dig_digit u) (by
      have : (10 : Nat) ^ (Lib.decDigits u).length ≤ 10 ^ 5 := Nat.pow_le_pow_right (by omega) hl
      have e : (10 : Nat) ^ 5 = 100000 := by decide
      omega), numU_dig]
  have hne := dig_ne u
  have hd := dig_digit u
  cases hc : Lib.decDigits u with
  | nil => exact absurd hc hne
  | cons c r =>
    rw [hc] at hp hd
    have h1 := hd c List.mem_cons_self
    unfold Lib.atoiAll
    simp only []
    rw [if_neg (by omega)]
    unfold Lib.parseMag
    rw [if_neg (by simp), hp]
    simp only []
    rw [if_neg (by omega), if_neg (by omega), if_neg (by omega)]
theorem index_app : ∀ (A B : List UInt8) (c : UInt8), (∀ x ∈ A, x ≠ c) → Lib.indexByte (A ++ c :: B) c = (A.length : Int) := by
  intro A B c
  induction A with
  | nil => intro _; show (if (c == c) = true then (0 : Int) else _) = _; rw [if_pos (by simp)]; rfl
  | cons a r ih =>
    intro h
    have ih := ih (fun x hx => h x (List.mem_cons_of_mem _ hx))
    show (if (a == c) = true then (0 : Int) else if (Lib.indexByte (r ++ c :: B) c == -1) = true then -1 else Lib.indexByte (r ++ c :: B) c + 1) = _
    rw [if_neg (by simp; exact h a List.mem_cons_self), ih, if_neg (by rw [beq_iff_eq]; omega)]
    rw [List.length_cons]; omega
/-! ### what a line's beginning says -/
def Line (B : List UInt8) (key val : ByteArray) (n : Nat) : Prop := ∃ L, lineB key val = some L ∧ L.size = n ∧ bl L = B.take n
theorem Line.at {B : List UInt8} {key val : ByteArray} {n : Nat} (h : Line B key val n) : B.take n = bytesL n key val ∧ n ≤ B.length ∧ 5 ≤ n ∧ n ≤ 65536 ∧ kwB key = true := by
  obtain ⟨L, h1, rfl, h2⟩ := h
  obtain ⟨a, b, c, d⟩ := lineB_shape h1
  refine ⟨h2 ▸ a, ?_, d, b, c⟩
  have := congrArg List.length h2
  rw [bl_len, List.length_take] at this
  omega
theorem bytesL_length (n : Nat) (key val : ByteArray) : (bytesL n key val).length = Lib.nDigits n + key.size + val.size + 3 := by
  unfold bytesL
  simp only [List.length_append, List.length_cons, Lib.decDigits_length, bl_len, List.length_nil]
  omega
theorem dig_no32 (u : Nat) : ∀ x ∈ Lib.decDigits u, x ≠ 32 := by
  intro x hx h
  have := dig_digit u x hx
  rw [h] at this; have e : (32 : UInt8).toNat = 32 := rfl; omega
theorem key_no61 {key : ByteArray} (h : kwB key = true) : ∀ x ∈ bl key, x ≠ 61 := by
  intro x hx e
  unfold kwB at h; simp only [Bool.and_eq_true, decide_eq_true_eq] at h
  have := List.all_eq_true.1 h.2.2 x hx
  rw [e] at this; exact absurd this (by decide)
end PX
end Go.Proofs.YtcengaholljddaaDoor
