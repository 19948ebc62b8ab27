/- Ustar's blocks as lists of numbers, with no program in sight: octal digits, fields, the sum. Conditions: as each theorem says. -/
import Derived.Test.YtkdklgcjimnabaaCopyS
namespace Go.Proofs.Ytkdklgcjimnabaa.UM
open Go.RowKit Go.Proofs.YtkdklgcjimnabaaW.PrintWords Go.Proofs.Ytkdklgcjimnabaa.CopyS
set_option linter.unusedVariables false
set_option linter.unusedSimpArgs false
theorem w64 {n : Int} (h0 : -9223372036854775808 ≤ n) (h1 : n < 9223372036854775808) : wrap64 n = n := by
  unfold wrap64; omega
theorem and7 (n : Int) (h0 : 0 ≤ n) (h1 : n < 9223372036854775808) : Go.bits .and .i64 n 7 = n % 8 := by
  obtain ⟨a, rfl⟩ := Int.eq_ofNat_of_zero_le h0
  have hb : (BitVec.ofInt 64 (a : Int)).toNat = a := by
    rw [BitVec.ofInt_natCast, BitVec.toNat_ofNat]; exact Nat.mod_eq_of_lt (by omega)
  have h7 : (BitVec.ofInt 64 (7 : Int)).toNat = 7 := by decide
  show IntKind.i64.wrap ((BitVec.ofInt 64 (a : Int) &&& BitVec.ofInt 64 (7 : Int)).toNat : Int) = _
  rw [BitVec.toNat_and, hb, h7]
  have e : a &&& 7 = a % 8 := Nat.and_two_pow_sub_one_eq_mod a 3
  rw [e]
  have hi : IntKind.i64.wrap ((a % 8 : Nat) : Int) = wrap64 ((a % 8 : Nat) : Int) := by unfold wrap64; exact IntKind.wrap_i64 _
  rw [hi, w64 (by omega) (by omega)]
  omega
theorem and7b (n : Int) (h0 : 0 ≤ n) (h1 : n < 256) : Go.bits .and .u8 n 7 = n % 8 := by
  obtain ⟨a, rfl⟩ := Int.eq_ofNat_of_zero_le h0
  have hb : (BitVec.ofInt 8 (a : Int)).toNat = a := by
    rw [BitVec.ofInt_natCast, BitVec.toNat_ofNat]; exact Nat.mod_eq_of_lt (by omega)
  have h7 : (BitVec.ofInt 8 (7 : Int)).toNat = 7 := by decide
  show IntKind.u8.wrap ((BitVec.ofInt 8 (a : Int) &&& BitVec.ofInt 8 (7 : Int)).toNat : Int) = _
  rw [BitVec.toNat_and, hb, h7]
  have e : a &&& 7 = a % 8 := Nat.and_two_pow_sub_one_eq_mod a 3
  rw [e, IntKind.wrap_u8]
  omega
theorem or8 (a c : Int) (h0 : 0 ≤ a) (h1 : a < 1152921504606846976) (h2 : 0 ≤ c) (h3 : c < 8) : Go.bits .or .i64 (a * 8) c = a * 8 + c := by
  obtain ⟨a, rfl⟩ := Int.eq_ofNat_of_zero_le h0
  obtain ⟨c, rfl⟩ := Int.eq_ofNat_of_zero_le h2
  have hb : (BitVec.ofInt 64 ((a : Int) * 8)).toNat = a * 8 := by
    have : ((a : Int) * 8) = ((a * 8 : Nat) : Int) := by omega
    rw [this, BitVec.ofInt_natCast, BitVec.toNat_ofNat]; exact Nat.mod_eq_of_lt (by omega)
  have hc : (BitVec.ofInt 64 (c : Int)).toNat = c := by
    rw [BitVec.ofInt_natCast, BitVec.toNat_ofNat]; exact Nat.mod_eq_of_lt (by omega)
  show IntKind.i64.wrap ((BitVec.ofInt 64 ((a : Int) * 8) ||| BitVec.ofInt 64 (c : Int)).toNat : Int) = _
  rw [BitVec.toNat_or, hb, hc]
  have e : a * 8 ||| c = a * 8 + c := by
    have := Nat.two_pow_add_eq_or_of_lt (i := 3) (b := c) (by omega) a
    rw [show a * 8 = 2 ^ 3 * a by omega]; exact this.symm
  rw [e]
  have hi : IntKind.i64.wrap ((a * 8 + c : Nat) : Int) = wrap64 ((a * 8 + c : Nat) : Int) := by unfold wrap64; exact IntKind.wrap_i64 _
  rw [hi, w64 (by omega) (by omega)]
  omega
/-- The last `d` octal digits of `n`. -/
def od (n : Int) : Nat → List Int
  | 0 => []
  | d + 1 => od (n / 8) d ++ [48 + n % 8]
theorem od_length (n : Int) (d : Nat) : (od n d).length = d := by
  induction d generalizing n with
  | zero => rfl
  | succ d ih => simp [od, ih]
/-- All are bytes. -/
def By (l : List Int) : Prop := ∀ x ∈ l, 0 ≤ x ∧ x < 256
theorem By.append {a b : List Int} (h : By a) (k : By b) : By (a ++ b) := fun x hx => (List.mem_append.1 hx).elim (h x) (k x)
theorem By.left {a b : List Int} (h : By (a ++ b)) : By a := fun x hx => h x (List.mem_append_left _ hx)
theorem By.right {a b : List Int} (h : By (a ++ b)) : By b := fun x hx => h x (List.mem_append_right _ hx)
theorem By.take {a : List Int} (h : By a) (n : Nat) : By (a.take n) := fun x hx => h x (List.mem_of_mem_take hx)
theorem By.drop {a : List Int} (h : By a) (n : Nat) : By (a.drop n) := fun x hx => h x (List.mem_of_mem_drop hx)
theorem By_od (n : Int) (d : Nat) : By (od n d) := by
  induction d generalizing n with
  | zero => intro x hx; cases hx
  | succ d ih => exact (ih _).append (fun x hx => by simp at hx; omega)
theorem By_zero (n : Nat) : By (List.replicate n 0) := fun x hx => by have := List.eq_of_mem_replicate hx; omega
theorem By_sb (s : ByteArray) : By (sbytes s) := fun x hx => by
  unfold sbytes at hx; obtain ⟨b, _, rfl⟩ := List.mem_map.1 hx
  have := b.toNat_lt; omega
/-- A digit is one. -/
def oct (c : Int) : Bool := decide (48 ≤ c) && decide (c ≤ 55)
theorem od_oct (n : Int) (d : Nat) : ∀ c ∈ od n d, 48 ≤ c ∧ c ≤ 55 := by
  induction d generalizing n with
  | zero => intro x hx; cases hx
  | succ d ih => intro x hx; rcases List.mem_append.1 hx with h | h; exact ih _ x h; simp at h; omega
/-- The number that digits say. -/
def num (a : Int) : List Int → Int
  | [] => a
  | c :: r => num (a * 8 + c % 8) r
theorem num_append (a : Int) (x y : List Int) : num a (x ++ y) = num (num a x) y := by
  induction x generalizing a with
  | nil => rfl
  | cons c r ih => exact ih _
theorem num_od (n : Int) (h : 0 ≤ n) (d : Nat) (a : Int) : num a (od n d) = a * 8 ^ d + n % 8 ^ d := by
  induction d generalizing n with
  | zero => simp [od, num]
  | succ d ih =>
    rw [od, num_append, ih _ (by omega)]
    show (a * 8 ^ d + n / 8 % 8 ^ d) * 8 + (48 + n % 8) % 8 = _
    have e : n % 8 ^ (d + 1) = n / 8 % 8 ^ d * 8 + n % 8 := by
      have e1 : (8 : Int) ^ (d + 1) = 8 * 8 ^ d := by rw [Int.pow_succ]; omega
      rw [e1]
      have hp : (0 : Int) < 8 ^ d := Int.pow_pos (by decide)
      generalize (8 : Int) ^ d = P at hp
      have e2 := Int.mul_ediv_add_emod n 8
      have e3 := Int.mul_ediv_add_emod (n / 8) P
      have b1 := Int.emod_nonneg (n / 8) (by omega : P ≠ 0)
      have b2 := Int.emod_lt_of_pos (n / 8) hp
      have : n = (8 * P) * (n / 8 / P) + (n / 8 % P * 8 + n % 8) := by
        rw [Int.mul_assoc]; omega
      conv => lhs; rw [this]
      rw [Int.mul_add_emod_self_left]
      exact Int.emod_eq_of_lt (by omega) (by omega)
    have q : a * 8 ^ (d + 1) = a * 8 ^ d * 8 := by rw [Int.pow_succ, Int.mul_assoc]
    show _ = a * 8 ^ (d + 1) + n % 8 ^ (d + 1)
    rw [e, q, Int.add_mul]
    omega
theorem num_lt (a : Int) (h0 : 0 ≤ a) (x : List Int) : 0 ≤ num a x ∧ num a x < (a + 1) * 8 ^ x.length := by
  induction x generalizing a with
  | nil => simp [num]; omega
  | cons c r ih =>
    have := ih (a * 8 + c % 8) (by omega)
    refine ⟨this.1, Int.lt_of_lt_of_le this.2 ?_⟩
    show _ ≤ (a + 1) * 8 ^ (r.length + 1)
    rw [Int.pow_succ, show (a + 1) * (8 ^ r.length * 8) = ((a + 1) * 8) * 8 ^ r.length by rw [Int.mul_assoc, Int.mul_comm 8]]
    exact Int.mul_le_mul_of_nonneg_right (by omega) (Int.le_of_lt (Int.pow_pos (by decide)))
theorem od_num (x : List Int) (hx : ∀ c ∈ x, 48 ≤ c ∧ c ≤ 55) (a : Int) : od (num a x) x.length = x := by
  suffices H : ∀ (n : Nat) (x : List Int), x.length = n → (∀ c ∈ x, 48 ≤ c ∧ c ≤ 55) → od (num a x) n = x by exact H _ x rfl hx
  intro n
  induction n with
  | zero => intro x hl _; rw [List.eq_nil_of_length_eq_zero hl]; rfl
  | succ n ih =>
    intro x hl hx
    have hne : x ≠ [] := fun h => by rw [h] at hl; cases hl
    obtain ⟨y, c, rfl⟩ : ∃ y c, x = y ++ [c] := ⟨_, _, (List.dropLast_concat_getLast hne).symm⟩
    have hc := hx c (by simp)
    rw [num_append]
    show od (num a y * 8 + c % 8) (n + 1) = _
    rw [od, show (num a y * 8 + c % 8) / 8 = num a y by omega, ih y (by simpa using hl) (fun d hd => hx d (by simp [hd])), show 48 + (num a y * 8 + c % 8) % 8 = c by omega]
/-- A field out of a row of fields. -/
theorem seg (A X B : List Int) (p n : Nat) (hp : A.length = p) (hn : X.length = n) : ((A ++ (X ++ B)).take (p + n)).drop p = X := by
  subst hp; subst hn
  rw [← List.append_assoc, List.take_left' (by simp), List.drop_left]
theorem set_at (A B : List Int) (x v : Int) (p : Nat) (hp : A.length = p) : (A ++ (x :: B)).set p v = A ++ (v :: B) := by
  subst hp; simp [List.set_append_right]
theorem set_at' (A B : List Int) (x v : Int) (p : Nat) (hp : A.length = p) : (A ++ ([x] ++ B)).set p v = A ++ ([v] ++ B) := set_at A B x v p hp
/-- Zeros. -/
def zs (n : Nat) : List Int := List.replicate n 0
theorem zs_length (n : Nat) : (zs n).length = n := List.length_replicate
theorem copy_at (A Z B : List Int) (s : ByteArray) (p : Nat) (hp : A.length = p) (hs : s.size ≤ Z.length) : copyL (A ++ (Z ++ B)) p s = A ++ ((sbytes s ++ Z.drop s.size) ++ B) := by
  subst hp
  unfold copyL
  have h1 : (A ++ (Z ++ B)).length - A.length = Z.length + B.length := by simp
  have h2 : (sbytes s).length = s.size := sbytes_length s
  rw [h1, List.take_left, List.take_of_length_le (by omega), Nat.min_eq_left (by omega), List.drop_append, List.drop_eq_nil_of_le (by omega : A.length ≤ A.length + s.size), Nat.add_sub_cancel_left, List.nil_append, List.drop_append_of_le_length hs]
  simp [List.append_assoc]
/-- A text field: the text, and zeros. -/
def padf (s : ByteArray) (n : Nat) : List Int := sbytes s ++ List.replicate (n - s.size) 0
theorem padf_length (s : ByteArray) (n : Nat) (h : s.size ≤ n) : (padf s n).length = n := by simp [padf, sbytes_length]; omega
theorem By_padf (s : ByteArray) (n : Nat) : By (padf s n) := (By_sb s).append (By_zero _)
theorem pad_of_zero (s : ByteArray) (n : Nat) : sbytes s ++ (zs n).drop s.size = padf s n := by simp [padf, zs]
theorem str_sb (s : ByteArray) : strOfNums (sbytes s) = s := by
  apply ByteArray.ext; apply Array.ext'; rw [strOfNums_data]; unfold sbytes
  rw [List.map_map]
  conv => rhs; rw [← List.map_id s.data.toList]
  apply List.map_congr_left; intro b _
  show UInt8.ofNat ((b.toNat : Int)).toNat = b
  simp
theorem sb_str (l : List Int) (h : By l) : sbytes (strOfNums l) = l := by
  unfold sbytes; rw [strOfNums_data, List.map_map]
  conv => rhs; rw [← List.map_id l]
  apply List.map_congr_left; intro b hb
  have := h b hb
  show ((UInt8.ofNat b.toNat).toNat : Int) = b
  rw [UInt8.toNat_ofNat', Nat.mod_eq_of_lt (by omega)]; omega
theorem sb_inj {s t : ByteArray} (h : sbytes s = sbytes t) : s = t := by rw [← str_sb s, h, str_sb]
theorem sb_append (s t : ByteArray) : sbytes (s ++ t) = sbytes s ++ sbytes t := by
  unfold sbytes; simp
theorem str_inj {a b : List Int} (ha : By a) (hb : By b) (h : strOfNums a = strOfNums b) : a = b := by rw [← sb_str a ha, h, sb_str b hb]
theorem toList_eq (s : ByteArray) : s.toList = s.data.toList := ByteArray.toList_eq s
theorem toList_nil {s : ByteArray} : s.toList = ([] : List UInt8) ↔ s = (⟨#[]⟩ : ByteArray) := by
  rw [toList_eq]
  constructor
  · intro h; apply ByteArray.ext; apply Array.ext'; exact h
  · intro h; rw [h]
theorem toList_inj {s t : ByteArray} (h : s.toList = t.toList) : s = t := by
  rw [toList_eq, toList_eq] at h; apply ByteArray.ext; apply Array.ext'; exact h
/-- A header. -/
structure H where
  path : ByteArray
  mode : Int
  uid : Int
  gid : Int
  size : Int
  time : Int
  typ : Int
  link : ByteArray
/-- A block of its fields. -/
def blkOf (name : ByteArray) (a b c d e : Int) (sum : List Int) (t : Int) (link : ByteArray) (pre : ByteArray) : List Int :=
  padf name 100 ++ ((od a 7 ++ [0]) ++ ((od b 7 ++ [0]) ++ ((od c 7 ++ [0]) ++ ((od d 11 ++ [0]) ++ ((od e 11 ++ [0]) ++ (sum ++ ([t] ++ (padf link 100 ++ (sbytes magicS ++ (zs 64 ++ ((od 0 7 ++ [0]) ++ ((od 0 7 ++ [0]) ++ (padf pre 155 ++ zs 12)))))))))))))
def tot : List Int → Int
  | [] => 0
  | c :: r => c + tot r
theorem tot_append (a b : List Int) : tot (a ++ b) = tot a + tot b := by
  induction a with
  | nil => simp [tot]
  | cons c r ih => simp [tot, ih]; omega
theorem tot_lt (a : List Int) (h : By a) : 0 ≤ tot a ∧ tot a ≤ 255 * a.length := by
  induction a with
  | nil => simp [tot]
  | cons c r ih =>
    have := h c (by simp); have := ih (fun x hx => h x (by simp [hx]))
    simp only [tot, List.length_cons]; omega
end Go.Proofs.Ytkdklgcjimnabaa.UM
