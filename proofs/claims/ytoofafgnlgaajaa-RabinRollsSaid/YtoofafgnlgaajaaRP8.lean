/- The statement RabinRolls in plain Lean: fingerprints of sums and of noughts ahead. Conditions: as each theorem says. -/
import Derived.Test.YtoofafgnlgaajaaRP3
namespace Go.Proofs.Ytoofafgnlgaajaa.RW
open Go.RowKit Go.Proofs.Ytoofafgnlgaajaa.PRabin Go.Proofs.YtoofafgnlgaajaaW.PrintWords Go.Proofs.YtoofafgnlgaajaaW.PrintLast Go.Proofs.YtoofafgnlgaajaaW.PrintMore Go.Proofs.Ytoofafgnlgaajaa Go.Proofs.Ytoofafgnlgaajaa.PB
set_option linter.unusedVariables false
set_option linter.unusedSimpArgs false
/-- The sum of rows of one length. -/
def sumB (a b : List Nat) : List Nat := List.zipWith (fun x y => x ^^^ y) a b
theorem sumB_len (a b : List Nat) (h : a.length = b.length) : (sumB a b).length = a.length := by unfold sumB; rw [List.length_zipWith, h, Nat.min_self]
theorem sumB_lt : ∀ (a b : List Nat), (∀ x ∈ a, x < 256) → (∀ x ∈ b, x < 256) → ∀ x ∈ sumB a b, x < 256
  | [], b, _, _, x, hx => by simp [sumB] at hx
  | a :: l, [], _, _, x, hx => by simp [sumB] at hx
  | a :: l, b :: m, h1, h2, x, hx => by
    have e : sumB (a :: l) (b :: m) = (a ^^^ b) :: sumB l m := rfl
    rw [e] at hx
    rcases List.mem_cons.1 hx with rfl | hx
    · exact Nat.xor_lt_two_pow (n := 8) (h1 a List.mem_cons_self) (h2 b List.mem_cons_self)
    · exact sumB_lt l m (fun y hy => h1 y (List.mem_cons_of_mem _ hy)) (fun y hy => h2 y (List.mem_cons_of_mem _ hy)) x hx
theorem xor_mul_pow (a b n : Nat) : (a ^^^ b) * 2 ^ n = (a * 2 ^ n) ^^^ (b * 2 ^ n) := by rw [← GF.mul_pow, ← GF.mul_pow, ← GF.mul_pow, GF.xor_mul]
theorem val_sum : ∀ (a b : List Nat), a.length = b.length → (∀ x ∈ a, x < 256) → (∀ x ∈ b, x < 256) → val (sumB a b) = val a ^^^ val b
  | [], [], _, _, _ => rfl
  | [], b :: m, h, _, _ => by simp at h
  | a :: l, [], h, _, _ => by simp at h
  | a :: l, b :: m, h, h1, h2 => by
    have hl : l.length = m.length := by simpa using h
    have h3 : ∀ x ∈ l, x < 256 := fun y hy => h1 y (List.mem_cons_of_mem _ hy)
    have h4 : ∀ x ∈ m, x < 256 := fun y hy => h2 y (List.mem_cons_of_mem _ hy)
    have ih := val_sum l m hl h3 h4
    have e : sumB (a :: l) (b :: m) = (a ^^^ b) :: sumB l m := rfl
    rw [e, val_cons, val_cons, val_cons, add_xor (val_lt _ (sumB_lt l m h3 h4)), add_xor (val_lt l h3), add_xor (val_lt m h4), ih, sumB_len l m hl, ← hl, xor_mul_pow]
    simp only [Nat.xor_assoc]
    congr 1
    rw [← Nat.xor_assoc (val l), Nat.xor_comm (val l) (b * _), Nat.xor_assoc]
theorem fp_sum {p : Nat} (hp : p ≠ 0) (a b : List Nat) (h : a.length = b.length) (h1 : ∀ x ∈ a, x < 256) (h2 : ∀ x ∈ b, x < 256) : fp p (sumB a b) = fp p a ^^^ fp p b := by
  unfold fp; rw [val_sum a b h h1 h2, GF.md_xor hp]
theorem fp_zeros (p : Nat) (n : Nat) (a : List Nat) : fp p (List.replicate n 0 ++ a) = fp p a := by
  have hz : val (List.replicate n 0) = 0 := by
    induction n with
    | zero => rfl
    | succ n ih => rw [List.replicate_succ, val_cons, ih]; simp
  unfold fp
  rw [val_app, hz, Nat.zero_mul, Nat.zero_add]
theorem rolls_law (p : Nat) (hp : p ≠ 0) (hp64 : p < 2 ^ 64) (a b : List Nat) (h : a.length = b.length) (hl : a.length ≤ 400) (h1 : ∀ x ∈ a, x < 256) (h2 : ∀ x ∈ b, x < 256) :
    rabin_Print.f 20301 (p : Int) [I a] = some (((fp p a : Nat) : Int), none) ∧ rabin_Print.f 20301 (p : Int) [I b] = some (((fp p b : Nat) : Int), none) ∧ rabin_Print.f 20301 (p : Int) [I (sumB a b)] = some (((fp p a ^^^ fp p b : Nat) : Int), none) ∧ rabin_Print.f 20301 (p : Int) [I (List.replicate 5 0), I a] = some (((fp p a : Nat) : Int), none) := by
  have up : ∀ (P : List (List Nat)), (∀ l ∈ P, (∀ x ∈ l, x < 256) ∧ l.length ≤ 1099511627776) → P.length ≤ 1099511627776 → 10 * P.flatten.length + 2 * P.length ≤ 20000 → rabin_Print.f 20301 (p : Int) (P.map I) = some (((fp p P.flatten : Nat) : Int), none) := by
    intro P hP hn hb
    have := Print_f p hp hp64 P hP hn (300 + (20000 - (10 * P.flatten.length + 2 * P.length))) (Nat.le_add_right _ _)
    rw [show 300 + (20000 - (10 * P.flatten.length + 2 * P.length)) + 10 * P.flatten.length + 2 * P.length + 1 = 20301 by clear hp64; omega] at this
    exact this
  have s1 : ∀ (l : List Nat), (∀ x ∈ l, x < 256) → l.length ≤ 400 → rabin_Print.f 20301 (p : Int) [I l] = some (((fp p l : Nat) : Int), none) := by
    intro l q1 q2
    have := up [l] (fun m hm => by rw [List.mem_singleton.1 hm]; exact ⟨q1, by clear hp64; omega⟩) (by simp) (by simp; clear hp64; omega)
    rw [show [l].flatten = l by simp] at this
    exact this
  refine ⟨s1 a h1 hl, s1 b h2 (h ▸ hl), ?_, ?_⟩
  · rw [← fp_sum hp a b h h1 h2]
    exact s1 _ (sumB_lt a b h1 h2) (by rw [sumB_len a b h]; exact hl)
  · have := up [List.replicate 5 0, a] (fun m hm => by
      rcases List.mem_cons.1 hm with rfl | hm
      · exact ⟨fun x hx => by rw [(List.mem_replicate.1 hx).2]; decide, by simp⟩
      · rw [List.mem_singleton.1 hm]; exact ⟨h1, by clear hp64; omega⟩) (by simp) (by simp; clear hp64; omega)
    rw [show [List.replicate 5 0, a].flatten = List.replicate 5 0 ++ a by simp, fp_zeros] at this
    exact this
end Go.Proofs.Ytoofafgnlgaajaa.RW
