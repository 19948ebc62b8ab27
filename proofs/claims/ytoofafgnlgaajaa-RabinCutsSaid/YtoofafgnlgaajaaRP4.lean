/- The chunks' lengths; where chunks meet. No program's step in sight. Conditions: as each theorem says. -/
import Derived.Test.YtoofafgnlgaajaaRP3
import Derived.Test.YtoofafgnlgaajaaPRabinx6
namespace Go.Proofs.Ytoofafgnlgaajaa.RW
open Go.RowKit Go.Proofs.Ytoofafgnlgaajaa.PRabin Go.Proofs.YtoofafgnlgaajaaW.PrintWords Go.Proofs.YtoofafgnlgaajaaW.PrintLast Go.Proofs.YtoofafgnlgaajaaW.PrintMore Go.Proofs.Ytoofafgnlgaajaa Go.Proofs.Ytoofafgnlgaajaa.PB
set_option linter.unusedVariables false
set_option linter.unusedSimpArgs false
theorem cut_flat (S : Set5) : ∀ (l r : List Nat), (cutL S r l).flatten = r ++ l
  | [], r => by
    unfold cutL
    split
    · next h => rw [List.eq_nil_of_length_eq_zero h]; rfl
    · simp
  | x :: l, r => by
    unfold cutL
    split
    · rw [List.flatten_cons, cut_flat S l []]; simp
    · rw [cut_flat S l (r ++ [x])]; simp
theorem ends_mx {S : Set5} {r : List Nat} (hm : S.mn ≤ S.mx) (h : r.length = S.mx) : endsR S r = true := by
  unfold endsR
  rw [decide_eq_true (by omega), decide_eq_true h]; rfl
theorem ends_mn {S : Set5} {r : List Nat} (h : endsR S r = true) : S.mn ≤ r.length := by
  unfold endsR at h
  rw [Bool.and_eq_true] at h
  exact of_decide_eq_true h.1
theorem cut_le {S : Set5} (hm : S.mn ≤ S.mx) (h1 : 1 ≤ S.mx) : ∀ (l r : List Nat), r.length < S.mx → ∀ c ∈ cutL S r l, 1 ≤ c.length ∧ c.length ≤ S.mx
  | [], r, hr, c, hc => by
    unfold cutL at hc
    split at hc
    · cases hc
    · next h => rw [List.mem_singleton.1 hc]; omega
  | x :: l, r, hr, c, hc => by
    unfold cutL at hc
    split at hc
    · rcases List.mem_cons.1 hc with rfl | hc
      · simp; omega
      · exact cut_le hm h1 l [] h1 c hc
    · next h =>
      refine cut_le hm h1 l (r ++ [x]) ?_ c hc
      have : (r ++ [x]).length ≠ S.mx := fun e => h (ends_mx hm e)
      simp at this ⊢
      omega
theorem cut_mn {S : Set5} : ∀ (l r : List Nat) (i : Nat), i + 1 < (cutL S r l).length → S.mn ≤ ((cutL S r l).getD i []).length
  | [], r, i, hi => by
    unfold cutL at hi
    split at hi <;> simp at hi
  | x :: l, r, i, hi => by
    unfold cutL at hi ⊢
    by_cases hc : endsR S (r ++ [x]) = true
    · rw [if_pos hc] at hi ⊢
      cases i with
      | zero => exact ends_mn hc
      | succ i => exact cut_mn l [] i (by simpa using hi)
    · rw [if_neg hc] at hi ⊢
      exact cut_mn l (r ++ [x]) i hi
theorem sum_flat (L : List (List Nat)) : (L.map List.length).sum = L.flatten.length := by
  rw [List.length_flatten]
theorem Lengths_l0 (L : List Nat) (n : Nat) (mn mx : Int) (x1 : List Int) (a0 a1 a4 : Int) (h1 : ∀ i, i < L.length → 1 ≤ L.getD i 0 ∧ ((L.getD i 0 : Nat) : Int) ≤ mx) (h2 : ∀ i, i + 1 < L.length → mn ≤ ((L.getD i 0 : Nat) : Int)) (hl : L.length ≤ 1000000000) (j : Nat) : ∀ (k i s : Nat), i + j = L.length → j < k → s + (L.drop i).sum ≤ 1000000000 →
    amphoralaw07_RabinLengths.l0 k x1 (I L) (s : Int) (I L) ((I L).length : Int) (i : Int) a0 a1 mn mx a4 = some (((s + (L.drop i).sum : Nat) : Int) == (x1.length : Int)) := by
  induction j with
  | zero =>
    intro k i s hi hk hs
    obtain ⟨k, rfl⟩ : ∃ k', k = k' + 1 := ⟨k - 1, by omega⟩
    rw [amphoralaw07_RabinLengths.l0, if_neg (by rw [I_len]; omega), show L.drop i = [] from List.drop_of_length_le (by omega)]
    rfl
  | succ j ih =>
    intro k i s hi hk hs
    obtain ⟨k, rfl⟩ : ∃ k', k = k' + 1 := ⟨k - 1, by omega⟩
    have hil : i < L.length := by omega
    have hrd : rd (I L) (i : Int) = ((L.getD i 0 : Nat) : Int) := by unfold rd I; simp [hil]
    have hd : L.drop i = L.getD i 0 :: L.drop (i + 1) := drop_cons L i hil
    obtain ⟨y, hy⟩ : ∃ y, y = L.getD i 0 := ⟨_, rfl⟩
    obtain ⟨g1, g2⟩ := h1 i hil
    rw [← hy] at g1 g2 hrd hd
    rw [hd, List.sum_cons] at hs
    have b1 : i + 1 + j = L.length := by omega
    have b2 : j < k := Nat.lt_of_succ_lt_succ hk
    have b3 : s + y + (L.drop (i + 1)).sum ≤ 1000000000 := by rw [Nat.add_assoc]; exact hs
    have hnx := ih k (i + 1) (s + y) b1 b2 b3
    have b4 : s + y ≤ 1000000000 := Nat.le_trans (Nat.le_add_right _ _) b3
    have b5 : i + 1 ≤ 1000000000 := by omega
    clear ih hs b3 hk b2
    have b6 : (i : Int) < ((I L).length : Int) := by rw [I_len]; exact Int.ofNat_lt.2 hil
    have b7 : ¬ (y : Int) < 1 := by omega
    have b8 : ¬ (y : Int) > mx := Int.not_lt.2 g2
    have e3 : ¬ (i : Int) < (L.length : Int) - 1 → i + 1 ≥ L.length := by intro h; omega
    have e4 : (i : Int) < wrap64 ((L.length : Int) - 1) → i + 1 < L.length := by
      intro h
      rw [w64 (by omega) (by omega)] at h
      omega
    have e1 : wrap64 ((s : Int) + (y : Int)) = ((s + y : Nat) : Int) := by rw [w64 (by omega) (by omega)]; rfl
    have e2 : wrap64 ((i : Int) + 1) = ((i + 1 : Nat) : Int) := by rw [w64 (by omega) (by omega)]; rfl
    rw [amphoralaw07_RabinLengths.l0, if_pos b6, if_pos (Int.natCast_nonneg i), if_pos b6, hrd, if_neg b7, if_neg b8, e1, e2, hnx, hd, List.sum_cons, ← Nat.add_assoc]
    by_cases c : (y : Int) < mn
    · rw [if_pos c, if_neg]
      rw [I_len]
      intro hq
      have := h2 i (by
        by_cases hz : i + 1 < L.length
        · exact hz
        · exact e4 hq)
      rw [← hy] at this
      exact absurd c (Int.not_lt.2 this)
    · rw [if_neg c]
theorem cut_small (S : Set5) (r l : List Nat) (hm : S.mn ≤ S.mx) (h1 : 1 ≤ S.mx) (hr : r.length < S.mx) : (cutL S r l).length ≤ (cutL S r l).flatten.length := by
  have h := cut_le hm h1 l r hr
  generalize cutL S r l = L at h
  induction L with
  | nil => simp
  | cons c L ih =>
    rw [List.flatten_cons, List.length_append, List.length_cons]
    have := (h c List.mem_cons_self).1
    have := ih (fun d hd => h d (List.mem_cons_of_mem _ hd))
    omega
theorem lt64i {p : Nat} (h : p < 2 ^ 64) : (p : Int) < 18446744073709551616 := by
  have p64 : (2 : Nat) ^ 64 = 18446744073709551616 := rfl
  rw [p64] at h
  omega
theorem Cut_none {k : Nat} {a0 a1 a2 a3 a4 : Int} {l : List Int} (h : rabin_Check.f k a0 a1 a2 a3 a4 = some none) (hq : (0 ≤ a0 ∧ a0 < 18446744073709551616) ∧ (∀ x ∈ l, 0 ≤ x ∧ x < 256) ∧ l.length ≤ 1000000000000) :
    rabin_Cut.f k a0 a1 a2 a3 a4 l = some (I ((cutL (setN a0 a1 a2 a3 a4) [] (l.map Int.toNat)).map List.length), none) := by
  unfold rabin_Cut.f
  rw [h]
  exact if_pos hq
theorem Cut_some {k : Nat} {a0 a1 a2 a3 a4 x : Int} {l : List Int} (h : rabin_Check.f k a0 a1 a2 a3 a4 = some (some x)) : rabin_Cut.f k a0 a1 a2 a3 a4 l = some ([], some x) := by
  unfold rabin_Cut.f
  rw [h]
  rfl
/-- What Cut answers. -/
theorem Cut_f (p : Nat) (hp64 : p < 2 ^ 64) (a1 a2 a3 a4 : Int) (l : List Int) (hl : ∀ x ∈ l, 0 ≤ x ∧ x < 256) (hlen : l.length ≤ 1000000000000) (k : Nat) (hk : 1100 ≤ k) :
    (rabin_Cut.f k (p : Int) a1 a2 a3 a4 l = some (I ((cutL (setN (p : Int) a1 a2 a3 a4) [] (l.map Int.toNat)).map List.length), none) ∧ rabin_Check.f k (p : Int) a1 a2 a3 a4 = some none ∧ Good p a1 a2 a3 a4) ∨
    (rabin_Cut.f k (p : Int) a1 a2 a3 a4 l = some ([], some 11) ∧ rabin_Check.f k (p : Int) a1 a2 a3 a4 = some (some 11) ∧ ¬ Good p a1 a2 a3 a4) := by
  rcases Check_f p hp64 a1 a2 a3 a4 k hk with h | h
  · exact .inl ⟨Cut_none h.1 ⟨⟨Int.natCast_nonneg p, lt64i hp64⟩, hl, hlen⟩, h⟩
  · exact .inr ⟨Cut_some h.1, h⟩
theorem good_set {p : Nat} {a1 a2 a3 a4 : Int} (g : Good p a1 a2 a3 a4) : (setN (p : Int) a1 a2 a3 a4).mn ≤ (setN (p : Int) a1 a2 a3 a4).mx ∧ 1 ≤ (setN (p : Int) a1 a2 a3 a4).mx ∧ (((setN (p : Int) a1 a2 a3 a4).mn : Nat) : Int) = a2 ∧ (((setN (p : Int) a1 a2 a3 a4).mx : Nat) : Int) = a3 := by
  have h1 := g.w1
  have h2 := g.m1
  have h3 := g.m2
  unfold setN
  dsimp only
  omega
end Go.Proofs.Ytoofafgnlgaajaa.RW
