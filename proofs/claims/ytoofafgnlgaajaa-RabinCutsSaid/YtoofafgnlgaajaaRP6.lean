/- The statement RabinMeeting in plain Lean. Conditions: as each theorem says. -/
import Derived.Test.YtoofafgnlgaajaaRP4
import Derived.Test.YtoofafgnlgaajaaPRabinx7
namespace Go.Proofs.Ytoofafgnlgaajaa.RW
open Go.RowKit Go.Proofs.Ytoofafgnlgaajaa.PRabin Go.Proofs.YtoofafgnlgaajaaW.PrintWords Go.Proofs.YtoofafgnlgaajaaW.PrintLast Go.Proofs.YtoofafgnlgaajaaW.PrintMore Go.Proofs.Ytoofafgnlgaajaa Go.Proofs.Ytoofafgnlgaajaa.PB
set_option linter.unusedVariables false
set_option linter.unusedSimpArgs false
/-! ### where chunks meet -/
theorem cutL_cons (S : Set5) (r l : List Nat) (x : Nat) : cutL S r (x :: l) = if endsR S (r ++ [x]) then (r ++ [x]) :: cutL S [] l else cutL S (r ++ [x]) l := rfl
theorem cut_meet (S : Set5) : ∀ (a e r : List Nat) (i : Nat), i < (cutL S r (a ++ e)).length → (((cutL S r (a ++ e)).map List.length).take i).sum = r.length + a.length → (cutL S r (a ++ e)).drop i = cutL S [] e
  | [], e, r, i, hi, hs => by
    rw [List.nil_append] at hi hs ⊢
    rw [List.length_nil, Nat.add_zero] at hs
    have key : i = 0 ∧ r = [] := by
      cases e with
      | nil =>
        unfold cutL at hi hs
        split at hi
        · simp at hi
        · next h =>
          have h0 : i = 0 := by simpa using hi
          subst h0
          rw [List.take_zero, List.sum_nil] at hs
          exact absurd hs.symm h
      | cons x e =>
        cases i with
        | zero => rw [List.take_zero, List.sum_nil] at hs; exact ⟨rfl, List.eq_nil_of_length_eq_zero hs.symm⟩
        | succ i =>
          exfalso
          have hge : ∀ (l : List Nat) (r : List Nat) (c : List Nat) (C : List (List Nat)), cutL S r l = c :: C → r.length ≤ c.length := by
            intro l
            induction l with
            | nil =>
              intro r c C h
              unfold cutL at h
              split at h
              · cases h
              · injection h with h1 _; rw [h1]; exact Nat.le_refl _
            | cons y l ih =>
              intro r c C h
              unfold cutL at h
              split at h
              · injection h with h1 _; rw [← h1]; simp
              · have := ih _ _ _ h; simp at this; omega
          have hgt : ∀ c C, cutL S r (x :: e) = c :: C → r.length < c.length := by
            intro c C h
            unfold cutL at h
            split at h
            · injection h with h1 _; rw [← h1]; simp
            · have := hge _ _ _ _ h; simp at this; omega
          cases hc : cutL S r (x :: e) with
          | nil => rw [hc] at hi; simp at hi
          | cons c C =>
            rw [hc, List.map_cons, List.take_succ_cons, List.sum_cons] at hs
            have := hgt c C hc
            omega
    obtain ⟨rfl, rfl⟩ := key
    rfl
  | x :: a, e, r, i, hi, hs => by
    rw [List.cons_append, cutL_cons] at hi hs ⊢
    by_cases hc : endsR S (r ++ [x]) = true
    · rw [if_pos hc] at hi hs ⊢
      cases i with
      | zero => rw [List.take_zero, List.sum_nil, List.length_cons] at hs; omega
      | succ i =>
        rw [List.map_cons, List.take_succ_cons, List.sum_cons, List.length_append, List.length_singleton, List.length_cons] at hs
        rw [List.drop_succ_cons]
        exact cut_meet S a e [] i (by simpa using hi) (by rw [List.length_nil]; omega)
    · rw [if_neg hc] at hi hs ⊢
      exact cut_meet S a e (r ++ [x]) i hi (by rw [hs, List.length_append, List.length_singleton, List.length_cons]; omega)
theorem behind_l0 (L : List Nat) (place : Int) (hl : L.length ≤ 1000000000) (j : Nat) : ∀ (k i s : Nat), i + j = L.length → j < k → s + (L.drop i).sum ≤ 1000000000 → s = (L.take i).sum →
    ∃ r : Int, amphoralaw07_behind.l0 k place (s : Int) (I L) ((I L).length : Int) (i : Int) = some r ∧ (r = -1 ∨ ∃ q : Nat, r = (q : Int) ∧ q < L.length ∧ (((L.take q).sum : Nat) : Int) = place) := by
  induction j with
  | zero =>
    intro k i s hi hk hs hq
    obtain ⟨k, rfl⟩ : ∃ k', k = k' + 1 := ⟨k - 1, by omega⟩
    rw [amphoralaw07_behind.l0, if_neg (by rw [I_len]; omega)]
    exact ⟨_, rfl, .inl rfl⟩
  | succ j ih =>
    intro k i s hi hk hs hq
    obtain ⟨k, rfl⟩ : ∃ k', k = k' + 1 := ⟨k - 1, by omega⟩
    have hil : i < L.length := by omega
    have hrd : rd (I L) (i : Int) = ((L.getD i 0 : Nat) : Int) := by unfold rd I; simp [hil]
    have hd : L.drop i = L.getD i 0 :: L.drop (i + 1) := drop_cons L i hil
    have ht : (L.take (i + 1)).sum = (L.take i).sum + L.getD i 0 := by rw [take_snoc L i hil, List.sum_append]; simp
    obtain ⟨y, hy⟩ : ∃ y, y = L.getD i 0 := ⟨_, rfl⟩
    rw [← hy] at hrd hd ht
    rw [hd, List.sum_cons] at hs
    have b1 : i + 1 + j = L.length := by omega
    have b2 : j < k := Nat.lt_of_succ_lt_succ hk
    have b3 : s + y + (L.drop (i + 1)).sum ≤ 1000000000 := by rw [Nat.add_assoc]; exact hs
    have hnx := ih k (i + 1) (s + y) b1 b2 b3 (by rw [ht, hq])
    have b4 : s + y ≤ 1000000000 := Nat.le_trans (Nat.le_add_right _ _) b3
    have b5 : i + 1 ≤ 1000000000 := by omega
    clear ih hs b3 hk b2
    have b6 : (i : Int) < ((I L).length : Int) := by rw [I_len]; exact Int.ofNat_lt.2 hil
    have e1 : wrap64 ((s : Int) + (y : Int)) = ((s + y : Nat) : Int) := by rw [w64 (by omega) (by omega)]; rfl
    have e2 : wrap64 ((i : Int) + 1) = ((i + 1 : Nat) : Int) := by rw [w64 (by omega) (by omega)]; rfl
    rw [amphoralaw07_behind.l0, if_pos b6, if_pos (Int.natCast_nonneg i), if_pos b6]
    by_cases c : (s : Int) = place
    · rw [if_pos c]
      exact ⟨_, rfl, .inr ⟨i, rfl, hil, by rw [← hq]; exact c⟩⟩
    · rw [if_neg c, hrd, e1, e2]
      exact hnx
theorem Ints_l0 (l : List Int) (n : Nat) (hn : n = l.length) (h : n ≤ 1000000000) (j : Nat) : ∀ (k i : Nat), i + j = n → j < k → amphoranum_Ints.l0 k l l (n : Int) (i : Int) = some true := by
  induction j with
  | zero =>
    intro k i hi hk
    obtain ⟨k, rfl⟩ : ∃ k', k = k' + 1 := ⟨k - 1, by omega⟩
    rw [amphoranum_Ints.l0, if_neg (by omega)]
  | succ j ih =>
    intro k i hi hk
    obtain ⟨k, rfl⟩ : ∃ k', k = k' + 1 := ⟨k - 1, by omega⟩
    have hnx := ih k (i + 1) (by omega) (by omega)
    have b1 : (i : Int) < (n : Int) := by omega
    have b2 : (i : Int) < (l.length : Int) := by omega
    have e2 : wrap64 ((i : Int) + 1) = ((i + 1 : Nat) : Int) := by rw [w64 (by omega) (by omega)]; rfl
    rw [amphoranum_Ints.l0, if_pos b1, if_pos (Int.natCast_nonneg i), if_pos b2, if_pos b2, if_pos rfl, e2, hnx]
theorem Ints_f (l : List Int) (h : l.length ≤ 1000000000) (k : Nat) (hk : l.length < k) : amphoranum_Ints.f k l l = some true := by
  unfold amphoranum_Ints.f
  rw [if_pos rfl]
  exact Ints_l0 l l.length rfl h l.length k 0 (by omega) hk
theorem I_drop (l : List Nat) (n : Nat) : (I l).drop n = I (l.drop n) := by unfold I; rw [List.map_drop]
theorem behind_f (S : Set5) (a e : List Nat) (hm : S.mn ≤ S.mx) (h1 : 1 ≤ S.mx) (hl : (a ++ e).length ≤ 100000) (n : Int) (hn : n = (a.length : Int)) (k : Nat) (hk : 100001 < k) :
    ∃ r : Int, amphoralaw07_behind.f k (I ((cutL S [] (a ++ e)).map List.length)) n = some r ∧ (r = -1 ∨ ∃ q : Nat, r = (q : Int) ∧ q < (cutL S [] (a ++ e)).length ∧ (cutL S [] (a ++ e)).drop q = cutL S [] e) := by
  have hf := cut_flat S (a ++ e) []
  have hsm := cut_small S [] (a ++ e) hm h1 h1
  rw [List.nil_append] at hf
  rw [hf] at hsm
  have hmt := cut_meet S a e []
  have hsum : ((cutL S [] (a ++ e)).map List.length).sum = (a ++ e).length := by rw [sum_flat, hf]
  obtain ⟨C, hC⟩ : ∃ C, C = cutL S [] (a ++ e) := ⟨_, rfl⟩
  rw [← hC] at hsm hmt hsum ⊢
  have hlm : (C.map List.length).length = C.length := List.length_map ..
  have hb1 : (C.map List.length).length ≤ 1000000000 := by omega
  have hb2 : (C.map List.length).length < k := by omega
  have hb3 : 0 + ((C.map List.length).drop 0).sum ≤ 1000000000 := by rw [List.drop_zero, hsum]; omega
  obtain ⟨r, hr, h⟩ := behind_l0 (C.map List.length) n hb1 (C.map List.length).length k 0 0 (Nat.zero_add _) hb2 hb3 rfl
  refine ⟨r, hr, ?_⟩
  rcases h with h | ⟨q, e1, h2, h3⟩
  · exact .inl h
  · refine .inr ⟨q, e1, by rw [hlm] at h2; exact h2, hmt q (by rw [hlm] at h2; exact h2) ?_⟩
    rw [hn] at h3
    rw [List.length_nil, Nat.zero_add]
    exact Int.ofNat_inj.1 h3
theorem toNat_app (a b : List Int) : (a ++ b).map Int.toNat = a.map Int.toNat ++ b.map Int.toNat := List.map_append
theorem meets_law (p : Nat) (hp64 : p < 2 ^ 64) (a1 a2 a3 a4 : Int) (x y z : List Int) (hx : ∀ v ∈ x, 0 ≤ v ∧ v < 256) (hy : ∀ v ∈ y, 0 ≤ v ∧ v < 256) (hz : ∀ v ∈ z, 0 ≤ v ∧ v < 256) : ∃ k, amphoralaw07_meets.f k (p : Int) a1 a2 a3 a4 x y z = some true := by
  refine ⟨200002, ?_⟩
  unfold amphoralaw07_meets.f
  rw [alive_at _ (by decide)]
  simp only [Option.bind_some, if_true]
  have hj : ∀ b : Bool, b = true → amphoralaw07_meets.j0 200002 x y z b (p : Int) a1 a2 a3 a4 = some true := fun b hb => by
    rw [amphoralaw07_meets.j0, if_pos hb]
  by_cases c1 : (x.length : Int) > 16384
  · rw [if_pos c1]; exact hj _ rfl
  rw [if_neg c1]
  by_cases c2 : (y.length : Int) > 16384
  · rw [if_pos c2]; exact hj _ rfl
  rw [if_neg c2]
  by_cases c3 : (z.length : Int) > 16384
  · exact hj _ (decide_eq_true c3)
  rw [decide_eq_false c3, amphoralaw07_meets.j0, if_neg (by decide)]
  clear hj
  have cf : ∀ (u : List Int), (∀ v ∈ u, 0 ≤ v ∧ v < 256) → u.length ≤ 1000000000000 → _ := fun u hu hl => Cut_f p hp64 a1 a2 a3 a4 u hu hl 200001 (by decide)
  clear hp64
  have l1 : x.length ≤ 16384 := by omega
  have l2 : y.length ≤ 16384 := by omega
  have l3 : z.length ≤ 16384 := by omega
  have hxz : ∀ v ∈ x ++ z, 0 ≤ v ∧ v < 256 := fun v hv => (List.mem_append.1 hv).elim (hx v) (hz v)
  have hyz : ∀ v ∈ y ++ z, 0 ≤ v ∧ v < 256 := fun v hv => (List.mem_append.1 hv).elim (hy v) (hz v)
  have m1 : ([] : List Int).length + x.length < 140737488355328 := by rw [List.length_nil]; omega
  have m2 : ([] ++ x : List Int).length + z.length < 140737488355328 := by rw [List.nil_append]; omega
  have m3 : ([] : List Int).length + y.length < 140737488355328 := by rw [List.length_nil]; omega
  have m4 : ([] ++ y : List Int).length + z.length < 140737488355328 := by rw [List.nil_append]; omega
  simp only [Option.bind_some]
  rw [if_pos m1, if_pos m2, List.nil_append]
  rcases cf (x ++ z) hxz (by rw [List.length_append]; omega) with ⟨h1, h2, g⟩ | ⟨h1, h2, g⟩ <;> rcases cf (y ++ z) hyz (by rw [List.length_append]; omega) with ⟨h3, h4, g'⟩ | ⟨h3, h4, g'⟩
  · rw [h1]
    simp only [Option.bind_some]
    rw [if_pos m3, if_pos m4, List.nil_append, h3]
    simp only [Option.bind_some, Option.isNone_none, if_true]
    obtain ⟨g1, g2, _, _⟩ := good_set g
    obtain ⟨S, hS⟩ : ∃ S, S = setN (p : Int) a1 a2 a3 a4 := ⟨_, rfl⟩
    rw [← hS] at g1 g2 ⊢
    rw [toNat_app, toNat_app]
    have k1 : (x.map Int.toNat ++ z.map Int.toNat).length ≤ 100000 := by rw [List.length_append, List.length_map, List.length_map]; omega
    have k2 : (y.map Int.toNat ++ z.map Int.toNat).length ≤ 100000 := by rw [List.length_append, List.length_map, List.length_map]; omega
    obtain ⟨r1, e1, f1⟩ := behind_f S (x.map Int.toNat) (z.map Int.toNat) g1 g2 k1 (x.length : Int) (by rw [List.length_map]) 200000 (by decide)
    obtain ⟨r2, e2, f2⟩ := behind_f S (y.map Int.toNat) (z.map Int.toNat) g1 g2 k2 (y.length : Int) (by rw [List.length_map]) 200000 (by decide)
    have sm := cut_small S [] (z.map Int.toNat) g1 g2 g2
    rw [cut_flat, List.nil_append, List.length_map] at sm
    obtain ⟨X, hX⟩ : ∃ X, X = cutL S [] (x.map Int.toNat ++ z.map Int.toNat) := ⟨_, rfl⟩
    obtain ⟨Y, hY⟩ : ∃ Y, Y = cutL S [] (y.map Int.toNat ++ z.map Int.toNat) := ⟨_, rfl⟩
    obtain ⟨Z, hZ⟩ : ∃ Z, Z = cutL S [] (z.map Int.toNat) := ⟨_, rfl⟩
    rw [← hX, ← hZ] at f1
    rw [← hY, ← hZ] at f2
    rw [← hX] at e1
    rw [← hY] at e2
    rw [← hZ] at sm
    rw [← hX, ← hY, amphoralaw07_meets.j1, if_neg (by decide), e1]
    simp only [Option.bind_some]
    rw [e2]
    simp only [Option.bind_some]
    rcases f1 with f1 | ⟨q1, f1, u1, v1⟩
    · rw [f1, if_pos (by decide)]
    rcases f2 with f2 | ⟨q2, f2, u2, v2⟩
    · rw [f2]
      by_cases c : r1 < 0
      · rw [if_pos c]
      · rw [if_neg c, if_pos (by decide)]
    subst f1 f2
    have n1 : ¬ (q1 : Int) < 0 := by omega
    have n2 : ¬ (q2 : Int) < 0 := by omega
    have n3 : (q1 : Int) ≤ ((I (X.map List.length)).length : Int) := by rw [I_len, List.length_map]; omega
    have n4 : (q2 : Int) ≤ ((I (Y.map List.length)).length : Int) := by rw [I_len, List.length_map]; omega
    have eX : (I (X.map List.length)).drop (q1 : Int).toNat = I (Z.map List.length) := by rw [Int.toNat_natCast, I_drop, ← List.map_drop, v1]
    have eY : (I (Y.map List.length)).drop (q2 : Int).toNat = I (Z.map List.length) := by rw [Int.toNat_natCast, I_drop, ← List.map_drop, v2]
    rw [if_neg n1, if_neg n2, if_pos (Int.natCast_nonneg q1), if_pos n3, if_pos (Int.natCast_nonneg q2), if_pos n4, eX, eY, Ints_f _ (by rw [I_len, List.length_map]; omega) _ (by rw [I_len, List.length_map]; omega)]
    rfl
  · exact absurd g g'
  · exact absurd g' g
  · rw [h1]
    simp only [Option.bind_some]
    rw [if_pos m3, if_pos m4, List.nil_append, h3]
    rfl
end Go.Proofs.Ytoofafgnlgaajaa.RW
