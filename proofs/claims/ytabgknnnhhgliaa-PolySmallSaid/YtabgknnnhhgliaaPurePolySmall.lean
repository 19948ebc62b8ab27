/- The statement PolySmall of layer 6, over plain numbers: which polynomials of degree at most 12 are irreducible, by trying all divisors. Conditions: none. -/
import Derived.Test.YtabgknnnhhgliaaPPolyx3
import Derived.Test.YtabgknnnhhgliaaPB
namespace Go.Proofs.Ytabgknnnhhgliaa.Pure
open Go.RowKit Go.Proofs.Ytabgknnnhhgliaa.PPoly Go.Proofs.YtabgknnnhhgliaaW.PrintWords Go.Proofs.YtabgknnnhhgliaaW.PrintLast Go.Proofs.YtabgknnnhhgliaaW.PrintMore
set_option linter.unusedVariables false
set_option linter.unusedSimpArgs false

open Go.Proofs.Ytabgknnnhhgliaa.PB Go.Proofs.Ytabgknnnhhgliaa
namespace PolySmallAid
theorem rDiv_l (p : Nat) (hp : p < 8192) (most : Nat) (hm : most ≤ 100) (j : Nat) : ∀ (k q : Nat), 2 * j + 400 < k → 2 ≤ q → q + j = 8193 →
    ∃ b : Bool, amphoraref06_Divides.l0 k (p : Int) (most : Int) (q : Int) = some b ∧ (b = true ↔ ∃ u, q ≤ u ∧ u < p ∧ GF.L u - 1 ≤ most ∧ GF.L u < GF.L p ∧ GF.Dv u p) := by
  have p64 : ∀ x, x < 10000 → x < 2 ^ 64 := by
    intro x hx
    have : (2 : Nat) ^ 64 = 18446744073709551616 := by decide
    omega
  induction j with
  | zero =>
    intro k q hk h2 hq
    obtain ⟨k, rfl⟩ : ∃ m, k = m + 2 := ⟨k - 2, by omega⟩
    refine ⟨false, ?_, ?_⟩
    · simp only [amphoraref06_Divides.l0]
      rw [rDeg_f q (p64 q (by omega)) _ (by omega)]
      simp only [Option.bind_some]
      rw [decide_eq_false (by omega)]
      split <;> simp [amphoraref06_Divides.j1]
    · constructor
      · intro h; cases h
      · rintro ⟨u, h1, h2, _⟩; omega
  | succ j ih =>
    intro k q hk h2 hq
    obtain ⟨k, rfl⟩ : ∃ m, k = m + 2 := ⟨k - 2, by omega⟩
    have q64 := p64 q (by omega)
    have q0 : q ≠ 0 := by omega
    have lq := GF.L_pos q0
    by_cases hd : GF.L q - 1 ≤ most
    · by_cases hlt : q < p
      · obtain ⟨b, e, hb⟩ := ih k (q + 1) (by omega) (by omega) (by omega)
        have ew : IntKind.u64.wrap ((q : Int) + 1) = ((q + 1 : Nat) : Int) := by rw [IntKind.wrap_u64]; omega
        have run : amphoraref06_Divides.l0 (k + 1 + 1) (p : Int) (most : Int) (q : Int) = (if (GF.L q : Int) - 1 < (GF.L p : Int) - 1 then (if ((GF.md p q : Nat) : Int) = 0 then some true else amphoraref06_Divides.l0 k (p : Int) (most : Int) ((q + 1 : Nat) : Int)) else amphoraref06_Divides.l0 k (p : Int) (most : Int) ((q + 1 : Nat) : Int)) := by
          simp only [amphoraref06_Divides.l0]
          rw [rDeg_f q q64 _ (by omega)]
          simp only [Option.bind_some]
          rw [if_pos (by omega), decide_eq_true (by omega)]
          simp only [amphoraref06_Divides.j1, if_true]
          rw [rDeg_f q q64 _ (by omega), rDeg_f p (p64 p (by omega)) _ (by omega), rMod_lo p q q0 q64 (p64 p (by omega)) _ (by omega), ew]
          simp only [Option.bind_some]
        by_cases c1 : GF.L q < GF.L p
        · by_cases c2 : GF.md p q = 0
          · refine ⟨true, by rw [run, if_pos (by omega), if_pos (by omega)], ?_⟩
            exact ⟨fun _ => ⟨q, Nat.le_refl _, hlt, hd, c1, (GF.md_eq_zero q0).1 c2⟩, fun _ => rfl⟩
          · refine ⟨b, by rw [run, if_pos (by omega), if_neg (by omega), e], ?_⟩
            rw [hb]
            constructor
            · rintro ⟨u, a1, a2⟩; exact ⟨u, by omega, a2⟩
            · rintro ⟨u, a1, a2, a3, a4, a5⟩
              by_cases c : u = q
              · subst c; exact absurd ((GF.md_eq_zero q0).2 a5) c2
              · exact ⟨u, by omega, a2, a3, a4, a5⟩
        · refine ⟨b, by rw [run, if_neg (by omega), e], ?_⟩
          rw [hb]
          constructor
          · rintro ⟨u, a1, a2⟩; exact ⟨u, by omega, a2⟩
          · rintro ⟨u, a1, a2, a3, a4, a5⟩
            by_cases c : u = q
            · subst c; exact absurd a4 c1
            · exact ⟨u, by omega, a2, a3, a4, a5⟩
      · refine ⟨false, ?_, ?_⟩
        · simp only [amphoraref06_Divides.l0]
          rw [rDeg_f q q64 _ (by omega)]
          simp only [Option.bind_some]
          rw [decide_eq_false (by omega)]
          split <;> simp [amphoraref06_Divides.j1]
        · constructor
          · intro h; cases h
          · rintro ⟨u, a1, a2, _⟩; omega
    · refine ⟨false, ?_, ?_⟩
      · simp only [amphoraref06_Divides.l0]
        rw [rDeg_f q q64 _ (by omega)]
        simp only [Option.bind_some]
        rw [if_neg (by omega)]
        simp [amphoraref06_Divides.j1]
      · constructor
        · intro h; cases h
        · rintro ⟨u, a1, _, a3, _⟩
          have := L_mono a1
          omega
end PolySmallAid
theorem PolySmall : amphoralaw06_PolySmall.Pure := by
  intro p hp
  obtain ⟨p, hp64, rfl⟩ := u64_nat p hp
  obtain ⟨K, hK⟩ : ∃ K : Nat, 20000 ≤ K := ⟨20000, Nat.le_refl _⟩
  refine ⟨K, ?_⟩
  have em : Int.tmod (p : Int) 8192 = ((p % 8192 : Nat) : Int) := by rw [Int.tmod_eq_emod_of_nonneg (by omega)]; omega
  unfold amphoralaw06_PolySmall.f
  rw [em]
  have hp : p % 8192 < 8192 := Nat.mod_lt _ (by omega)
  generalize p % 8192 = p at *
  have hp64 : p < 2 ^ 64 := by
    have : (2 : Nat) ^ 64 = 18446744073709551616 := by decide
    omega
  obtain ⟨b, e, h⟩ := Irreducible_f p hp64 K (by omega)
  rw [alive_f K (by omega)]
  simp only [Option.bind_some, if_true]
  rw [e, rDeg_f p hp64 K (by omega)]
  simp only [Option.bind_some]
  by_cases hl : GF.L p ≤ 1
  · rw [if_neg (by omega)]
    have : b = false := by
      cases b
      · rfl
      · have := (h.1 rfl).1; omega
    rw [this]; rfl
  · rw [if_pos (by omega)]
    have l13 : GF.L p ≤ 13 := GF.L_le.2 (by simpa using hp)
    have eh : wrap64 (Int.tdiv ((GF.L p : Int) - 1) 2) = (((GF.L p - 1) / 2 : Nat) : Int) := by
      rw [Int.tdiv_eq_ediv_of_nonneg (by omega), w64 (by omega) (by omega)]; omega
    obtain ⟨b', e', h'⟩ := PolySmallAid.rDiv_l p hp ((GF.L p - 1) / 2) (by omega) 8191 K 2 (by omega) (by omega) (by omega)
    rw [eh]
    unfold amphoraref06_Divides.f
    rw [show amphoraref06_Divides.l0 K (p : Int) (((GF.L p - 1) / 2 : Nat) : Int) 2 = some b' from e']
    simp only [Option.bind_some]
    have key : b = !b' := by
      rw [Bool.eq_iff_iff, h]
      rw [Bool.not_eq_true', ← Bool.not_eq_true, h']
      constructor
      · rintro hi ⟨u, a1, a2, a3, a4, a5⟩
        rcases hi.2 u a5 with r | r
        · omega
        · omega
      · intro hn
        apply Classical.byContradiction
        intro hi
        obtain ⟨f, hf, fd, fl⟩ := GF.exists_small (by omega) hi
        have f1 := hf.1
        have f2 : 2 ≤ f := by
          have := GF.lt_L.1 f1
          simpa using this
        have fp : f < p := by
          apply Classical.byContradiction
          intro c
          have := L_mono (a := p) (b := f) (by omega)
          omega
        exact hn ⟨f, f2, fp, by omega, by omega, fd⟩
    rw [key]; simp

end Go.Proofs.Ytabgknnnhhgliaa.Pure
