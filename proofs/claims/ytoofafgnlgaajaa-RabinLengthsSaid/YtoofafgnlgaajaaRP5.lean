/- The statement RabinLengths in plain Lean. Conditions: as each theorem says. -/
import Derived.Test.YtoofafgnlgaajaaRP4
namespace Go.Proofs.Ytoofafgnlgaajaa.RW
open Go.RowKit Go.Proofs.Ytoofafgnlgaajaa.PRabin Go.Proofs.YtoofafgnlgaajaaW.PrintWords Go.Proofs.YtoofafgnlgaajaaW.PrintLast Go.Proofs.YtoofafgnlgaajaaW.PrintMore Go.Proofs.Ytoofafgnlgaajaa Go.Proofs.Ytoofafgnlgaajaa.PB
set_option linter.unusedVariables false
set_option linter.unusedSimpArgs false
theorem lengths_law (p : Nat) (hp64 : p < 2 ^ 64) (a1 a2 a3 a4 : Int) (l : List Int) (hl : ∀ x ∈ l, 0 ≤ x ∧ x < 256) : ∃ k, amphoralaw07_RabinLengths.f k (p : Int) a1 a2 a3 a4 l = some true := by
  refine ⟨100000, ?_⟩
  unfold amphoralaw07_RabinLengths.f
  rw [alive_at _ (by decide)]
  simp only [Option.bind_some, if_true]
  by_cases c : (l.length : Int) > 65536
  · rw [if_pos c]
  rw [if_neg c]
  have hlen : l.length ≤ 1000000000000 := by clear hp64; omega
  have hcf := Cut_f p hp64 a1 a2 a3 a4 l hl hlen 100000 (by decide)
  clear hp64
  rcases hcf with ⟨h1, h2, g⟩ | ⟨h1, h2, g⟩
  · rw [h1]
    simp only [Option.bind_some, Option.isNone_none, if_true]
    obtain ⟨g1, g2, g3, g4⟩ := good_set g
    obtain ⟨S, hS⟩ : ∃ S, S = setN (p : Int) a1 a2 a3 a4 := ⟨_, rfl⟩
    rw [← hS] at g1 g2 g3 g4 ⊢
    obtain ⟨C, hC⟩ : ∃ C, C = cutL S [] (l.map Int.toNat) := ⟨_, rfl⟩
    have hf := cut_flat S (l.map Int.toNat) []
    have hle := cut_le g1 g2 (l.map Int.toNat) [] g2
    have hmn := cut_mn (S := S) (l.map Int.toNat) []
    have hsm := cut_small S [] (l.map Int.toNat) g1 g2 g2
    rw [← hC] at hf hle hmn hsm ⊢
    rw [List.nil_append] at hf
    have hsum : (C.map List.length).sum = l.length := by rw [sum_flat, hf, List.length_map]
    rw [hf, List.length_map] at hsm
    have hget : ∀ i, (C.map List.length).getD i 0 = (C.getD i []).length := by
      intro i
      simp only [List.getD_eq_getElem?_getD, List.getElem?_map]
      cases C[i]? <;> rfl
    have := Lengths_l0 (C.map List.length) l.length a2 a3 l (p : Int) a1 a4 (by
      intro i hi
      rw [List.length_map] at hi
      rw [hget, List.getD_eq_getElem?_getD, List.getElem?_eq_getElem hi]
      have := hle _ (List.getElem_mem hi)
      rw [Option.getD_some]
      omega) (by
      intro i hi
      rw [List.length_map] at hi
      rw [hget]
      have := hmn i hi
      omega) (by rw [List.length_map]; omega) (C.map List.length).length 100000 0 0 (by omega) (by rw [List.length_map]; omega) (by rw [List.drop_zero, hsum]; omega)
    rw [List.drop_zero, hsum, Nat.zero_add] at this
    rw [show ((0 : Nat) : Int) = 0 from rfl] at this
    rw [this]
    simp
  · rw [h1]
    simp only [Option.bind_some]
    rw [h2]
    rfl
end Go.Proofs.Ytoofafgnlgaajaa.RW
