/- The statement UstarBack over the printed functions. Conditions: a text of at most 140737488351232 bytes, bytes. -/
import Derived.Test.YtkdklgcjimnabaaUPA
import Derived.KernelRfl
namespace Go.Proofs.Ytkdklgcjimnabaa.PUstar
open Go.RowKit Go.Proofs.YtkdklgcjimnabaaW.PrintWords Go.Proofs.YtkdklgcjimnabaaW.PrintLast
set_option linter.unusedVariables false
set_option linter.unusedSimpArgs false
namespace UP
open UM
theorem back (p : ByteArray) (mode uid gid size time typ : Int) (link : ByteArray) (b : List Int) (hp : p.size ≤ 140737488351232) (ht : 0 ≤ typ ∧ typ < 256) (hb : By b) :
    ∃ k, 600 ≤ k ∧ (ustar_Encode.f k p mode uid gid size time typ link = some ([], some 14) ∨ ∃ x : List Int, x.length = 512 ∧ ustar_Encode.f k p mode uid gid size time typ link = some (x, none) ∧ ustar_Decode.f k x = some (p, mode, uid, gid, size, time, typ, link, none)) ∧
      (ustar_Decode.f k b = some ((⟨#[]⟩ : ByteArray), 0, 0, 0, 0, 0, 0, (⟨#[]⟩ : ByteArray), some 14) ∨ ∃ (p2 : ByteArray) (m2 u2 g2 s2 t2 ty2 : Int) (lk2 : ByteArray), ustar_Decode.f k b = some (p2, m2, u2, g2, s2, t2, ty2, lk2, none) ∧ ustar_Encode.f k p2 m2 u2 g2 s2 t2 ty2 lk2 = some (b, none)) := by
  refine ⟨p.size + 5000, by omega, ?_, ?_⟩
  · rw [enc_f p mode uid gid size time typ link hp ht _ (by omega)]
    cases hE : (encV p mode uid gid size time typ link).2 with
    | some v =>
      left
      unfold encV at hE ⊢
      split at hE
      · cases hE
      · next hc => rw [if_neg hc]
    | none =>
      have hx : encV p mode uid gid size time typ link = ((encV p mode uid gid size time typ link).1, none) := by rw [← hE]
      exact .inr ⟨(encV p mode uid gid size time typ link).1, encV_length hE, by rw [← hx], by rw [dec_f _ (encV_By ht) (encV_length hE) (p.size + 5000) (by omega), dec_enc hx]⟩
  · by_cases hl : b.length = 512
    · rw [dec_f b hb hl _ (by omega)]
      unfold decV
      by_cases hc : encV (pathOf (txt b 345 155) (txt b 0 100)) (num 0 (fld b 100 7)) (num 0 (fld b 108 7)) (num 0 (fld b 116 7)) (num 0 (fld b 124 11)) (num 0 (fld b 136 11)) (rd b 156) (txt b 157 100) = (b, none)
      · right
        rw [if_pos hc]
        have s1 := txt_size b 0 100 (by omega)
        have s3 := txt_size b 345 155 (by omega)
        have hty : 0 ≤ rd b 156 ∧ rd b 156 < 256 := by
          have := rd_at b 156 (by omega)
          have q := hb b[156] (List.getElem_mem _)
          rw [show ((156 : Nat) : Int) = 156 by rfl] at this
          rw [this]; exact q
        have hpz : (pathOf (txt b 345 155) (txt b 0 100)).size ≤ 140737488351232 := by
          unfold pathOf
          have z1 : (txt b 345 155 ++ slash).size = (txt b 345 155).size + 1 := by rw [ByteArray.size_append]; rfl
          split
          · omega
          · rw [ByteArray.size_append, z1]; omega
        have hpk : (pathOf (txt b 345 155) (txt b 0 100)).size ≤ 1000 := by
          unfold pathOf
          have z1 : (txt b 345 155 ++ slash).size = (txt b 345 155).size + 1 := by rw [ByteArray.size_append]; rfl
          split
          · omega
          · rw [ByteArray.size_append, z1]; omega
        exact ⟨_, _, _, _, _, _, _, _, rfl, by rw [enc_f _ _ _ _ _ _ _ _ hpz hty _ (by omega), hc]⟩
      · left; rw [if_neg hc]; rfl
    · left; unfold ustar_Decode.f; rw [if_neg (by omega)]
end UP
end Go.Proofs.Ytkdklgcjimnabaa.PUstar
