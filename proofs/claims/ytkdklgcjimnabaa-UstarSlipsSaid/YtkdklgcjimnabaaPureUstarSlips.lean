/- The statement UstarSlips over the printed functions. Conditions: a text of at most 140737488351232 bytes, bytes. -/
import Derived.Test.YtkdklgcjimnabaaUPA
import Derived.Test.YtkdklgcjimnabaaUAlive
import Derived.Test.YtkdklgcjimnabaaPUstarx9
import Derived.KernelRfl
namespace Go.Proofs.Ytkdklgcjimnabaa.PUstar
open Go.RowKit Go.Proofs.YtkdklgcjimnabaaW.PrintWords Go.Proofs.YtkdklgcjimnabaaW.PrintLast
set_option linter.unusedVariables false
set_option linter.unusedSimpArgs false
namespace UP
open UM CopyS
theorem xor8 (a b : Int) (h0 : 0 ≤ a) (h1 : a < 256) (h2 : 0 ≤ b) (h3 : b < 256) : Go.bits .xor .u8 a b = ((a.toNat ^^^ b.toNat : Nat) : Int) := by
  obtain ⟨a, rfl⟩ := Int.eq_ofNat_of_zero_le h0
  obtain ⟨b, rfl⟩ := Int.eq_ofNat_of_zero_le h2
  have hb : ∀ x : Nat, x < 256 → (BitVec.ofInt 8 (x : Int)).toNat = x := by
    intro x hx
    rw [BitVec.ofInt_natCast, BitVec.toNat_ofNat]; exact Nat.mod_eq_of_lt (by omega)
  show IntKind.u8.wrap ((BitVec.ofInt 8 (a : Int) ^^^ BitVec.ofInt 8 (b : Int)).toNat : Int) = _
  have hx : a ^^^ b < 2 ^ 8 := Nat.xor_lt_two_pow (by omega) (by omega)
  rw [BitVec.toNat_xor, hb a (by omega), hb b (by omega), IntKind.wrap_u8]
  rw [Int.toNat_natCast, Int.toNat_natCast]
  omega
theorem xor_ne (a b : Nat) (h : a ^^^ b = a) : b = 0 := by
  have : a ^^^ (a ^^^ b) = a ^^^ a := by rw [h]
  rw [← Nat.xor_assoc, Nat.xor_self, Nat.zero_xor] at this; exact this
theorem By_set {l : List Int} (h : By l) (i : Nat) (v : Int) (hv : 0 ≤ v ∧ v < 256) : By (l.set i v) := by
  intro x hx
  rcases List.mem_or_eq_of_mem_set hx with h1 | h1
  · exact h x h1
  · rw [h1]; exact hv
theorem slips (A : ∀ k, 600 ≤ k → amphoralaw10_alive.f k = some true) (p : ByteArray) (mode uid gid size time typ : Int) (link : ByteArray) (at_ d : Int) (hp : p.size ≤ 140737488351232) (ht : 0 ≤ typ ∧ typ < 256) (hd : 0 ≤ d ∧ d < 256) : ∃ k, amphoralaw10_UstarSlips.f k p mode uid gid size time typ link at_ d = some true := by
  refine ⟨p.size + 3000, ?_⟩
  unfold amphoralaw10_UstarSlips.f
  rw [A _ (by omega), Option.bind_some, if_pos rfl, enc_f p mode uid gid size time typ link hp ht _ (by omega), Option.bind_some]
  cases hE : (encV p mode uid gid size time typ link).2 with
  | some v => rw [if_neg (by simp)]
  | none =>
    rw [if_pos (by rfl)]
    by_cases h0 : d = 0
    · rw [if_pos h0]
    · rw [if_neg h0]
      have hl := encV_length hE
      have hx : encV p mode uid gid size time typ link = ((encV p mode uid gid size time typ link).1, none) := by rw [← hE]
      have hB : By (encV p mode uid gid size time typ link).1 := encV_By ht
      generalize (encV p mode uid gid size time typ link).1 = x at *
      obtain ⟨i, hi, e⟩ : ∃ i : Nat, i < 512 ∧ wrap64 (Int.tmod (IntKind.u64.wrap at_) 512) = (i : Int) := by
        have h1 : 0 ≤ IntKind.u64.wrap at_ := by rw [IntKind.wrap_u64]; omega
        have h2 : Int.tmod (IntKind.u64.wrap at_) 512 = IntKind.u64.wrap at_ % 512 := Int.tmod_eq_emod_of_nonneg h1
        refine ⟨(IntKind.u64.wrap at_ % 512).toNat, by omega, ?_⟩
        rw [h2, UP.w64 (by omega) (by omega)]; omega
      rw [e, if_pos (by omega), if_pos (by omega), rd_at x i (by omega), Int.toNat_natCast]
      have hb := hB x[i] (List.getElem_mem _)
      have hxr := xor8 x[i] d hb.1 hb.2 hd.1 hd.2
      have hlt : x[i].toNat ^^^ d.toNat < 2 ^ 8 := Nat.xor_lt_two_pow (by omega) (by omega)
      rw [hxr]
      have hB2 := By_set hB i ((x[i].toNat ^^^ d.toNat : Nat) : Int) (by omega)
      have hne : x.set i ((x[i].toNat ^^^ d.toNat : Nat) : Int) ≠ x := by
        intro q
        have q2 : (x.set i ((x[i].toNat ^^^ d.toNat : Nat) : Int))[i]'(by rw [List.length_set]; omega) = x[i] := by simp only [q]
        rw [List.getElem_set_self] at q2
        have : x[i].toNat ^^^ d.toNat = x[i].toNat := by omega
        have := xor_ne _ _ this
        omega
      rw [dec_f _ hB2 (by rw [List.length_set]; exact hl) _ (by omega), Option.bind_some]
      rcases dec_either (x.set i ((x[i].toNat ^^^ d.toNat : Nat) : Int)) with h | ⟨p', mode', uid', gid', size', time', typ', link', h⟩
      · rw [h]; rfl
      · rw [h, if_pos (by rfl)]
        have hk := dec_ok h
        refine congrArg some ?_
        show (!(p'.toList == p.toList) || (!(mode' == mode) || (!(uid' == uid) || (!(gid' == gid) || (!(size' == size) || (!(time' == time) || (!(typ' == typ) || (!(link'.toList == link.toList))))))))) = true
        refine Classical.byContradiction fun hc => hne ?_
        simp only [Bool.or_eq_true, Bool.not_eq_true', beq_eq_false_iff_ne, ne_eq, not_or, Decidable.not_not] at hc
        obtain ⟨c1, c2, c3, c4, c5, c6, c7, c8⟩ := hc
        have c1 := UM.toList_inj c1
        have c8 := UM.toList_inj c8
        subst c1 c2 c3 c4 c5 c6 c7 c8
        rw [hx] at hk
        exact (congrArg Prod.fst hk).symm
end UP
end Go.Proofs.Ytkdklgcjimnabaa.PUstar
namespace Go.Proofs.Ytkdklgcjimnabaa.Pure
open Go.Proofs.Ytkdklgcjimnabaa.PUstar
theorem UstarSlips (p : ByteArray) (mode uid gid size time typ : Int) (link : ByteArray) (i d : Int) (hp : p.size ≤ 140737488351232) (ht : 0 ≤ typ ∧ typ < 256) (hd : 0 ≤ d ∧ d < 256) : ∃ k, amphoralaw10_UstarSlips.f k p mode uid gid size time typ link i d = some true := UP.slips alive_all p mode uid gid size time typ link i d hp ht hd
end Go.Proofs.Ytkdklgcjimnabaa.Pure
