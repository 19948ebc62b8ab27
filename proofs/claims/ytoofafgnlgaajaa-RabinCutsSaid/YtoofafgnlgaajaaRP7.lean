/- The reference's Print; the statement RabinPrints in plain Lean. Conditions: as each theorem says. -/
import Derived.Test.YtoofafgnlgaajaaRP3
import Derived.Test.YtoofafgnlgaajaaPRabinx5
namespace Go.Proofs.Ytoofafgnlgaajaa.RW
open Go.RowKit Go.Proofs.Ytoofafgnlgaajaa.PRabin Go.Proofs.YtoofafgnlgaajaaW.PrintWords Go.Proofs.YtoofafgnlgaajaaW.PrintLast Go.Proofs.YtoofafgnlgaajaaW.PrintMore Go.Proofs.Ytoofafgnlgaajaa Go.Proofs.Ytoofafgnlgaajaa.PB
set_option linter.unusedVariables false
set_option linter.unusedSimpArgs false
theorem or_byte (o b : Nat) (hb : b < 256) : Go.bits .or .u64 (IntKind.u64.wrap ((o : Int) * 256)) (IntKind.u64.wrap (b : Int)) = (((o * 256 + b) % 2 ^ 64 : Nat) : Int) := by
  have p64 : (2 : Nat) ^ 64 = 18446744073709551616 := rfl
  have e1 : IntKind.u64.wrap ((o : Int) * 256) = ((o * 256 % 2 ^ 64 : Nat) : Int) := by rw [IntKind.wrap_u64]; omega
  have e2 : IntKind.u64.wrap (b : Int) = (b : Int) := by rw [IntKind.wrap_u64]; omega
  rw [e1, e2, or_i _ _ (Nat.mod_lt _ (Nat.two_pow_pos 64)) (by omega)]
  have e3 : o * 256 % 2 ^ 64 = 2 ^ 8 * (o % 2 ^ 56) := by omega
  have e4 := Nat.two_pow_add_eq_or_of_lt (b := b) (i := 8) hb (o % 2 ^ 56)
  rw [e3, ← e4]
  congr 1
  omega
theorem div56 (o b : Nat) (hb : b < 256) : (o : Int) / 72057594037927936 = (((o * 256 + b) / 2 ^ 64 : Nat) : Int) := by
  have p64 : (2 : Nat) ^ 64 = 18446744073709551616 := rfl
  rw [p64]
  omega
theorem lt128 (o b : Nat) (ho : o < 2 ^ 64) (hb : b < 256) : o * 256 + b < 2 ^ 128 := by
  calc o * 256 + b < o * 256 + 256 := Nat.add_lt_add_left hb _
    _ = (o + 1) * 256 := by rw [Nat.add_mul, Nat.one_mul]
    _ ≤ 2 ^ 64 * 256 := Nat.mul_le_mul_right _ ho
    _ ≤ 2 ^ 128 := by decide
theorem wr1 (t n : Nat) (h : t < n) (hn : n ≤ 1099511627776) : wrap64 ((t : Int) + 1) = ((t + 1 : Nat) : Int) := by rw [w64 (by omega) (by omega)]; rfl
theorem app4 (o b j v : Nat) : (o * 256 + b) * 2 ^ (8 * j) + v = o * 2 ^ (8 * (j + 1)) + (b * 2 ^ (8 * j) + v) := by
  rw [show (256 : Nat) = 2 ^ 8 from rfl, Nat.add_mul, Nat.mul_assoc, ← Nat.pow_add, show 8 + 8 * j = 8 * (j + 1) by omega, Nat.add_assoc]
theorem rPrint_step (p : Nat) (hp : p ≠ 0) (hp64 : p < 2 ^ 64) (l : List Int) (b o t k : Nat) (ht : (t : Int) < (l.length : Int)) (hrd : rd l (t : Int) = (b : Int)) (hb : b < 256) (ho64 : o < 2 ^ 64) (hw : wrap64 ((t : Int) + 1) = ((t + 1 : Nat) : Int)) (hk : 200 ≤ k) :
    amphoraref07_Print.l0 (k + 1) (p : Int) l (o : Int) (t : Int) = amphoraref07_Print.l0 k (p : Int) l ((GF.md (o * 256 + b) p : Nat) : Int) ((t + 1 : Nat) : Int) := by
  rw [amphoraref07_Print.l0, if_pos ht, if_pos (Int.natCast_nonneg t), hrd, or_byte o b hb, div56 o b hb, rMod_f (o * 256 + b) p hp hp64 (lt128 o b ho64 hb) k hk, Option.bind_some, hw]
theorem rPrint_l0 (p : Nat) (hp : p ≠ 0) (hp64 : p < 2 ^ 64) (hL : GF.L p ≤ 64) (l : List Nat) (hl : ∀ x ∈ l, x < 256) (hlen : l.length ≤ 1099511627776) (j : Nat) : ∀ (k o t : Nat), t + j = l.length → GF.L o < GF.L p → 300 ≤ k →
    amphoraref07_Print.l0 (k + j + 1) (p : Int) (I l) (o : Int) (t : Int) = some ((GF.md (o * 2 ^ (8 * j) + val (l.drop t)) p : Nat) : Int) := by
  induction j with
  | zero =>
    intro k o t ht ho hk
    have a1 : l.length ≤ t := by omega
    have a2 : ¬ (t : Int) < ((I l).length : Int) := by rw [I_len]; omega
    rw [amphoraref07_Print.l0, if_neg a2, List.drop_of_length_le a1, show val [] = 0 from rfl, Nat.mul_zero, Nat.pow_zero, Nat.mul_one, Nat.add_zero, GF.md_small ho]
  | succ j ih =>
    intro k o t ht ho hk
    have a1 : t < l.length := by omega
    have a2 : l.length - (t + 1) = j := by omega
    have a3 : t + 1 + j = l.length := by omega
    have a4 : 200 ≤ k + j + 1 := by omega
    have a5 : GF.L o ≤ 64 := by omega
    have a6 : (t : Int) < ((I l).length : Int) := by rw [I_len]; exact Int.ofNat_lt.2 a1
    have hx : l.getD t 0 < 256 := by
      rw [List.getD_eq_getElem?_getD, List.getElem?_eq_getElem a1]
      exact hl _ (List.getElem_mem _)
    have hrd : rd (I l) (t : Int) = ((l.getD t 0 : Nat) : Int) := by unfold rd I; simp [a1]
    have hv := val_lt (l.drop (t + 1)) (fun x hx => hl x (List.mem_of_mem_drop hx))
    rw [List.length_drop, a2] at hv
    have hst := rPrint_step p hp hp64 (I l) (l.getD t 0) o t (k + j + 1) a6 hrd hx (GF.L_le.1 a5) (wr1 t l.length a1 hlen) a4
    have hlj : (l.drop (t + 1)).length = j := by rw [List.length_drop, a2]
    rw [show k + (j + 1) + 1 = (k + j + 1) + 1 from rfl, hst, ih k _ (t + 1) a3 (GF.md_L hp _) hk, md_app hp _ _ _ hv, drop_cons l t a1, val_cons, hlj, app4]
theorem rPrint_f (p : Nat) (hp : p ≠ 0) (hp64 : p < 2 ^ 64) (l : List Nat) (hl : ∀ x ∈ l, x < 256) (hlen : l.length ≤ 1099511627776) (k : Nat) (hk : 300 ≤ k) : amphoraref07_Print.f (k + l.length + 1) (p : Int) (I l) = some ((fp p l : Nat) : Int) := by
  unfold amphoraref07_Print.f
  have := rPrint_l0 p hp hp64 (GF.L_le.2 hp64) l hl hlen l.length k 0 0 (Nat.zero_add _) (by rw [GF.L_zero]; exact GF.L_pos hp) hk
  rw [List.drop_zero, Nat.zero_mul, Nat.zero_add] at this
  exact this
theorem prints_law (p : Nat) (hp : p ≠ 0) (hp64 : p < 2 ^ 64) (l1 l2 : List Int) (h1 : ∀ x ∈ l1, 0 ≤ x ∧ x < 256) (h2 : ∀ x ∈ l2, 0 ≤ x ∧ x < 256) (hl1 : ¬ (l1.length : Int) > 1500) (hl2 : ¬ (l2.length : Int) > 1500) :
    ∃ (k : Nat) (x : Int), rabin_Print.f k (p : Int) [l1, l2] = some (x, none) ∧ amphoraref07_Print.f k (p : Int) (l1 ++ l2) = some x := by
  have hs : ∀ (l : List Int), (∀ x ∈ l, 0 ≤ x ∧ x < 256) → ∀ x ∈ l.map Int.toNat, x < 256 := by
    intro l h x hx
    obtain ⟨y, hy, rfl⟩ := List.mem_map.1 hx
    have := h y hy
    omega
  have e1 := I_toNat l1 h1
  have e2 := I_toNat l2 h2
  have hP := Print_f p hp hp64 [l1.map Int.toNat, l2.map Int.toNat] (by
    intro l hl
    rcases List.mem_cons.1 hl with rfl | hl
    · exact ⟨hs l1 h1, by rw [List.length_map]; clear hp64; omega⟩
    · rw [List.mem_singleton.1 hl]; exact ⟨hs l2 h2, by rw [List.length_map]; clear hp64; omega⟩) (by simp) 50000 (by decide)
  have hQ := rPrint_f p hp hp64 (l1.map Int.toNat ++ l2.map Int.toNat) (by
    intro x hx
    rcases List.mem_append.1 hx with hx | hx
    · exact hs l1 h1 x hx
    · exact hs l2 h2 x hx) (by rw [List.length_append, List.length_map, List.length_map]; clear hp64 hP; omega) 50000 (by decide)
  rw [show [l1.map Int.toNat, l2.map Int.toNat].map I = [l1, l2] by simp only [List.map_cons, List.map_nil]; rw [e1, e2], show [l1.map Int.toNat, l2.map Int.toNat].flatten = l1.map Int.toNat ++ l2.map Int.toNat by simp] at hP
  rw [I_app, e1, e2] at hQ
  refine ⟨_, _, at_rounds (g := fun k => rabin_Print.f k (p : Int) [l1, l2]) (fun k => rabin_Print.mono _ _ k) (Nat.le_add_right _ (50000 + (l1.map Int.toNat ++ l2.map Int.toNat).length + 1)) hP, at_rounds (g := fun k => amphoraref07_Print.f k (p : Int) (l1 ++ l2)) (fun k => amphoraref07_Print.mono _ _ k) (Nat.le_add_left _ _) hQ⟩
end Go.Proofs.Ytoofafgnlgaajaa.RW
