/- What Print answers; the chapter's example. Conditions: as each theorem says. -/
import Derived.Test.YtoofafgnlgaajaaPR
namespace Go.Proofs.Ytoofafgnlgaajaa.RW
open Go.RowKit Go.Proofs.Ytoofafgnlgaajaa.PRabin Go.Proofs.YtoofafgnlgaajaaW.PrintWords Go.Proofs.YtoofafgnlgaajaaW.PrintLast Go.Proofs.YtoofafgnlgaajaaW.PrintMore Go.Proofs.Ytoofafgnlgaajaa Go.Proofs.Ytoofafgnlgaajaa.PB
set_option linter.unusedVariables false
set_option linter.unusedSimpArgs false
theorem bit_i (x j : Nat) (hx : x < 256) (hj : j < 8) : IntKind.u64.wrap (Go.bits .and .u8 (shr .u8 (x : Int) (j : Int)) 1) = ((x / 2 ^ j % 2 : Nat) : Int) := by
  have h : ∀ (x : Fin 256) (j : Fin 8), IntKind.u64.wrap (Go.bits .and .u8 (shr .u8 (x.val : Int) (j.val : Int)) 1) = ((x.val / 2 ^ j.val % 2 : Nat) : Int) := by decide +kernel
  exact h ⟨x, hx⟩ ⟨j, hj⟩
theorem or_even (o b : Nat) (hb : b < 2) : Go.bits .or .u64 (IntKind.u64.wrap ((o : Int) * 2)) (b : Int) = (((2 * o + b) % 2 ^ 64 : Nat) : Int) := by
  have p64 : (2 : Nat) ^ 64 = 18446744073709551616 := rfl
  rw [dbl_i, or_i _ _ (Nat.mod_lt _ (Nat.two_pow_pos 64)) (by omega), show 2 * o % 2 ^ 64 = 2 * (o % 2 ^ 63) by omega, or_bit _ _ hb]
  congr 1
  omega
theorem md_app {p : Nat} (hp : p ≠ 0) (a r j : Nat) (hr : r < 2 ^ j) : GF.md (GF.md a p * 2 ^ j + r) p = GF.md (a * 2 ^ j + r) p := by
  rw [add_xor hr, add_xor hr, GF.md_xor hp, GF.md_xor hp, ← GF.mul_pow, ← GF.mul_pow, GF.md_mul_md hp]
theorem Print_l2 (p : Nat) (hp : p ≠ 0) (hp64 : p < 2 ^ 64) (x : Nat) (hx : x < 256) (P : List (List Int)) (n i : Int) (l : List Int) (m t : Int) (j : Nat) : ∀ (k o : Nat), j ≤ 8 → GF.L o < GF.L p → 300 ≤ k →
    rabin_Print.l2 (k + j + 1) (p : Int) (o : Int) (x : Int) ((j : Int) - 1) P n i l m t = rabin_Print.l1 k (p : Int) ((GF.md (o * 2 ^ j + x % 2 ^ j) p : Nat) : Int) P n i l m (wrap64 (t + 1)) := by
  induction j with
  | zero =>
    intro k o _ ho hk
    rw [rabin_Print.l2, if_neg (by omega), Nat.pow_zero, Nat.mod_one, Nat.mul_one, Nat.add_zero, GF.md_small ho]
  | succ j ih =>
    intro k o hj ho hk
    have hL : GF.L p ≤ 64 := GF.L_le.2 hp64
    have ho64 : o < 2 ^ 64 := GF.L_le.1 (by omega)
    have hbt : x / 2 ^ j % 2 < 2 := Nat.mod_lt _ (by omega)
    have p64 : (2 : Nat) ^ 64 = 18446744073709551616 := rfl
    have p128 : (2 : Nat) ^ 128 = 340282366920938463463374607431768211456 := rfl
    have e1 : (o : Int) / 9223372036854775808 = (((2 * o + x / 2 ^ j % 2) / 2 ^ 64 : Nat) : Int) := by omega
    have hm := Mod_f (2 * o + x / 2 ^ j % 2) p hp hp64 (by omega) (k + j + 1) (by omega)
    rw [show k + (j + 1) + 1 = (k + j + 1) + 1 by omega, rabin_Print.l2, if_pos (by omega), if_pos (by omega), show ((j + 1 : Nat) : Int) - 1 = (j : Int) by omega, bit_i x j hx (by omega), or_even o _ hbt, e1, hm]
    simp only [Option.bind_some]
    rw [show wrap64 ((j : Int) - 1) = (j : Int) - 1 from w64 (by omega) (by omega), ih k _ (by omega) (GF.md_L hp _) hk, md_app hp _ _ _ (Nat.mod_lt _ (Nat.two_pow_pos j))]
    have e2 : (2 * o + x / 2 ^ j % 2) * 2 ^ j + x % 2 ^ j = o * 2 ^ (j + 1) + x % 2 ^ (j + 1) := by
      rw [Nat.pow_succ, Nat.mod_mul, Nat.add_mul, Nat.mul_comm (x / 2 ^ j % 2), Nat.mul_assoc, Nat.mul_left_comm, Nat.mul_comm 2 (2 ^ j)]
      omega
    rw [e2]
theorem Print_l1 (p : Nat) (hp : p ≠ 0) (hp64 : p < 2 ^ 64) (l : List Nat) (hl : ∀ x ∈ l, x < 256) (hlen : l.length ≤ 1099511627776) (P : List (List Int)) (n i : Int) (j : Nat) : ∀ (k o t : Nat), t + j = l.length → GF.L o < GF.L p → 300 ≤ k →
    rabin_Print.l1 (k + 10 * j + 1) (p : Int) (o : Int) P n i (I l) (l.length : Int) (t : Int) = rabin_Print.l0 k (p : Int) ((GF.md (o * 2 ^ (8 * j) + val (l.drop t)) p : Nat) : Int) P n (wrap64 (i + 1)) := by
  induction j with
  | zero =>
    intro k o t ht ho hk
    rw [rabin_Print.l1, if_neg (by omega), show l.drop t = [] from List.drop_of_length_le (by omega), show val [] = 0 from rfl, Nat.mul_zero, Nat.pow_zero, Nat.mul_one, Nat.add_zero, GF.md_small ho]
  | succ j ih =>
    intro k o t ht ho hk
    have hx : l.getD t 0 < 256 := by
      rw [List.getD_eq_getElem?_getD, List.getElem?_eq_getElem (show t < l.length by omega)]
      exact hl _ (List.getElem_mem _)
    have hrd : rd (I l) (t : Int) = ((l.getD t 0 : Nat) : Int) := by unfold rd I; simp [show t < l.length by omega]
    have h2 := Print_l2 p hp hp64 (l.getD t 0) hx P n i (I l) (l.length : Int) (t : Int) 8 (k + 10 * j + 1) o (by omega) ho (by omega)
    rw [show ((8 : Nat) : Int) - 1 = 7 from rfl] at h2
    rw [show k + 10 * (j + 1) + 1 = (k + 10 * j + 1 + 8 + 1) + 1 by omega, rabin_Print.l1, if_pos (by omega), if_pos (by omega), if_pos (by rw [I_len]; omega), hrd, h2, show wrap64 ((t : Int) + 1) = ((t + 1 : Nat) : Int) by rw [w64 (by omega) (by omega)]; rfl,
      ih k _ (t + 1) (by omega) (GF.md_L hp _) hk, drop_cons l t (by omega), val_cons, List.length_drop, Nat.mod_eq_of_lt (show l.getD t 0 < 2 ^ 8 from hx)]
    have hv : val (l.drop (t + 1)) < 2 ^ (8 * j) := by
      have := val_lt (l.drop (t + 1)) (fun x hx => hl x (List.mem_of_mem_drop hx))
      rw [List.length_drop, show l.length - (t + 1) = j by omega] at this
      exact this
    rw [show l.length - (t + 1) = j by omega, md_app hp _ _ _ hv]
    have e : (o * 2 ^ 8 + l.getD t 0) * 2 ^ (8 * j) + val (l.drop (t + 1)) = o * 2 ^ (8 * (j + 1)) + (l.getD t 0 * 2 ^ (8 * j) + val (l.drop (t + 1))) := by
      rw [Nat.add_mul, Nat.mul_assoc, ← Nat.pow_add, show 8 + 8 * j = 8 * (j + 1) by omega, Nat.add_assoc]
    rw [e]
theorem val_app (a b : List Nat) : val (a ++ b) = val a * 2 ^ (8 * b.length) + val b := by
  unfold val
  rw [List.foldl_append, val_from, Nat.pow_mul]
  rfl
theorem Print_l0 (p : Nat) (hp : p ≠ 0) (hp64 : p < 2 ^ 64) (P : List (List Nat)) (hP : ∀ l ∈ P, (∀ x ∈ l, x < 256) ∧ l.length ≤ 1099511627776) (hlen : P.length ≤ 1099511627776) (j : Nat) : ∀ (k o i : Nat), i + j = P.length → GF.L o < GF.L p → 300 ≤ k →
    rabin_Print.l0 (k + 10 * (P.drop i).flatten.length + 2 * j + 1) (p : Int) (o : Int) (P.map I) (P.length : Int) (i : Int) = some (((GF.md (o * 2 ^ (8 * (P.drop i).flatten.length) + val (P.drop i).flatten) p : Nat) : Int), none) := by
  induction j with
  | zero =>
    intro k o i hi ho hk
    rw [show P.drop i = [] from List.drop_of_length_le (by omega), rabin_Print.l0, if_neg (by omega)]
    simp only [List.flatten_nil, List.length_nil, Nat.mul_zero, Nat.pow_zero, Nat.mul_one]
    rw [show val [] = 0 from rfl, Nat.add_zero, GF.md_small ho]
  | succ j ih =>
    intro k o i hi ho hk
    have hil : i < P.length := by omega
    obtain ⟨h1, h2⟩ := hP _ (List.getElem_mem hil)
    have hd : P.drop i = P[i] :: P.drop (i + 1) := List.drop_eq_getElem_cons hil
    have hrd : rd_L3 (P.map I) (i : Int) = I P[i] := by unfold rd_L3; simp [hil]
    obtain ⟨l, hl⟩ : ∃ l, l = P[i] := ⟨_, rfl⟩
    rw [← hl] at h1 h2 hd hrd
    have h3 := Print_l1 p hp hp64 l h1 h2 (P.map I) (P.length : Int) (i : Int) l.length (k + 10 * (P.drop (i + 1)).flatten.length + 2 * j + 1) o 0 (by omega) ho (by omega)
    rw [hd, List.flatten_cons, List.length_append, show k + 10 * (l.length + (P.drop (i + 1)).flatten.length) + 2 * (j + 1) + 1 = (k + 10 * (P.drop (i + 1)).flatten.length + 2 * j + 1 + 10 * l.length + 1) + 1 by omega, rabin_Print.l0, if_pos (by omega), if_pos (by omega), if_pos (by rw [List.length_map]; omega), hrd, I_len]
    rw [show ((0 : Nat) : Int) = 0 from rfl] at h3
    rw [h3, show wrap64 ((i : Int) + 1) = ((i + 1 : Nat) : Int) by rw [w64 (by omega) (by omega)]; rfl, ih k _ (i + 1) (by omega) (GF.md_L hp _) hk, List.drop_zero, val_app]
    have hv : val (P.drop (i + 1)).flatten < 2 ^ (8 * (P.drop (i + 1)).flatten.length) := val_lt _ (fun x hx => by
      obtain ⟨q, hq, hxq⟩ := List.mem_flatten.1 hx
      exact (hP q (List.mem_of_mem_drop hq)).1 x hxq)
    rw [md_app hp _ _ _ hv]
    congr 4
    rw [Nat.add_mul, Nat.mul_assoc, ← Nat.pow_add, ← Nat.mul_add, Nat.add_assoc]
/-- The fingerprint that Print answers. -/
theorem Print_f (p : Nat) (hp : p ≠ 0) (hp64 : p < 2 ^ 64) (P : List (List Nat)) (hP : ∀ l ∈ P, (∀ x ∈ l, x < 256) ∧ l.length ≤ 1099511627776) (hlen : P.length ≤ 1099511627776) (k : Nat) (hk : 300 ≤ k) :
    rabin_Print.f (k + 10 * P.flatten.length + 2 * P.length + 1) (p : Int) (P.map I) = some (((fp p P.flatten : Nat) : Int), none) := by
  unfold rabin_Print.f
  rw [if_neg (by omega), List.length_map]
  have := Print_l0 p hp hp64 P hP hlen P.length k 0 0 (by omega) (by rw [GF.L_zero]; exact GF.L_pos hp) hk
  rw [List.drop_zero, Nat.zero_mul, Nat.zero_add] at this
  exact this
/-! ### the chapter's example -/
theorem irr283 : GF.Irr 283 := by
  obtain ⟨b, h1, h2⟩ := Irreducible_f 283 (by decide) 1000 (by omega)
  have h3 : poly_Irreducible.f 1000 ((283 : Nat) : Int) = some true := by decide +kernel
  rw [h3] at h1
  injection h1 with h1
  exact h2.1 h1.symm
theorem L283 : GF.L 283 = 9 := GF.L_unique (k := 8) (by decide) (by decide)
theorem good283 : Good 283 1 1 4 8 := ⟨by rw [L283]; decide, by rw [L283]; decide, irr283, by decide, by decide, by decide, by decide, by decide, by decide, by rw [L283]; decide, by decide⟩
theorem ends283 (r : List Nat) (x : Nat) (hx : x < 256) : endsR ⟨283, 1, 1, 4, 8⟩ (r ++ [x]) = (decide (r.length + 1 = 4) || decide (x &&& 255 = 255)) := by
  have e : fp 283 [x] = x := by
    unfold fp
    rw [show val [x] = 0 * 256 + x from rfl, Nat.zero_mul, Nat.zero_add, GF.md_small]
    have := GF.L_le.2 (show x < 2 ^ 8 from hx)
    rw [L283]; omega
  unfold endsR
  rw [List.length_append, List.length_singleton]
  show (decide (1 ≤ r.length + 1) && (decide (r.length + 1 = 4) || decide (fp 283 ((r ++ [x]).drop (r.length + 1 - 1)) &&& (2 ^ 8 - 1) = 2 ^ 8 - 1))) = _
  rw [Nat.add_sub_cancel, List.drop_append_of_le_length (Nat.le_refl _), List.drop_length, List.nil_append, e, decide_eq_true (by omega), Bool.true_and]
  rfl
theorem cut283 : (cutL ⟨283, 1, 1, 4, 8⟩ [] [0, 255, 1, 2, 3, 4, 5]).map List.length = [2, 4, 1] := by
  rw [cutL, ends283 _ _ (by decide), if_neg (by decide), cutL, ends283 _ _ (by decide), if_pos (by decide), cutL, ends283 _ _ (by decide), if_neg (by decide), cutL, ends283 _ _ (by decide), if_neg (by decide), cutL, ends283 _ _ (by decide), if_neg (by decide),
    cutL, ends283 _ _ (by decide), if_pos (by decide), cutL, ends283 _ _ (by decide), if_neg (by decide), cutL, if_neg (by decide)]
  rfl
theorem alive_f : amphoralaw07_alive.f 2000 = some true := by
  have h1 : rabin_Cut.f 2000 283 1 1 4 8 [0, 255, 1, 2, 3, 4, 5] = some ([2, 4, 1], none) := by
    unfold rabin_Cut.f
    rcases Check_f 283 (by decide) 1 1 4 8 2000 (by omega) with h | h
    · rw [show ((283 : Nat) : Int) = 283 from rfl] at h
      rw [h.1]
      simp only [Option.bind_some]
      rw [if_pos (by decide)]
      have := cut283
      rw [show (cutL (setN 283 1 1 4 8) [] (List.map Int.toNat [0, 255, 1, 2, 3, 4, 5])).map List.length = [2, 4, 1] from this]
      rfl
    · exact absurd good283 h.2
  have h2 : rabin_Print.f 2000 283 [[87, 131]] = some (243, none) := at_rounds (g := fun k => rabin_Print.f k 283 [[87, 131]]) (fun k => rabin_Print.mono _ _ k) (show 400 ≤ 2000 by omega) (by decide +kernel : rabin_Print.f 400 283 [[87, 131]] = some (243, none))
  have h3 : amphoranum_Ints.f 2000 [2, 4, 1] [2, 4, 1] = some true := at_rounds (g := fun k => amphoranum_Ints.f k [2, 4, 1] [2, 4, 1]) (fun k => amphoranum_Ints.mono _ _ k) (show 20 ≤ 2000 by omega) (by decide +kernel : amphoranum_Ints.f 20 [2, 4, 1] [2, 4, 1] = some true)
  unfold amphoralaw07_alive.f
  rw [h1]
  simp only [Option.bind_some]
  rw [h2]
  simp only [Option.bind_some]
  rw [h3]
  rfl
theorem alive_at (k : Nat) (hk : 2000 ≤ k) : amphoralaw07_alive.f k = some true := at_rounds (g := fun k => amphoralaw07_alive.f k) (fun k => amphoralaw07_alive.mono k) hk alive_f
end Go.Proofs.Ytoofafgnlgaajaa.RW
