/- The reference's Check, Ends and Cut, and the statement RabinCuts, in plain Lean. Conditions: as each theorem says. -/
import Derived.Test.YtoofafgnlgaajaaRP6
import Derived.Test.YtoofafgnlgaajaaRP7
import Derived.Test.YtoofafgnlgaajaaPRabinx9
namespace Go.Proofs.Ytoofafgnlgaajaa.RW
open Go.RowKit Go.Proofs.Ytoofafgnlgaajaa.PRabin Go.Proofs.YtoofafgnlgaajaaW.PrintWords Go.Proofs.YtoofafgnlgaajaaW.PrintLast Go.Proofs.YtoofafgnlgaajaaW.PrintMore Go.Proofs.Ytoofafgnlgaajaa Go.Proofs.Ytoofafgnlgaajaa.PB
set_option linter.unusedVariables false
set_option linter.unusedSimpArgs false
theorem rCheck_f (p : Nat) (hp64 : p < 2 ^ 64) (a1 a2 a3 a4 : Int) (k : Nat) (hk : 1000 ≤ k) : (amphoraref07_Check.f k (p : Int) a1 a2 a3 a4 = some 0 ∧ Good p a1 a2 a3 a4) ∨ (amphoraref07_Check.f k (p : Int) a1 a2 a3 a4 = some 11 ∧ ¬ Good p a1 a2 a3 a4) := by
  obtain ⟨b, eb, hb⟩ := rIrreducible_f p hp64 k hk
  have hd := rDeg_f p hp64 k (by omega)
  clear hp64
  unfold amphoraref07_Check.f
  rw [hd, Option.bind_some]
  by_cases c1 : (GF.L p : Int) - 1 ≥ 8
  rotate_left
  · rw [if_neg c1]; exact .inr ⟨rfl, fun g => by have := g.dlo; omega⟩
  rw [if_pos c1]
  by_cases c2 : (GF.L p : Int) - 1 ≤ 55
  rotate_left
  · rw [if_neg c2]; exact .inr ⟨rfl, fun g => by have := g.dhi; omega⟩
  rw [if_pos c2]
  by_cases c3 : a1 ≥ 1
  rotate_left
  · rw [if_neg c3]; exact .inr ⟨rfl, fun g => by have := g.w1; omega⟩
  rw [if_pos c3]
  by_cases c4 : a1 ≤ 64
  rotate_left
  · rw [if_neg c4]; exact .inr ⟨rfl, fun g => by have := g.w2; omega⟩
  rw [if_pos c4]
  by_cases c5 : a1 ≤ a2
  rotate_left
  · rw [if_neg c5]; exact .inr ⟨rfl, fun g => by have := g.m1; omega⟩
  rw [if_pos c5]
  by_cases c6 : a2 ≤ a3
  rotate_left
  · rw [if_neg c6]; exact .inr ⟨rfl, fun g => by have := g.m2; omega⟩
  rw [if_pos c6]
  by_cases c7 : a3 ≤ 65536
  rotate_left
  · rw [if_neg c7]; exact .inr ⟨rfl, fun g => by have := g.m3; omega⟩
  rw [if_pos c7]
  by_cases c8 : a4 ≥ 0
  rotate_left
  · rw [if_neg c8]; exact .inr ⟨rfl, fun g => by have := g.b1; omega⟩
  rw [if_pos c8]
  by_cases c9 : a4 ≤ (GF.L p : Int) - 1
  rotate_left
  · rw [if_neg c9]; exact .inr ⟨rfl, fun g => by have := g.b2; omega⟩
  rw [if_pos c9]
  by_cases c10 : a4 ≤ 20
  rotate_left
  · rw [if_neg c10]; exact .inr ⟨rfl, fun g => by have := g.b3; omega⟩
  rw [if_pos c10, eb, Option.bind_some]
  cases b with
  | true => exact .inl ⟨by rw [if_pos rfl], by omega, by omega, hb.1 rfl, by omega, by omega, by omega, by omega, by omega, by omega, by omega, by omega⟩
  | false => exact .inr ⟨by rw [if_neg (by decide)], fun g => absurd (hb.2 g.irr) (by decide)⟩
theorem I_take (l : List Nat) (n : Nat) : (I l).take n = I (l.take n) := by unfold I; rw [List.map_take]
theorem shl_one (bt : Nat) (h : bt ≤ 55) : shl .u64 1 (bt : Int) = IntKind.u64.wrap ((2 : Int) ^ bt) := by
  show IntKind.u64.wrap (1 * 2 ^ min (bt : Int).toNat 64) = _
  rw [Int.one_mul, Int.toNat_natCast, Nat.min_eq_left (by omega)]
theorem and_eq (f m : Nat) (hf : f < 2 ^ 55) (hm : m < 2 ^ 55) : (Go.bits .and .u64 (f : Int) (m : Int) == (m : Int)) = decide (f &&& m = m) := by
  rw [bits_and_u64_nat _ _ (Nat.lt_of_lt_of_le hf (by decide)) (Nat.lt_of_lt_of_le hm (by decide))]
  by_cases h : f &&& m = m
  · rw [decide_eq_true h, beq_iff_eq, h]
  · rw [decide_eq_false h, beq_eq_false_iff_ne]
    intro e; exact h (Int.ofNat_inj.1 e)
theorem mask_lt (bt : Nat) (h : bt ≤ 20) : 2 ^ bt - 1 < 2 ^ 55 := by
  have h55 : (2 : Nat) ^ bt ≤ 2 ^ 55 := Nat.pow_le_pow_right (by omega) (by omega)
  have hpos : 0 < (2 : Nat) ^ bt := Nat.two_pow_pos _
  omega
theorem rEnds_f (p W mn mx bt : Nat) (hp64 : p < 2 ^ 64) (g : Good p (W : Int) (mn : Int) (mx : Int) (bt : Int)) (r : List Nat) (hr : ∀ x ∈ r, x < 256) (hlen : r.length ≤ 1099511627776) (k : Nat) (hk : 500 ≤ k) :
    amphoraref07_Ends.f k (p : Int) (W : Int) (mn : Int) (mx : Int) (bt : Int) (I r) = some (endsR ⟨p, W, mn, mx, bt⟩ r) := by
  have g1 := g.w1
  have g2 := g.m1
  have g3 := g.b3
  have g4 := g.w2
  have hp := g.irr.ne
  have hL := g.dhi
  have hwb : IntKind.u64.wrap (bt : Int) = (bt : Int) := by rw [IntKind.wrap_u64]; clear hp64; omega
  unfold amphoraref07_Ends.f endsR
  rw [I_len, hwb]
  by_cases c1 : r.length < mn
  · rw [if_pos (Int.ofNat_lt.2 c1), decide_eq_false (show ¬ (⟨p, W, mn, mx, bt⟩ : Set5).mn ≤ r.length from Nat.not_le.2 c1)]; rfl
  · rw [if_neg (fun e => c1 (Int.ofNat_lt.1 e)), if_pos (Int.natCast_nonneg bt), decide_eq_true (show (⟨p, W, mn, mx, bt⟩ : Set5).mn ≤ r.length from Nat.not_lt.1 c1), Bool.true_and]
    by_cases c2 : r.length = mx
    · rw [if_pos (show (r.length : Int) = (mx : Int) by rw [c2]), decide_eq_true (show r.length = (⟨p, W, mn, mx, bt⟩ : Set5).mx from c2)]; rfl
    · have hWr : W ≤ r.length := by clear hp64; omega
      have e1 : wrap64 ((r.length : Int) - (W : Int)) = ((r.length - W : Nat) : Int) := by rw [w64 (by clear hp64; omega) (by clear hp64; omega)]; clear hp64; omega
      have e2 : ((r.length - W : Nat) : Int) ≤ (r.length : Int) := Int.ofNat_le.2 (Nat.sub_le _ _)
      rw [if_neg (fun e => c2 (Int.ofNat_inj.1 e)), decide_eq_false (show ¬ r.length = (⟨p, W, mn, mx, bt⟩ : Set5).mx from c2), Bool.false_or, e1, if_pos (Int.natCast_nonneg _), if_pos e2, Int.toNat_natCast, I_drop]
      have hl2 : (r.drop (r.length - W)).length = W := by rw [List.length_drop]; clear hp64; omega
      have hP := rPrint_f p hp hp64 (r.drop (r.length - W)) (fun x hx => hr x (List.mem_of_mem_drop hx)) (by rw [hl2]; clear hp64; omega) (k - W - 1) (by clear hp64; omega)
      rw [hl2, show k - W - 1 + W + 1 = k by clear hp64; omega] at hP
      have hfl : fp p (r.drop (r.length - W)) < 2 ^ 55 := by
        have h1 := GF.md_L hp (val (r.drop (r.length - W)))
        exact GF.L_le.1 (by unfold fp; clear hp64; omega)
      rw [hP, Option.bind_some, shl_one bt (by clear hp64; omega), mask_eq bt (by clear hp64; omega), and_eq _ _ hfl (mask_lt bt (by clear hp64; omega))]
      rfl
theorem wr_add (i n : Nat) (h : i < n) (hn : n ≤ 1500) : wrap64 ((i : Int) + 1) = ((i + 1 : Nat) : Int) := by rw [w64 (by omega) (by omega)]; rfl
theorem wr_sub (i f : Nat) (hn : i ≤ 1500) (h : f ≤ i) : wrap64 ((i : Int) - (f : Int)) = ((i - f : Nat) : Int) := by rw [w64 (by omega) (by omega)]; omega
theorem I_snoc (l : List Nat) (x : Nat) : I l ++ [(x : Int)] = I (l ++ [x]) := by rw [I_app]; rfl
theorem cutL_len (S : Set5) : ∀ (l r : List Nat), (cutL S r l).length ≤ l.length + 1
  | [], r => by unfold cutL; split <;> simp
  | x :: l, r => by
    unfold cutL
    have h1 := cutL_len S l []
    have h2 := cutL_len S l (r ++ [x])
    split
    · rw [List.length_cons, List.length_cons]; omega
    · rw [List.length_cons]; omega
theorem cutL_nil (S : Set5) : cutL S [] [] = [] := rfl
theorem rCut_l0 (p W mn mx bt : Nat) (hp64 : p < 2 ^ 64) (g : Good p (W : Int) (mn : Int) (mx : Int) (bt : Int)) (l : List Nat) (hl : ∀ x ∈ l, x < 256) (hlen : l.length ≤ 1500) (j : Nat) : ∀ (k f i : Nat) (out : List Nat), i + j = l.length → f ≤ i → (i = l.length → f = i) → out.length ≤ i → 500 ≤ k →
    amphoraref07_Cut.l0 (k + j + 1) (I l) (I out) (f : Int) (i : Int) (p : Int) (W : Int) (mn : Int) (mx : Int) (bt : Int) = some (I (out ++ (cutL ⟨p, W, mn, mx, bt⟩ ((l.take i).drop f) (l.drop i)).map List.length), 0) := by
  induction j with
  | zero =>
    intro k f i out hi hf hfi ho hk
    have hi' : i = l.length := by omega
    have hf' : f = i := hfi hi'
    have e0 : l.drop i = [] := List.drop_of_length_le (Nat.le_of_eq hi'.symm)
    have e1 : (l.take i).drop f = [] := List.drop_of_length_le (by rw [List.length_take, hf']; exact Nat.min_le_left _ _)
    rw [amphoraref07_Cut.l0, I_len, if_neg (fun e => by have := Int.ofNat_lt.1 e; omega), e0, e1, cutL_nil, List.map_nil, List.append_nil]
  | succ j ih =>
    intro k f i out hi hf hfi ho hk
    have hil : i < l.length := by omega
    have hw := wr_add i l.length hil hlen
    have hd : l.drop i = l.getD i 0 :: l.drop (i + 1) := drop_cons l i hil
    have ht : (l.take (i + 1)).drop f = (l.take i).drop f ++ [l.getD i 0] := by
      rw [take_snoc l i hil, List.drop_append_of_le_length (by rw [List.length_take]; omega)]
    have hE := rEnds_f p W mn mx bt hp64 g ((l.take (i + 1)).drop f) (fun x hx => hl x (List.mem_of_mem_take (List.mem_of_mem_drop hx))) (by rw [List.length_drop, List.length_take]; clear hp64; omega) (k + j + 1) (by omega)
    have hbl : (I out).length < 17592186044416 := by rw [I_len]; clear hp64; omega
    have hsub := wr_sub (i + 1) f (by omega) (by omega)
    have hlr : ((l.take i).drop f ++ [l.getD i 0]).length = i + 1 - f := by rw [List.length_append, List.length_drop, List.length_take, List.length_singleton]; omega
    have hnil : (l.take (i + 1)).drop (i + 1) = [] := List.drop_of_length_le (by rw [List.length_take]; exact Nat.min_le_left _ _)
    have hdone := ih k (i + 1) (i + 1) (out ++ [i + 1 - f]) (by omega) (Nat.le_refl _) (fun _ => rfl) (by rw [List.length_append, List.length_singleton]; omega) hk
    rw [hnil] at hdone
    have h0 : (I l).length = l.length := I_len l
    rw [show k + (j + 1) + 1 = (k + j + 1) + 1 by omega, amphoraref07_Cut.l0, h0, if_pos (Int.ofNat_lt.2 hil), if_pos (Int.natCast_nonneg f), hw, if_pos (Int.ofNat_le.2 (by omega)), if_pos (Int.ofNat_le.2 (by omega)), Int.toNat_natCast, Int.toNat_natCast, I_take, I_drop, hE, Option.bind_some, hd, cutL, ht]
    by_cases c : endsR ⟨p, W, mn, mx, bt⟩ ((l.take i).drop f ++ [l.getD i 0]) = true
    · rw [if_pos c, if_pos c, if_pos hbl, hsub, I_snoc, hdone, List.map_cons, hlr, List.append_assoc]
      rfl
    · rw [if_neg c, if_neg c]
      by_cases c2 : i + 1 = l.length
      · have ew : (i : Int) = wrap64 ((l.length : Int) - 1) := by rw [w64 (by clear hp64; omega) (by clear hp64; omega)]; omega
        have ed : l.drop (i + 1) = [] := List.drop_of_length_le (by omega)
        rw [if_pos ew, if_pos hbl, hsub, I_snoc, hdone, ed, cutL_nil, cutL, hlr, if_neg (by omega), List.map_cons, hlr]
        simp only [List.map_nil, List.append_nil]
      · have ew : ¬ (i : Int) = wrap64 ((l.length : Int) - 1) := by rw [w64 (by clear hp64; omega) (by clear hp64; omega)]; omega
        rw [if_neg ew, ih k f (i + 1) out (by omega) (by omega) (fun e => absurd e c2) (by omega) hk, ht]
theorem cuts_law (p : Nat) (hp64 : p < 2 ^ 64) (a1 a2 a3 a4 : Int) (l : List Int) (h : ∀ x ∈ l, 0 ≤ x ∧ x < 256) (hl : ¬ (l.length : Int) > 1500) :
    ∃ (k : Nat) (r : List Int) (e : Option Int) (n : Int), rabin_Cut.f k (p : Int) a1 a2 a3 a4 l = some (r, e) ∧ amphoraref07_Cut.f k (p : Int) a1 a2 a3 a4 l = some (r, n) ∧ amphoranum_Num.f e = some n ∧ rabin_Check.f k (p : Int) a1 a2 a3 a4 = some e ∧ amphoranum_Ints.f k r r = some true := by
  have hll : (l.map Int.toNat).length = l.length := List.length_map ..
  have hsm : ∀ x ∈ l.map Int.toNat, x < 256 := by
    intro x hx
    obtain ⟨y, hy, rfl⟩ := List.mem_map.1 hx
    have := h y hy
    omega
  have hI := I_toNat l h
  have p64 : (2 : Nat) ^ 64 = 18446744073709551616 := rfl
  rcases Check_f p hp64 a1 a2 a3 a4 5000 (by omega) with ⟨hc, g⟩ | ⟨hc, ng⟩
  · rcases rCheck_f p hp64 a1 a2 a3 a4 5000 (by omega) with ⟨hr, _⟩ | ⟨_, ng⟩
    rotate_left
    · exact absurd g ng
    obtain ⟨W, rfl⟩ : ∃ W : Nat, a1 = (W : Int) := ⟨a1.toNat, by have := g.w1; omega⟩
    obtain ⟨mn, rfl⟩ : ∃ mn : Nat, a2 = (mn : Int) := ⟨a2.toNat, by have := g.w1; have := g.m1; omega⟩
    obtain ⟨mx, rfl⟩ : ∃ mx : Nat, a3 = (mx : Int) := ⟨a3.toNat, by have := g.w1; have := g.m1; have := g.m2; omega⟩
    obtain ⟨bt, rfl⟩ : ∃ bt : Nat, a4 = (bt : Int) := ⟨a4.toNat, by have := g.b1; omega⟩
    have hcut := Cut_none (l := l) hc ⟨⟨Int.natCast_nonneg p, by rw [p64] at hp64; omega⟩, h, by clear hp64; omega⟩
    have hl0 := rCut_l0 p W mn mx bt hp64 g (l.map Int.toNat) hsm (by rw [hll]; clear hp64; omega) l.length (5000 - l.length - 1) 0 0 [] (by rw [hll]; omega) (Nat.le_refl _) (fun e => rfl) (Nat.le_refl _) (by clear hp64; omega)
    rw [show 5000 - l.length - 1 + l.length + 1 = 5000 by clear hp64; omega, hI, List.take_zero, List.drop_nil, List.drop_zero, List.nil_append] at hl0
    have hS : setN (p : Int) (W : Int) (mn : Int) (mx : Int) (bt : Int) = ⟨p, W, mn, mx, bt⟩ := rfl
    rw [hS] at hcut
    refine ⟨5000, _, none, 0, hcut, ?_, rfl, hc, ?_⟩
    · unfold amphoraref07_Cut.f
      rw [hr, Option.bind_some, if_pos rfl]
      exact hl0
    · have hlc := cutL_len ⟨p, W, mn, mx, bt⟩ (l.map Int.toNat) []
      rw [hll] at hlc
      exact Ints_f _ (by rw [I_len, List.length_map]; clear hp64; omega) _ (by rw [I_len, List.length_map]; clear hp64; omega)
  · rcases rCheck_f p hp64 a1 a2 a3 a4 5000 (by omega) with ⟨_, g⟩ | ⟨hr, _⟩
    · exact absurd g ng
    refine ⟨5000, [], some 11, 11, Cut_some hc, ?_, rfl, hc, Ints_f [] (by simp) _ (by simp)⟩
    unfold amphoraref07_Cut.f
    rw [hr, Option.bind_some, if_neg (by decide)]
end Go.Proofs.Ytoofafgnlgaajaa.RW
