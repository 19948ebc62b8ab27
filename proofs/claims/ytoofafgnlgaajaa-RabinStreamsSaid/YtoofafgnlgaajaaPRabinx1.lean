/- Printed for this claim by a copy of the kit's print.py that takes functions walked by our own texts. Conditions: none. -/
import Derived.Test.YtoofafgnlgaajaaPRabinx0
namespace Go.Proofs.Ytoofafgnlgaajaa.PRabin
open Go.RowKit Go.Proofs.YtoofafgnlgaajaaW.PrintWords Go.Proofs.YtoofafgnlgaajaaW.PrintLast Go.Proofs.YtoofafgnlgaajaaW.PrintMore
attribute [local go_sem] max2_int min2_int max_two min_two max_three min_three max_four min_four   -- for this text's walks alone
set_option linter.unusedVariables false
set_option linter.unusedSimpArgs false

/-! ### bits_Len64: function 42 -/
def bits_Len64.f (a0 : Int) : Option (Int) := if 0 ≤ a0 then (if a0 ≤ 18446744073709551615 then (some (Lib.bitLen a0.toNat : Int)) else none) else none
theorem bits_Len64.calls (a0 : Int) (r : Int) (w : World) (h : bits_Len64.f a0 = some r) :
    Calls Try.prog 42 #[.int .u64 a0] w fun e w' => e = .returned (.int .i64 r) ∧ Drawn0 w w' := by
  unfold bits_Len64.f at h
  by_cases h0 : 0 ≤ a0
  · rw [if_pos h0] at h
    by_cases h1 : a0 ≤ 18446744073709551615
    · rw [if_pos h1] at h
      obtain rfl := Option.some.inj h
      refine (Try.bits_Len64 a0 w h0 h1).mono ?_
      rintro e w' ⟨rfl, rfl⟩
      exact ⟨rfl, Drawn0.refl _⟩
    · rw [if_neg h1] at h; cases h
  · rw [if_neg h0] at h; cases h

/-! ### poly_Deg: function 31 -/
def poly_Deg.f (a0 : Int) : Option (Int) := (bits_Len64.f a0).bind fun t101 => (some (wrap64 (t101 - 1)))
set_option maxHeartbeats 8000000 in
set_option maxRecDepth 100000 in
theorem poly_Deg.calls (a0 : Int) (r : Int) (w : World) (h : poly_Deg.f a0 = some r) :
    Calls Try.prog 31 #[.int .u64 a0] w fun e w' => e = .returned (.int .i64 r) ∧ Drawn0 w w' := by
  have H : ((bits_Len64.f a0).bind fun t101 => (some (wrap64 (t101 - 1)))) = some r := h
  clear h
  replace H := Option.bind_eq_some_iff.mp H
  obtain ⟨t101, A20, H⟩ := H
  replace H : (some (wrap64 (t101 - 1))) = some r := H
  have A2 := Aside0.mk A20
  clear A20
  obtain rfl := Option.some.inj H
  go_enter Try.func31, Try.ntmps31
  go_wp2_with (first | ((with_reducible refine gate_callee (f := 42) rfl ?_); refine goesL_ (some 4) rfl rfl Try.func42 (by kernel_rfl) rfl #[.int .u64 a0] rfl (by (try simp only [List.map_toArray, List.map_cons, List.map_nil]); first | done | rfl | (simp only [List.length_drop, List.length_take]; rfl)) ?_; (with_reducible refine (bits_Len64.calls a0 t101 _ A2.out).mono ?_); rintro e w' ⟨rfl, ⟨nd, rfl⟩⟩; refine ⟨_, rfl, ?_⟩))
  go_ret
  exact ⟨by first | rfl | (simp; done) | (simp [*]; done), by repeat (first | exact Drawn0.refl _ | apply Drawn0.step)⟩

/-! ### poly_mod: function 44 -/
mutual
def poly_mod.l0 : Nat → Int → Int → Int → Int → Int → Option (Int)
  | 0, _, _, _, _, _ => none
  | k + 1, x0, x1, x2, x7, x8 => if x8 ≥ 0 then (if 0 ≤ x8 then (if (Go.bits .and .u64 (shr .u64 x0 x8) 1) = 0 then (poly_mod.l0 k x0 x1 x2 x7 (wrap64 (x8 - 1))) else (if (wrap64 ((wrap64 (64 + x8)) - x7)) ≥ 64 then (if 0 ≤ (wrap64 ((wrap64 ((wrap64 (64 + x8)) - x7)) - 64)) then (poly_mod.l0 k (Go.bits .xor .u64 x0 (shl .u64 x2 (wrap64 ((wrap64 ((wrap64 (64 + x8)) - x7)) - 64)))) x1 x2 x7 (wrap64 (x8 - 1))) else (none)) else (if 0 ≤ (wrap64 (64 - (wrap64 ((wrap64 (64 + x8)) - x7)))) then (if 0 ≤ (wrap64 ((wrap64 (64 + x8)) - x7)) then (poly_mod.l0 k (Go.bits .xor .u64 x0 (shr .u64 x2 (wrap64 (64 - (wrap64 ((wrap64 (64 + x8)) - x7)))))) (Go.bits .xor .u64 x1 (shl .u64 x2 (wrap64 ((wrap64 (64 + x8)) - x7)))) x2 x7 (wrap64 (x8 - 1))) else (none)) else (none)))) else (none)) else (poly_mod.l1 k x1 x2 x7)
def poly_mod.l1 : Nat → Int → Int → Int → Option (Int)
  | 0, _, _, _ => none
  | k + 1, x1, x2, x7 => (poly_Deg.f x1).bind fun t103 => (if t103 ≥ x7 then ((poly_Deg.f x1).bind fun t104 => (if 0 ≤ (wrap64 (t104 - x7)) then (poly_mod.l1 k (Go.bits .xor .u64 x1 (shl .u64 x2 (wrap64 (t104 - x7)))) x2 x7) else (none))) else (some x1))
end
def poly_mod.f (k : Nat) (a0 : Int) (a1 : Int) (a2 : Int) : Option (Int) := (poly_Deg.f a2).bind fun t102 => (poly_mod.l0 k a0 a1 a2 t102 63)
theorem poly_mod.mono_l : ∀ k, (∀ y0 y1 y2 y3 y4, LeO (poly_mod.l0 k y0 y1 y2 y3 y4) (poly_mod.l0 (k + 1) y0 y1 y2 y3 y4)) ∧ (∀ y0 y1 y2, LeO (poly_mod.l1 k y0 y1 y2) (poly_mod.l1 (k + 1) y0 y1 y2))
  | 0 => ⟨fun _ _ _ _ _ r h => by simp [poly_mod.l0] at h, fun _ _ _ r h => by simp [poly_mod.l1] at h⟩
  | k + 1 => by
    obtain ⟨ih0, ih1⟩ := poly_mod.mono_l k
    refine ⟨?_, ?_⟩
    · intro y0 y1 y2 y3 y4
      unfold poly_mod.l0
      repeat' first
      | (with_reducible exact ih0 _ _ _ _ _)
      | (with_reducible exact ih1 _ _ _)
      | (with_reducible exact LeO.refl _)
      | (with_reducible exact LeO.none _)
      | (with_reducible refine LeO.ite ?_ ?_)
      | (with_reducible refine LeO.bind ?_ (fun _ => ?_))
      | exact ih0 _ _ _ _ _
      | exact ih1 _ _ _
      | exact LeO.none _
      | refine LeO.ite ?_ ?_
      | refine LeO.bind ?_ (fun _ => ?_)
    · intro y0 y1 y2
      unfold poly_mod.l1
      repeat' first
      | (with_reducible exact ih0 _ _ _ _ _)
      | (with_reducible exact ih1 _ _ _)
      | (with_reducible exact LeO.refl _)
      | (with_reducible exact LeO.none _)
      | (with_reducible refine LeO.ite ?_ ?_)
      | (with_reducible refine LeO.bind ?_ (fun _ => ?_))
      | exact ih0 _ _ _ _ _
      | exact ih1 _ _ _
      | exact LeO.none _
      | refine LeO.ite ?_ ?_
      | refine LeO.bind ?_ (fun _ => ?_)
theorem poly_mod.mono : ∀ a0 a1 a2 k, LeO (poly_mod.f k a0 a1 a2) (poly_mod.f (k + 1) a0 a1 a2) := by
  intro a0 a1 a2 k
  obtain ⟨ih0, ih1⟩ := poly_mod.mono_l k
  unfold poly_mod.f
  repeat' first
      | (with_reducible exact ih0 _ _ _ _ _)
      | (with_reducible exact ih1 _ _ _)
      | (with_reducible exact LeO.refl _)
      | (with_reducible exact LeO.none _)
      | (with_reducible refine LeO.ite ?_ ?_)
      | (with_reducible refine LeO.bind ?_ (fun _ => ?_))
      | exact ih0 _ _ _ _ _
      | exact ih1 _ _ _
      | exact LeO.none _
      | refine LeO.ite ?_ ?_
      | refine LeO.bind ?_ (fun _ => ?_)
set_option maxHeartbeats 8000000 in
set_option maxRecDepth 100000 in
theorem poly_mod.calls (k : Nat) (a0 : Int) (a1 : Int) (a2 : Int) (r : Int) (w : World) (h : poly_mod.f k a0 a1 a2 = some r) :
    Calls Try.prog 44 #[.int .u64 a0, .int .u64 a1, .int .u64 a2] w fun e w' => e = .returned (.int .u64 r) ∧ Drawn0 w w' := by
  have H : ((poly_Deg.f a2).bind fun t102 => (poly_mod.l0 k a0 a1 a2 t102 63)) = some r := h
  clear h
  replace H := Option.bind_eq_some_iff.mp H
  obtain ⟨t102, A40, H⟩ := H
  replace H : (poly_mod.l0 k a0 a1 a2 t102 63) = some r := H
  have A4 := Aside0.mk A40
  clear A40
  have H' := Aside0.mk H
  clear H
  go_enter Try.func44, Try.ntmps44
  go_wp2_with (first | ((with_reducible refine gate_callee (f := 31) rfl ?_); refine goesL_ (some 11) rfl rfl Try.func31 (by kernel_rfl) rfl #[.int .u64 a2] rfl (by (try simp only [List.map_toArray, List.map_cons, List.map_nil]); first | done | rfl | (simp only [List.length_drop, List.length_take]; rfl)) ?_; (with_reducible refine (poly_Deg.calls a2 t102 _ A4.out).mono ?_); rintro e w' ⟨rfl, ⟨nd, rfl⟩⟩; refine ⟨_, rfl, ?_⟩))
  go_loopg [0, 1, 8] k (fun kq v0 v1 v8 w' => ∃ (x0_1 : Int) (x1_1 : Int) (x8_1 : Int), v0 = .int .u64 x0_1 ∧ v1 = .int .u64 x1_1 ∧ v8 = .int .i64 x8_1 ∧ Aside0 (poly_mod.l0 kq x0_1 x1_1 a2 t102 x8_1 = some r) ∧ Aside0 (kq ≤ k) ∧ Drawn0 w w')
  case atStart => exact ⟨(a0), (a1), (63), (by first | rfl | (simp; done) | (simp [*]; done)), (by first | rfl | (simp; done) | (simp [*]; done)), (by first | rfl | (simp; done) | (simp [*]; done)), H', ⟨Nat.le_refl _⟩, by repeat (first | exact Drawn0.refl _ | apply Drawn0.step)⟩
  case round =>
    clear H'
    try clear p2
    try clear c3
    try clear c4
    obtain ⟨x0_1, x1_1, x8_1, rfl, rfl, rfl, HA, HK1, ⟨m1, rfl⟩⟩ := hrel
    cases gk with
    | zero => exact absurd HA.out (by simp [poly_mod.l0])
    | succ k1 =>
      have H := HA.out
      clear HA
      simp only [poly_mod.l0] at H
      by_cases c5 : x8_1 ≥ 0
      · rw [if_pos c5] at H
        have c5b0 : decide (0 ≤ x8_1) = true := decide_eq_true c5
        clear c5
        by_cases c6 : 0 ≤ x8_1
        · rw [if_pos c6] at H
          have c6b0 := eq_true c6
          have c6b1 : decide (0 ≤ x8_1) = true := decide_eq_true c6
          clear c6
          obtain ⟨ji7, hji7⟩ : ∃ j_ : Int, (shr .u64 x0_1 x8_1) = j_ := ⟨_, rfl⟩
          replace H : (if (Go.bits .and .u64 (ji7) 1) = 0 then (poly_mod.l0 k1 x0_1 x1_1 a2 t102 (wrap64 (x8_1 - 1))) else (if (wrap64 ((wrap64 (64 + x8_1)) - t102)) ≥ 64 then (if 0 ≤ (wrap64 ((wrap64 ((wrap64 (64 + x8_1)) - t102)) - 64)) then (poly_mod.l0 k1 (Go.bits .xor .u64 x0_1 (shl .u64 a2 (wrap64 ((wrap64 ((wrap64 (64 + x8_1)) - t102)) - 64)))) x1_1 a2 t102 (wrap64 (x8_1 - 1))) else (none)) else (if 0 ≤ (wrap64 (64 - (wrap64 ((wrap64 (64 + x8_1)) - t102)))) then (if 0 ≤ (wrap64 ((wrap64 (64 + x8_1)) - t102)) then (poly_mod.l0 k1 (Go.bits .xor .u64 x0_1 (shr .u64 a2 (wrap64 (64 - (wrap64 ((wrap64 (64 + x8_1)) - t102)))))) (Go.bits .xor .u64 x1_1 (shl .u64 a2 (wrap64 ((wrap64 (64 + x8_1)) - t102)))) a2 t102 (wrap64 (x8_1 - 1))) else (none)) else (none)))) = some r := by first | (rw [hji7] at H; exact H) | (simp only [hji7] at H ⊢; exact H)
          have hji7_ : (x0_1 / 2 ^ min x8_1.toNat 64) = ji7 := hji7
          have hji7z : x8_1 ≤ 64 → (x0_1 / 2 ^ x8_1.toNat) = ji7 := shr_small hji7
          by_cases c8 : (Go.bits .and .u64 (ji7) 1) = 0
          · rw [if_pos c8] at H
            have c8b0 : ((Go.bits .and .u64 (ji7) 1) == 0) = true := beq_iff_eq.mpr c8
            have c8b1 : ((Go.bits .and .u64 (ji7) 1) != 0) = false := bne_eq_false_iff_eq.mpr c8
            clear c8
            have H' := Aside0.mk H
            clear H
            go_wp2
            go_roundg k1
            case measure => have := HK1.out; omega
            case rel => exact ⟨(x0_1), (x1_1), (wrap64 (x8_1 - 1)), (by first | rfl | (simp; done) | (simp [*]; done)), (by first | rfl | (simp; done) | (simp [*]; done)), (by first | rfl | (simp; done) | (simp [*]; done)), H', ⟨by have := HK1.out; omega⟩, by repeat (first | exact Drawn0.refl _ | apply Drawn0.step)⟩
          · rw [if_neg c8] at H
            have c8b0 : ((Go.bits .and .u64 (ji7) 1) == 0) = false := beq_eq_false_iff_ne.mpr c8
            have c8b1 : ((Go.bits .and .u64 (ji7) 1) != 0) = true := bne_iff_ne.mpr c8
            by_cases c9 : (wrap64 ((wrap64 (64 + x8_1)) - t102)) ≥ 64
            · rw [if_pos c9] at H
              have c9b0 : decide (64 ≤ (wrap64 ((wrap64 (64 + x8_1)) - t102))) = true := decide_eq_true c9
              clear c9
              obtain ⟨ji10, hji10⟩ : ∃ j_ : Int, (wrap64 ((wrap64 ((wrap64 (64 + x8_1)) - t102)) - 64)) = j_ := ⟨_, rfl⟩
              replace H : (if 0 ≤ (ji10) then (poly_mod.l0 k1 (Go.bits .xor .u64 x0_1 (shl .u64 a2 (ji10))) x1_1 a2 t102 (wrap64 (x8_1 - 1))) else (none)) = some r := by first | (rw [hji10] at H; exact H) | (simp only [hji10] at H ⊢; exact H)
              have hji10w : (IntKind.i64.wrap ((wrap64 ((wrap64 (64 + x8_1)) - t102)) - 64)) = ji10 := (i64_w _).trans hji10
              by_cases c11 : 0 ≤ (ji10)
              · rw [if_pos c11] at H
                have c11b0 := eq_true c11
                have c11b1 : decide (0 ≤ (ji10)) = true := decide_eq_true c11
                clear c11
                obtain ⟨ji12, hji12⟩ : ∃ j_ : Int, (shl .u64 a2 (ji10)) = j_ := ⟨_, rfl⟩
                replace H : (poly_mod.l0 k1 (Go.bits .xor .u64 x0_1 (ji12)) x1_1 a2 t102 (wrap64 (x8_1 - 1))) = some r := by first | (rw [hji12] at H; exact H) | (simp only [hji12] at H ⊢; exact H)
                have hji12_ : (IntKind.u64.wrap (a2 * 2 ^ min (ji10).toNat 64)) = ji12 := hji12
                have hji12z : (ji10) ≤ 64 → (IntKind.u64.wrap (a2 * 2 ^ (ji10).toNat)) = ji12 := shl_small hji12
                have H' := Aside0.mk H
                clear H
                go_wp2
                go_roundg k1
                case measure => have := HK1.out; omega
                case rel => exact ⟨(Go.bits .xor .u64 x0_1 (ji12)), (x1_1), (wrap64 (x8_1 - 1)), (by first | rfl | (simp; done) | (simp only [← hji12] <;> (first | rfl | simp)) | (simp [*]; done)), (by first | rfl | (simp; done) | (simp [*]; done)), (by first | rfl | (simp; done) | (simp [*]; done)), H', ⟨by have := HK1.out; omega⟩, by repeat (first | exact Drawn0.refl _ | apply Drawn0.step)⟩
              · rw [if_neg c11] at H
                exact absurd H (by simp)
            · rw [if_neg c9] at H
              have c9b0 : decide (64 ≤ (wrap64 ((wrap64 (64 + x8_1)) - t102))) = false := decide_eq_false c9
              clear c9
              obtain ⟨ji13, hji13⟩ : ∃ j_ : Int, (wrap64 (64 - (wrap64 ((wrap64 (64 + x8_1)) - t102)))) = j_ := ⟨_, rfl⟩
              replace H : (if 0 ≤ (ji13) then (if 0 ≤ (wrap64 ((wrap64 (64 + x8_1)) - t102)) then (poly_mod.l0 k1 (Go.bits .xor .u64 x0_1 (shr .u64 a2 (ji13))) (Go.bits .xor .u64 x1_1 (shl .u64 a2 (wrap64 ((wrap64 (64 + x8_1)) - t102)))) a2 t102 (wrap64 (x8_1 - 1))) else (none)) else (none)) = some r := by first | (rw [hji13] at H; exact H) | (simp only [hji13] at H ⊢; exact H)
              have hji13w : (IntKind.i64.wrap (64 - (wrap64 ((wrap64 (64 + x8_1)) - t102)))) = ji13 := (i64_w _).trans hji13
              by_cases c14 : 0 ≤ (ji13)
              · rw [if_pos c14] at H
                have c14b0 := eq_true c14
                have c14b1 : decide (0 ≤ (ji13)) = true := decide_eq_true c14
                clear c14
                obtain ⟨ji15, hji15⟩ : ∃ j_ : Int, (shr .u64 a2 (ji13)) = j_ := ⟨_, rfl⟩
                replace H : (if 0 ≤ (wrap64 ((wrap64 (64 + x8_1)) - t102)) then (poly_mod.l0 k1 (Go.bits .xor .u64 x0_1 (ji15)) (Go.bits .xor .u64 x1_1 (shl .u64 a2 (wrap64 ((wrap64 (64 + x8_1)) - t102)))) a2 t102 (wrap64 (x8_1 - 1))) else (none)) = some r := by first | (rw [hji15] at H; exact H) | (simp only [hji15] at H ⊢; exact H)
                have hji15_ : (a2 / 2 ^ min (ji13).toNat 64) = ji15 := hji15
                have hji15z : (ji13) ≤ 64 → (a2 / 2 ^ (ji13).toNat) = ji15 := shr_small hji15
                obtain ⟨ji16, hji16⟩ : ∃ j_ : Int, (wrap64 ((wrap64 (64 + x8_1)) - t102)) = j_ := ⟨_, rfl⟩
                replace H : (if 0 ≤ (ji16) then (poly_mod.l0 k1 (Go.bits .xor .u64 x0_1 (ji15)) (Go.bits .xor .u64 x1_1 (shl .u64 a2 (ji16))) a2 t102 (wrap64 (x8_1 - 1))) else (none)) = some r := by first | (rw [hji16] at H; exact H) | (simp only [hji16] at H ⊢; exact H)
                (try rw [hji16] at c9b0)
                (try rw [hji16] at hji13)
                (try rw [hji16] at hji13w)
                have hji16w : (IntKind.i64.wrap ((wrap64 (64 + x8_1)) - t102)) = ji16 := (i64_w _).trans hji16
                by_cases c17 : 0 ≤ (ji16)
                · rw [if_pos c17] at H
                  have c17b0 := eq_true c17
                  have c17b1 : decide (0 ≤ (ji16)) = true := decide_eq_true c17
                  clear c17
                  obtain ⟨ji18, hji18⟩ : ∃ j_ : Int, (shl .u64 a2 (ji16)) = j_ := ⟨_, rfl⟩
                  replace H : (poly_mod.l0 k1 (Go.bits .xor .u64 x0_1 (ji15)) (Go.bits .xor .u64 x1_1 (ji18)) a2 t102 (wrap64 (x8_1 - 1))) = some r := by first | (rw [hji18] at H; exact H) | (simp only [hji18] at H ⊢; exact H)
                  have hji18_ : (IntKind.u64.wrap (a2 * 2 ^ min (ji16).toNat 64)) = ji18 := hji18
                  have hji18z : (ji16) ≤ 64 → (IntKind.u64.wrap (a2 * 2 ^ (ji16).toNat)) = ji18 := shl_small hji18
                  have H' := Aside0.mk H
                  clear H
                  go_wp2
                  go_roundg k1
                  case measure => have := HK1.out; omega
                  case rel => exact ⟨(Go.bits .xor .u64 x0_1 (ji15)), (Go.bits .xor .u64 x1_1 (ji18)), (wrap64 (x8_1 - 1)), (by first | rfl | (simp; done) | (simp only [← hji15] <;> (first | rfl | simp)) | (simp [*]; done)), (by first | rfl | (simp; done) | (simp only [← hji18] <;> (first | rfl | simp)) | (simp [*]; done)), (by first | rfl | (simp; done) | (simp [*]; done)), H', ⟨by have := HK1.out; omega⟩, by repeat (first | exact Drawn0.refl _ | apply Drawn0.step)⟩
                · rw [if_neg c17] at H
                  exact absurd H (by simp)
              · rw [if_neg c14] at H
                exact absurd H (by simp)
        · rw [if_neg c6] at H
          exact absurd H (by simp)
      · rw [if_neg c5] at H
        have c5b0 : decide (0 ≤ x8_1) = false := decide_eq_false c5
        clear c5
        have H' := Aside0.mk H
        clear H
        go_wp2
        go_loopg [1] k1 (fun kq v1 w' => ∃ (x1_2 : Int), v1 = .int .u64 x1_2 ∧ Aside0 (poly_mod.l1 kq x1_2 a2 t102 = some r) ∧ Aside0 (kq ≤ k1) ∧ Drawn0 w w')
        case atStart => exact ⟨(x1_1), (by first | rfl | (simp; done) | (simp [*]; done)), H', ⟨Nat.le_refl _⟩, by repeat (first | exact Drawn0.refl _ | apply Drawn0.step)⟩
        case round =>
          clear H'
          try clear c1
          try clear p2
          try clear c3
          try clear c4
          try clear c5
          try clear c5b0
          try clear c6
          try clear c6b0
          try clear c6b1
          try clear p6
          try clear c8
          try clear c8b0
          try clear c8b1
          try clear c9
          try clear c9b0
          try clear c11
          try clear c11b0
          try clear c11b1
          try clear c14
          try clear c14b0
          try clear c14b1
          try clear c17
          try clear c17b0
          try clear c17b1
          try clear p2
          obtain ⟨x1_2, rfl, HA, HK2, ⟨m2, rfl⟩⟩ := hrel
          cases gk with
          | zero => exact absurd HA.out (by simp [poly_mod.l1])
          | succ k2 =>
            have H := HA.out
            clear HA
            simp only [poly_mod.l1] at H
            replace H := Option.bind_eq_some_iff.mp H
            obtain ⟨t103, A190, H⟩ := H
            replace H : (if t103 ≥ t102 then ((poly_Deg.f x1_2).bind fun t104 => (if 0 ≤ (wrap64 (t104 - t102)) then (poly_mod.l1 k2 (Go.bits .xor .u64 x1_2 (shl .u64 a2 (wrap64 (t104 - t102)))) a2 t102) else (none))) else (some x1_2)) = some r := H
            have A19 := Aside0.mk A190
            clear A190
            by_cases c20 : t103 ≥ t102
            · rw [if_pos c20] at H
              have c20b0 : decide (t102 ≤ t103) = true := decide_eq_true c20
              clear c20
              replace H := Option.bind_eq_some_iff.mp H
              obtain ⟨t104, A210, H⟩ := H
              replace H : (if 0 ≤ (wrap64 (t104 - t102)) then (poly_mod.l1 k2 (Go.bits .xor .u64 x1_2 (shl .u64 a2 (wrap64 (t104 - t102)))) a2 t102) else (none)) = some r := H
              have A21 := Aside0.mk A210
              clear A210
              obtain ⟨ji22, hji22⟩ : ∃ j_ : Int, (wrap64 (t104 - t102)) = j_ := ⟨_, rfl⟩
              replace H : (if 0 ≤ (ji22) then (poly_mod.l1 k2 (Go.bits .xor .u64 x1_2 (shl .u64 a2 (ji22))) a2 t102) else (none)) = some r := by first | (rw [hji22] at H; exact H) | (simp only [hji22] at H ⊢; exact H)
              (try rw [hji22] at A19)
              (try rw [hji22] at A21)
              have hji22w : (IntKind.i64.wrap (t104 - t102)) = ji22 := (i64_w _).trans hji22
              by_cases c23 : 0 ≤ (ji22)
              · rw [if_pos c23] at H
                have c23b0 := eq_true c23
                have c23b1 : decide (0 ≤ (ji22)) = true := decide_eq_true c23
                clear c23
                obtain ⟨ji24, hji24⟩ : ∃ j_ : Int, (shl .u64 a2 (ji22)) = j_ := ⟨_, rfl⟩
                replace H : (poly_mod.l1 k2 (Go.bits .xor .u64 x1_2 (ji24)) a2 t102) = some r := by first | (rw [hji24] at H; exact H) | (simp only [hji24] at H ⊢; exact H)
                (try rw [hji24] at A19)
                (try rw [hji24] at A21)
                have hji24_ : (IntKind.u64.wrap (a2 * 2 ^ min (ji22).toNat 64)) = ji24 := hji24
                have hji24z : (ji22) ≤ 64 → (IntKind.u64.wrap (a2 * 2 ^ (ji22).toNat)) = ji24 := shl_small hji24
                have H' := Aside0.mk H
                clear H
                go_wp2_with (first | ((with_reducible refine gate_callee (f := 31) rfl ?_); refine goesL_ (some 45) rfl rfl Try.func31 (by kernel_rfl) rfl #[.int .u64 x1_2] rfl (by (try simp only [List.map_toArray, List.map_cons, List.map_nil]); first | done | rfl | (simp only [List.length_drop, List.length_take]; rfl)) ?_; (with_reducible refine (poly_Deg.calls x1_2 t103 _ A19.out).mono ?_); rintro e w' ⟨rfl, ⟨nd, rfl⟩⟩; refine ⟨_, rfl, ?_⟩) | ((with_reducible refine gate_callee (f := 31) rfl ?_); refine goesL_ (some 51) rfl rfl Try.func31 (by kernel_rfl) rfl #[.int .u64 x1_2] rfl (by (try simp only [List.map_toArray, List.map_cons, List.map_nil]); first | done | rfl | (simp only [List.length_drop, List.length_take]; rfl)) ?_; (with_reducible refine (poly_Deg.calls x1_2 t104 _ A21.out).mono ?_); rintro e w' ⟨rfl, ⟨nd, rfl⟩⟩; refine ⟨_, rfl, ?_⟩))
                go_roundg k2
                case measure => have := HK1.out; have := HK2.out; omega
                case rel => exact ⟨(Go.bits .xor .u64 x1_2 (ji24)), (by first | rfl | (simp; done) | (simp only [← hji24] <;> (first | rfl | simp)) | (simp [*]; done)), H', ⟨by have := HK1.out; have := HK2.out; omega⟩, by repeat (first | exact Drawn0.refl _ | apply Drawn0.step)⟩
              · rw [if_neg c23] at H
                exact absurd H (by simp)
            · rw [if_neg c20] at H
              have c20b0 : decide (t102 ≤ t103) = false := decide_eq_false c20
              clear c20
              obtain rfl := Option.some.inj H
              go_wp2_with (first | ((with_reducible refine gate_callee (f := 31) rfl ?_); refine goesL_ (some 45) rfl rfl Try.func31 (by kernel_rfl) rfl #[.int .u64 x1_2] rfl (by (try simp only [List.map_toArray, List.map_cons, List.map_nil]); first | done | rfl | (simp only [List.length_drop, List.length_take]; rfl)) ?_; (with_reducible refine (poly_Deg.calls x1_2 t103 _ A19.out).mono ?_); rintro e w' ⟨rfl, ⟨nd, rfl⟩⟩; refine ⟨_, rfl, ?_⟩))
              go_ret
              exact ⟨by first | rfl | (simp; done) | (simp [*]; done), by repeat (first | exact Drawn0.refl _ | apply Drawn0.step)⟩

/-! ### poly_primes: function 46 -/
mutual
def poly_primes.l0 : Nat → Int → List Int → Int → Option (List Int)
  | 0, _, _, _ => none
  | k + 1, x0, x3, x4 => if x0 > 1 then (if x4 = 0 then (none) else (if (Int.tmod x0 x4) = 0 then (if x3.length < 17592186044416 then (poly_primes.l1 k x0 (x3 ++ [x4]) x4) else (none)) else (poly_primes.l0 k x0 x3 (wrap64 (x4 + 1))))) else (some x3)
def poly_primes.l1 : Nat → Int → List Int → Int → Option (List Int)
  | 0, _, _, _ => none
  | k + 1, x0, x3, x4 => if x4 = 0 then (none) else (if (Int.tmod x0 x4) = 0 then (poly_primes.l1 k (wrap64 (Int.tdiv x0 x4)) x3 x4) else (poly_primes.l0 k x0 x3 (wrap64 (x4 + 1))))
end
def poly_primes.f (k : Nat) (a0 : Int) : Option (List Int) := poly_primes.l0 k a0 ([] : List Int) 2
theorem poly_primes.mono_l : ∀ k, (∀ y0 y1 y2, LeO (poly_primes.l0 k y0 y1 y2) (poly_primes.l0 (k + 1) y0 y1 y2)) ∧ (∀ y0 y1 y2, LeO (poly_primes.l1 k y0 y1 y2) (poly_primes.l1 (k + 1) y0 y1 y2))
  | 0 => ⟨fun _ _ _ r h => by simp [poly_primes.l0] at h, fun _ _ _ r h => by simp [poly_primes.l1] at h⟩
  | k + 1 => by
    obtain ⟨ih0, ih1⟩ := poly_primes.mono_l k
    refine ⟨?_, ?_⟩
    · intro y0 y1 y2
      unfold poly_primes.l0
      repeat' first
      | (with_reducible exact ih0 _ _ _)
      | (with_reducible exact ih1 _ _ _)
      | (with_reducible exact LeO.refl _)
      | (with_reducible exact LeO.none _)
      | (with_reducible refine LeO.ite ?_ ?_)
      | (with_reducible refine LeO.bind ?_ (fun _ => ?_))
      | exact ih0 _ _ _
      | exact ih1 _ _ _
      | exact LeO.none _
      | refine LeO.ite ?_ ?_
      | refine LeO.bind ?_ (fun _ => ?_)
    · intro y0 y1 y2
      unfold poly_primes.l1
      repeat' first
      | (with_reducible exact ih0 _ _ _)
      | (with_reducible exact ih1 _ _ _)
      | (with_reducible exact LeO.refl _)
      | (with_reducible exact LeO.none _)
      | (with_reducible refine LeO.ite ?_ ?_)
      | (with_reducible refine LeO.bind ?_ (fun _ => ?_))
      | exact ih0 _ _ _
      | exact ih1 _ _ _
      | exact LeO.none _
      | refine LeO.ite ?_ ?_
      | refine LeO.bind ?_ (fun _ => ?_)
theorem poly_primes.mono : ∀ a0 k, LeO (poly_primes.f k a0) (poly_primes.f (k + 1) a0) := by
  intro a0 k
  obtain ⟨ih0, ih1⟩ := poly_primes.mono_l k
  unfold poly_primes.f
  repeat' first
      | (with_reducible exact ih0 _ _ _)
      | (with_reducible exact ih1 _ _ _)
      | (with_reducible exact LeO.refl _)
      | (with_reducible exact LeO.none _)
      | (with_reducible refine LeO.ite ?_ ?_)
      | (with_reducible refine LeO.bind ?_ (fun _ => ?_))
      | exact ih0 _ _ _
      | exact ih1 _ _ _
      | exact LeO.none _
      | refine LeO.ite ?_ ?_
      | refine LeO.bind ?_ (fun _ => ?_)
set_option maxHeartbeats 8000000 in
set_option maxRecDepth 100000 in
theorem poly_primes.calls (k : Nat) (a0 : Int) (r : List Int) (w : World) (h : poly_primes.f k a0 = some r) :
    Calls Try.prog 46 #[.int .i64 a0] w fun e w' => ∃ v0_ : Value, e = .returned (v0_) ∧ Kd.R (Kd.int .i64) 3 w' w.heap.size (fun _ => True) v0_ r ∧ Below w.heap.size w w' := by
  have HB := Aside0.mk (Below.refl w.heap.size w)
  have H : (poly_primes.l0 k a0 ([] : List Int) 2) = some r := h
  clear h
  have H' := Aside0.mk H
  clear H
  go_enter Try.func46, Try.ntmps46
  go_wp2
  go_loopg [0, 3, 4] k (fun kq v0 v3 v4 w' => ∃ (x0_1 : Int) (x3_1 : List Int) (x4_1 : Int), v0 = .int .i64 x0_1 ∧ v4 = .int .i64 x4_1 ∧ Aside0 (poly_primes.l0 kq x0_1 x3_1 x4_1 = some r) ∧ Aside0 (kq ≤ k) ∧ Aside0 (Kd.R (Kd.int .i64) 3 w' w.heap.size (fun _ => True) v3 x3_1) ∧ Aside0 (Below w.heap.size w w'))
  case atStart => exact ⟨(a0), (([] : List Int)), (2), (by first | rfl | (simp; done) | (simp [*]; done)), (by first | rfl | (simp; done) | (simp [*]; done)), H', ⟨Nat.le_refl _⟩, ⟨by first | exact Kd.R_nil _ _ _ _ _ | exact Kd.N_nil _ _ _ _ _ | exact Kd.V_nil _ _ _ _ _ | exact Kd.Q_nil _ _ _ _ _ | exact Kd.S_nil _ _ _ _ _⟩, ⟨by repeat (first | (with_reducible first | exact HB.out | apply below_alloc | apply pw_below_drewN | apply below_drew1) | exact HB.out)⟩⟩
  case round =>
    clear H'
    obtain ⟨x0_1, x3_1, x4_1, rfl, rfl, HA, HK1, HO_3, HB⟩ := hrel
    cases gk with
    | zero => exact absurd HA.out (by simp [poly_primes.l0])
    | succ k1 =>
      have H := HA.out
      clear HA
      simp only [poly_primes.l0] at H
      by_cases c2 : x0_1 > 1
      · rw [if_pos c2] at H
        have c2b0 : decide (1 < x0_1) = true := decide_eq_true c2
        clear c2
        by_cases c3 : x4_1 = 0
        · rw [if_pos c3] at H
          exact absurd H (by simp)
        · rw [if_neg c3] at H
          have c3b0 : (x4_1 == 0) = false := beq_eq_false_iff_ne.mpr c3
          have c3b1 : (x4_1 != 0) = true := bne_iff_ne.mpr c3
          by_cases c4 : (Int.tmod x0_1 x4_1) = 0
          · rw [if_pos c4] at H
            have c4b0 : ((Int.tmod x0_1 x4_1) == 0) = true := beq_iff_eq.mpr c4
            have c4b1 : ((Int.tmod x0_1 x4_1) != 0) = false := bne_eq_false_iff_eq.mpr c4
            clear c4
            by_cases c5 : x3_1.length < 17592186044416
            · rw [if_pos c5] at H
              have LMc5 := Aside0.mk c5
              clear c5
              obtain ⟨y105, hy105⟩ : ∃ y_ : List Int, y_ = (x3_1 ++ [x4_1]) := ⟨_, rfl⟩
              replace H : (poly_primes.l1 k1 x0_1 y105 x4_1) = some r := by first | (rw [hy105]; with_reducible exact H) | (have H2_ := (Option.bind_some _ _).symm.trans H; rw [hy105]; with_reducible exact H2_) | (have H2_ := (Option.bind_some _ _).symm.trans H; with_reducible exact H2_) | with_reducible exact H | (rw [hy105]; exact H) | exact H
              have Ny105 := Aside0.mk hy105
              clear hy105
              have H' := Aside0.mk H
              clear H
              go_wp2_with (first | ((with_reducible refine gate_builtin (b := .append) (xs := #[.tmp 13, .tmp 15]) rfl ?_); at_builtin; refine Kd.R_append (Kd.int .i64) (w0 := w) w.heap.size rfl (.tmp 13) (.tmp 15) 29 3 (.int .i64 0) 8 rfl Try.underlying29 info3 rfl (by decide) (by omega) u3 x3_1 x4_1 [.int .i64 x4_1] (fun _ => True) (fun _ => False) rfl rfl ?aP (fun _ hk => hk.elim) ?aF ?aO ?aB ?aS ?aL ?_; (case aP => exact rfl); (case aB => exact (by repeat (first | (with_reducible first | exact HB.out | apply below_alloc | apply pw_below_drewN | apply below_drew1) | exact HB.out))); (case aF => exact (fun _ _ => trivial)); (case aO => exact (by (with_reducible repeat (first | apply Kd.R_alloc | apply Kd.R_drewN | apply Kd.R_drew)); exact HO_3.out)); (case aS => exact (below_size (by repeat (first | (with_reducible first | exact HB.out | apply below_alloc | apply pw_below_drewN | apply below_drew1) | exact HB.out)))); (case aL => have := LMc5.out; omega); intro v106 w6 ho hb hg hat; rw [← Ny105.out] at ho; have n0_ := Aside0.mk (hb); have n1_ := Aside0.mk (ho); clear HB; clear HO_3; have HB := n0_; have HO107 := n1_; clear n0_ n1_; clear ho hb hg hat))
              go_loopg [0] k1 (fun kq v0 w' => ∃ (x0_2 : Int), v0 = .int .i64 x0_2 ∧ Aside0 (poly_primes.l1 kq x0_2 y105 x4_1 = some r) ∧ Aside0 (kq ≤ k1) ∧ Aside0 (Kd.R (Kd.int .i64) 3 w' w.heap.size (fun _ => True) v106 y105) ∧ Aside0 (Below w.heap.size w w'))
              case atStart => exact ⟨(x0_1), (by first | rfl | (simp; done) | (simp [*]; done)), H', ⟨Nat.le_refl _⟩, ⟨by (with_reducible repeat (first | apply Kd.R_alloc | apply Kd.R_drewN | apply Kd.R_drew)); exact HO107.out⟩, ⟨by repeat (first | (with_reducible first | exact HB.out | apply below_alloc | apply pw_below_drewN | apply below_drew1) | exact HB.out)⟩⟩
              case round =>
                clear H'
                try clear c2
                try clear c2b0
                try clear p2
                try clear c3
                try clear c3b0
                try clear c3b1
                try clear c4
                try clear c4b0
                try clear c4b1
                try clear c5
                obtain ⟨x0_2, rfl, HA, HK2, HO_3, HB⟩ := hrel
                cases gk with
                | zero => exact absurd HA.out (by simp [poly_primes.l1])
                | succ k2 =>
                  have H := HA.out
                  clear HA
                  simp only [poly_primes.l1] at H
                  by_cases c7 : x4_1 = 0
                  · rw [if_pos c7] at H
                    exact absurd H (by simp)
                  · rw [if_neg c7] at H
                    have c7b0 : (x4_1 == 0) = false := beq_eq_false_iff_ne.mpr c7
                    have c7b1 : (x4_1 != 0) = true := bne_iff_ne.mpr c7
                    by_cases c8 : (Int.tmod x0_2 x4_1) = 0
                    · rw [if_pos c8] at H
                      have c8b0 : ((Int.tmod x0_2 x4_1) == 0) = true := beq_iff_eq.mpr c8
                      have c8b1 : ((Int.tmod x0_2 x4_1) != 0) = false := bne_eq_false_iff_eq.mpr c8
                      clear c8
                      have H' := Aside0.mk H
                      clear H
                      go_wp2
                      go_roundg k2
                      case measure => have := HK1.out; have := HK2.out; omega
                      case rel => exact ⟨(wrap64 (Int.tdiv x0_2 x4_1)), (by first | rfl | (simp; done) | (simp [*]; done)), H', ⟨by have := HK1.out; have := HK2.out; omega⟩, ⟨by (with_reducible repeat (first | apply Kd.R_alloc | apply Kd.R_drewN | apply Kd.R_drew)); exact HO_3.out⟩, ⟨by repeat (first | (with_reducible first | exact HB.out | apply below_alloc | apply pw_below_drewN | apply below_drew1) | exact HB.out)⟩⟩
                    · rw [if_neg c8] at H
                      have c8b0 : ((Int.tmod x0_2 x4_1) == 0) = false := beq_eq_false_iff_ne.mpr c8
                      have c8b1 : ((Int.tmod x0_2 x4_1) != 0) = true := bne_iff_ne.mpr c8
                      have H' := Aside0.mk H
                      clear H
                      go_wp2
                      go_roundg k2
                      case measure => have := HK1.out; have := HK2.out; omega
                      case rel => exact ⟨(x0_2), (y105), (wrap64 (x4_1 + 1)), (by first | rfl | (simp; done) | (simp [*]; done)), (by first | rfl | (simp; done) | (simp [*]; done)), H', ⟨by have := HK1.out; have := HK2.out; omega⟩, ⟨by (with_reducible repeat (first | apply Kd.R_alloc | apply Kd.R_drewN | apply Kd.R_drew)); exact HO_3.out⟩, ⟨by repeat (first | (with_reducible first | exact HB.out | apply below_alloc | apply pw_below_drewN | apply below_drew1) | exact HB.out)⟩⟩
            · rw [if_neg c5] at H
              exact absurd H (by simp)
          · rw [if_neg c4] at H
            have c4b0 : ((Int.tmod x0_1 x4_1) == 0) = false := beq_eq_false_iff_ne.mpr c4
            have c4b1 : ((Int.tmod x0_1 x4_1) != 0) = true := bne_iff_ne.mpr c4
            have H' := Aside0.mk H
            clear H
            go_wp2
            go_roundg k1
            case measure => have := HK1.out; omega
            case rel => exact ⟨(x0_1), (x3_1), (wrap64 (x4_1 + 1)), (by first | rfl | (simp; done) | (simp [*]; done)), (by first | rfl | (simp; done) | (simp [*]; done)), H', ⟨by have := HK1.out; omega⟩, ⟨by (with_reducible repeat (first | apply Kd.R_alloc | apply Kd.R_drewN | apply Kd.R_drew)); exact HO_3.out⟩, ⟨by repeat (first | (with_reducible first | exact HB.out | apply below_alloc | apply pw_below_drewN | apply below_drew1) | exact HB.out)⟩⟩
      · rw [if_neg c2] at H
        have c2b0 : decide (1 < x0_1) = false := decide_eq_false c2
        clear c2
        obtain rfl := Option.some.inj H
        go_wp2
        go_ret
        exact ⟨_, by first | rfl | (simp [errW_none, errW_some] <;> rfl) | (simp [*, errW_none, errW_some] <;> rfl), by (with_reducible repeat (first | apply Kd.R_alloc | apply Kd.R_drewN | apply Kd.R_drew)); exact HO_3.out, by repeat (first | (with_reducible first | exact HB.out | apply below_alloc | apply pw_below_drewN | apply below_drew1) | exact HB.out)⟩

/-! ### poly_Gcd: function 47 -/
mutual
def poly_Gcd.l0 : Nat → Int → List Int → Int → Int → Option (Int)
  | 0, _, _, _, _ => none
  | k + 1, x3, x6, x7, x8 => if x8 < x7 then (if 0 ≤ x8 then (if x8 < (x6.length : Int) then (poly_Gcd.l1 k x3 (rd x6 x8) x6 x7 x8) else (none)) else (none)) else (some x3)
def poly_Gcd.l1 : Nat → Int → Int → List Int → Int → Int → Option (Int)
  | 0, _, _, _, _, _ => none
  | k + 1, x3, x5, x6, x7, x8 => if x5 = 0 then (poly_Gcd.l0 k x3 x6 x7 (wrap64 (x8 + 1))) else ((poly_mod.f k 0 x3 x5).bind fun t109 => (poly_Gcd.l1 k x5 t109 x6 x7 x8))
end
def poly_Gcd.f (k : Nat) (l0 : List Int) : Option (Int) := poly_Gcd.l0 k 0 l0 (l0.length : Int) 0
theorem poly_Gcd.mono_l : ∀ k, (∀ y0 y1 y2 y3, LeO (poly_Gcd.l0 k y0 y1 y2 y3) (poly_Gcd.l0 (k + 1) y0 y1 y2 y3)) ∧ (∀ y0 y1 y2 y3 y4, LeO (poly_Gcd.l1 k y0 y1 y2 y3 y4) (poly_Gcd.l1 (k + 1) y0 y1 y2 y3 y4))
  | 0 => ⟨fun _ _ _ _ r h => by simp [poly_Gcd.l0] at h, fun _ _ _ _ _ r h => by simp [poly_Gcd.l1] at h⟩
  | k + 1 => by
    obtain ⟨ih0, ih1⟩ := poly_Gcd.mono_l k
    refine ⟨?_, ?_⟩
    · intro y0 y1 y2 y3
      unfold poly_Gcd.l0
      repeat' first
      | (with_reducible exact ih0 _ _ _ _)
      | (with_reducible exact ih1 _ _ _ _ _)
      | (with_reducible exact poly_mod.mono _ _ _ _)
      | (with_reducible exact LeO.refl _)
      | (with_reducible exact LeO.none _)
      | (with_reducible refine LeO.ite ?_ ?_)
      | (with_reducible refine LeO.bind ?_ (fun _ => ?_))
      | exact ih0 _ _ _ _
      | exact ih1 _ _ _ _ _
      | exact poly_mod.mono _ _ _ _
      | exact LeO.none _
      | refine LeO.ite ?_ ?_
      | refine LeO.bind ?_ (fun _ => ?_)
    · intro y0 y1 y2 y3 y4
      unfold poly_Gcd.l1
      repeat' first
      | (with_reducible exact ih0 _ _ _ _)
      | (with_reducible exact ih1 _ _ _ _ _)
      | (with_reducible exact poly_mod.mono _ _ _ _)
      | (with_reducible exact LeO.refl _)
      | (with_reducible exact LeO.none _)
      | (with_reducible refine LeO.ite ?_ ?_)
      | (with_reducible refine LeO.bind ?_ (fun _ => ?_))
      | exact ih0 _ _ _ _
      | exact ih1 _ _ _ _ _
      | exact poly_mod.mono _ _ _ _
      | exact LeO.none _
      | refine LeO.ite ?_ ?_
      | refine LeO.bind ?_ (fun _ => ?_)
theorem poly_Gcd.mono : ∀ a0 k, LeO (poly_Gcd.f k a0) (poly_Gcd.f (k + 1) a0) := by
  intro a0 k
  obtain ⟨ih0, ih1⟩ := poly_Gcd.mono_l k
  unfold poly_Gcd.f
  repeat' first
      | (with_reducible exact ih0 _ _ _ _)
      | (with_reducible exact ih1 _ _ _ _ _)
      | (with_reducible exact poly_mod.mono _ _ _ _)
      | (with_reducible exact LeO.refl _)
      | (with_reducible exact LeO.none _)
      | (with_reducible refine LeO.ite ?_ ?_)
      | (with_reducible refine LeO.bind ?_ (fun _ => ?_))
      | exact ih0 _ _ _ _
      | exact ih1 _ _ _ _ _
      | exact poly_mod.mono _ _ _ _
      | exact LeO.none _
      | refine LeO.ite ?_ ?_
      | refine LeO.bind ?_ (fun _ => ?_)
set_option maxHeartbeats 8000000 in
set_option maxRecDepth 100000 in
theorem poly_Gcd.calls (k : Nat) (A0 : Option Addr) (c0 : Nat) (l0 : List Int) (r : Int) (w : World) (hr0 : Kd.C (Kd.int .u64) w A0 l0.length l0) (hc0 : l0.length ≤ c0) (h : poly_Gcd.f k l0 = some r) :
    Calls Try.prog 47 #[.slice A0 l0.length c0] w fun e w' => e = .returned (.int .u64 r) ∧ Drawn0 w w' := by
  have HR0 := Aside0.mk hr0
  have HC0 := Aside0.mk hc0
  clear hr0 hc0
  have H : (poly_Gcd.l0 k 0 l0 (l0.length : Int) 0) = some r := h
  clear h
  have H' := Aside0.mk H
  clear H
  go_enter Try.func47, Try.ntmps47
  go_wp2
  go_loopg [3, 8] k (fun kq v3 v8 w' => ∃ (x3_1 : Int) (x8_1 : Int), v3 = .int .u64 x3_1 ∧ v8 = .int .i64 x8_1 ∧ Aside0 (poly_Gcd.l0 kq x3_1 l0 (l0.length : Int) x8_1 = some r) ∧ Aside0 (kq ≤ k) ∧ Drawn0 w w')
  case atStart => exact ⟨(0), (0), (by first | rfl | (simp; done) | (simp [*]; done)), (by first | rfl | (simp; done) | (simp [*]; done)), H', ⟨Nat.le_refl _⟩, by repeat (first | exact Drawn0.refl _ | apply Drawn0.step)⟩
  case round =>
    clear H'
    obtain ⟨x3_1, x8_1, rfl, rfl, HA, HK1, ⟨m1, rfl⟩⟩ := hrel
    cases gk with
    | zero => exact absurd HA.out (by simp [poly_Gcd.l0])
    | succ k1 =>
      have H := HA.out
      clear HA
      simp only [poly_Gcd.l0] at H
      by_cases c2 : x8_1 < (l0.length : Int)
      · rw [if_pos c2] at H
        have c2b0 : decide (x8_1 < (l0.length : Int)) = true := decide_eq_true c2
        clear c2
        by_cases c3 : 0 ≤ x8_1
        · rw [if_pos c3] at H
          have c3b0 : decide (0 ≤ x8_1) = true := decide_eq_true c3
          clear c3
          by_cases c4 : x8_1 < (l0.length : Int)
          · rw [if_pos c4] at H
            have c4b0 : decide (x8_1 < (l0.length : Int)) = true := decide_eq_true c4
            clear c4
            have H' := Aside0.mk H
            clear H
            have p108 : 0 ≤ (x8_1 : Int) := of_decide_eq_true (by first | (with_reducible assumption) | assumption)
            have q108 : x8_1 < (l0.length : Int) := of_decide_eq_true (by first | (with_reducible assumption) | assumption)
            obtain ⟨ad108, e108, hx108_0⟩ := Kd.at_int HR0.out x8_1 p108 q108
            cases e108
            replace p108 := eq_true p108
            replace q108 := eq_true q108
            go_wp2
            go_loopg [3, 5] k1 (fun kq v3 v5 w' => ∃ (x3_2 : Int) (x5_2 : Int), v3 = .int .u64 x3_2 ∧ v5 = .int .u64 x5_2 ∧ Aside0 (poly_Gcd.l1 kq x3_2 x5_2 l0 (l0.length : Int) x8_1 = some r) ∧ Aside0 (kq ≤ k1) ∧ Drawn0 w w')
            case atStart => exact ⟨(x3_1), (rd l0 x8_1), (by first | rfl | (simp; done) | (simp [*]; done)), (by first | rfl | (simp; done) | (simp [*]; done)), H', ⟨Nat.le_refl _⟩, by repeat (first | exact Drawn0.refl _ | apply Drawn0.step)⟩
            case round =>
              clear H'
              try clear p1
              try clear q1
              try clear hx1
              try clear c2
              try clear c2b0
              try clear p2
              try clear c3
              try clear c3b0
              try clear c4
              try clear c4b0
              try clear hx108_0
              try clear p108
              try clear q108
              obtain ⟨x3_2, x5_2, rfl, rfl, HA, HK2, ⟨m2, rfl⟩⟩ := hrel
              cases gk with
              | zero => exact absurd HA.out (by simp [poly_Gcd.l1])
              | succ k2 =>
                have H := HA.out
                clear HA
                simp only [poly_Gcd.l1] at H
                by_cases c5 : x5_2 = 0
                · rw [if_pos c5] at H
                  have c5b0 : (x5_2 == 0) = true := beq_iff_eq.mpr c5
                  have c5b1 : (x5_2 != 0) = false := bne_eq_false_iff_eq.mpr c5
                  clear c5
                  have H' := Aside0.mk H
                  clear H
                  go_wp2
                  go_roundg k2
                  case measure => have := HK1.out; have := HK2.out; omega
                  case rel => exact ⟨(x3_2), (wrap64 (x8_1 + 1)), (by first | rfl | (simp; done) | (simp [*]; done)), (by first | rfl | (simp; done) | (simp [*]; done)), H', ⟨by have := HK1.out; have := HK2.out; omega⟩, by repeat (first | exact Drawn0.refl _ | apply Drawn0.step)⟩
                · rw [if_neg c5] at H
                  have c5b0 : (x5_2 == 0) = false := beq_eq_false_iff_ne.mpr c5
                  have c5b1 : (x5_2 != 0) = true := bne_iff_ne.mpr c5
                  replace H := Option.bind_eq_some_iff.mp H
                  obtain ⟨t109, A60, H⟩ := H
                  replace H : (poly_Gcd.l1 k2 x5_2 t109 l0 (l0.length : Int) x8_1) = some r := H
                  have A6 := Aside0.mk A60
                  clear A60
                  have H' := Aside0.mk H
                  clear H
                  go_wp2_with (first | ((with_reducible refine gate_callee (f := 44) rfl ?_); refine goesL_ (some 17) rfl rfl Try.func44 (by kernel_rfl) rfl #[.int .u64 0, .int .u64 x3_2, .int .u64 x5_2] rfl (by (try simp only [List.map_toArray, List.map_cons, List.map_nil]); first | done | rfl | (simp only [List.length_drop, List.length_take]; rfl)) ?_; (with_reducible refine (poly_mod.calls k2 0 x3_2 x5_2 t109 _ A6.out).mono ?_); rintro e w' ⟨rfl, ⟨nd, rfl⟩⟩; refine ⟨_, rfl, ?_⟩))
                  go_roundg k2
                  case measure => have := HK1.out; have := HK2.out; omega
                  case rel => exact ⟨(x5_2), (t109), (by first | rfl | (simp; done) | (simp [*]; done)), (by first | rfl | (simp; done) | (simp [*]; done)), H', ⟨by have := HK1.out; have := HK2.out; omega⟩, by repeat (first | exact Drawn0.refl _ | apply Drawn0.step)⟩
          · rw [if_neg c4] at H
            exact absurd H (by simp)
        · rw [if_neg c3] at H
          exact absurd H (by simp)
      · rw [if_neg c2] at H
        have c2b0 : decide (x8_1 < (l0.length : Int)) = false := decide_eq_false c2
        clear c2
        obtain rfl := Option.some.inj H
        go_wp2
        go_ret
        exact ⟨by first | rfl | (simp; done) | (simp [*]; done), by repeat (first | exact Drawn0.refl _ | apply Drawn0.step)⟩

/-! ### poly_Mul: function 53 -/
def poly_Mul.l0 : Nat → Int → Int → Int → Int → Int → Option (Int × Int)
  | 0, _, _, _, _, _ => none
  | k + 1, x0, x1, x6, x7, x9 => if x9 < 64 then (if 0 ≤ x9 then (if (Go.bits .and .u64 (shr .u64 x1 x9) 1) = 1 then (if 0 ≤ (wrap64 (64 - x9)) then (poly_Mul.l0 k x0 x1 (Go.bits .xor .u64 x6 (shr .u64 x0 (wrap64 (64 - x9)))) (Go.bits .xor .u64 x7 (shl .u64 x0 x9)) (wrap64 (x9 + 1))) else (none)) else (poly_Mul.l0 k x0 x1 x6 x7 (wrap64 (x9 + 1)))) else (none)) else (some (x6, x7))
def poly_Mul.f (k : Nat) (a0 : Int) (a1 : Int) : Option (Int × Int) := poly_Mul.l0 k a0 a1 0 0 0
theorem poly_Mul.mono_l : ∀ k, (∀ y0 y1 y2 y3 y4, LeO (poly_Mul.l0 k y0 y1 y2 y3 y4) (poly_Mul.l0 (k + 1) y0 y1 y2 y3 y4))
  | 0 => fun _ _ _ _ _ r h => by simp [poly_Mul.l0] at h
  | k + 1 => by
    have ih0 := poly_Mul.mono_l k
    · intro y0 y1 y2 y3 y4
      unfold poly_Mul.l0
      repeat' first
      | (with_reducible exact ih0 _ _ _ _ _)
      | (with_reducible exact LeO.refl _)
      | (with_reducible exact LeO.none _)
      | (with_reducible refine LeO.ite ?_ ?_)
      | (with_reducible refine LeO.bind ?_ (fun _ => ?_))
      | exact ih0 _ _ _ _ _
      | exact LeO.none _
      | refine LeO.ite ?_ ?_
      | refine LeO.bind ?_ (fun _ => ?_)
theorem poly_Mul.mono : ∀ a0 a1 k, LeO (poly_Mul.f k a0 a1) (poly_Mul.f (k + 1) a0 a1) := by
  intro a0 a1 k
  have ih0 := poly_Mul.mono_l k
  unfold poly_Mul.f
  repeat' first
      | (with_reducible exact ih0 _ _ _ _ _)
      | (with_reducible exact LeO.refl _)
      | (with_reducible exact LeO.none _)
      | (with_reducible refine LeO.ite ?_ ?_)
      | (with_reducible refine LeO.bind ?_ (fun _ => ?_))
      | exact ih0 _ _ _ _ _
      | exact LeO.none _
      | refine LeO.ite ?_ ?_
      | refine LeO.bind ?_ (fun _ => ?_)
set_option maxHeartbeats 8000000 in
set_option maxRecDepth 100000 in
theorem poly_Mul.calls (k : Nat) (a0 : Int) (a1 : Int) (r1 : Int) (r2 : Int) (w : World) (h : poly_Mul.f k a0 a1 = some (r1, r2)) :
    Calls Try.prog 53 #[.int .u64 a0, .int .u64 a1] w fun e w' => e = .returned (.tuple #[.int .u64 r1, .int .u64 r2]) ∧ Drawn0 w w' := by
  have H : (poly_Mul.l0 k a0 a1 0 0 0) = some (r1, r2) := h
  clear h
  have H' := Aside0.mk H
  clear H
  go_enter Try.func53, Try.ntmps53
  go_wp2
  go_loopg [6, 7, 9] k (fun kq v6 v7 v9 w' => ∃ (x6_1 : Int) (x7_1 : Int) (x9_1 : Int), v6 = .int .u64 x6_1 ∧ v7 = .int .u64 x7_1 ∧ v9 = .int .i64 x9_1 ∧ Aside0 (poly_Mul.l0 kq a0 a1 x6_1 x7_1 x9_1 = some (r1, r2)) ∧ Aside0 (kq ≤ k) ∧ Drawn0 w w')
  case atStart => exact ⟨(0), (0), (0), (by first | rfl | (simp; done) | (simp [*]; done)), (by first | rfl | (simp; done) | (simp [*]; done)), (by first | rfl | (simp; done) | (simp [*]; done)), H', ⟨Nat.le_refl _⟩, by repeat (first | exact Drawn0.refl _ | apply Drawn0.step)⟩
  case round =>
    clear H'
    try clear p2
    obtain ⟨x6_1, x7_1, x9_1, rfl, rfl, rfl, HA, HK1, ⟨m1, rfl⟩⟩ := hrel
    cases gk with
    | zero => exact absurd HA.out (by simp [poly_Mul.l0])
    | succ k1 =>
      have H := HA.out
      clear HA
      simp only [poly_Mul.l0] at H
      by_cases c3 : x9_1 < 64
      · rw [if_pos c3] at H
        have c3b0 : decide (x9_1 < 64) = true := decide_eq_true c3
        clear c3
        by_cases c4 : 0 ≤ x9_1
        · rw [if_pos c4] at H
          have c4b0 := eq_true c4
          have c4b1 : decide (0 ≤ x9_1) = true := decide_eq_true c4
          clear c4
          obtain ⟨ji5, hji5⟩ : ∃ j_ : Int, (shr .u64 a1 x9_1) = j_ := ⟨_, rfl⟩
          replace H : (if (Go.bits .and .u64 (ji5) 1) = 1 then (if 0 ≤ (wrap64 (64 - x9_1)) then (poly_Mul.l0 k1 a0 a1 (Go.bits .xor .u64 x6_1 (shr .u64 a0 (wrap64 (64 - x9_1)))) (Go.bits .xor .u64 x7_1 (shl .u64 a0 x9_1)) (wrap64 (x9_1 + 1))) else (none)) else (poly_Mul.l0 k1 a0 a1 x6_1 x7_1 (wrap64 (x9_1 + 1)))) = some (r1, r2) := by first | (rw [hji5] at H; exact H) | (simp only [hji5] at H ⊢; exact H)
          have hji5_ : (a1 / 2 ^ min x9_1.toNat 64) = ji5 := hji5
          have hji5z : x9_1 ≤ 64 → (a1 / 2 ^ x9_1.toNat) = ji5 := shr_small hji5
          by_cases c6 : (Go.bits .and .u64 (ji5) 1) = 1
          · rw [if_pos c6] at H
            have c6b0 : ((Go.bits .and .u64 (ji5) 1) == 1) = true := beq_iff_eq.mpr c6
            have c6b1 : ((Go.bits .and .u64 (ji5) 1) != 1) = false := bne_eq_false_iff_eq.mpr c6
            clear c6
            have c7b0 := eq_true (of_decide_eq_true (by first | (with_reducible assumption) | assumption) : 0 ≤ x9_1)
            obtain ⟨ji8, hji8⟩ : ∃ j_ : Int, (shl .u64 a0 x9_1) = j_ := ⟨_, rfl⟩
            replace H : (if 0 ≤ (wrap64 (64 - x9_1)) then (poly_Mul.l0 k1 a0 a1 (Go.bits .xor .u64 x6_1 (shr .u64 a0 (wrap64 (64 - x9_1)))) (Go.bits .xor .u64 x7_1 (ji8)) (wrap64 (x9_1 + 1))) else (none)) = some (r1, r2) := by first | (rw [hji8] at H; exact H) | (simp only [hji8] at H ⊢; exact H)
            have hji8_ : (IntKind.u64.wrap (a0 * 2 ^ min x9_1.toNat 64)) = ji8 := hji8
            have hji8z : x9_1 ≤ 64 → (IntKind.u64.wrap (a0 * 2 ^ x9_1.toNat)) = ji8 := shl_small hji8
            obtain ⟨ji9, hji9⟩ : ∃ j_ : Int, (wrap64 (64 - x9_1)) = j_ := ⟨_, rfl⟩
            replace H : (if 0 ≤ (ji9) then (poly_Mul.l0 k1 a0 a1 (Go.bits .xor .u64 x6_1 (shr .u64 a0 (ji9))) (Go.bits .xor .u64 x7_1 (ji8)) (wrap64 (x9_1 + 1))) else (none)) = some (r1, r2) := by first | (rw [hji9] at H; exact H) | (simp only [hji9] at H ⊢; exact H)
            have hji9w : (IntKind.i64.wrap (64 - x9_1)) = ji9 := (i64_w _).trans hji9
            by_cases c10 : 0 ≤ (ji9)
            · rw [if_pos c10] at H
              have c10b0 := eq_true c10
              have c10b1 : decide (0 ≤ (ji9)) = true := decide_eq_true c10
              clear c10
              obtain ⟨ji11, hji11⟩ : ∃ j_ : Int, (shr .u64 a0 (ji9)) = j_ := ⟨_, rfl⟩
              replace H : (poly_Mul.l0 k1 a0 a1 (Go.bits .xor .u64 x6_1 (ji11)) (Go.bits .xor .u64 x7_1 (ji8)) (wrap64 (x9_1 + 1))) = some (r1, r2) := by first | (rw [hji11] at H; exact H) | (simp only [hji11] at H ⊢; exact H)
              have hji11_ : (a0 / 2 ^ min (ji9).toNat 64) = ji11 := hji11
              have hji11z : (ji9) ≤ 64 → (a0 / 2 ^ (ji9).toNat) = ji11 := shr_small hji11
              have H' := Aside0.mk H
              clear H
              go_wp2
              go_roundg k1
              case measure => have := HK1.out; omega
              case rel => exact ⟨(Go.bits .xor .u64 x6_1 (ji11)), (Go.bits .xor .u64 x7_1 (ji8)), (wrap64 (x9_1 + 1)), (by first | rfl | (simp; done) | (simp only [← hji11] <;> (first | rfl | simp)) | (simp [*]; done)), (by first | rfl | (simp; done) | (simp only [← hji8] <;> (first | rfl | simp)) | (simp [*]; done)), (by first | rfl | (simp; done) | (simp [*]; done)), H', ⟨by have := HK1.out; omega⟩, by repeat (first | exact Drawn0.refl _ | apply Drawn0.step)⟩
            · rw [if_neg c10] at H
              exact absurd H (by simp)
          · rw [if_neg c6] at H
            have c6b0 : ((Go.bits .and .u64 (ji5) 1) == 1) = false := beq_eq_false_iff_ne.mpr c6
            have c6b1 : ((Go.bits .and .u64 (ji5) 1) != 1) = true := bne_iff_ne.mpr c6
            have H' := Aside0.mk H
            clear H
            go_wp2
            go_roundg k1
            case measure => have := HK1.out; omega
            case rel => exact ⟨(x6_1), (x7_1), (wrap64 (x9_1 + 1)), (by first | rfl | (simp; done) | (simp [*]; done)), (by first | rfl | (simp; done) | (simp [*]; done)), (by first | rfl | (simp; done) | (simp [*]; done)), H', ⟨by have := HK1.out; omega⟩, by repeat (first | exact Drawn0.refl _ | apply Drawn0.step)⟩
        · rw [if_neg c4] at H
          exact absurd H (by simp)
      · rw [if_neg c3] at H
        have c3b0 : decide (x9_1 < 64) = false := decide_eq_false c3
        clear c3
        simp only [Option.some.injEq, Prod.mk.injEq] at H
        obtain ⟨rfl, rfl⟩ := H
        go_wp2
        go_ret2
        exact ⟨by first | rfl | (simp; done) | (simp [*]; done), by repeat (first | exact Drawn0.refl _ | apply Drawn0.step)⟩

/-! ### poly_mulMod: function 45 -/
def poly_mulMod.f (k : Nat) (a0 : Int) (a1 : Int) (a2 : Int) : Option (Int) := (poly_Mul.f k a1 a2).bind fun bt110 => ((poly_mod.f k bt110.1 bt110.2 a0).bind fun t112 => (some t112))
theorem poly_mulMod.mono : ∀ a0 a1 a2 k, LeO (poly_mulMod.f k a0 a1 a2) (poly_mulMod.f (k + 1) a0 a1 a2) := by
  intro a0 a1 a2 k
  unfold poly_mulMod.f
  repeat' first
      | (with_reducible exact poly_Mul.mono _ _ _)
      | (with_reducible exact poly_mod.mono _ _ _ _)
      | (with_reducible exact LeO.refl _)
      | (with_reducible exact LeO.none _)
      | (with_reducible refine LeO.ite ?_ ?_)
      | (with_reducible refine LeO.bind ?_ (fun _ => ?_))
      | exact poly_Mul.mono _ _ _
      | exact poly_mod.mono _ _ _ _
      | exact LeO.none _
      | refine LeO.ite ?_ ?_
      | refine LeO.bind ?_ (fun _ => ?_)
set_option maxHeartbeats 8000000 in
set_option maxRecDepth 100000 in
theorem poly_mulMod.calls (k : Nat) (a0 : Int) (a1 : Int) (a2 : Int) (r : Int) (w : World) (h : poly_mulMod.f k a0 a1 a2 = some r) :
    Calls Try.prog 45 #[.int .u64 a0, .int .u64 a1, .int .u64 a2] w fun e w' => e = .returned (.int .u64 r) ∧ Drawn0 w w' := by
  have H : ((poly_Mul.f k a1 a2).bind fun bt110 => ((poly_mod.f k bt110.1 bt110.2 a0).bind fun t112 => (some t112))) = some r := h
  clear h
  replace H := Option.bind_eq_some_iff.mp H
  obtain ⟨⟨t110, t111⟩, A40, H⟩ := H
  replace H : ((poly_mod.f k t110 t111 a0).bind fun t112 => (some t112)) = some r := H
  have A4 := Aside0.mk A40
  clear A40
  replace H := Option.bind_eq_some_iff.mp H
  obtain ⟨t112, A50, H⟩ := H
  replace H : (some t112) = some r := H
  have A5 := Aside0.mk A50
  clear A50
  obtain rfl := Option.some.inj H
  go_enter Try.func45, Try.ntmps45
  go_wp2_with (first | ((with_reducible refine gate_callee (f := 53) rfl ?_); refine goesL_ (some 12) rfl rfl Try.func53 (by kernel_rfl) rfl #[.int .u64 a1, .int .u64 a2] rfl (by (try simp only [List.map_toArray, List.map_cons, List.map_nil]); first | done | rfl | (simp only [List.length_drop, List.length_take]; rfl)) ?_; (with_reducible refine (poly_Mul.calls k a1 a2 t110 t111 _ A4.out).mono ?_); rintro e w' ⟨rfl, ⟨nd, rfl⟩⟩; refine ⟨_, rfl, ?_⟩) | ((with_reducible refine gate_callee (f := 44) rfl ?_); refine goesL_ (some 18) rfl rfl Try.func44 (by kernel_rfl) rfl #[.int .u64 t110, .int .u64 t111, .int .u64 a0] rfl (by (try simp only [List.map_toArray, List.map_cons, List.map_nil]); first | done | rfl | (simp only [List.length_drop, List.length_take]; rfl)) ?_; (with_reducible refine (poly_mod.calls k t110 t111 a0 t112 _ A5.out).mono ?_); rintro e w' ⟨rfl, ⟨nd, rfl⟩⟩; refine ⟨_, rfl, ?_⟩))
  go_ret
  exact ⟨by first | rfl | (simp; done) | (simp [*]; done), by repeat (first | exact Drawn0.refl _ | apply Drawn0.step)⟩

end Go.Proofs.Ytoofafgnlgaajaa.PRabin
