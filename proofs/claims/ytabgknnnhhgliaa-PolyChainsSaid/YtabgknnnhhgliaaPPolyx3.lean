/- Printed for this claim by a copy of the kit's print.py that takes functions walked by our own texts. Conditions: none. -/
import Derived.Test.YtabgknnnhhgliaaPPolyx0
import Derived.Test.YtabgknnnhhgliaaPPolyx1
import Derived.Test.YtabgknnnhhgliaaPPolyx2
namespace Go.Proofs.Ytabgknnnhhgliaa.PPoly
open Go.RowKit Go.Proofs.YtabgknnnhhgliaaW.PrintWords Go.Proofs.YtabgknnnhhgliaaW.PrintLast Go.Proofs.YtabgknnnhhgliaaW.PrintMore
attribute [local go_sem] max2_int min2_int max_two min_two max_three min_three max_four min_four   -- for this text's walks alone
set_option linter.unusedVariables false
set_option linter.unusedSimpArgs false

/-! ### amphoraref06_Irreducible: function 11 -/
def amphoraref06_Irreducible.l0 : Nat → Int → Int → Int → Int → Int → Option (Bool)
  | 0, _, _, _, _, _ => none
  | k + 1, x0, x3, x4, x5, x6 => if (wrap64 (2 * x6)) ≤ x3 then ((amphoraref06_Mul.f k x5 x5).bind fun bt128 => ((amphoraref06_Mod.f k bt128.1 bt128.2 x0).bind fun t130 => ((amphoraref06_Gcd.f k x0 (Go.bits .xor .u64 t130 x4)).bind fun t131 => (if t131 = 1 then (amphoraref06_Irreducible.l0 k x0 x3 x4 t130 (wrap64 (x6 + 1))) else (some false))))) else (some true)
def amphoraref06_Irreducible.f (k : Nat) (a0 : Int) : Option (Bool) := (amphoraref06_Deg.f k a0).bind fun t126 => (if t126 < 1 then (some false) else ((amphoraref06_Mod.f k 0 2 a0).bind fun t127 => (amphoraref06_Irreducible.l0 k a0 t126 t127 t127 1)))
theorem amphoraref06_Irreducible.mono_l : ∀ k, (∀ y0 y1 y2 y3 y4, LeO (amphoraref06_Irreducible.l0 k y0 y1 y2 y3 y4) (amphoraref06_Irreducible.l0 (k + 1) y0 y1 y2 y3 y4))
  | 0 => fun _ _ _ _ _ r h => by simp [amphoraref06_Irreducible.l0] at h
  | k + 1 => by
    have ih0 := amphoraref06_Irreducible.mono_l k
    · intro y0 y1 y2 y3 y4
      unfold amphoraref06_Irreducible.l0
      repeat' first
      | (with_reducible exact ih0 _ _ _ _ _)
      | (with_reducible exact amphoraref06_Deg.mono _ _)
      | (with_reducible exact amphoraref06_Gcd.mono _ _ _)
      | (with_reducible exact amphoraref06_Mod.mono _ _ _ _)
      | (with_reducible exact amphoraref06_Mul.mono _ _ _)
      | (with_reducible exact LeO.refl _)
      | (with_reducible exact LeO.none _)
      | (with_reducible refine LeO.ite ?_ ?_)
      | (with_reducible refine LeO.bind ?_ (fun _ => ?_))
      | exact ih0 _ _ _ _ _
      | exact amphoraref06_Deg.mono _ _
      | exact amphoraref06_Gcd.mono _ _ _
      | exact amphoraref06_Mod.mono _ _ _ _
      | exact amphoraref06_Mul.mono _ _ _
      | exact LeO.none _
      | refine LeO.ite ?_ ?_
      | refine LeO.bind ?_ (fun _ => ?_)
theorem amphoraref06_Irreducible.mono : ∀ a0 k, LeO (amphoraref06_Irreducible.f k a0) (amphoraref06_Irreducible.f (k + 1) a0) := by
  intro a0 k
  have ih0 := amphoraref06_Irreducible.mono_l k
  unfold amphoraref06_Irreducible.f
  repeat' first
      | (with_reducible exact ih0 _ _ _ _ _)
      | (with_reducible exact amphoraref06_Deg.mono _ _)
      | (with_reducible exact amphoraref06_Gcd.mono _ _ _)
      | (with_reducible exact amphoraref06_Mod.mono _ _ _ _)
      | (with_reducible exact amphoraref06_Mul.mono _ _ _)
      | (with_reducible exact LeO.refl _)
      | (with_reducible exact LeO.none _)
      | (with_reducible refine LeO.ite ?_ ?_)
      | (with_reducible refine LeO.bind ?_ (fun _ => ?_))
      | exact ih0 _ _ _ _ _
      | exact amphoraref06_Deg.mono _ _
      | exact amphoraref06_Gcd.mono _ _ _
      | exact amphoraref06_Mod.mono _ _ _ _
      | exact amphoraref06_Mul.mono _ _ _
      | exact LeO.none _
      | refine LeO.ite ?_ ?_
      | refine LeO.bind ?_ (fun _ => ?_)
set_option maxHeartbeats 8000000 in
set_option maxRecDepth 100000 in
theorem amphoraref06_Irreducible.calls (k : Nat) (a0 : Int) (r : Bool) (w : World) (h : amphoraref06_Irreducible.f k a0 = some r) :
    Calls Try.prog 11 #[.int .u64 a0] w fun e w' => e = .returned (.bool r) ∧ Drawn0 w w' := by
  have H : ((amphoraref06_Deg.f k a0).bind fun t126 => (if t126 < 1 then (some false) else ((amphoraref06_Mod.f k 0 2 a0).bind fun t127 => (amphoraref06_Irreducible.l0 k a0 t126 t127 t127 1)))) = some r := h
  clear h
  replace H := Option.bind_eq_some_iff.mp H
  obtain ⟨t126, A20, H⟩ := H
  replace H : (if t126 < 1 then (some false) else ((amphoraref06_Mod.f k 0 2 a0).bind fun t127 => (amphoraref06_Irreducible.l0 k a0 t126 t127 t127 1))) = some r := H
  have A2 := Aside0.mk A20
  clear A20
  by_cases c3 : t126 < 1
  · rw [if_pos c3] at H
    have c3b0 : decide (t126 < 1) = true := decide_eq_true c3
    clear c3
    obtain rfl := Option.some.inj H
    go_enter Try.func11, Try.ntmps11
    go_wp2_with (first | ((with_reducible refine gate_callee (f := 12) rfl ?_); refine goesL_ (some 10) rfl rfl Try.func12 (by kernel_rfl) rfl #[.int .u64 a0] rfl (by (try simp only [List.map_toArray, List.map_cons, List.map_nil]); first | done | rfl | (simp only [List.length_drop, List.length_take]; rfl)) ?_; (with_reducible refine (amphoraref06_Deg.calls k a0 t126 _ A2.out).mono ?_); rintro e w' ⟨rfl, ⟨nd, rfl⟩⟩; refine ⟨_, rfl, ?_⟩))
    go_ret
    exact ⟨by first | rfl | (simp; done) | (simp [*]; done), by repeat (first | exact Drawn0.refl _ | apply Drawn0.step)⟩
  · rw [if_neg c3] at H
    have c3b0 : decide (t126 < 1) = false := decide_eq_false c3
    clear c3
    replace H := Option.bind_eq_some_iff.mp H
    obtain ⟨t127, A40, H⟩ := H
    replace H : (amphoraref06_Irreducible.l0 k a0 t126 t127 t127 1) = some r := H
    have A4 := Aside0.mk A40
    clear A40
    have H' := Aside0.mk H
    clear H
    go_enter Try.func11, Try.ntmps11
    go_wp2_with (first | ((with_reducible refine gate_callee (f := 12) rfl ?_); refine goesL_ (some 10) rfl rfl Try.func12 (by kernel_rfl) rfl #[.int .u64 a0] rfl (by (try simp only [List.map_toArray, List.map_cons, List.map_nil]); first | done | rfl | (simp only [List.length_drop, List.length_take]; rfl)) ?_; (with_reducible refine (amphoraref06_Deg.calls k a0 t126 _ A2.out).mono ?_); rintro e w' ⟨rfl, ⟨nd, rfl⟩⟩; refine ⟨_, rfl, ?_⟩) | ((with_reducible refine gate_callee (f := 21) rfl ?_); refine goesL_ (some 14) rfl rfl Try.func21 (by kernel_rfl) rfl #[.int .u64 0, .int .u64 2, .int .u64 a0] rfl (by (try simp only [List.map_toArray, List.map_cons, List.map_nil]); first | done | rfl | (simp only [List.length_drop, List.length_take]; rfl)) ?_; (with_reducible refine (amphoraref06_Mod.calls k 0 2 a0 t127 _ A4.out).mono ?_); rintro e w' ⟨rfl, ⟨nd, rfl⟩⟩; refine ⟨_, rfl, ?_⟩))
    go_loopg [5, 6] k (fun kq v5 v6 w' => ∃ (x5_1 : Int) (x6_1 : Int), v5 = .int .u64 x5_1 ∧ v6 = .int .i64 x6_1 ∧ Aside0 (amphoraref06_Irreducible.l0 kq a0 t126 t127 x5_1 x6_1 = some r) ∧ Aside0 (kq ≤ k) ∧ Drawn0 w w')
    case atStart => exact ⟨(t127), (1), (by first | rfl | (simp; done) | (simp [*]; done)), (by first | rfl | (simp; done) | (simp [*]; done)), H', ⟨Nat.le_refl _⟩, by repeat (first | exact Drawn0.refl _ | apply Drawn0.step)⟩
    case round =>
      clear H'
      try clear c1
      try clear c2
      try clear p2
      try clear c3
      try clear c3b0
      obtain ⟨x5_1, x6_1, rfl, rfl, HA, HK1, ⟨m1, rfl⟩⟩ := hrel
      cases gk with
      | zero => exact absurd HA.out (by simp [amphoraref06_Irreducible.l0])
      | succ k1 =>
        have H := HA.out
        clear HA
        simp only [amphoraref06_Irreducible.l0] at H
        by_cases c5 : (wrap64 (2 * x6_1)) ≤ t126
        · rw [if_pos c5] at H
          have c5b0 : decide ((wrap64 (2 * x6_1)) ≤ t126) = true := decide_eq_true c5
          clear c5
          replace H := Option.bind_eq_some_iff.mp H
          obtain ⟨⟨t128, t129⟩, A60, H⟩ := H
          replace H : ((amphoraref06_Mod.f k1 t128 t129 a0).bind fun t130 => ((amphoraref06_Gcd.f k1 a0 (Go.bits .xor .u64 t130 t127)).bind fun t131 => (if t131 = 1 then (amphoraref06_Irreducible.l0 k1 a0 t126 t127 t130 (wrap64 (x6_1 + 1))) else (some false)))) = some r := H
          have A6 := Aside0.mk A60
          clear A60
          replace H := Option.bind_eq_some_iff.mp H
          obtain ⟨t130, A70, H⟩ := H
          replace H : ((amphoraref06_Gcd.f k1 a0 (Go.bits .xor .u64 t130 t127)).bind fun t131 => (if t131 = 1 then (amphoraref06_Irreducible.l0 k1 a0 t126 t127 t130 (wrap64 (x6_1 + 1))) else (some false))) = some r := H
          have A7 := Aside0.mk A70
          clear A70
          replace H := Option.bind_eq_some_iff.mp H
          obtain ⟨t131, A80, H⟩ := H
          replace H : (if t131 = 1 then (amphoraref06_Irreducible.l0 k1 a0 t126 t127 t130 (wrap64 (x6_1 + 1))) else (some false)) = some r := H
          have A8 := Aside0.mk A80
          clear A80
          by_cases c9 : t131 = 1
          · rw [if_pos c9] at H
            have c9b0 : (t131 == 1) = true := beq_iff_eq.mpr c9
            have c9b1 : (t131 != 1) = false := bne_eq_false_iff_eq.mpr c9
            clear c9
            have H' := Aside0.mk H
            clear H
            go_wp2_with (first | ((with_reducible refine gate_callee (f := 18) rfl ?_); refine goesL_ (some 25) rfl rfl Try.func18 (by kernel_rfl) rfl #[.int .u64 x5_1, .int .u64 x5_1] rfl (by (try simp only [List.map_toArray, List.map_cons, List.map_nil]); first | done | rfl | (simp only [List.length_drop, List.length_take]; rfl)) ?_; (with_reducible refine (amphoraref06_Mul.calls k1 x5_1 x5_1 t128 t129 _ A6.out).mono ?_); rintro e w' ⟨rfl, ⟨nd, rfl⟩⟩; refine ⟨_, rfl, ?_⟩) | ((with_reducible refine gate_callee (f := 21) rfl ?_); refine goesL_ (some 31) rfl rfl Try.func21 (by kernel_rfl) rfl #[.int .u64 t128, .int .u64 t129, .int .u64 a0] rfl (by (try simp only [List.map_toArray, List.map_cons, List.map_nil]); first | done | rfl | (simp only [List.length_drop, List.length_take]; rfl)) ?_; (with_reducible refine (amphoraref06_Mod.calls k1 t128 t129 a0 t130 _ A7.out).mono ?_); rintro e w' ⟨rfl, ⟨nd, rfl⟩⟩; refine ⟨_, rfl, ?_⟩) | ((with_reducible refine gate_callee (f := 27) rfl ?_); refine goesL_ (some 36) rfl rfl Try.func27 (by kernel_rfl) rfl #[.int .u64 a0, .int .u64 (Go.bits .xor .u64 t130 t127)] rfl (by (try simp only [List.map_toArray, List.map_cons, List.map_nil]); first | done | rfl | (simp only [List.length_drop, List.length_take]; rfl)) ?_; (with_reducible refine (amphoraref06_Gcd.calls k1 a0 (Go.bits .xor .u64 t130 t127) t131 _ A8.out).mono ?_); rintro e w' ⟨rfl, ⟨nd, rfl⟩⟩; refine ⟨_, rfl, ?_⟩))
            go_roundg k1
            case measure => have := HK1.out; omega
            case rel => exact ⟨(t130), (wrap64 (x6_1 + 1)), (by first | rfl | (simp; done) | (simp [*]; done)), (by first | rfl | (simp; done) | (simp [*]; done)), H', ⟨by have := HK1.out; omega⟩, by repeat (first | exact Drawn0.refl _ | apply Drawn0.step)⟩
          · rw [if_neg c9] at H
            have c9b0 : (t131 == 1) = false := beq_eq_false_iff_ne.mpr c9
            have c9b1 : (t131 != 1) = true := bne_iff_ne.mpr c9
            obtain rfl := Option.some.inj H
            go_wp2_with (first | ((with_reducible refine gate_callee (f := 18) rfl ?_); refine goesL_ (some 25) rfl rfl Try.func18 (by kernel_rfl) rfl #[.int .u64 x5_1, .int .u64 x5_1] rfl (by (try simp only [List.map_toArray, List.map_cons, List.map_nil]); first | done | rfl | (simp only [List.length_drop, List.length_take]; rfl)) ?_; (with_reducible refine (amphoraref06_Mul.calls k1 x5_1 x5_1 t128 t129 _ A6.out).mono ?_); rintro e w' ⟨rfl, ⟨nd, rfl⟩⟩; refine ⟨_, rfl, ?_⟩) | ((with_reducible refine gate_callee (f := 21) rfl ?_); refine goesL_ (some 31) rfl rfl Try.func21 (by kernel_rfl) rfl #[.int .u64 t128, .int .u64 t129, .int .u64 a0] rfl (by (try simp only [List.map_toArray, List.map_cons, List.map_nil]); first | done | rfl | (simp only [List.length_drop, List.length_take]; rfl)) ?_; (with_reducible refine (amphoraref06_Mod.calls k1 t128 t129 a0 t130 _ A7.out).mono ?_); rintro e w' ⟨rfl, ⟨nd, rfl⟩⟩; refine ⟨_, rfl, ?_⟩) | ((with_reducible refine gate_callee (f := 27) rfl ?_); refine goesL_ (some 36) rfl rfl Try.func27 (by kernel_rfl) rfl #[.int .u64 a0, .int .u64 (Go.bits .xor .u64 t130 t127)] rfl (by (try simp only [List.map_toArray, List.map_cons, List.map_nil]); first | done | rfl | (simp only [List.length_drop, List.length_take]; rfl)) ?_; (with_reducible refine (amphoraref06_Gcd.calls k1 a0 (Go.bits .xor .u64 t130 t127) t131 _ A8.out).mono ?_); rintro e w' ⟨rfl, ⟨nd, rfl⟩⟩; refine ⟨_, rfl, ?_⟩))
            go_ret
            exact ⟨by first | rfl | (simp; done) | (simp [*]; done), by repeat (first | exact Drawn0.refl _ | apply Drawn0.step)⟩
        · rw [if_neg c5] at H
          have c5b0 : decide ((wrap64 (2 * x6_1)) ≤ t126) = false := decide_eq_false c5
          clear c5
          obtain rfl := Option.some.inj H
          go_wp2
          go_ret
          exact ⟨by first | rfl | (simp; done) | (simp [*]; done), by repeat (first | exact Drawn0.refl _ | apply Drawn0.step)⟩

/-! ### amphoralaw06_PolyPrimes: function 3 -/
def amphoralaw06_PolyPrimes.f (k : Nat) (a0 : Int) : Option (Bool) := (amphoralaw06_alive.f k).bind fun t132 => (if t132 = true then ((poly_Irreducible.f k a0).bind fun t133 => ((amphoraref06_Irreducible.f k a0).bind fun t134 => (some (t133 == t134)))) else (some false))
theorem amphoralaw06_PolyPrimes.mono : ∀ a0 k, LeO (amphoralaw06_PolyPrimes.f k a0) (amphoralaw06_PolyPrimes.f (k + 1) a0) := by
  intro a0 k
  unfold amphoralaw06_PolyPrimes.f
  repeat' first
      | (with_reducible exact amphoralaw06_alive.mono _)
      | (with_reducible exact amphoraref06_Irreducible.mono _ _)
      | (with_reducible exact poly_Irreducible.mono _ _)
      | (with_reducible exact LeO.refl _)
      | (with_reducible exact LeO.none _)
      | (with_reducible refine LeO.ite ?_ ?_)
      | (with_reducible refine LeO.bind ?_ (fun _ => ?_))
      | exact amphoralaw06_alive.mono _
      | exact amphoraref06_Irreducible.mono _ _
      | exact poly_Irreducible.mono _ _
      | exact LeO.none _
      | refine LeO.ite ?_ ?_
      | refine LeO.bind ?_ (fun _ => ?_)
set_option maxHeartbeats 8000000 in
set_option maxRecDepth 100000 in
theorem amphoralaw06_PolyPrimes.calls (k : Nat) (a0 : Int) (r : Bool) (w : World) (h : amphoralaw06_PolyPrimes.f k a0 = some r) :
    Calls Try.prog 3 #[.int .u64 a0] w fun e w' => e = .returned (.bool r) ∧ Below w.heap.size w w' := by
  have HB := Aside0.mk (Below.refl w.heap.size w)
  have H : ((amphoralaw06_alive.f k).bind fun t132 => (if t132 = true then ((poly_Irreducible.f k a0).bind fun t133 => ((amphoraref06_Irreducible.f k a0).bind fun t134 => (some (t133 == t134)))) else (some false))) = some r := h
  clear h
  replace H := Option.bind_eq_some_iff.mp H
  obtain ⟨t132, A20, H⟩ := H
  replace H : (if t132 = true then ((poly_Irreducible.f k a0).bind fun t133 => ((amphoraref06_Irreducible.f k a0).bind fun t134 => (some (t133 == t134)))) else (some false)) = some r := H
  have A2 := Aside0.mk A20
  clear A20
  by_cases c3 : t132 = true
  · subst c3
    have H1 : ((poly_Irreducible.f k a0).bind fun t133 => ((amphoraref06_Irreducible.f k a0).bind fun t134 => (some (t133 == t134)))) = some r := by rw [if_pos rfl] at H; exact H
    clear H
    have H := H1
    clear H1
    replace H := Option.bind_eq_some_iff.mp H
    obtain ⟨t133, A40, H⟩ := H
    replace H : ((amphoraref06_Irreducible.f k a0).bind fun t134 => (some (t133 == t134))) = some r := H
    have A4 := Aside0.mk A40
    clear A40
    replace H := Option.bind_eq_some_iff.mp H
    obtain ⟨t134, A50, H⟩ := H
    replace H : (some (t133 == t134)) = some r := H
    have A5 := Aside0.mk A50
    clear A50
    obtain rfl := Option.some.inj H
    go_enter Try.func3, Try.ntmps3
    go_wp2_with (first | ((with_reducible refine gate_callee (f := 9) rfl ?_); refine goesL_ (some 3) rfl rfl Try.func9 (by kernel_rfl) rfl #[] rfl (by (try simp only [List.map_toArray, List.map_cons, List.map_nil]); first | done | rfl | (simp only [List.length_drop, List.length_take]; rfl)) ?_; (with_reducible refine (amphoralaw06_alive.calls k  true _ A2.out).mono ?_); rintro e w6 ⟨rfl, hb⟩; refine ⟨_, rfl, ?_⟩; have n0_ := Aside0.mk (below_step (by repeat (first | (with_reducible first | exact HB.out | apply below_alloc | apply pw_below_drewN | apply below_drew1) | exact HB.out)) hb); clear HB; have HB := n0_; clear n0_; (try clear hb); (try clear hb2); (try clear hk); (try clear hi)) | (go_at_call 10; (with_reducible refine (poly_Irreducible.calls k a0 t133 _ A4.out).mono ?_); rintro e w7 ⟨rfl, hb⟩; have n0_ := Aside0.mk (below_step (by repeat (first | (with_reducible first | exact HB.out | apply below_alloc | apply pw_below_drewN | apply below_drew1) | exact HB.out)) hb); clear HB; have HB := n0_; clear n0_; (try clear hb); (try clear hb2); (try clear hk); (try clear hi)) | (go_at_call 11; (with_reducible refine (amphoraref06_Irreducible.calls k a0 t134 _ A5.out).mono ?_); rintro e w' ⟨rfl, ⟨nd, rfl⟩⟩))
    go_ret
    exact ⟨by first | rfl | (simp [errW_none, errW_some] <;> rfl) | (simp [*, errW_none, errW_some] <;> rfl), by repeat (first | (with_reducible first | exact HB.out | apply below_alloc | apply pw_below_drewN | apply below_drew1) | exact HB.out)⟩
  · replace c3 := Bool.eq_false_iff.mpr c3
    subst c3
    have H1 : (some false) = some r := by rw [if_neg (show ¬ (false = true) by decide)] at H; exact H
    clear H
    have H := H1
    clear H1
    obtain rfl := Option.some.inj H
    go_enter Try.func3, Try.ntmps3
    go_wp2_with (first | ((with_reducible refine gate_callee (f := 9) rfl ?_); refine goesL_ (some 3) rfl rfl Try.func9 (by kernel_rfl) rfl #[] rfl (by (try simp only [List.map_toArray, List.map_cons, List.map_nil]); first | done | rfl | (simp only [List.length_drop, List.length_take]; rfl)) ?_; (with_reducible refine (amphoralaw06_alive.calls k  false _ A2.out).mono ?_); rintro e w8 ⟨rfl, hb⟩; refine ⟨_, rfl, ?_⟩; have n0_ := Aside0.mk (below_step (by repeat (first | (with_reducible first | exact HB.out | apply below_alloc | apply pw_below_drewN | apply below_drew1) | exact HB.out)) hb); clear HB; have HB := n0_; clear n0_; (try clear hb); (try clear hb2); (try clear hk); (try clear hi)))
    go_ret
    exact ⟨by first | rfl | (simp [errW_none, errW_some] <;> rfl) | (simp [*, errW_none, errW_some] <;> rfl), by repeat (first | (with_reducible first | exact HB.out | apply below_alloc | apply pw_below_drewN | apply below_drew1) | exact HB.out)⟩

/-- THE ONE PURE STATEMENT of amphoralaw06_PolyPrimes: yours. -/
def amphoralaw06_PolyPrimes.Pure : Prop := ∀ (a0 : Int), (Lit.int .u64 a0).wf = true → ∃ k, amphoralaw06_PolyPrimes.f k a0 = some true
theorem amphoralaw06_PolyPrimes.walk (P : amphoralaw06_PolyPrimes.Pure) (a0 : Int) (w : World) (w0 : (Lit.int .u64 a0).wf = true) :
    Calls Try.prog 3 #[.int .u64 a0] w fun e w' => e = .returned (.bool true) ∧ Below w.heap.size w w' := by
  obtain ⟨k, h⟩ := P a0 w0
  refine (amphoralaw06_PolyPrimes.calls k a0 true w h).mono ?_
  rintro e w' ⟨rfl, hd⟩
  exact ⟨rfl, hd⟩

/-! ### amphoraref06_Divides: function 13 -/
mutual
def amphoraref06_Divides.l0 : Nat → Int → Int → Int → Option (Bool)
  | 0, _, _, _ => none
  | k + 1, x0, x1, x5 => (amphoraref06_Deg.f k x5).bind fun t135 => (if t135 ≤ x1 then (amphoraref06_Divides.j1 k x0 x1 x5 (decide (x5 < x0))) else (amphoraref06_Divides.j1 k x0 x1 x5 false))
def amphoraref06_Divides.j1 : Nat → Int → Int → Int → Bool → Option (Bool)
  | 0, _, _, _, _ => none
  | k + 1, x0, x1, x5, x14 => if x14 = true then ((amphoraref06_Deg.f k x5).bind fun t136 => ((amphoraref06_Deg.f k x0).bind fun t137 => (if t136 < t137 then ((amphoraref06_Mod.f k 0 x0 x5).bind fun t138 => (if t138 = 0 then (some true) else (amphoraref06_Divides.l0 k x0 x1 (IntKind.u64.wrap (x5 + 1))))) else (amphoraref06_Divides.l0 k x0 x1 (IntKind.u64.wrap (x5 + 1)))))) else (some false)
end
def amphoraref06_Divides.f (k : Nat) (a0 : Int) (a1 : Int) : Option (Bool) := amphoraref06_Divides.l0 k a0 a1 2
theorem amphoraref06_Divides.mono_l : ∀ k, (∀ y0 y1 y2, LeO (amphoraref06_Divides.l0 k y0 y1 y2) (amphoraref06_Divides.l0 (k + 1) y0 y1 y2)) ∧ (∀ y0 y1 y2 y3, LeO (amphoraref06_Divides.j1 k y0 y1 y2 y3) (amphoraref06_Divides.j1 (k + 1) y0 y1 y2 y3))
  | 0 => ⟨fun _ _ _ r h => by simp [amphoraref06_Divides.l0] at h, fun _ _ _ _ r h => by simp [amphoraref06_Divides.j1] at h⟩
  | k + 1 => by
    obtain ⟨ih0, ih1⟩ := amphoraref06_Divides.mono_l k
    refine ⟨?_, ?_⟩
    · intro y0 y1 y2
      unfold amphoraref06_Divides.l0
      repeat' first
      | (with_reducible exact ih0 _ _ _)
      | (with_reducible exact ih1 _ _ _ _)
      | (with_reducible exact amphoraref06_Deg.mono _ _)
      | (with_reducible exact amphoraref06_Mod.mono _ _ _ _)
      | (with_reducible exact LeO.refl _)
      | (with_reducible exact LeO.none _)
      | (with_reducible refine LeO.ite ?_ ?_)
      | (with_reducible refine LeO.bind ?_ (fun _ => ?_))
      | exact ih0 _ _ _
      | exact ih1 _ _ _ _
      | exact amphoraref06_Deg.mono _ _
      | exact amphoraref06_Mod.mono _ _ _ _
      | exact LeO.none _
      | refine LeO.ite ?_ ?_
      | refine LeO.bind ?_ (fun _ => ?_)
    · intro y0 y1 y2 y3
      unfold amphoraref06_Divides.j1
      repeat' first
      | (with_reducible exact ih0 _ _ _)
      | (with_reducible exact ih1 _ _ _ _)
      | (with_reducible exact amphoraref06_Deg.mono _ _)
      | (with_reducible exact amphoraref06_Mod.mono _ _ _ _)
      | (with_reducible exact LeO.refl _)
      | (with_reducible exact LeO.none _)
      | (with_reducible refine LeO.ite ?_ ?_)
      | (with_reducible refine LeO.bind ?_ (fun _ => ?_))
      | exact ih0 _ _ _
      | exact ih1 _ _ _ _
      | exact amphoraref06_Deg.mono _ _
      | exact amphoraref06_Mod.mono _ _ _ _
      | exact LeO.none _
      | refine LeO.ite ?_ ?_
      | refine LeO.bind ?_ (fun _ => ?_)
theorem amphoraref06_Divides.mono : ∀ a0 a1 k, LeO (amphoraref06_Divides.f k a0 a1) (amphoraref06_Divides.f (k + 1) a0 a1) := by
  intro a0 a1 k
  obtain ⟨ih0, ih1⟩ := amphoraref06_Divides.mono_l k
  unfold amphoraref06_Divides.f
  repeat' first
      | (with_reducible exact ih0 _ _ _)
      | (with_reducible exact ih1 _ _ _ _)
      | (with_reducible exact amphoraref06_Deg.mono _ _)
      | (with_reducible exact amphoraref06_Mod.mono _ _ _ _)
      | (with_reducible exact LeO.refl _)
      | (with_reducible exact LeO.none _)
      | (with_reducible refine LeO.ite ?_ ?_)
      | (with_reducible refine LeO.bind ?_ (fun _ => ?_))
      | exact ih0 _ _ _
      | exact ih1 _ _ _ _
      | exact amphoraref06_Deg.mono _ _
      | exact amphoraref06_Mod.mono _ _ _ _
      | exact LeO.none _
      | refine LeO.ite ?_ ?_
      | refine LeO.bind ?_ (fun _ => ?_)
set_option maxHeartbeats 8000000 in
set_option maxRecDepth 100000 in
theorem amphoraref06_Divides.calls (k : Nat) (a0 : Int) (a1 : Int) (r : Bool) (w : World) (h : amphoraref06_Divides.f k a0 a1 = some r) :
    Calls Try.prog 13 #[.int .u64 a0, .int .i64 a1] w fun e w' => e = .returned (.bool r) ∧ Drawn0 w w' := by
  have H : (amphoraref06_Divides.l0 k a0 a1 2) = some r := h
  clear h
  have H' := Aside0.mk H
  clear H
  go_enter Try.func13, Try.ntmps13
  go_wp2
  go_loopg [5] k (fun kq v5 w' => ∃ (x5_1 : Int), v5 = .int .u64 x5_1 ∧ Aside0 (amphoraref06_Divides.l0 kq a0 a1 x5_1 = some r) ∧ Aside0 (kq ≤ k) ∧ Drawn0 w w')
  case atStart => exact ⟨(2), (by first | rfl | (simp; done) | (simp [*]; done)), H', ⟨Nat.le_refl _⟩, by repeat (first | exact Drawn0.refl _ | apply Drawn0.step)⟩
  case round =>
    clear H'
    try clear c1
    try clear p2
    obtain ⟨x5_1, rfl, HA, HK1, ⟨m1, rfl⟩⟩ := hrel
    cases gk with
    | zero => exact absurd HA.out (by simp [amphoraref06_Divides.l0])
    | succ k1 =>
      have H := HA.out
      clear HA
      simp only [amphoraref06_Divides.l0] at H
      have HC3 := Aside0.mk H
      clear H
      go_upto_region 2 with (fail)
      go_cut [14] (fun v14 wc => ∃ (kq : Nat) (x14_2 : Bool), v14 = .bool x14_2 ∧ Aside0 (amphoraref06_Divides.j1 kq a0 a1 x5_1 x14_2 = some r) ∧ Aside0 (kq ≤ k1) ∧ Drawn0 w wc)
      case first =>
        have H := HC3.out
        clear HC3
        replace H := Option.bind_eq_some_iff.mp H
        obtain ⟨t135, A40, H⟩ := H
        replace H : (if t135 ≤ a1 then (amphoraref06_Divides.j1 k1 a0 a1 x5_1 (decide (x5_1 < a0))) else (amphoraref06_Divides.j1 k1 a0 a1 x5_1 false)) = some r := H
        have A4 := Aside0.mk A40
        clear A40
        by_cases c5 : t135 ≤ a1
        · rw [if_pos c5] at H
          have c5b0 : decide (t135 ≤ a1) = true := decide_eq_true c5
          clear c5
          (first | rw [c5b0] | (simp only [i64_w, i32_w]; rw [c5b0]) | skip)
          have H' := Aside0.mk H
          clear H
          go_wp2_with (first | ((with_reducible refine gate_callee (f := 12) rfl ?_); refine goesL_ (some 7) rfl rfl Try.func12 (by kernel_rfl) rfl #[.int .u64 x5_1] rfl (by (try simp only [List.map_toArray, List.map_cons, List.map_nil]); first | done | rfl | (simp only [List.length_drop, List.length_take]; rfl)) ?_; (with_reducible refine (amphoraref06_Deg.calls k1 x5_1 t135 _ A4.out).mono ?_); rintro e w' ⟨rfl, ⟨nd, rfl⟩⟩; refine ⟨_, rfl, ?_⟩))
          go_meet
          case rel => exact ⟨_, (decide (x5_1 < a0)), (by first | rfl | (simp; done) | (simp [*]; done)), H', ⟨by have := HK1.out; first | omega | exact Nat.le_refl _⟩, by repeat (first | exact Drawn0.refl _ | apply Drawn0.step)⟩
        · rw [if_neg c5] at H
          have c5b0 : decide (t135 ≤ a1) = false := decide_eq_false c5
          clear c5
          (first | rw [c5b0] | (simp only [i64_w, i32_w]; rw [c5b0]) | skip)
          have H' := Aside0.mk H
          clear H
          go_wp2_with (first | ((with_reducible refine gate_callee (f := 12) rfl ?_); refine goesL_ (some 7) rfl rfl Try.func12 (by kernel_rfl) rfl #[.int .u64 x5_1] rfl (by (try simp only [List.map_toArray, List.map_cons, List.map_nil]); first | done | rfl | (simp only [List.length_drop, List.length_take]; rfl)) ?_; (with_reducible refine (amphoraref06_Deg.calls k1 x5_1 t135 _ A4.out).mono ?_); rintro e w' ⟨rfl, ⟨nd, rfl⟩⟩; refine ⟨_, rfl, ?_⟩))
          go_meet
          case rel => exact ⟨_, (false), (by first | rfl | (simp; done) | (simp [*]; done)), H', ⟨by have := HK1.out; first | omega | exact Nat.le_refl _⟩, by repeat (first | exact Drawn0.refl _ | apply Drawn0.step)⟩
      case rest =>
        clear HC3
        try clear c1
        try clear p2
        try clear c5
        try clear c5b0
        try clear p2
        obtain ⟨kq, x14_2, rfl, HA, HJ2, ⟨mc2, rfl⟩⟩ := hcut
        cases kq with
        | zero => exact absurd HA.out (by simp [amphoraref06_Divides.j1])
        | succ kj2 =>
          have H := HA.out
          clear HA
          simp only [amphoraref06_Divides.j1] at H
          by_cases c6 : x14_2 = true
          · subst c6
            have H1 : ((amphoraref06_Deg.f kj2 x5_1).bind fun t136 => ((amphoraref06_Deg.f kj2 a0).bind fun t137 => (if t136 < t137 then ((amphoraref06_Mod.f kj2 0 a0 x5_1).bind fun t138 => (if t138 = 0 then (some true) else (amphoraref06_Divides.l0 kj2 a0 a1 (IntKind.u64.wrap (x5_1 + 1))))) else (amphoraref06_Divides.l0 kj2 a0 a1 (IntKind.u64.wrap (x5_1 + 1)))))) = some r := by rw [if_pos rfl] at H; exact H
            clear H
            have H := H1
            clear H1
            replace H := Option.bind_eq_some_iff.mp H
            obtain ⟨t136, A70, H⟩ := H
            replace H : ((amphoraref06_Deg.f kj2 a0).bind fun t137 => (if t136 < t137 then ((amphoraref06_Mod.f kj2 0 a0 x5_1).bind fun t138 => (if t138 = 0 then (some true) else (amphoraref06_Divides.l0 kj2 a0 a1 (IntKind.u64.wrap (x5_1 + 1))))) else (amphoraref06_Divides.l0 kj2 a0 a1 (IntKind.u64.wrap (x5_1 + 1))))) = some r := H
            have A7 := Aside0.mk A70
            clear A70
            replace H := Option.bind_eq_some_iff.mp H
            obtain ⟨t137, A80, H⟩ := H
            replace H : (if t136 < t137 then ((amphoraref06_Mod.f kj2 0 a0 x5_1).bind fun t138 => (if t138 = 0 then (some true) else (amphoraref06_Divides.l0 kj2 a0 a1 (IntKind.u64.wrap (x5_1 + 1))))) else (amphoraref06_Divides.l0 kj2 a0 a1 (IntKind.u64.wrap (x5_1 + 1)))) = some r := H
            have A8 := Aside0.mk A80
            clear A80
            by_cases c9 : t136 < t137
            · rw [if_pos c9] at H
              have c9b0 : decide (t136 < t137) = true := decide_eq_true c9
              clear c9
              replace H := Option.bind_eq_some_iff.mp H
              obtain ⟨t138, A100, H⟩ := H
              replace H : (if t138 = 0 then (some true) else (amphoraref06_Divides.l0 kj2 a0 a1 (IntKind.u64.wrap (x5_1 + 1)))) = some r := H
              have A10 := Aside0.mk A100
              clear A100
              by_cases c11 : t138 = 0
              · rw [if_pos c11] at H
                have c11b0 : (t138 == 0) = true := beq_iff_eq.mpr c11
                have c11b1 : (t138 != 0) = false := bne_eq_false_iff_eq.mpr c11
                clear c11
                obtain rfl := Option.some.inj H
                go_wp2_with (first | ((with_reducible refine gate_callee (f := 12) rfl ?_); refine goesL_ (some 18) rfl rfl Try.func12 (by kernel_rfl) rfl #[.int .u64 x5_1] rfl (by (try simp only [List.map_toArray, List.map_cons, List.map_nil]); first | done | rfl | (simp only [List.length_drop, List.length_take]; rfl)) ?_; (with_reducible refine (amphoraref06_Deg.calls kj2 x5_1 t136 _ A7.out).mono ?_); rintro e w' ⟨rfl, ⟨nd, rfl⟩⟩; refine ⟨_, rfl, ?_⟩) | ((with_reducible refine gate_callee (f := 12) rfl ?_); refine goesL_ (some 20) rfl rfl Try.func12 (by kernel_rfl) rfl #[.int .u64 a0] rfl (by (try simp only [List.map_toArray, List.map_cons, List.map_nil]); first | done | rfl | (simp only [List.length_drop, List.length_take]; rfl)) ?_; (with_reducible refine (amphoraref06_Deg.calls kj2 a0 t137 _ A8.out).mono ?_); rintro e w' ⟨rfl, ⟨nd, rfl⟩⟩; refine ⟨_, rfl, ?_⟩) | (go_at_call 21; (with_reducible refine (amphoraref06_Mod.calls kj2 0 a0 x5_1 t138 _ A10.out).mono ?_); rintro e w' ⟨rfl, ⟨nd, rfl⟩⟩))
                go_ret
                exact ⟨by first | rfl | (simp; done) | (simp [*]; done), by repeat (first | exact Drawn0.refl _ | apply Drawn0.step)⟩
              · rw [if_neg c11] at H
                have c11b0 : (t138 == 0) = false := beq_eq_false_iff_ne.mpr c11
                have c11b1 : (t138 != 0) = true := bne_iff_ne.mpr c11
                have H' := Aside0.mk H
                clear H
                go_wp2_with (first | ((with_reducible refine gate_callee (f := 12) rfl ?_); refine goesL_ (some 18) rfl rfl Try.func12 (by kernel_rfl) rfl #[.int .u64 x5_1] rfl (by (try simp only [List.map_toArray, List.map_cons, List.map_nil]); first | done | rfl | (simp only [List.length_drop, List.length_take]; rfl)) ?_; (with_reducible refine (amphoraref06_Deg.calls kj2 x5_1 t136 _ A7.out).mono ?_); rintro e w' ⟨rfl, ⟨nd, rfl⟩⟩; refine ⟨_, rfl, ?_⟩) | ((with_reducible refine gate_callee (f := 12) rfl ?_); refine goesL_ (some 20) rfl rfl Try.func12 (by kernel_rfl) rfl #[.int .u64 a0] rfl (by (try simp only [List.map_toArray, List.map_cons, List.map_nil]); first | done | rfl | (simp only [List.length_drop, List.length_take]; rfl)) ?_; (with_reducible refine (amphoraref06_Deg.calls kj2 a0 t137 _ A8.out).mono ?_); rintro e w' ⟨rfl, ⟨nd, rfl⟩⟩; refine ⟨_, rfl, ?_⟩) | (go_at_call 21; (with_reducible refine (amphoraref06_Mod.calls kj2 0 a0 x5_1 t138 _ A10.out).mono ?_); rintro e w' ⟨rfl, ⟨nd, rfl⟩⟩))
                go_roundg kj2
                case measure => have := HK1.out; have := HJ2.out; omega
                case rel => exact ⟨(IntKind.u64.wrap (x5_1 + 1)), (by first | rfl | (simp; done) | (simp [*]; done)), H', ⟨by have := HK1.out; have := HJ2.out; omega⟩, by repeat (first | exact Drawn0.refl _ | apply Drawn0.step)⟩
            · rw [if_neg c9] at H
              have c9b0 : decide (t136 < t137) = false := decide_eq_false c9
              clear c9
              have H' := Aside0.mk H
              clear H
              go_wp2_with (first | ((with_reducible refine gate_callee (f := 12) rfl ?_); refine goesL_ (some 18) rfl rfl Try.func12 (by kernel_rfl) rfl #[.int .u64 x5_1] rfl (by (try simp only [List.map_toArray, List.map_cons, List.map_nil]); first | done | rfl | (simp only [List.length_drop, List.length_take]; rfl)) ?_; (with_reducible refine (amphoraref06_Deg.calls kj2 x5_1 t136 _ A7.out).mono ?_); rintro e w' ⟨rfl, ⟨nd, rfl⟩⟩; refine ⟨_, rfl, ?_⟩) | ((with_reducible refine gate_callee (f := 12) rfl ?_); refine goesL_ (some 20) rfl rfl Try.func12 (by kernel_rfl) rfl #[.int .u64 a0] rfl (by (try simp only [List.map_toArray, List.map_cons, List.map_nil]); first | done | rfl | (simp only [List.length_drop, List.length_take]; rfl)) ?_; (with_reducible refine (amphoraref06_Deg.calls kj2 a0 t137 _ A8.out).mono ?_); rintro e w' ⟨rfl, ⟨nd, rfl⟩⟩; refine ⟨_, rfl, ?_⟩))
              go_roundg kj2
              case measure => have := HK1.out; have := HJ2.out; omega
              case rel => exact ⟨(IntKind.u64.wrap (x5_1 + 1)), (by first | rfl | (simp; done) | (simp [*]; done)), H', ⟨by have := HK1.out; have := HJ2.out; omega⟩, by repeat (first | exact Drawn0.refl _ | apply Drawn0.step)⟩
          · replace c6 := Bool.eq_false_iff.mpr c6
            subst c6
            have H1 : (some false) = some r := by rw [if_neg (show ¬ (false = true) by decide)] at H; exact H
            clear H
            have H := H1
            clear H1
            obtain rfl := Option.some.inj H
            go_wp2
            go_ret
            exact ⟨by first | rfl | (simp; done) | (simp [*]; done), by repeat (first | exact Drawn0.refl _ | apply Drawn0.step)⟩

/-! ### amphoralaw06_PolySmall: function 4 -/
def amphoralaw06_PolySmall.f (k : Nat) (a0 : Int) : Option (Bool) := (amphoralaw06_alive.f k).bind fun t139 => (if t139 = true then ((poly_Irreducible.f k (Int.tmod a0 8192)).bind fun t140 => ((amphoraref06_Deg.f k (Int.tmod a0 8192)).bind fun t141 => (if t141 ≥ 1 then ((amphoraref06_Deg.f k (Int.tmod a0 8192)).bind fun t142 => ((amphoraref06_Divides.f k (Int.tmod a0 8192) (wrap64 (Int.tdiv t142 2))).bind fun t143 => (some (t140 == (!t143))))) else (some (t140 == false))))) else (some false))
theorem amphoralaw06_PolySmall.mono : ∀ a0 k, LeO (amphoralaw06_PolySmall.f k a0) (amphoralaw06_PolySmall.f (k + 1) a0) := by
  intro a0 k
  unfold amphoralaw06_PolySmall.f
  repeat' first
      | (with_reducible exact amphoralaw06_alive.mono _)
      | (with_reducible exact amphoraref06_Deg.mono _ _)
      | (with_reducible exact amphoraref06_Divides.mono _ _ _)
      | (with_reducible exact poly_Irreducible.mono _ _)
      | (with_reducible exact LeO.refl _)
      | (with_reducible exact LeO.none _)
      | (with_reducible refine LeO.ite ?_ ?_)
      | (with_reducible refine LeO.bind ?_ (fun _ => ?_))
      | exact amphoralaw06_alive.mono _
      | exact amphoraref06_Deg.mono _ _
      | exact amphoraref06_Divides.mono _ _ _
      | exact poly_Irreducible.mono _ _
      | exact LeO.none _
      | refine LeO.ite ?_ ?_
      | refine LeO.bind ?_ (fun _ => ?_)
set_option maxHeartbeats 8000000 in
set_option maxRecDepth 100000 in
theorem amphoralaw06_PolySmall.calls (k : Nat) (a0 : Int) (r : Bool) (w : World) (h : amphoralaw06_PolySmall.f k a0 = some r) :
    Calls Try.prog 4 #[.int .u64 a0] w fun e w' => e = .returned (.bool r) ∧ Below w.heap.size w w' := by
  have HB := Aside0.mk (Below.refl w.heap.size w)
  have H : ((amphoralaw06_alive.f k).bind fun t139 => (if t139 = true then ((poly_Irreducible.f k (Int.tmod a0 8192)).bind fun t140 => ((amphoraref06_Deg.f k (Int.tmod a0 8192)).bind fun t141 => (if t141 ≥ 1 then ((amphoraref06_Deg.f k (Int.tmod a0 8192)).bind fun t142 => ((amphoraref06_Divides.f k (Int.tmod a0 8192) (wrap64 (Int.tdiv t142 2))).bind fun t143 => (some (t140 == (!t143))))) else (some (t140 == false))))) else (some false))) = some r := h
  clear h
  replace H := Option.bind_eq_some_iff.mp H
  obtain ⟨t139, A20, H⟩ := H
  replace H : (if t139 = true then ((poly_Irreducible.f k (Int.tmod a0 8192)).bind fun t140 => ((amphoraref06_Deg.f k (Int.tmod a0 8192)).bind fun t141 => (if t141 ≥ 1 then ((amphoraref06_Deg.f k (Int.tmod a0 8192)).bind fun t142 => ((amphoraref06_Divides.f k (Int.tmod a0 8192) (wrap64 (Int.tdiv t142 2))).bind fun t143 => (some (t140 == (!t143))))) else (some (t140 == false))))) else (some false)) = some r := H
  have A2 := Aside0.mk A20
  clear A20
  by_cases c3 : t139 = true
  · subst c3
    have H1 : ((poly_Irreducible.f k (Int.tmod a0 8192)).bind fun t140 => ((amphoraref06_Deg.f k (Int.tmod a0 8192)).bind fun t141 => (if t141 ≥ 1 then ((amphoraref06_Deg.f k (Int.tmod a0 8192)).bind fun t142 => ((amphoraref06_Divides.f k (Int.tmod a0 8192) (wrap64 (Int.tdiv t142 2))).bind fun t143 => (some (t140 == (!t143))))) else (some (t140 == false))))) = some r := by rw [if_pos rfl] at H; exact H
    clear H
    have H := H1
    clear H1
    replace H := Option.bind_eq_some_iff.mp H
    obtain ⟨t140, A40, H⟩ := H
    replace H : ((amphoraref06_Deg.f k (Int.tmod a0 8192)).bind fun t141 => (if t141 ≥ 1 then ((amphoraref06_Deg.f k (Int.tmod a0 8192)).bind fun t142 => ((amphoraref06_Divides.f k (Int.tmod a0 8192) (wrap64 (Int.tdiv t142 2))).bind fun t143 => (some (t140 == (!t143))))) else (some (t140 == false)))) = some r := H
    have A4 := Aside0.mk A40
    clear A40
    replace H := Option.bind_eq_some_iff.mp H
    obtain ⟨t141, A50, H⟩ := H
    replace H : (if t141 ≥ 1 then ((amphoraref06_Deg.f k (Int.tmod a0 8192)).bind fun t142 => ((amphoraref06_Divides.f k (Int.tmod a0 8192) (wrap64 (Int.tdiv t142 2))).bind fun t143 => (some (t140 == (!t143))))) else (some (t140 == false))) = some r := H
    have A5 := Aside0.mk A50
    clear A50
    by_cases c6 : t141 ≥ 1
    · rw [if_pos c6] at H
      have c6b0 : decide (1 ≤ t141) = true := decide_eq_true c6
      clear c6
      replace H := Option.bind_eq_some_iff.mp H
      obtain ⟨t142, A70, H⟩ := H
      replace H : ((amphoraref06_Divides.f k (Int.tmod a0 8192) (wrap64 (Int.tdiv t142 2))).bind fun t143 => (some (t140 == (!t143)))) = some r := H
      have A7 := Aside0.mk A70
      clear A70
      replace H := Option.bind_eq_some_iff.mp H
      obtain ⟨t143, A80, H⟩ := H
      replace H : (some (t140 == (!t143))) = some r := H
      have A8 := Aside0.mk A80
      clear A80
      obtain rfl := Option.some.inj H
      go_enter Try.func4, Try.ntmps4
      go_wp2_with (first | ((with_reducible refine gate_callee (f := 9) rfl ?_); refine goesL_ (some 3) rfl rfl Try.func9 (by kernel_rfl) rfl #[] rfl (by (try simp only [List.map_toArray, List.map_cons, List.map_nil]); first | done | rfl | (simp only [List.length_drop, List.length_take]; rfl)) ?_; (with_reducible refine (amphoralaw06_alive.calls k  true _ A2.out).mono ?_); rintro e w9 ⟨rfl, hb⟩; refine ⟨_, rfl, ?_⟩; have n0_ := Aside0.mk (below_step (by repeat (first | (with_reducible first | exact HB.out | apply below_alloc | apply pw_below_drewN | apply below_drew1) | exact HB.out)) hb); clear HB; have HB := n0_; clear n0_; (try clear hb); (try clear hb2); (try clear hk); (try clear hi)) | ((with_reducible refine gate_callee (f := 10) rfl ?_); refine goesL_ (some 8) rfl rfl Try.func10 (by kernel_rfl) rfl #[.int .u64 (Int.tmod a0 8192)] rfl (by (try simp only [List.map_toArray, List.map_cons, List.map_nil]); first | done | rfl | (simp only [List.length_drop, List.length_take]; rfl)) ?_; (with_reducible refine (poly_Irreducible.calls k (Int.tmod a0 8192) t140 _ A4.out).mono ?_); rintro e w10 ⟨rfl, hb⟩; refine ⟨_, rfl, ?_⟩; have n0_ := Aside0.mk (below_step (by repeat (first | (with_reducible first | exact HB.out | apply below_alloc | apply pw_below_drewN | apply below_drew1) | exact HB.out)) hb); clear HB; have HB := n0_; clear n0_; (try clear hb); (try clear hb2); (try clear hk); (try clear hi)) | ((with_reducible refine gate_callee (f := 12) rfl ?_); refine goesL_ (some 10) rfl rfl Try.func12 (by kernel_rfl) rfl #[.int .u64 (Int.tmod a0 8192)] rfl (by (try simp only [List.map_toArray, List.map_cons, List.map_nil]); first | done | rfl | (simp only [List.length_drop, List.length_take]; rfl)) ?_; (with_reducible refine (amphoraref06_Deg.calls k (Int.tmod a0 8192) t141 _ A5.out).mono ?_); rintro e w' ⟨rfl, ⟨nd, rfl⟩⟩; refine ⟨_, rfl, ?_⟩) | (go_at_call 12; (with_reducible refine (amphoraref06_Deg.calls k (Int.tmod a0 8192) t142 _ A7.out).mono ?_); rintro e w' ⟨rfl, ⟨nd, rfl⟩⟩) | (go_at_call 13; (with_reducible refine (amphoraref06_Divides.calls k (Int.tmod a0 8192) (wrap64 (Int.tdiv t142 2)) t143 _ A8.out).mono ?_); rintro e w' ⟨rfl, ⟨nd, rfl⟩⟩))
      go_ret
      exact ⟨by first | rfl | (simp [errW_none, errW_some] <;> rfl) | (simp [*, errW_none, errW_some] <;> rfl), by repeat (first | (with_reducible first | exact HB.out | apply below_alloc | apply pw_below_drewN | apply below_drew1) | exact HB.out)⟩
    · rw [if_neg c6] at H
      have c6b0 : decide (1 ≤ t141) = false := decide_eq_false c6
      clear c6
      obtain rfl := Option.some.inj H
      go_enter Try.func4, Try.ntmps4
      go_wp2_with (first | ((with_reducible refine gate_callee (f := 9) rfl ?_); refine goesL_ (some 3) rfl rfl Try.func9 (by kernel_rfl) rfl #[] rfl (by (try simp only [List.map_toArray, List.map_cons, List.map_nil]); first | done | rfl | (simp only [List.length_drop, List.length_take]; rfl)) ?_; (with_reducible refine (amphoralaw06_alive.calls k  true _ A2.out).mono ?_); rintro e w11 ⟨rfl, hb⟩; refine ⟨_, rfl, ?_⟩; have n0_ := Aside0.mk (below_step (by repeat (first | (with_reducible first | exact HB.out | apply below_alloc | apply pw_below_drewN | apply below_drew1) | exact HB.out)) hb); clear HB; have HB := n0_; clear n0_; (try clear hb); (try clear hb2); (try clear hk); (try clear hi)) | ((with_reducible refine gate_callee (f := 10) rfl ?_); refine goesL_ (some 8) rfl rfl Try.func10 (by kernel_rfl) rfl #[.int .u64 (Int.tmod a0 8192)] rfl (by (try simp only [List.map_toArray, List.map_cons, List.map_nil]); first | done | rfl | (simp only [List.length_drop, List.length_take]; rfl)) ?_; (with_reducible refine (poly_Irreducible.calls k (Int.tmod a0 8192) t140 _ A4.out).mono ?_); rintro e w12 ⟨rfl, hb⟩; refine ⟨_, rfl, ?_⟩; have n0_ := Aside0.mk (below_step (by repeat (first | (with_reducible first | exact HB.out | apply below_alloc | apply pw_below_drewN | apply below_drew1) | exact HB.out)) hb); clear HB; have HB := n0_; clear n0_; (try clear hb); (try clear hb2); (try clear hk); (try clear hi)) | ((with_reducible refine gate_callee (f := 12) rfl ?_); refine goesL_ (some 10) rfl rfl Try.func12 (by kernel_rfl) rfl #[.int .u64 (Int.tmod a0 8192)] rfl (by (try simp only [List.map_toArray, List.map_cons, List.map_nil]); first | done | rfl | (simp only [List.length_drop, List.length_take]; rfl)) ?_; (with_reducible refine (amphoraref06_Deg.calls k (Int.tmod a0 8192) t141 _ A5.out).mono ?_); rintro e w' ⟨rfl, ⟨nd, rfl⟩⟩; refine ⟨_, rfl, ?_⟩))
      go_ret
      exact ⟨by first | rfl | (simp [errW_none, errW_some] <;> rfl) | (simp [*, errW_none, errW_some] <;> rfl), by repeat (first | (with_reducible first | exact HB.out | apply below_alloc | apply pw_below_drewN | apply below_drew1) | exact HB.out)⟩
  · replace c3 := Bool.eq_false_iff.mpr c3
    subst c3
    have H1 : (some false) = some r := by rw [if_neg (show ¬ (false = true) by decide)] at H; exact H
    clear H
    have H := H1
    clear H1
    obtain rfl := Option.some.inj H
    go_enter Try.func4, Try.ntmps4
    go_wp2_with (first | ((with_reducible refine gate_callee (f := 9) rfl ?_); refine goesL_ (some 3) rfl rfl Try.func9 (by kernel_rfl) rfl #[] rfl (by (try simp only [List.map_toArray, List.map_cons, List.map_nil]); first | done | rfl | (simp only [List.length_drop, List.length_take]; rfl)) ?_; (with_reducible refine (amphoralaw06_alive.calls k  false _ A2.out).mono ?_); rintro e w13 ⟨rfl, hb⟩; refine ⟨_, rfl, ?_⟩; have n0_ := Aside0.mk (below_step (by repeat (first | (with_reducible first | exact HB.out | apply below_alloc | apply pw_below_drewN | apply below_drew1) | exact HB.out)) hb); clear HB; have HB := n0_; clear n0_; (try clear hb); (try clear hb2); (try clear hk); (try clear hi)))
    go_ret
    exact ⟨by first | rfl | (simp [errW_none, errW_some] <;> rfl) | (simp [*, errW_none, errW_some] <;> rfl), by repeat (first | (with_reducible first | exact HB.out | apply below_alloc | apply pw_below_drewN | apply below_drew1) | exact HB.out)⟩

/-- THE ONE PURE STATEMENT of amphoralaw06_PolySmall: yours. -/
def amphoralaw06_PolySmall.Pure : Prop := ∀ (a0 : Int), (Lit.int .u64 a0).wf = true → ∃ k, amphoralaw06_PolySmall.f k a0 = some true
theorem amphoralaw06_PolySmall.walk (P : amphoralaw06_PolySmall.Pure) (a0 : Int) (w : World) (w0 : (Lit.int .u64 a0).wf = true) :
    Calls Try.prog 4 #[.int .u64 a0] w fun e w' => e = .returned (.bool true) ∧ Below w.heap.size w w' := by
  obtain ⟨k, h⟩ := P a0 w0
  refine (amphoralaw06_PolySmall.calls k a0 true w h).mono ?_
  rintro e w' ⟨rfl, hd⟩
  exact ⟨rfl, hd⟩

/-! ### poly_Mod: function 17 -/
def poly_Mod.f (k : Nat) (a0 : Int) (a1 : Int) (a2 : Int) : Option (Int × Option Int) := if a2 = 0 then (some (0, some 27)) else ((poly_mod.f k a0 a1 a2).bind fun t144 => (some (t144, none)))
theorem poly_Mod.mono : ∀ a0 a1 a2 k, LeO (poly_Mod.f k a0 a1 a2) (poly_Mod.f (k + 1) a0 a1 a2) := by
  intro a0 a1 a2 k
  unfold poly_Mod.f
  repeat' first
      | (with_reducible exact poly_mod.mono _ _ _ _)
      | (with_reducible exact LeO.refl _)
      | (with_reducible exact LeO.none _)
      | (with_reducible refine LeO.ite ?_ ?_)
      | (with_reducible refine LeO.bind ?_ (fun _ => ?_))
      | exact poly_mod.mono _ _ _ _
      | exact LeO.none _
      | refine LeO.ite ?_ ?_
      | refine LeO.bind ?_ (fun _ => ?_)
set_option maxHeartbeats 8000000 in
set_option maxRecDepth 100000 in
theorem poly_Mod.calls (k : Nat) (a0 : Int) (a1 : Int) (a2 : Int) (r1 : Int) (r2 : Option Int) (w : World) (h : poly_Mod.f k a0 a1 a2 = some (r1, r2)) :
    Calls Try.prog 17 #[.int .u64 a0, .int .u64 a1, .int .u64 a2] w fun e w' => e = .returned (.tuple #[.int .u64 r1, errW r2]) ∧ Drawn0 w w' := by
  have hu35 := Try.underlying35
  have hu39 := Try.underlying39
  have H : (if a2 = 0 then (some (0, some 27)) else ((poly_mod.f k a0 a1 a2).bind fun t144 => (some (t144, none)))) = some (r1, r2) := h
  clear h
  by_cases c4 : a2 = 0
  · rw [if_pos c4] at H
    have c4b0 : (a2 == 0) = true := beq_iff_eq.mpr c4
    have c4b1 : (a2 != 0) = false := bne_eq_false_iff_eq.mpr c4
    clear c4
    simp only [Option.some.injEq, Prod.mk.injEq] at H
    obtain ⟨rfl, rfl⟩ := H
    go_enter Try.func17, Try.ntmps17
    go_wp2
    go_ret2
    exact ⟨by first | rfl | (simp; done) | (simp [*]; done), by repeat (first | exact Drawn0.refl _ | apply Drawn0.step)⟩
  · rw [if_neg c4] at H
    have c4b0 : (a2 == 0) = false := beq_eq_false_iff_ne.mpr c4
    have c4b1 : (a2 != 0) = true := bne_iff_ne.mpr c4
    replace H := Option.bind_eq_some_iff.mp H
    obtain ⟨t144, A50, H⟩ := H
    replace H : (some (t144, none)) = some (r1, r2) := H
    have A5 := Aside0.mk A50
    clear A50
    simp only [Option.some.injEq, Prod.mk.injEq] at H
    obtain ⟨rfl, rfl⟩ := H
    go_enter Try.func17, Try.ntmps17
    go_wp2_with (first | ((with_reducible refine gate_callee (f := 29) rfl ?_); refine goesL_ (some 14) rfl rfl Try.func29 (by kernel_rfl) rfl #[.int .u64 a0, .int .u64 a1, .int .u64 a2] rfl (by (try simp only [List.map_toArray, List.map_cons, List.map_nil]); first | done | rfl | (simp only [List.length_drop, List.length_take]; rfl)) ?_; (with_reducible refine (poly_mod.calls k a0 a1 a2 t144 _ A5.out).mono ?_); rintro e w' ⟨rfl, ⟨nd, rfl⟩⟩; refine ⟨_, rfl, ?_⟩))
    go_ret2
    exact ⟨by first | rfl | (simp; done) | (simp [*]; done), by repeat (first | exact Drawn0.refl _ | apply Drawn0.step)⟩

end Go.Proofs.Ytabgknnnhhgliaa.PPoly
