/- Printed for this claim by a copy of the kit's print.py that takes functions walked by our own texts. Conditions: none. -/
import Derived.Test.YtkdklgcjimnabaaPUstarx0
import Derived.Test.YtkdklgcjimnabaaPUstarx4
import Derived.Test.YtkdklgcjimnabaaPUstarx6
import Derived.Test.YtkdklgcjimnabaaPUstarx9
namespace Go.Proofs.Ytkdklgcjimnabaa.PUstar
open Go.RowKit Go.Proofs.YtkdklgcjimnabaaW.PrintWords Go.Proofs.YtkdklgcjimnabaaW.PrintLast Go.Proofs.YtkdklgcjimnabaaW.PrintMore
attribute [local go_sem] max2_int min2_int max_two min_two max_three min_three max_four min_four   -- for this text's walks alone
set_option linter.unusedVariables false
set_option linter.unusedSimpArgs false

/-! ### amphoralaw10_UstarSplits: function 7 -/
mutual
def amphoralaw10_UstarSplits.l0 : Nat → ByteArray → List Int → ByteArray → ByteArray → List Int → Int → Int → Option (Bool)
  | 0, _, _, _, _, _, _, _ => none
  | k + 1, x0, x3, x5, x6, x25, x26, x27 => if x27 < x26 then (if 0 ≤ x27 then (if x27 < (x25.length : Int) then (if (rd x25 x27) = 0 then (amphoralaw10_UstarSplits.l0 k x0 x3 x5 x6 x25 x26 (wrap64 (x27 + 1))) else ((some (([rd x25 x27] : List Int) : List Int)).bind fun y368 => (if x5.size + (strOfNums y368).size ≤ 9223372036854775807 then (amphoralaw10_UstarSplits.l0 k x0 x3 (x5 ++ (strOfNums y368)) x6 x25 x26 (wrap64 (x27 + 1))) else (none)))) else (none)) else (none)) else (if 345 ≤ 500 then (if 500 ≤ (x3.length : Int) then ((some ((x3.take 500).drop 345 : List Int)).bind fun y371 => (amphoralaw10_UstarSplits.l1 k x0 x5 x6 y371 (y371.length : Int) 0)) else (none)) else (none))
def amphoralaw10_UstarSplits.l1 : Nat → ByteArray → ByteArray → ByteArray → List Int → Int → Int → Option (Bool)
  | 0, _, _, _, _, _, _ => none
  | k + 1, x0, x5, x6, x40, x41, x42 => if x42 < x41 then (if 0 ≤ x42 then (if x42 < (x40.length : Int) then (if (rd x40 x42) = 0 then (amphoralaw10_UstarSplits.l1 k x0 x5 x6 x40 x41 (wrap64 (x42 + 1))) else ((some (([rd x40 x42] : List Int) : List Int)).bind fun y376 => (if x6.size + (strOfNums y376).size ≤ 9223372036854775807 then (amphoralaw10_UstarSplits.l1 k x0 x5 (x6 ++ (strOfNums y376)) x40 x41 (wrap64 (x42 + 1))) else (none)))) else (none)) else (none)) else (if x6.toList = ([] : List UInt8) then (if x5.toList = x0.toList then (some (decide ((x0.size : Int) ≤ 100))) else (some false)) else (if x6.size + 1 ≤ 9223372036854775807 then (if (x6 ++ (⟨#[47]⟩ : ByteArray)).size + x5.size ≤ 9223372036854775807 then (if ((x6 ++ (⟨#[47]⟩ : ByteArray)) ++ x5).toList = x0.toList then (if (x0.size : Int) > 100 then (if x5.toList = ([] : List UInt8) then (some false) else ((ustar_FitsPath.f k x0).bind fun t379 => (some t379))) else (some false)) else (some false)) else (none)) else (none)))
end
def amphoralaw10_UstarSplits.f (k : Nat) (a0 : ByteArray) : Option (Bool) := (amphoralaw10_alive.f k).bind fun t357 => (if t357 = true then ((ustar_Encode.f k a0 0 0 0 0 0 53 (⟨#[]⟩ : ByteArray)).bind fun bt358 => (if bt358.2.isNone = true then (if 100 ≤ (bt358.1.length : Int) then ((some (bt358.1.take 100 : List Int)).bind fun y363 => (amphoralaw10_UstarSplits.l0 k a0 bt358.1 (⟨#[]⟩ : ByteArray) (⟨#[]⟩ : ByteArray) y363 (y363.length : Int) 0)) else (none)) else ((ustar_FitsPath.f k a0).bind fun t380 => (some (!t380))))) else (some false))
theorem amphoralaw10_UstarSplits.mono_l : ∀ k, (∀ y0 y1 y2 y3 y4 y5 y6, LeO (amphoralaw10_UstarSplits.l0 k y0 y1 y2 y3 y4 y5 y6) (amphoralaw10_UstarSplits.l0 (k + 1) y0 y1 y2 y3 y4 y5 y6)) ∧ (∀ y0 y1 y2 y3 y4 y5, LeO (amphoralaw10_UstarSplits.l1 k y0 y1 y2 y3 y4 y5) (amphoralaw10_UstarSplits.l1 (k + 1) y0 y1 y2 y3 y4 y5))
  | 0 => ⟨fun _ _ _ _ _ _ _ r h => by simp [amphoralaw10_UstarSplits.l0] at h, fun _ _ _ _ _ _ r h => by simp [amphoralaw10_UstarSplits.l1] at h⟩
  | k + 1 => by
    obtain ⟨ih0, ih1⟩ := amphoralaw10_UstarSplits.mono_l k
    refine ⟨?_, ?_⟩
    · intro y0 y1 y2 y3 y4 y5 y6
      unfold amphoralaw10_UstarSplits.l0
      repeat' first
      | (with_reducible exact ih0 _ _ _ _ _ _ _)
      | (with_reducible exact ih1 _ _ _ _ _ _)
      | (with_reducible exact amphoralaw10_alive.mono _)
      | (with_reducible exact ustar_Encode.mono _ _ _ _ _ _ _ _ _)
      | (with_reducible exact ustar_FitsPath.mono _ _)
      | (with_reducible exact LeO.refl _)
      | (with_reducible exact LeO.none _)
      | (with_reducible refine LeO.ite ?_ ?_)
      | (with_reducible refine LeO.bind ?_ (fun _ => ?_))
      | exact ih0 _ _ _ _ _ _ _
      | exact ih1 _ _ _ _ _ _
      | exact amphoralaw10_alive.mono _
      | exact ustar_Encode.mono _ _ _ _ _ _ _ _ _
      | exact ustar_FitsPath.mono _ _
      | exact LeO.none _
      | refine LeO.ite ?_ ?_
      | refine LeO.bind ?_ (fun _ => ?_)
    · intro y0 y1 y2 y3 y4 y5
      unfold amphoralaw10_UstarSplits.l1
      repeat' first
      | (with_reducible exact ih0 _ _ _ _ _ _ _)
      | (with_reducible exact ih1 _ _ _ _ _ _)
      | (with_reducible exact amphoralaw10_alive.mono _)
      | (with_reducible exact ustar_Encode.mono _ _ _ _ _ _ _ _ _)
      | (with_reducible exact ustar_FitsPath.mono _ _)
      | (with_reducible exact LeO.refl _)
      | (with_reducible exact LeO.none _)
      | (with_reducible refine LeO.ite ?_ ?_)
      | (with_reducible refine LeO.bind ?_ (fun _ => ?_))
      | exact ih0 _ _ _ _ _ _ _
      | exact ih1 _ _ _ _ _ _
      | exact amphoralaw10_alive.mono _
      | exact ustar_Encode.mono _ _ _ _ _ _ _ _ _
      | exact ustar_FitsPath.mono _ _
      | exact LeO.none _
      | refine LeO.ite ?_ ?_
      | refine LeO.bind ?_ (fun _ => ?_)
theorem amphoralaw10_UstarSplits.mono : ∀ a0 k, LeO (amphoralaw10_UstarSplits.f k a0) (amphoralaw10_UstarSplits.f (k + 1) a0) := by
  intro a0 k
  obtain ⟨ih0, ih1⟩ := amphoralaw10_UstarSplits.mono_l k
  unfold amphoralaw10_UstarSplits.f
  repeat' first
      | (with_reducible exact ih0 _ _ _ _ _ _ _)
      | (with_reducible exact ih1 _ _ _ _ _ _)
      | (with_reducible exact amphoralaw10_alive.mono _)
      | (with_reducible exact ustar_Encode.mono _ _ _ _ _ _ _ _ _)
      | (with_reducible exact ustar_FitsPath.mono _ _)
      | (with_reducible exact LeO.refl _)
      | (with_reducible exact LeO.none _)
      | (with_reducible refine LeO.ite ?_ ?_)
      | (with_reducible refine LeO.bind ?_ (fun _ => ?_))
      | exact ih0 _ _ _ _ _ _ _
      | exact ih1 _ _ _ _ _ _
      | exact amphoralaw10_alive.mono _
      | exact ustar_Encode.mono _ _ _ _ _ _ _ _ _
      | exact ustar_FitsPath.mono _ _
      | exact LeO.none _
      | refine LeO.ite ?_ ?_
      | refine LeO.bind ?_ (fun _ => ?_)
set_option maxHeartbeats 8000000 in
set_option maxRecDepth 100000 in
theorem amphoralaw10_UstarSplits.calls (k : Nat) (a0 : ByteArray) (r : Bool) (w : World) (h : amphoralaw10_UstarSplits.f k a0 = some r) :
    Calls Try.prog 7 #[.string a0] w fun e w' => e = .returned (.bool r) ∧ Below w.heap.size w w' := by
  have hu26 := Try.underlying26
  have hu28 := Try.underlying28
  have hu40 := Try.underlying40
  have HB := Aside0.mk (Below.refl w.heap.size w)
  have H : ((amphoralaw10_alive.f k).bind fun t357 => (if t357 = true then ((ustar_Encode.f k a0 0 0 0 0 0 53 (⟨#[]⟩ : ByteArray)).bind fun bt358 => (if bt358.2.isNone = true then (if 100 ≤ (bt358.1.length : Int) then ((some (bt358.1.take 100 : List Int)).bind fun y363 => (amphoralaw10_UstarSplits.l0 k a0 bt358.1 (⟨#[]⟩ : ByteArray) (⟨#[]⟩ : ByteArray) y363 (y363.length : Int) 0)) else (none)) else ((ustar_FitsPath.f k a0).bind fun t380 => (some (!t380))))) else (some false))) = some r := h
  clear h
  replace H := Option.bind_eq_some_iff.mp H
  obtain ⟨t357, A20, H⟩ := H
  replace H : (if t357 = true then ((ustar_Encode.f k a0 0 0 0 0 0 53 (⟨#[]⟩ : ByteArray)).bind fun bt358 => (if bt358.2.isNone = true then (if 100 ≤ (bt358.1.length : Int) then ((some (bt358.1.take 100 : List Int)).bind fun y363 => (amphoralaw10_UstarSplits.l0 k a0 bt358.1 (⟨#[]⟩ : ByteArray) (⟨#[]⟩ : ByteArray) y363 (y363.length : Int) 0)) else (none)) else ((ustar_FitsPath.f k a0).bind fun t380 => (some (!t380))))) else (some false)) = some r := H
  have A2 := Aside0.mk A20
  clear A20
  by_cases c3 : t357 = true
  · subst c3
    have H1 : ((ustar_Encode.f k a0 0 0 0 0 0 53 (⟨#[]⟩ : ByteArray)).bind fun bt358 => (if bt358.2.isNone = true then (if 100 ≤ (bt358.1.length : Int) then ((some (bt358.1.take 100 : List Int)).bind fun y363 => (amphoralaw10_UstarSplits.l0 k a0 bt358.1 (⟨#[]⟩ : ByteArray) (⟨#[]⟩ : ByteArray) y363 (y363.length : Int) 0)) else (none)) else ((ustar_FitsPath.f k a0).bind fun t380 => (some (!t380))))) = some r := by rw [if_pos rfl] at H; exact H
    clear H
    have H := H1
    clear H1
    replace H := Option.bind_eq_some_iff.mp H
    obtain ⟨⟨t358, t361⟩, A40, H⟩ := H
    replace H : (if t361.isNone = true then (if 100 ≤ (t358.length : Int) then ((some (t358.take 100 : List Int)).bind fun y363 => (amphoralaw10_UstarSplits.l0 k a0 t358 (⟨#[]⟩ : ByteArray) (⟨#[]⟩ : ByteArray) y363 (y363.length : Int) 0)) else (none)) else ((ustar_FitsPath.f k a0).bind fun t380 => (some (!t380)))) = some r := H
    have A4 := Aside0.mk A40
    clear A40
    rcases t361 with _ | q362
    · have H1 : (if 100 ≤ (t358.length : Int) then ((some (t358.take 100 : List Int)).bind fun y363 => (amphoralaw10_UstarSplits.l0 k a0 t358 (⟨#[]⟩ : ByteArray) (⟨#[]⟩ : ByteArray) y363 (y363.length : Int) 0)) else (none)) = some r := by rw [if_pos (show (none : Option Int).isNone = true by rfl)] at H; exact H
      clear H
      have H := H1
      clear H1
      try simp only [errW_none, errW_some]
      by_cases c5 : 100 ≤ (t358.length : Int)
      · rw [if_pos c5] at H
        have c5b0 := eq_true c5
        have c5b1 : decide (100 ≤ (t358.length : Int)) = true := decide_eq_true c5
        clear c5
        obtain ⟨y363, hy363⟩ : ∃ y_ : List Int, y_ = (t358.take 100) := ⟨_, rfl⟩
        replace H : (amphoralaw10_UstarSplits.l0 k a0 t358 (⟨#[]⟩ : ByteArray) (⟨#[]⟩ : ByteArray) y363 (y363.length : Int) 0) = some r := by first | (rw [hy363]; with_reducible exact H) | (have H2_ := (Option.bind_some _ _).symm.trans H; rw [hy363]; with_reducible exact H2_) | (have H2_ := (Option.bind_some _ _).symm.trans H; with_reducible exact H2_) | with_reducible exact H | (rw [hy363]; exact H) | exact H
        have Ny363 := Aside0.mk hy363
        clear hy363
        have H' := Aside0.mk H
        clear H
        go_enter Try.func7, Try.ntmps7
        go_wp2_with (first | ((with_reducible refine gate_callee (f := 8) rfl ?_); refine goesL_ (some 11) rfl rfl Try.func8 (by kernel_rfl) rfl #[] rfl (by (try simp only [List.map_toArray, List.map_cons, List.map_nil]); first | done | rfl | (simp only [List.length_drop, List.length_take]; rfl)) ?_; (with_reducible refine (amphoralaw10_alive.calls k  true _ A2.out).mono ?_); rintro e w6 ⟨rfl, hb⟩; refine ⟨_, rfl, ?_⟩; have n0_ := Aside0.mk (below_step (by repeat (first | (with_reducible first | exact HB.out | apply below_alloc | apply pw_below_drewN | apply below_drew1) | exact HB.out)) hb); clear HB; have HB := n0_; clear n0_; (try clear hb); (try clear hb2); (try clear hk); (try clear hi)) | ((with_reducible refine gate_callee (f := 14) rfl ?_); refine goesL_ (some 16) rfl rfl Try.func14 (by kernel_rfl) rfl #[.agg #[.string a0, .int .i64 0, .int .i64 0, .int .i64 0, .int .i64 0, .int .i64 0, .int .u8 53, .string (⟨#[]⟩ : ByteArray)]] rfl (by (try simp only [List.map_toArray, List.map_cons, List.map_nil]); first | done | rfl | (simp only [List.length_drop, List.length_take]; rfl)) ?_; (with_reducible refine (ustar_Encode.calls k a0 0 0 0 0 0 53 (⟨#[]⟩ : ByteArray) t358 none _ A4.out).mono ?_); rintro e w7 ⟨v359, rfl, ho0, hb⟩; refine ⟨_, rfl, ?_⟩; have n0_ := Aside0.mk (Kd.R_lower ho0 (below_size (by repeat (first | (with_reducible first | exact HB.out | apply below_alloc | apply pw_below_drewN | apply below_drew1) | exact HB.out)))); have n1_ := Aside0.mk (below_step (by repeat (first | (with_reducible first | exact HB.out | apply below_alloc | apply pw_below_drewN | apply below_drew1) | exact HB.out)) hb); clear HB; have HO360 := n0_; have HB := n1_; clear n0_ n1_; (try clear hb); (try clear hb2); (try clear hk); (try clear hi); (try clear ho0); (try simp only [errW_none, errW_some]); obtain ⟨Ao9, co9, eo9⟩ := Kd.R_slice HO360.out; subst eo9; have q8 : (100 : Int) ≤ ((t358.length : Int) : Int) := of_decide_eq_true (by first | (with_reducible assumption) | assumption); obtain ⟨i08, hi08, _, hsz8, _⟩ := info_parts info5; have hroom8 : t358.length ≤ co9 := (Kd.R_reads' HO360.out).2.1; have hC8 : Kd.C (Kd.int .u8) _ Ao9 t358.length t358 := (Kd.R_reads' HO360.out).2.2; have hcut8 := cut_to (P := Try.prog) 22 5 .i64 Try.underlying22 hi08 Ao9 t358.length co9 100 (by omega) q8 hroom8; have hr8 := Kd.C_take (m := 100) hC8 (by omega); have hy8 : y363.length = (100 : Int).toNat := (by rw [Ny363.out, List.length_take]; omega); rw [← Ny363.out] at hr8; rw [← hy8] at hcut8; have HR366 := Aside0.mk hr8; have HC366 := Aside0.mk (show y363.length ≤ co9 from by omega); clear hr8 hC8 hroom8 hi08 hsz8; have KY8 := Aside0.mk hy8; clear hy8; have KL8 := Aside0.mk (show 100 ≤ t358.length from by omega); replace q8 := eq_true q8))
        go_loopg [5, 27] k (fun kq v5 v27 w' => ∃ (x5_1 : ByteArray) (x27_1 : Int), v5 = .string x5_1 ∧ v27 = .int .i64 x27_1 ∧ Aside0 (amphoralaw10_UstarSplits.l0 kq a0 t358 x5_1 (⟨#[]⟩ : ByteArray) y363 (y363.length : Int) x27_1 = some r) ∧ Aside0 (kq ≤ k) ∧ Aside0 (Kd.R (Kd.int .u8) 5 w' w.heap.size (fun _ => True) (.slice Ao9 t358.length co9) t358) ∧ Aside0 (Kd.C (Kd.int .u8) w' Ao9 y363.length y363) ∧ Aside0 (Below w.heap.size w w'))
        case atStart => exact ⟨((⟨#[]⟩ : ByteArray)), (0), (by first | rfl | (simp; done) | (simp [*]; done)), (by first | rfl | (simp; done) | (simp [*]; done)), H', ⟨Nat.le_refl _⟩, ⟨by (with_reducible repeat (first | apply Kd.R_alloc | apply Kd.R_drewN | apply Kd.R_drew)); exact HO360.out⟩, ⟨by repeat (first | (with_reducible exact HR366.out) | (with_reducible refine Kd.C_alloc ?_ _) | (with_reducible refine Kd.C_drewN ?_ _) | (with_reducible refine Kd.C_drew ?_) | exact HR366.out)⟩, ⟨by repeat (first | (with_reducible first | exact HB.out | apply below_alloc | apply pw_below_drewN | apply below_drew1) | exact HB.out)⟩⟩
        case round =>
          clear H'
          try clear c1
          try clear p2
          try clear c3
          try clear q3
          try clear c5
          try clear c5b0
          try clear c5b1
          try clear c7
          try clear c8
          try clear q8
          try clear q362
          try clear q8
          obtain ⟨x5_1, x27_1, rfl, rfl, HA, HK1, HO_3, HR366, HB⟩ := hrel
          cases gk with
          | zero => exact absurd HA.out (by simp [amphoralaw10_UstarSplits.l0])
          | succ k1 =>
            have H := HA.out
            clear HA
            simp only [amphoralaw10_UstarSplits.l0] at H
            by_cases c10 : x27_1 < (y363.length : Int)
            · rw [if_pos c10] at H
              have c10b0 : decide (x27_1 < (y363.length : Int)) = true := decide_eq_true c10
              clear c10
              by_cases c11 : 0 ≤ x27_1
              · rw [if_pos c11] at H
                have c11b0 : decide (0 ≤ x27_1) = true := decide_eq_true c11
                clear c11
                by_cases c12 : x27_1 < (y363.length : Int)
                · rw [if_pos c12] at H
                  have c12b0 : decide (x27_1 < (y363.length : Int)) = true := decide_eq_true c12
                  clear c12
                  by_cases c13 : (rd y363 x27_1) = 0
                  · rw [if_pos c13] at H
                    have c13b0 : ((rd y363 x27_1) == 0) = true := beq_iff_eq.mpr c13
                    have c13b1 : ((rd y363 x27_1) != 0) = false := bne_eq_false_iff_eq.mpr c13
                    clear c13
                    have H' := Aside0.mk H
                    clear H
                    have p367 : 0 ≤ (x27_1 : Int) := of_decide_eq_true (by first | (with_reducible assumption) | assumption)
                    have q367 : x27_1 < (y363.length : Int) := of_decide_eq_true (by first | (with_reducible assumption) | assumption)
                    obtain ⟨ad367, e367, hx367_0⟩ := Kd.at_int HR366.out x27_1 p367 q367
                    cases e367
                    (try replace hx367_0 := (HB.out.cell (World.block_lt_of_cell? w _ hx367_0)).trans hx367_0)
                    replace p367 := eq_true p367
                    replace q367 := eq_true q367
                    go_wp2
                    go_roundg k1
                    case measure => have := HK1.out; omega
                    case rel => exact ⟨(x5_1), (wrap64 (x27_1 + 1)), (by first | rfl | (simp; done) | (simp [*]; done)), (by first | rfl | (simp; done) | (simp [*]; done)), H', ⟨by have := HK1.out; omega⟩, ⟨by (with_reducible repeat (first | apply Kd.R_alloc | apply Kd.R_drewN | apply Kd.R_drew)); exact HO_3.out⟩, ⟨by repeat (first | (with_reducible exact HR366.out) | (with_reducible refine Kd.C_alloc ?_ _) | (with_reducible refine Kd.C_drewN ?_ _) | (with_reducible refine Kd.C_drew ?_) | exact HR366.out)⟩, ⟨by repeat (first | (with_reducible first | exact HB.out | apply below_alloc | apply pw_below_drewN | apply below_drew1) | exact HB.out)⟩⟩
                  · rw [if_neg c13] at H
                    have c13b0 : ((rd y363 x27_1) == 0) = false := beq_eq_false_iff_ne.mpr c13
                    have c13b1 : ((rd y363 x27_1) != 0) = true := bne_iff_ne.mpr c13
                    obtain ⟨y368, hy368⟩ : ∃ y_ : List Int, y_ = (([rd y363 x27_1] : List Int)) := ⟨_, rfl⟩
                    replace H : (if x5_1.size + (strOfNums y368).size ≤ 9223372036854775807 then (amphoralaw10_UstarSplits.l0 k1 a0 t358 (x5_1 ++ (strOfNums y368)) (⟨#[]⟩ : ByteArray) y363 (y363.length : Int) (wrap64 (x27_1 + 1))) else (none)) = some r := by first | (rw [hy368]; with_reducible exact H) | (have H2_ := (Option.bind_some _ _).symm.trans H; rw [hy368]; with_reducible exact H2_) | (have H2_ := (Option.bind_some _ _).symm.trans H; with_reducible exact H2_) | with_reducible exact H | (rw [hy368]; exact H) | exact H
                    have Ny368 := Aside0.mk hy368
                    clear hy368
                    by_cases c14 : x5_1.size + (strOfNums y368).size ≤ 9223372036854775807
                    · rw [if_pos c14] at H
                      have c14b0 := eq_true c14
                      have c14b1 : decide (x5_1.size + (strOfNums y368).size ≤ 9223372036854775807) = true := decide_eq_true c14
                      try have c14b2 : (9223372036854775807 < x5_1.size + (strOfNums y368).size) = False := eq_false (Nat.not_lt.2 c14)
                      have H' := Aside0.mk H
                      clear H
                      have p367 : 0 ≤ (x27_1 : Int) := of_decide_eq_true (by first | (with_reducible assumption) | assumption)
                      have q367 : x27_1 < (y363.length : Int) := of_decide_eq_true (by first | (with_reducible assumption) | assumption)
                      obtain ⟨ad367, e367, hx367_0⟩ := Kd.at_int HR366.out x27_1 p367 q367
                      cases e367
                      (try replace hx367_0 := (HB.out.cell (World.block_lt_of_cell? w _ hx367_0)).trans hx367_0)
                      replace p367 := eq_true p367
                      replace q367 := eq_true q367
                      go_wp2_with (first | ((with_reducible refine gate_dst (N := 35) rfl ?_); (try (refine gate_guard (by rfl) ?_; dsimp only)); refine Kd.R_lit (Kd.int .u8) _ 5 ?hg (N := 35) ?hd (xs := ([rd y363 x27_1] : List Int)) (inner := [.int .u8 (rd y363 x27_1)]) (ok := fun _ => True) (okp := fun _ => True) ?hr ?hp (fun _ hk => hk) trivial (Below.refl _ _) (Nat.le_refl _) (by simp) ?_; (case hd => rfl); (case hg => rfl); (case hr => first | (go_simp; done) | (go_simp; rfl)); (case hp => exact (Reps.one (show Kd.M (Kd.int .u8) _ _ _ (rd y363 x27_1) [.int .u8 (rd y363 x27_1)] from rfl) (Reps.none _ _))); intro v369 w15 ho16 hb hg_ hnew_; clear hg_ hnew_; (first | rw [← Ny368.out] at ho16 | (simp only [Int.reduceToNat] at ho16; rw [← Ny368.out] at ho16)); have n0_ := Aside0.mk (Kd.R_elder' (by (with_reducible repeat (first | apply Kd.R_alloc | apply Kd.R_drewN | apply Kd.R_drew)); exact HO_3.out) (Kd.R_base ho16) hb); have n1_ := Aside0.mk (Kd.R_lower (Kd.R_new' ho16 (Kd.R_lt (by (with_reducible repeat (first | apply Kd.R_alloc | apply Kd.R_drewN | apply Kd.R_drew)); exact HO_3.out))) (below_size (by repeat (first | (with_reducible first | exact HB.out | apply below_alloc | apply pw_below_drewN | apply below_drew1) | exact HB.out)))); have n2_ := Aside0.mk (Kd.C_below (by repeat (first | (with_reducible exact HR366.out) | (with_reducible refine Kd.C_alloc ?_ _) | (with_reducible refine Kd.C_drewN ?_ _) | (with_reducible refine Kd.C_drew ?_) | exact HR366.out)) hb); have n3_ := Aside0.mk (below_step (by repeat (first | (with_reducible first | exact HB.out | apply below_alloc | apply pw_below_drewN | apply below_drew1) | exact HB.out)) hb); clear HO_3; clear HR366; clear HB; have HO_3 := n0_; have HO370 := n1_; have HR366 := n2_; have HB := n3_; clear n0_ n1_ n2_ n3_; clear hb ho16; have hcv17 := own_string (P := Try.prog) Try.underlying22 Try.underlying5 Try.underlying9 (Kd.own_of_R HO370.out)))
                      go_roundg k1
                      case measure => have := HK1.out; omega
                      case rel => exact ⟨(x5_1 ++ (strOfNums y368)), (wrap64 (x27_1 + 1)), (by first | rfl | (simp; done) | (simp [*]; done)), (by first | rfl | (simp; done) | (simp [*]; done)), H', ⟨by have := HK1.out; omega⟩, ⟨by (with_reducible repeat (first | apply Kd.R_alloc | apply Kd.R_drewN | apply Kd.R_drew)); exact Kd.R_mono HO_3.out (fun _ hk => trivial)⟩, ⟨by repeat (first | (with_reducible exact HR366.out) | (with_reducible refine Kd.C_alloc ?_ _) | (with_reducible refine Kd.C_drewN ?_ _) | (with_reducible refine Kd.C_drew ?_) | exact HR366.out)⟩, ⟨by repeat (first | (with_reducible first | exact HB.out | apply below_alloc | apply pw_below_drewN | apply below_drew1) | exact HB.out)⟩⟩
                    · rw [if_neg c14] at H
                      exact absurd H (by simp)
                · rw [if_neg c12] at H
                  exact absurd H (by simp)
              · rw [if_neg c11] at H
                exact absurd H (by simp)
            · rw [if_neg c10] at H
              have c10b0 : decide (x27_1 < (y363.length : Int)) = false := decide_eq_false c10
              clear c10
              by_cases c18 : 345 ≤ 500
              · rw [if_pos c18] at H
                have c18b0 := eq_true c18
                have c18b1 : decide (345 ≤ 500) = true := decide_eq_true c18
                clear c18
                by_cases c19 : 500 ≤ (t358.length : Int)
                · rw [if_pos c19] at H
                  have c19b0 := eq_true c19
                  have c19b1 : decide (500 ≤ (t358.length : Int)) = true := decide_eq_true c19
                  clear c19
                  obtain ⟨y371, hy371⟩ : ∃ y_ : List Int, y_ = ((t358.take 500).drop 345) := ⟨_, rfl⟩
                  replace H : (amphoralaw10_UstarSplits.l1 k1 a0 x5_1 (⟨#[]⟩ : ByteArray) y371 (y371.length : Int) 0) = some r := by first | (rw [hy371]; with_reducible exact H) | (have H2_ := (Option.bind_some _ _).symm.trans H; rw [hy371]; with_reducible exact H2_) | (have H2_ := (Option.bind_some _ _).symm.trans H; with_reducible exact H2_) | with_reducible exact H | (rw [hy371]; exact H) | exact H
                  have Ny371 := Aside0.mk hy371
                  clear hy371
                  have H' := Aside0.mk H
                  clear H
                  have q20 : (500 : Int) ≤ ((t358.length : Int) : Int) := of_decide_eq_true (by first | (with_reducible assumption) | assumption)
                  obtain ⟨i020, hi020, _, hsz20, _⟩ := info_parts info5
                  have hroom20 : t358.length ≤ co9 := (Kd.R_reads' HO_3.out).2.1
                  have hC20 : Kd.C (Kd.int .u8) _ Ao9 t358.length t358 := (Kd.R_reads' HO_3.out).2.2
                  have ql20 : (345 : Int) ≤ (500 : Int) := (by omega)
                  have hcut20 := cut_mid (P := Try.prog) 22 5 .i64 .i64 Try.underlying22 hi020 1 hsz20 Ao9 t358.length co9 345 500 (by omega) ql20 q20 hroom20
                  have hr20 := Kd.C_mid (lo := (345 : Int).toNat) (hi := (500 : Int).toNat) (c := co9) hC20 (by omega) (by omega) hroom20
                  obtain ⟨A20, hA20⟩ : ∃ A1, A1 = (if co9 = (345 : Int).toNat then Ao9 else (Ao9 : Option Addr).map (·.add ((345 : Int).toNat * 1))) := ⟨_, rfl⟩
                  obtain ⟨c20, hc20⟩ : ∃ c1, c1 = co9 - (345 : Int).toNat := ⟨_, rfl⟩
                  have hy20 : y371.length = (500 : Int).toNat - (345 : Int).toNat := (by rw [Ny371.out, List.length_drop, List.length_take] <;> omega)
                  rw [show ((t358).take (500 : Int).toNat).drop (345 : Int).toNat = y371 from Ny371.out.symm] at hr20
                  replace hr20 : Kd.C (Kd.int .u8) _ A20 y371.length y371 := (by rw [hA20]; exact hr20)
                  rw [← hy20, ← hA20, ← hc20] at hcut20
                  have HR374 := Aside0.mk hr20
                  have HC374 := Aside0.mk (show y371.length ≤ c20 from by rw [hy20, hc20]; exact Nat.sub_le_sub_right (Nat.le_trans (by omega) hroom20) _)
                  clear hr20 hC20 hroom20 hi020 hsz20 hc20
                  have KY20 := Aside0.mk hy20
                  have KA20 := Aside0.mk hA20
                  clear hy20 hA20
                  have KL20 := Aside0.mk (show 500 ≤ t358.length from by omega)
                  have KM20 := Aside0.mk (show 345 ≤ 500 from by omega)
                  replace q20 := eq_true q20
                  go_wp2
                  go_loopg [6, 42] k1 (fun kq v6 v42 w' => ∃ (x6_2 : ByteArray) (x42_2 : Int), v6 = .string x6_2 ∧ v42 = .int .i64 x42_2 ∧ Aside0 (amphoralaw10_UstarSplits.l1 kq a0 x5_1 x6_2 y371 (y371.length : Int) x42_2 = some r) ∧ Aside0 (kq ≤ k1) ∧ Aside0 (Kd.C (Kd.int .u8) w' Ao9 y363.length y363) ∧ Aside0 (Kd.C (Kd.int .u8) w' A20 y371.length y371) ∧ Aside0 (Below w.heap.size w w'))
                  case atStart => exact ⟨((⟨#[]⟩ : ByteArray)), (0), (by first | rfl | (simp; done) | (simp [*]; done)), (by first | rfl | (simp; done) | (simp [*]; done)), H', ⟨Nat.le_refl _⟩, ⟨by repeat (first | (with_reducible exact HR366.out) | (with_reducible refine Kd.C_alloc ?_ _) | (with_reducible refine Kd.C_drewN ?_ _) | (with_reducible refine Kd.C_drew ?_) | exact HR366.out)⟩, ⟨by repeat (first | (with_reducible exact HR374.out) | (with_reducible refine Kd.C_alloc ?_ _) | (with_reducible refine Kd.C_drewN ?_ _) | (with_reducible refine Kd.C_drew ?_) | exact HR374.out)⟩, ⟨by repeat (first | (with_reducible first | exact HB.out | apply below_alloc | apply pw_below_drewN | apply below_drew1) | exact HB.out)⟩⟩
                  case round =>
                    clear H'
                    try clear c1
                    try clear hcv1
                    try clear c2
                    try clear p2
                    try clear q2
                    try clear c3
                    try clear p3
                    try clear q3
                    try clear hx3
                    try clear c5
                    try clear c5b0
                    try clear c5b1
                    try clear p6
                    try clear c7
                    try clear c8
                    try clear q8
                    try clear c10
                    try clear c10b0
                    try clear c11
                    try clear c11b0
                    try clear c12
                    try clear c12b0
                    try clear c13
                    try clear c13b0
                    try clear c13b1
                    try clear c14
                    try clear c14b0
                    try clear c14b1
                    try clear c14b2
                    try clear hcv17
                    try clear c18
                    try clear c18b0
                    try clear c18b1
                    try clear c19
                    try clear c19b0
                    try clear c19b1
                    try clear c20
                    try clear q20
                    try clear hx367_0
                    try clear p2
                    try clear p367
                    try clear q20
                    try clear q3
                    try clear q362
                    try clear q367
                    try clear q8
                    obtain ⟨x6_2, x42_2, rfl, rfl, HA, HK2, HR366, HR374, HB⟩ := hrel
                    cases gk with
                    | zero => exact absurd HA.out (by simp [amphoralaw10_UstarSplits.l1])
                    | succ k2 =>
                      have H := HA.out
                      clear HA
                      simp only [amphoralaw10_UstarSplits.l1] at H
                      by_cases c21 : x42_2 < (y371.length : Int)
                      · rw [if_pos c21] at H
                        have c21b0 : decide (x42_2 < (y371.length : Int)) = true := decide_eq_true c21
                        clear c21
                        by_cases c22 : 0 ≤ x42_2
                        · rw [if_pos c22] at H
                          have c22b0 : decide (0 ≤ x42_2) = true := decide_eq_true c22
                          clear c22
                          by_cases c23 : x42_2 < (y371.length : Int)
                          · rw [if_pos c23] at H
                            have c23b0 : decide (x42_2 < (y371.length : Int)) = true := decide_eq_true c23
                            clear c23
                            by_cases c24 : (rd y371 x42_2) = 0
                            · rw [if_pos c24] at H
                              have c24b0 : ((rd y371 x42_2) == 0) = true := beq_iff_eq.mpr c24
                              have c24b1 : ((rd y371 x42_2) != 0) = false := bne_eq_false_iff_eq.mpr c24
                              clear c24
                              have H' := Aside0.mk H
                              clear H
                              have p375 : 0 ≤ (x42_2 : Int) := of_decide_eq_true (by first | (with_reducible assumption) | assumption)
                              have q375 : x42_2 < (y371.length : Int) := of_decide_eq_true (by first | (with_reducible assumption) | assumption)
                              obtain ⟨ad375, e375, hx375_0⟩ := Kd.at_int HR374.out x42_2 p375 q375
                              cases e375
                              (try replace hx375_0 := (HB.out.cell (World.block_lt_of_cell? w _ hx375_0)).trans hx375_0)
                              replace p375 := eq_true p375
                              replace q375 := eq_true q375
                              go_wp2
                              go_roundg k2
                              case measure => have := HK1.out; have := HK2.out; omega
                              case rel => exact ⟨(x6_2), (wrap64 (x42_2 + 1)), (by first | rfl | (simp; done) | (simp [*]; done)), (by first | rfl | (simp; done) | (simp [*]; done)), H', ⟨by have := HK1.out; have := HK2.out; omega⟩, ⟨by repeat (first | (with_reducible exact HR366.out) | (with_reducible refine Kd.C_alloc ?_ _) | (with_reducible refine Kd.C_drewN ?_ _) | (with_reducible refine Kd.C_drew ?_) | exact HR366.out)⟩, ⟨by repeat (first | (with_reducible exact HR374.out) | (with_reducible refine Kd.C_alloc ?_ _) | (with_reducible refine Kd.C_drewN ?_ _) | (with_reducible refine Kd.C_drew ?_) | exact HR374.out)⟩, ⟨by repeat (first | (with_reducible first | exact HB.out | apply below_alloc | apply pw_below_drewN | apply below_drew1) | exact HB.out)⟩⟩
                            · rw [if_neg c24] at H
                              have c24b0 : ((rd y371 x42_2) == 0) = false := beq_eq_false_iff_ne.mpr c24
                              have c24b1 : ((rd y371 x42_2) != 0) = true := bne_iff_ne.mpr c24
                              obtain ⟨y376, hy376⟩ : ∃ y_ : List Int, y_ = (([rd y371 x42_2] : List Int)) := ⟨_, rfl⟩
                              replace H : (if x6_2.size + (strOfNums y376).size ≤ 9223372036854775807 then (amphoralaw10_UstarSplits.l1 k2 a0 x5_1 (x6_2 ++ (strOfNums y376)) y371 (y371.length : Int) (wrap64 (x42_2 + 1))) else (none)) = some r := by first | (rw [hy376]; with_reducible exact H) | (have H2_ := (Option.bind_some _ _).symm.trans H; rw [hy376]; with_reducible exact H2_) | (have H2_ := (Option.bind_some _ _).symm.trans H; with_reducible exact H2_) | with_reducible exact H | (rw [hy376]; exact H) | exact H
                              have Ny376 := Aside0.mk hy376
                              clear hy376
                              by_cases c25 : x6_2.size + (strOfNums y376).size ≤ 9223372036854775807
                              · rw [if_pos c25] at H
                                have c25b0 := eq_true c25
                                have c25b1 : decide (x6_2.size + (strOfNums y376).size ≤ 9223372036854775807) = true := decide_eq_true c25
                                try have c25b2 : (9223372036854775807 < x6_2.size + (strOfNums y376).size) = False := eq_false (Nat.not_lt.2 c25)
                                have H' := Aside0.mk H
                                clear H
                                have p375 : 0 ≤ (x42_2 : Int) := of_decide_eq_true (by first | (with_reducible assumption) | assumption)
                                have q375 : x42_2 < (y371.length : Int) := of_decide_eq_true (by first | (with_reducible assumption) | assumption)
                                obtain ⟨ad375, e375, hx375_0⟩ := Kd.at_int HR374.out x42_2 p375 q375
                                cases e375
                                (try replace hx375_0 := (HB.out.cell (World.block_lt_of_cell? w _ hx375_0)).trans hx375_0)
                                replace p375 := eq_true p375
                                replace q375 := eq_true q375
                                go_wp2_with (first | ((with_reducible refine gate_dst (N := 50) rfl ?_); (try (refine gate_guard (by rfl) ?_; dsimp only)); refine Kd.R_lit (Kd.int .u8) _ 5 ?hg (N := 50) ?hd (xs := ([rd y371 x42_2] : List Int)) (inner := [.int .u8 (rd y371 x42_2)]) (ok := fun _ => True) (okp := fun _ => True) ?hr ?hp (fun _ hk => hk) trivial (Below.refl _ _) (Nat.le_refl _) (by simp) ?_; (case hd => rfl); (case hg => rfl); (case hr => first | (go_simp; done) | (go_simp; rfl)); (case hp => exact (Reps.one (show Kd.M (Kd.int .u8) _ _ _ (rd y371 x42_2) [.int .u8 (rd y371 x42_2)] from rfl) (Reps.none _ _))); intro v377 w26 ho27 hb hg_ hnew_; clear hg_ hnew_; (first | rw [← Ny376.out] at ho27 | (simp only [Int.reduceToNat] at ho27; rw [← Ny376.out] at ho27)); have n0_ := Aside0.mk (Kd.R_lower ho27 (below_size (by repeat (first | (with_reducible first | exact HB.out | apply below_alloc | apply pw_below_drewN | apply below_drew1) | exact HB.out)))); have n1_ := Aside0.mk (Kd.C_below (by repeat (first | (with_reducible exact HR366.out) | (with_reducible refine Kd.C_alloc ?_ _) | (with_reducible refine Kd.C_drewN ?_ _) | (with_reducible refine Kd.C_drew ?_) | exact HR366.out)) hb); have n2_ := Aside0.mk (Kd.C_below (by repeat (first | (with_reducible exact HR374.out) | (with_reducible refine Kd.C_alloc ?_ _) | (with_reducible refine Kd.C_drewN ?_ _) | (with_reducible refine Kd.C_drew ?_) | exact HR374.out)) hb); have n3_ := Aside0.mk (below_step (by repeat (first | (with_reducible first | exact HB.out | apply below_alloc | apply pw_below_drewN | apply below_drew1) | exact HB.out)) hb); clear HR366; clear HR374; clear HB; have HO378 := n0_; have HR366 := n1_; have HR374 := n2_; have HB := n3_; clear n0_ n1_ n2_ n3_; clear hb ho27; have hcv28 := own_string (P := Try.prog) Try.underlying22 Try.underlying5 Try.underlying9 (Kd.own_of_R HO378.out)))
                                go_roundg k2
                                case measure => have := HK1.out; have := HK2.out; omega
                                case rel => exact ⟨(x6_2 ++ (strOfNums y376)), (wrap64 (x42_2 + 1)), (by first | rfl | (simp; done) | (simp [*]; done)), (by first | rfl | (simp; done) | (simp [*]; done)), H', ⟨by have := HK1.out; have := HK2.out; omega⟩, ⟨by repeat (first | (with_reducible exact HR366.out) | (with_reducible refine Kd.C_alloc ?_ _) | (with_reducible refine Kd.C_drewN ?_ _) | (with_reducible refine Kd.C_drew ?_) | exact HR366.out)⟩, ⟨by repeat (first | (with_reducible exact HR374.out) | (with_reducible refine Kd.C_alloc ?_ _) | (with_reducible refine Kd.C_drewN ?_ _) | (with_reducible refine Kd.C_drew ?_) | exact HR374.out)⟩, ⟨by repeat (first | (with_reducible first | exact HB.out | apply below_alloc | apply pw_below_drewN | apply below_drew1) | exact HB.out)⟩⟩
                              · rw [if_neg c25] at H
                                exact absurd H (by simp)
                          · rw [if_neg c23] at H
                            exact absurd H (by simp)
                        · rw [if_neg c22] at H
                          exact absurd H (by simp)
                      · rw [if_neg c21] at H
                        have c21b0 : decide (x42_2 < (y371.length : Int)) = false := decide_eq_false c21
                        clear c21
                        by_cases c29 : x6_2.toList = ([] : List UInt8)
                        · rw [if_pos c29] at H
                          have c29b0 : (x6_2.toList == ([] : List UInt8)) = true := beq_iff_eq.mpr c29
                          have c29b1 : (x6_2.toList != ([] : List UInt8)) = false := bne_eq_false_iff_eq.mpr c29
                          have c29b2 : x6_2.toList.isEmpty = true := List.isEmpty_iff.2 c29
                          clear c29
                          (try rw [c29b2])
                          (try simp only [Bool.not_true, Bool.not_false])
                          by_cases c30 : x5_1.toList = a0.toList
                          · rw [if_pos c30] at H
                            have c30b0 : (x5_1.toList == a0.toList) = true := beq_iff_eq.mpr c30
                            have c30b1 : (x5_1.toList != a0.toList) = false := bne_eq_false_iff_eq.mpr c30
                            clear c30
                            obtain rfl := Option.some.inj H
                            go_wp2
                            go_ret
                            exact ⟨by first | rfl | (simp [errW_none, errW_some] <;> rfl) | (simp [*, errW_none, errW_some] <;> rfl), by repeat (first | (with_reducible first | exact HB.out | apply below_alloc | apply pw_below_drewN | apply below_drew1) | exact HB.out)⟩
                          · rw [if_neg c30] at H
                            have c30b0 : (x5_1.toList == a0.toList) = false := beq_eq_false_iff_ne.mpr c30
                            have c30b1 : (x5_1.toList != a0.toList) = true := bne_iff_ne.mpr c30
                            obtain rfl := Option.some.inj H
                            go_wp2
                            go_ret
                            exact ⟨by first | rfl | (simp [errW_none, errW_some] <;> rfl) | (simp [*, errW_none, errW_some] <;> rfl), by repeat (first | (with_reducible first | exact HB.out | apply below_alloc | apply pw_below_drewN | apply below_drew1) | exact HB.out)⟩
                        · rw [if_neg c29] at H
                          have c29b0 : (x6_2.toList == ([] : List UInt8)) = false := beq_eq_false_iff_ne.mpr c29
                          have c29b1 : (x6_2.toList != ([] : List UInt8)) = true := bne_iff_ne.mpr c29
                          have c29b2 : x6_2.toList.isEmpty = false := Bool.eq_false_iff.2 (fun h_ => c29 (List.isEmpty_iff.1 h_))
                          (try rw [c29b2])
                          (try simp only [Bool.not_true, Bool.not_false])
                          by_cases c31 : x6_2.size + 1 ≤ 9223372036854775807
                          · rw [if_pos c31] at H
                            have c31b0 := eq_true c31
                            have c31b1 : decide (x6_2.size + 1 ≤ 9223372036854775807) = true := decide_eq_true c31
                            try have c31b2 : (9223372036854775807 < x6_2.size + 1) = False := eq_false (Nat.not_lt.2 c31)
                            by_cases c32 : (x6_2 ++ (⟨#[47]⟩ : ByteArray)).size + x5_1.size ≤ 9223372036854775807
                            · rw [if_pos c32] at H
                              have c32b0 := eq_true c32
                              have c32b1 : decide ((x6_2 ++ (⟨#[47]⟩ : ByteArray)).size + x5_1.size ≤ 9223372036854775807) = true := decide_eq_true c32
                              try have c32b2 : (9223372036854775807 < (x6_2 ++ (⟨#[47]⟩ : ByteArray)).size + x5_1.size) = False := eq_false (Nat.not_lt.2 c32)
                              by_cases c33 : ((x6_2 ++ (⟨#[47]⟩ : ByteArray)) ++ x5_1).toList = a0.toList
                              · rw [if_pos c33] at H
                                have c33b0 : (((x6_2 ++ (⟨#[47]⟩ : ByteArray)) ++ x5_1).toList == a0.toList) = true := beq_iff_eq.mpr c33
                                have c33b1 : (((x6_2 ++ (⟨#[47]⟩ : ByteArray)) ++ x5_1).toList != a0.toList) = false := bne_eq_false_iff_eq.mpr c33
                                clear c33
                                by_cases c34 : (a0.size : Int) > 100
                                · rw [if_pos c34] at H
                                  have c34b0 : decide (100 < (a0.size : Int)) = true := decide_eq_true c34
                                  have c34b1 : decide (100 < a0.size) = true := decide_eq_true (by omega)
                                  clear c34
                                  by_cases c35 : x5_1.toList = ([] : List UInt8)
                                  · rw [if_pos c35] at H
                                    have c35b0 : (x5_1.toList == ([] : List UInt8)) = true := beq_iff_eq.mpr c35
                                    have c35b1 : (x5_1.toList != ([] : List UInt8)) = false := bne_eq_false_iff_eq.mpr c35
                                    have c35b2 : x5_1.toList.isEmpty = true := List.isEmpty_iff.2 c35
                                    clear c35
                                    (try rw [c35b2])
                                    (try simp only [Bool.not_true, Bool.not_false])
                                    obtain rfl := Option.some.inj H
                                    go_wp2
                                    go_ret
                                    exact ⟨by first | rfl | (simp [errW_none, errW_some] <;> rfl) | (simp [*, errW_none, errW_some] <;> rfl), by repeat (first | (with_reducible first | exact HB.out | apply below_alloc | apply pw_below_drewN | apply below_drew1) | exact HB.out)⟩
                                  · rw [if_neg c35] at H
                                    have c35b0 : (x5_1.toList == ([] : List UInt8)) = false := beq_eq_false_iff_ne.mpr c35
                                    have c35b1 : (x5_1.toList != ([] : List UInt8)) = true := bne_iff_ne.mpr c35
                                    have c35b2 : x5_1.toList.isEmpty = false := Bool.eq_false_iff.2 (fun h_ => c35 (List.isEmpty_iff.1 h_))
                                    (try rw [c35b2])
                                    (try simp only [Bool.not_true, Bool.not_false])
                                    replace H := Option.bind_eq_some_iff.mp H
                                    obtain ⟨t379, A360, H⟩ := H
                                    replace H : (some t379) = some r := H
                                    have A36 := Aside0.mk A360
                                    clear A360
                                    obtain rfl := Option.some.inj H
                                    go_wp2_with (first | (go_at_call 18; (with_reducible refine (ustar_FitsPath.calls k2 a0 t379 _ A36.out).mono ?_); rintro e w37 ⟨rfl, hb⟩; have n0_ := Aside0.mk (Kd.C_below (by repeat (first | (with_reducible exact HR366.out) | (with_reducible refine Kd.C_alloc ?_ _) | (with_reducible refine Kd.C_drewN ?_ _) | (with_reducible refine Kd.C_drew ?_) | exact HR366.out)) hb); have n1_ := Aside0.mk (Kd.C_below (by repeat (first | (with_reducible exact HR374.out) | (with_reducible refine Kd.C_alloc ?_ _) | (with_reducible refine Kd.C_drewN ?_ _) | (with_reducible refine Kd.C_drew ?_) | exact HR374.out)) hb); have n2_ := Aside0.mk (below_step (by repeat (first | (with_reducible first | exact HB.out | apply below_alloc | apply pw_below_drewN | apply below_drew1) | exact HB.out)) hb); clear HR366; clear HR374; clear HB; have HR366 := n0_; have HR374 := n1_; have HB := n2_; clear n0_ n1_ n2_; (try clear hb); (try clear hb2); (try clear hk); (try clear hi)))
                                    go_ret
                                    exact ⟨by first | rfl | (simp [errW_none, errW_some] <;> rfl) | (simp [*, errW_none, errW_some] <;> rfl), by repeat (first | (with_reducible first | exact HB.out | apply below_alloc | apply pw_below_drewN | apply below_drew1) | exact HB.out)⟩
                                · rw [if_neg c34] at H
                                  have c34b0 : decide (100 < (a0.size : Int)) = false := decide_eq_false c34
                                  have c34b1 : decide (100 < a0.size) = false := decide_eq_false (by omega)
                                  clear c34
                                  obtain rfl := Option.some.inj H
                                  go_wp2
                                  go_ret
                                  exact ⟨by first | rfl | (simp [errW_none, errW_some] <;> rfl) | (simp [*, errW_none, errW_some] <;> rfl), by repeat (first | (with_reducible first | exact HB.out | apply below_alloc | apply pw_below_drewN | apply below_drew1) | exact HB.out)⟩
                              · rw [if_neg c33] at H
                                have c33b0 : (((x6_2 ++ (⟨#[47]⟩ : ByteArray)) ++ x5_1).toList == a0.toList) = false := beq_eq_false_iff_ne.mpr c33
                                have c33b1 : (((x6_2 ++ (⟨#[47]⟩ : ByteArray)) ++ x5_1).toList != a0.toList) = true := bne_iff_ne.mpr c33
                                obtain rfl := Option.some.inj H
                                go_wp2
                                go_ret
                                exact ⟨by first | rfl | (simp [errW_none, errW_some] <;> rfl) | (simp [*, errW_none, errW_some] <;> rfl), by repeat (first | (with_reducible first | exact HB.out | apply below_alloc | apply pw_below_drewN | apply below_drew1) | exact HB.out)⟩
                            · rw [if_neg c32] at H
                              exact absurd H (by simp)
                          · rw [if_neg c31] at H
                            exact absurd H (by simp)
                · rw [if_neg c19] at H
                  exact absurd H (by simp)
              · rw [if_neg c18] at H
                exact absurd H (by simp)
      · rw [if_neg c5] at H
        exact absurd H (by simp)
    · have H1 : ((ustar_FitsPath.f k a0).bind fun t380 => (some (!t380))) = some r := by rw [if_neg (show ¬ (some q362).isNone = true by simp)] at H; exact H
      clear H
      have H := H1
      clear H1
      try simp only [errW_none, errW_some]
      replace H := Option.bind_eq_some_iff.mp H
      obtain ⟨t380, A380, H⟩ := H
      replace H : (some (!t380)) = some r := H
      have A38 := Aside0.mk A380
      clear A380
      obtain rfl := Option.some.inj H
      go_enter Try.func7, Try.ntmps7
      go_wp2_with (first | ((with_reducible refine gate_callee (f := 8) rfl ?_); refine goesL_ (some 11) rfl rfl Try.func8 (by kernel_rfl) rfl #[] rfl (by (try simp only [List.map_toArray, List.map_cons, List.map_nil]); first | done | rfl | (simp only [List.length_drop, List.length_take]; rfl)) ?_; (with_reducible refine (amphoralaw10_alive.calls k  true _ A2.out).mono ?_); rintro e w39 ⟨rfl, hb⟩; refine ⟨_, rfl, ?_⟩; have n0_ := Aside0.mk (below_step (by repeat (first | (with_reducible first | exact HB.out | apply below_alloc | apply pw_below_drewN | apply below_drew1) | exact HB.out)) hb); clear HB; have HB := n0_; clear n0_; (try clear hb); (try clear hb2); (try clear hk); (try clear hi)) | ((with_reducible refine gate_callee (f := 14) rfl ?_); refine goesL_ (some 16) rfl rfl Try.func14 (by kernel_rfl) rfl #[.agg #[.string a0, .int .i64 0, .int .i64 0, .int .i64 0, .int .i64 0, .int .i64 0, .int .u8 53, .string (⟨#[]⟩ : ByteArray)]] rfl (by (try simp only [List.map_toArray, List.map_cons, List.map_nil]); first | done | rfl | (simp only [List.length_drop, List.length_take]; rfl)) ?_; (with_reducible refine (ustar_Encode.calls k a0 0 0 0 0 0 53 (⟨#[]⟩ : ByteArray) t358 (some q362) _ A4.out).mono ?_); rintro e w40 ⟨v359, rfl, ho0, hb⟩; refine ⟨_, rfl, ?_⟩; have n0_ := Aside0.mk (Kd.R_lower ho0 (below_size (by repeat (first | (with_reducible first | exact HB.out | apply below_alloc | apply pw_below_drewN | apply below_drew1) | exact HB.out)))); have n1_ := Aside0.mk (below_step (by repeat (first | (with_reducible first | exact HB.out | apply below_alloc | apply pw_below_drewN | apply below_drew1) | exact HB.out)) hb); clear HB; have HO360 := n0_; have HB := n1_; clear n0_ n1_; (try clear hb); (try clear hb2); (try clear hk); (try clear hi); (try clear ho0); (try simp only [errW_none, errW_some])) | ((with_reducible refine gate_callee (f := 18) rfl ?_); refine goesL_ (some 22) rfl rfl Try.func18 (by kernel_rfl) rfl #[.string a0] rfl (by (try simp only [List.map_toArray, List.map_cons, List.map_nil]); first | done | rfl | (simp only [List.length_drop, List.length_take]; rfl)) ?_; (with_reducible refine (ustar_FitsPath.calls k a0 t380 _ A38.out).mono ?_); rintro e w41 ⟨rfl, hb⟩; refine ⟨_, rfl, ?_⟩; have n0_ := Aside0.mk (Kd.R_below (by (with_reducible repeat (first | apply Kd.R_alloc | apply Kd.R_drewN | apply Kd.R_drew)); exact HO360.out) hb); have n1_ := Aside0.mk (below_step (by repeat (first | (with_reducible first | exact HB.out | apply below_alloc | apply pw_below_drewN | apply below_drew1) | exact HB.out)) hb); clear HO360; clear HB; have HO360 := n0_; have HB := n1_; clear n0_ n1_; (try clear hb); (try clear hb2); (try clear hk); (try clear hi)))
      go_ret
      exact ⟨by first | rfl | (simp [errW_none, errW_some] <;> rfl) | (simp [*, errW_none, errW_some] <;> rfl), by repeat (first | (with_reducible first | exact HB.out | apply below_alloc | apply pw_below_drewN | apply below_drew1) | exact HB.out)⟩
  · replace c3 := Bool.eq_false_iff.mpr c3
    subst c3
    have H1 : (some false) = some r := by rw [if_neg (show ¬ (false = true) by decide)] at H; exact H
    clear H
    have H := H1
    clear H1
    obtain rfl := Option.some.inj H
    go_enter Try.func7, Try.ntmps7
    go_wp2_with (first | ((with_reducible refine gate_callee (f := 8) rfl ?_); refine goesL_ (some 11) rfl rfl Try.func8 (by kernel_rfl) rfl #[] rfl (by (try simp only [List.map_toArray, List.map_cons, List.map_nil]); first | done | rfl | (simp only [List.length_drop, List.length_take]; rfl)) ?_; (with_reducible refine (amphoralaw10_alive.calls k  false _ A2.out).mono ?_); rintro e w42 ⟨rfl, hb⟩; refine ⟨_, rfl, ?_⟩; have n0_ := Aside0.mk (below_step (by repeat (first | (with_reducible first | exact HB.out | apply below_alloc | apply pw_below_drewN | apply below_drew1) | exact HB.out)) hb); clear HB; have HB := n0_; clear n0_; (try clear hb); (try clear hb2); (try clear hk); (try clear hi)))
    go_ret
    exact ⟨by first | rfl | (simp [errW_none, errW_some] <;> rfl) | (simp [*, errW_none, errW_some] <;> rfl), by repeat (first | (with_reducible first | exact HB.out | apply below_alloc | apply pw_below_drewN | apply below_drew1) | exact HB.out)⟩

/-- THE ONE PURE STATEMENT of amphoralaw10_UstarSplits: yours. -/
def amphoralaw10_UstarSplits.Pure : Prop := ∀ (a0 : ByteArray), a0.size ≤ 140737488351232 → ∃ k, amphoralaw10_UstarSplits.f k a0 = some true
theorem amphoralaw10_UstarSplits.walk (P : amphoralaw10_UstarSplits.Pure) (a0 : ByteArray) (w : World) (w0 : a0.size ≤ 140737488351232) :
    Calls Try.prog 7 #[.string a0] w fun e w' => e = .returned (.bool true) ∧ Below w.heap.size w w' := by
  obtain ⟨k, h⟩ := P a0 w0
  refine (amphoralaw10_UstarSplits.calls k a0 true w h).mono ?_
  rintro e w' ⟨rfl, hd⟩
  exact ⟨rfl, hd⟩

end Go.Proofs.Ytkdklgcjimnabaa.PUstar
