/- Printed for this claim by a copy of the kit's print.py that takes functions walked by our own texts. Conditions: none. -/
import Derived.Test.YtfkbmjfhakooiaaGreatDoorPTreex0
import Derived.Test.YtfkbmjfhakooiaaGreatDoorPTreex4
namespace Go.Proofs.YtfkbmjfhakooiaaGreatDoor.PTree
open Go.RowKit Go.Proofs.YtfkbmjfhakooiaaGreatDoorW.PrintWords Go.Proofs.YtfkbmjfhakooiaaGreatDoorW.PrintLast Go.Proofs.YtfkbmjfhakooiaaGreatDoorW.PrintMore
attribute [local go_sem] max2_int min2_int max_two min_two max_three min_three max_four min_four   -- for this text's walks alone
set_option linter.unusedVariables false
set_option linter.unusedSimpArgs false

private theorem leq_law : ∀ a b : List UInt8, (Op.bytesLess a b || a == b) = !(Op.bytesLess b a)
  | [], [] => rfl
  | [], _ :: _ => rfl
  | _ :: _, [] => rfl
  | a :: x, b :: y => by
    have ih := leq_law x y
    simp only [Op.bytesLess]
    rcases Nat.lt_trichotomy a.toNat b.toNat with h | h | h
    · have h1 : a < b := h
      have h2 : ¬ b < a := fun q => by have q : b.toNat < a.toNat := q; omega
      have h3 : ¬ b = a := fun q => by rw [q] at h; omega
      simp [h1, h2, h3]
    · obtain rfl := UInt8.toNat_inj.1 h
      have h2 : ¬ a < a := fun q => by have q : a.toNat < a.toNat := q; omega
      simp only [h2, decide_false, beq_self_eq_true, Bool.true_and, Bool.false_or]
      rw [← ih]; simp
    · have h1 : b < a := h
      have h2 : ¬ a < b := fun q => by have q : a.toNat < b.toNat := q; omega
      have h3 : ¬ a = b := fun q => by rw [q] at h; omega
      simp [h1, h2, h3]
/-! ### amphoraref08_Compare: function 40 -/
mutual
def amphoraref08_Compare.l0 : Nat → List ByteArray → List ByteArray → Int → Option (Int)
  | 0, _, _, _ => none
  | k + 1, x5, x6, x7 => if x7 < (x5.length : Int) then (amphoraref08_Compare.j1 k x5 x6 x7 (decide (x7 < (x6.length : Int)))) else (amphoraref08_Compare.j1 k x5 x6 x7 false)
def amphoraref08_Compare.j1 : Nat → List ByteArray → List ByteArray → Int → Bool → Option (Int)
  | 0, _, _, _, _ => none
  | k + 1, x5, x6, x7, x21 => if x21 = true then (if 0 ≤ x7 then (if x7 < (x5.length : Int) then (if x7 < (x6.length : Int) then (if (Op.bytesLess ((rdOf ByteArray.empty x5 x7).toList) ((rdOf ByteArray.empty x6 x7).toList)) = true then (some (-1)) else (if (Op.bytesLess ((rdOf ByteArray.empty x6 x7).toList) ((rdOf ByteArray.empty x5 x7).toList)) = true then (some 1) else (amphoraref08_Compare.l0 k x5 x6 (wrap64 (x7 + 1))))) else (none)) else (none)) else (none)) else (if (x5.length : Int) < (x6.length : Int) then (some (-1)) else (if (x5.length : Int) > (x6.length : Int) then (some 1) else (some 0)))
end
def amphoraref08_Compare.f (k : Nat) (a0 : ByteArray) (a1 : ByteArray) : Option (Int) := (amphoraref08_Pieces.f k a0).bind fun t268 => ((amphoraref08_Pieces.f k a1).bind fun t271 => (amphoraref08_Compare.l0 k t268 t271 0))
theorem amphoraref08_Compare.mono_l : ∀ k, (∀ y0 y1 y2, LeO (amphoraref08_Compare.l0 k y0 y1 y2) (amphoraref08_Compare.l0 (k + 1) y0 y1 y2)) ∧ (∀ y0 y1 y2 y3, LeO (amphoraref08_Compare.j1 k y0 y1 y2 y3) (amphoraref08_Compare.j1 (k + 1) y0 y1 y2 y3))
  | 0 => ⟨fun _ _ _ r h => by simp [amphoraref08_Compare.l0] at h, fun _ _ _ _ r h => by simp [amphoraref08_Compare.j1] at h⟩
  | k + 1 => by
    obtain ⟨ih0, ih1⟩ := amphoraref08_Compare.mono_l k
    refine ⟨?_, ?_⟩
    · intro y0 y1 y2
      unfold amphoraref08_Compare.l0
      repeat' first
      | (with_reducible exact ih0 _ _ _)
      | (with_reducible exact ih1 _ _ _ _)
      | (with_reducible exact amphoraref08_Pieces.mono _ _)
      | (with_reducible exact LeO.refl _)
      | (with_reducible exact LeO.none _)
      | (with_reducible refine LeO.ite ?_ ?_)
      | (with_reducible refine LeO.bind ?_ (fun _ => ?_))
      | exact ih0 _ _ _
      | exact ih1 _ _ _ _
      | exact amphoraref08_Pieces.mono _ _
      | exact LeO.none _
      | refine LeO.ite ?_ ?_
      | refine LeO.bind ?_ (fun _ => ?_)
    · intro y0 y1 y2 y3
      unfold amphoraref08_Compare.j1
      repeat' first
      | (with_reducible exact ih0 _ _ _)
      | (with_reducible exact ih1 _ _ _ _)
      | (with_reducible exact amphoraref08_Pieces.mono _ _)
      | (with_reducible exact LeO.refl _)
      | (with_reducible exact LeO.none _)
      | (with_reducible refine LeO.ite ?_ ?_)
      | (with_reducible refine LeO.bind ?_ (fun _ => ?_))
      | exact ih0 _ _ _
      | exact ih1 _ _ _ _
      | exact amphoraref08_Pieces.mono _ _
      | exact LeO.none _
      | refine LeO.ite ?_ ?_
      | refine LeO.bind ?_ (fun _ => ?_)
theorem amphoraref08_Compare.mono : ∀ a0 a1 k, LeO (amphoraref08_Compare.f k a0 a1) (amphoraref08_Compare.f (k + 1) a0 a1) := by
  intro a0 a1 k
  obtain ⟨ih0, ih1⟩ := amphoraref08_Compare.mono_l k
  unfold amphoraref08_Compare.f
  repeat' first
      | (with_reducible exact ih0 _ _ _)
      | (with_reducible exact ih1 _ _ _ _)
      | (with_reducible exact amphoraref08_Pieces.mono _ _)
      | (with_reducible exact LeO.refl _)
      | (with_reducible exact LeO.none _)
      | (with_reducible refine LeO.ite ?_ ?_)
      | (with_reducible refine LeO.bind ?_ (fun _ => ?_))
      | exact ih0 _ _ _
      | exact ih1 _ _ _ _
      | exact amphoraref08_Pieces.mono _ _
      | exact LeO.none _
      | refine LeO.ite ?_ ?_
      | refine LeO.bind ?_ (fun _ => ?_)
set_option maxHeartbeats 8000000 in
set_option maxRecDepth 100000 in
theorem amphoraref08_Compare.calls (k : Nat) (a0 : ByteArray) (a1 : ByteArray) (r : Int) (w : World) (hGl : Gl w) (h : amphoraref08_Compare.f k a0 a1 = some r) :
    Calls Tryz.prog 40 #[.string a0, .string a1] w fun e w' => e = .returned (.int .i64 r) ∧ Below w.heap.size w w' := by
  have HB := Aside0.mk (Below.refl w.heap.size w)
  have HGL := Aside0.mk hGl
  clear hGl
  have H : ((amphoraref08_Pieces.f k a0).bind fun t268 => ((amphoraref08_Pieces.f k a1).bind fun t271 => (amphoraref08_Compare.l0 k t268 t271 0))) = some r := h
  clear h
  replace H := Option.bind_eq_some_iff.mp H
  obtain ⟨t268, A30, H⟩ := H
  replace H : ((amphoraref08_Pieces.f k a1).bind fun t271 => (amphoraref08_Compare.l0 k t268 t271 0)) = some r := H
  have A3 := Aside0.mk A30
  clear A30
  replace H := Option.bind_eq_some_iff.mp H
  obtain ⟨t271, A40, H⟩ := H
  replace H : (amphoraref08_Compare.l0 k t268 t271 0) = some r := H
  have A4 := Aside0.mk A40
  clear A40
  have H' := Aside0.mk H
  clear H
  go_enter Tryz.func40, Tryz.ntmps40
  go_wp2_with (first | (go_at_call 50; (with_reducible refine (amphoraref08_Pieces.calls k a0 t268 _ ?side1 A3.out).mono ?_); (case side1 => first | exact HGL.out | exact Gl.drewN HGL.out _ | exact Gl.of HGL.out (by repeat (first | (with_reducible first | exact HB.out | apply below_alloc | apply pw_below_drewN | apply below_drew1) | exact HB.out))); rintro e w5 ⟨v269, rfl, ho0, hb⟩; have n0_ := Aside0.mk (Kd.R_lower ho0 (below_size (by repeat (first | (with_reducible first | exact HB.out | apply below_alloc | apply pw_below_drewN | apply below_drew1) | exact HB.out)))); have n1_ := Aside0.mk (below_step (by repeat (first | (with_reducible first | exact HB.out | apply below_alloc | apply pw_below_drewN | apply below_drew1) | exact HB.out)) hb); clear HB; have HO270 := n0_; have HB := n1_; clear n0_ n1_; (try clear hb); (try clear hb2); (try clear hk); (try clear hi); (try clear ho0)) | (go_at_call 50; (with_reducible refine (amphoraref08_Pieces.calls k a1 t271 _ ?side1 A4.out).mono ?_); (case side1 => first | exact HGL.out | exact Gl.drewN HGL.out _ | exact Gl.of HGL.out (by repeat (first | (with_reducible first | exact HB.out | apply below_alloc | apply pw_below_drewN | apply below_drew1) | exact HB.out))); rintro e w6 ⟨v272, rfl, ho0, hb⟩; have n0_ := Aside0.mk (Kd.R_elder' (by (with_reducible repeat (first | apply Kd.R_alloc | apply Kd.R_drewN | apply Kd.R_drew)); exact HO270.out) (Kd.R_base ho0) hb); have n1_ := Aside0.mk (Kd.R_lower (Kd.R_new' ho0 (Kd.R_lt (by (with_reducible repeat (first | apply Kd.R_alloc | apply Kd.R_drewN | apply Kd.R_drew)); exact HO270.out))) (below_size (by repeat (first | (with_reducible first | exact HB.out | apply below_alloc | apply pw_below_drewN | apply below_drew1) | exact HB.out)))); have n2_ := Aside0.mk (below_step (by repeat (first | (with_reducible first | exact HB.out | apply below_alloc | apply pw_below_drewN | apply below_drew1) | exact HB.out)) hb); clear HO270; clear HB; have HO270 := n0_; have HO273 := n1_; have HB := n2_; clear n0_ n1_ n2_; (try clear hb); (try clear hb2); (try clear hk); (try clear hi); (try clear ho0)))
  repeat (go_quiet (first | (go_at_call 50; (with_reducible refine (amphoraref08_Pieces.calls k a0 t268 _ ?side1 A3.out).mono ?_); (case side1 => first | exact HGL.out | exact Gl.drewN HGL.out _ | exact Gl.of HGL.out (by repeat (first | (with_reducible first | exact HB.out | apply below_alloc | apply pw_below_drewN | apply below_drew1) | exact HB.out))); rintro e w5 ⟨v269, rfl, ho0, hb⟩; have n0_ := Aside0.mk (Kd.R_lower ho0 (below_size (by repeat (first | (with_reducible first | exact HB.out | apply below_alloc | apply pw_below_drewN | apply below_drew1) | exact HB.out)))); have n1_ := Aside0.mk (below_step (by repeat (first | (with_reducible first | exact HB.out | apply below_alloc | apply pw_below_drewN | apply below_drew1) | exact HB.out)) hb); clear HB; have HO270 := n0_; have HB := n1_; clear n0_ n1_; (try clear hb); (try clear hb2); (try clear hk); (try clear hi); (try clear ho0)) | (go_at_call 50; (with_reducible refine (amphoraref08_Pieces.calls k a1 t271 _ ?side1 A4.out).mono ?_); (case side1 => first | exact HGL.out | exact Gl.drewN HGL.out _ | exact Gl.of HGL.out (by repeat (first | (with_reducible first | exact HB.out | apply below_alloc | apply pw_below_drewN | apply below_drew1) | exact HB.out))); rintro e w6 ⟨v272, rfl, ho0, hb⟩; have n0_ := Aside0.mk (Kd.R_elder' (by (with_reducible repeat (first | apply Kd.R_alloc | apply Kd.R_drewN | apply Kd.R_drew)); exact HO270.out) (Kd.R_base ho0) hb); have n1_ := Aside0.mk (Kd.R_lower (Kd.R_new' ho0 (Kd.R_lt (by (with_reducible repeat (first | apply Kd.R_alloc | apply Kd.R_drewN | apply Kd.R_drew)); exact HO270.out))) (below_size (by repeat (first | (with_reducible first | exact HB.out | apply below_alloc | apply pw_below_drewN | apply below_drew1) | exact HB.out)))); have n2_ := Aside0.mk (below_step (by repeat (first | (with_reducible first | exact HB.out | apply below_alloc | apply pw_below_drewN | apply below_drew1) | exact HB.out)) hb); clear HO270; clear HB; have HO270 := n0_; have HO273 := n1_; have HB := n2_; clear n0_ n1_ n2_; (try clear hb); (try clear hb2); (try clear hk); (try clear hi); (try clear ho0))); try go_wp2_with (first | (go_at_call 50; (with_reducible refine (amphoraref08_Pieces.calls k a0 t268 _ ?side1 A3.out).mono ?_); (case side1 => first | exact HGL.out | exact Gl.drewN HGL.out _ | exact Gl.of HGL.out (by repeat (first | (with_reducible first | exact HB.out | apply below_alloc | apply pw_below_drewN | apply below_drew1) | exact HB.out))); rintro e w5 ⟨v269, rfl, ho0, hb⟩; have n0_ := Aside0.mk (Kd.R_lower ho0 (below_size (by repeat (first | (with_reducible first | exact HB.out | apply below_alloc | apply pw_below_drewN | apply below_drew1) | exact HB.out)))); have n1_ := Aside0.mk (below_step (by repeat (first | (with_reducible first | exact HB.out | apply below_alloc | apply pw_below_drewN | apply below_drew1) | exact HB.out)) hb); clear HB; have HO270 := n0_; have HB := n1_; clear n0_ n1_; (try clear hb); (try clear hb2); (try clear hk); (try clear hi); (try clear ho0)) | (go_at_call 50; (with_reducible refine (amphoraref08_Pieces.calls k a1 t271 _ ?side1 A4.out).mono ?_); (case side1 => first | exact HGL.out | exact Gl.drewN HGL.out _ | exact Gl.of HGL.out (by repeat (first | (with_reducible first | exact HB.out | apply below_alloc | apply pw_below_drewN | apply below_drew1) | exact HB.out))); rintro e w6 ⟨v272, rfl, ho0, hb⟩; have n0_ := Aside0.mk (Kd.R_elder' (by (with_reducible repeat (first | apply Kd.R_alloc | apply Kd.R_drewN | apply Kd.R_drew)); exact HO270.out) (Kd.R_base ho0) hb); have n1_ := Aside0.mk (Kd.R_lower (Kd.R_new' ho0 (Kd.R_lt (by (with_reducible repeat (first | apply Kd.R_alloc | apply Kd.R_drewN | apply Kd.R_drew)); exact HO270.out))) (below_size (by repeat (first | (with_reducible first | exact HB.out | apply below_alloc | apply pw_below_drewN | apply below_drew1) | exact HB.out)))); have n2_ := Aside0.mk (below_step (by repeat (first | (with_reducible first | exact HB.out | apply below_alloc | apply pw_below_drewN | apply below_drew1) | exact HB.out)) hb); clear HO270; clear HB; have HO270 := n0_; have HO273 := n1_; have HB := n2_; clear n0_ n1_ n2_; (try clear hb); (try clear hb2); (try clear hk); (try clear hi); (try clear ho0))))
  go_loopg [7] k (fun kq v7 w' => ∃ (x7_1 : Int), v7 = .int .i64 x7_1 ∧ Aside0 (amphoraref08_Compare.l0 kq t268 t271 x7_1 = some r) ∧ Aside0 (kq ≤ k) ∧ Aside0 (Kd.R Kd.string 9 w' w.heap.size (fun k_ => some k_ ≠ (v272 : Value).ownBlock) v269 t268) ∧ Aside0 (Kd.R Kd.string 9 w' w.heap.size (fun k_ => some k_ ≠ (v269 : Value).ownBlock) v272 t271) ∧ Aside0 (Below w.heap.size w w'))
  case atStart => exact ⟨(0), (by first | rfl | (simp; done) | (simp [*]; done)), H', ⟨Nat.le_refl _⟩, ⟨by (with_reducible repeat (first | apply Kd.R_alloc | apply Kd.R_drewN | apply Kd.R_drew)); exact Kd.R_mono HO270.out (fun _ hk => hk.2)⟩, ⟨by (with_reducible repeat (first | apply Kd.R_alloc | apply Kd.R_drewN | apply Kd.R_drew)); exact Kd.R_mono HO273.out (fun _ hk => hk.2)⟩, ⟨by repeat (first | (with_reducible first | exact HB.out | apply below_alloc | apply pw_below_drewN | apply below_drew1) | exact HB.out)⟩⟩
  case round =>
    clear H'
    try clear p2
    try clear c4
    obtain ⟨x7_1, rfl, HA, HK1, HO_5, HO_6, HB⟩ := hrel
    cases gk with
    | zero => exact absurd HA.out (by simp [amphoraref08_Compare.l0])
    | succ k1 =>
      have H := HA.out
      clear HA
      simp only [amphoraref08_Compare.l0] at H
      have HC7 := Aside0.mk H
      clear H
      go_upto_region 4 with (fail)
      repeat (go_quiet (fail); go_upto_region 4 with (fail))
      go_cut [21] (fun v21 wc => ∃ (kq : Nat) (x21_6 : Bool), v21 = .bool x21_6 ∧ Aside0 (amphoraref08_Compare.j1 kq t268 t271 x7_1 x21_6 = some r) ∧ Aside0 (kq ≤ k1) ∧ Aside0 (Kd.R Kd.string 9 wc w.heap.size (fun k_ => some k_ ≠ (v272 : Value).ownBlock) v269 t268) ∧ Aside0 (Kd.R Kd.string 9 wc w.heap.size (fun k_ => some k_ ≠ (v269 : Value).ownBlock) v272 t271) ∧ Aside0 (Below w.heap.size w wc))
      case first =>
        have H := HC7.out
        clear HC7
        by_cases c8 : x7_1 < (t268.length : Int)
        · rw [if_pos c8] at H
          have c8b0 : decide (x7_1 < (t268.length : Int)) = true := decide_eq_true c8
          clear c8
          (first | rw [c8b0] | (simp only [i64_w, i32_w]; rw [c8b0]) | rw [c8b1] | skip)
          have H' := Aside0.mk H
          clear H
          obtain ⟨Ao9, co9, eo9⟩ := Kd.R_slice HO_5.out
          subst eo9
          obtain ⟨Ao10, co10, eo10⟩ := Kd.R_slice HO_6.out
          subst eo10
          go_wp2
          repeat (go_quiet (fail); try go_wp2)
          go_meet
          case rel => exact ⟨_, (decide (x7_1 < (t271.length : Int))), (by first | rfl | (simp; done) | (simp [*]; done)), H', ⟨by have := HK1.out; first | omega | exact Nat.le_refl _⟩, ⟨by (with_reducible repeat (first | apply Kd.R_alloc | apply Kd.R_drewN | apply Kd.R_drew)); exact HO_5.out⟩, ⟨by (with_reducible repeat (first | apply Kd.R_alloc | apply Kd.R_drewN | apply Kd.R_drew)); exact HO_6.out⟩, ⟨by repeat (first | (with_reducible first | exact HB.out | apply below_alloc | apply pw_below_drewN | apply below_drew1) | exact HB.out)⟩⟩
        · rw [if_neg c8] at H
          have c8b0 : decide (x7_1 < (t268.length : Int)) = false := decide_eq_false c8
          clear c8
          (first | rw [c8b0] | (simp only [i64_w, i32_w]; rw [c8b0]) | rw [c8b1] | skip)
          have H' := Aside0.mk H
          clear H
          obtain ⟨Ao11, co11, eo11⟩ := Kd.R_slice HO_5.out
          subst eo11
          go_wp2
          repeat (go_quiet (fail); try go_wp2)
          go_meet
          case rel => exact ⟨_, (false), (by first | rfl | (simp; done) | (simp [*]; done)), H', ⟨by have := HK1.out; first | omega | exact Nat.le_refl _⟩, ⟨by (with_reducible repeat (first | apply Kd.R_alloc | apply Kd.R_drewN | apply Kd.R_drew)); exact HO_5.out⟩, ⟨by (with_reducible repeat (first | apply Kd.R_alloc | apply Kd.R_drewN | apply Kd.R_drew)); exact HO_6.out⟩, ⟨by repeat (first | (with_reducible first | exact HB.out | apply below_alloc | apply pw_below_drewN | apply below_drew1) | exact HB.out)⟩⟩
      case rest =>
        clear HC7
        try clear p2
        try clear c4
        try clear c8
        try clear c8b0
        try clear p2
        obtain ⟨kq, x21_6, rfl, HA, HJ6, HO_5, HO_6, HB⟩ := hcut
        cases kq with
        | zero => exact absurd HA.out (by simp [amphoraref08_Compare.j1])
        | succ kj6 =>
          have H := HA.out
          clear HA
          simp only [amphoraref08_Compare.j1] at H
          by_cases c12 : x21_6 = true
          · subst c12
            have H1 : (if 0 ≤ x7_1 then (if x7_1 < (t268.length : Int) then (if x7_1 < (t271.length : Int) then (if (Op.bytesLess ((rdOf ByteArray.empty t268 x7_1).toList) ((rdOf ByteArray.empty t271 x7_1).toList)) = true then (some (-1)) else (if (Op.bytesLess ((rdOf ByteArray.empty t271 x7_1).toList) ((rdOf ByteArray.empty t268 x7_1).toList)) = true then (some 1) else (amphoraref08_Compare.l0 kj6 t268 t271 (wrap64 (x7_1 + 1))))) else (none)) else (none)) else (none)) = some r := by rw [if_pos rfl] at H; exact H
            clear H
            have H := H1
            clear H1
            by_cases c13 : 0 ≤ x7_1
            · rw [if_pos c13] at H
              have c13b0 : decide (0 ≤ x7_1) = true := decide_eq_true c13
              clear c13
              by_cases c14 : x7_1 < (t268.length : Int)
              · rw [if_pos c14] at H
                have c14b0 : decide (x7_1 < (t268.length : Int)) = true := decide_eq_true c14
                clear c14
                by_cases c15 : x7_1 < (t271.length : Int)
                · rw [if_pos c15] at H
                  have c15b0 : decide (x7_1 < (t271.length : Int)) = true := decide_eq_true c15
                  clear c15
                  by_cases c16 : (Op.bytesLess ((rdOf ByteArray.empty t268 x7_1).toList) ((rdOf ByteArray.empty t271 x7_1).toList)) = true
                  · rw [if_pos c16] at H
                    have c16b0 : (Op.bytesLess ((rdOf ByteArray.empty t268 x7_1).toList) ((rdOf ByteArray.empty t271 x7_1).toList)) = true := c16
                    have c16b1 : (Op.bytesLess ((rdOf ByteArray.empty t271 x7_1).toList) ((rdOf ByteArray.empty t268 x7_1).toList) || ((rdOf ByteArray.empty t271 x7_1).toList) == ((rdOf ByteArray.empty t268 x7_1).toList)) = false := by rw [leq_law, c16b0]; rfl
                    have c16b2 : (((rdOf ByteArray.empty t271 x7_1).toList) == ((rdOf ByteArray.empty t268 x7_1).toList)) = false := (Bool.or_eq_false_iff.1 c16b1).2
                    (try have c16b3 : (((rdOf ByteArray.empty t268 x7_1).toList) == ((rdOf ByteArray.empty t271 x7_1).toList)) = _ := (by rw [Bool.beq_comm]; exact c16b2))
                    clear c16
                    obtain rfl := Option.some.inj H
                    obtain ⟨Ao17, co17, eo17⟩ := Kd.R_slice HO_5.out
                    subst eo17
                    have p274 : 0 ≤ (x7_1 : Int) := of_decide_eq_true (by first | (with_reducible assumption) | assumption)
                    have q274 : x7_1 < (t268.length : Int) := of_decide_eq_true (by first | (with_reducible assumption) | assumption)
                    obtain ⟨ad274, e274, hx274_0⟩ := Kd.at_string (Kd.R_reads' HO_5.out).2.2 x7_1 p274 q274
                    cases e274
                    replace p274 := eq_true p274
                    replace q274 := eq_true q274
                    obtain ⟨Ao18, co18, eo18⟩ := Kd.R_slice HO_6.out
                    subst eo18
                    have p275 : 0 ≤ (x7_1 : Int) := of_decide_eq_true (by first | (with_reducible assumption) | assumption)
                    have q275 : x7_1 < (t271.length : Int) := of_decide_eq_true (by first | (with_reducible assumption) | assumption)
                    obtain ⟨ad275, e275, hx275_0⟩ := Kd.at_string (Kd.R_reads' HO_6.out).2.2 x7_1 p275 q275
                    cases e275
                    replace p275 := eq_true p275
                    replace q275 := eq_true q275
                    go_wp2
                    repeat (go_quiet (fail); try go_wp2)
                    go_ret
                    exact ⟨by first | rfl | (simp [errW_none, errW_some] <;> rfl) | (simp [*, errW_none, errW_some] <;> rfl), by repeat (first | (with_reducible first | exact HB.out | apply below_alloc | apply pw_below_drewN | apply below_drew1) | exact HB.out)⟩
                  · rw [if_neg c16] at H
                    have c16b0 : (Op.bytesLess ((rdOf ByteArray.empty t268 x7_1).toList) ((rdOf ByteArray.empty t271 x7_1).toList)) = false := by simpa using c16
                    have c16b1 : (Op.bytesLess ((rdOf ByteArray.empty t271 x7_1).toList) ((rdOf ByteArray.empty t268 x7_1).toList) || ((rdOf ByteArray.empty t271 x7_1).toList) == ((rdOf ByteArray.empty t268 x7_1).toList)) = true := by rw [leq_law, c16b0]; rfl
                    (try have c16b2 : (((rdOf ByteArray.empty t271 x7_1).toList) == ((rdOf ByteArray.empty t268 x7_1).toList)) = true := (by have h_ := c16b1; rw [show Op.bytesLess ((rdOf ByteArray.empty t271 x7_1).toList) ((rdOf ByteArray.empty t268 x7_1).toList) = false from (by assumption), Bool.false_or] at h_; exact h_))
                    (try have c16b3 : (((rdOf ByteArray.empty t268 x7_1).toList) == ((rdOf ByteArray.empty t271 x7_1).toList)) = _ := (by rw [Bool.beq_comm]; exact c16b2))
                    clear c16
                    by_cases c19 : (Op.bytesLess ((rdOf ByteArray.empty t271 x7_1).toList) ((rdOf ByteArray.empty t268 x7_1).toList)) = true
                    · rw [if_pos c19] at H
                      have c19b0 : (Op.bytesLess ((rdOf ByteArray.empty t271 x7_1).toList) ((rdOf ByteArray.empty t268 x7_1).toList)) = true := c19
                      have c19b1 : (Op.bytesLess ((rdOf ByteArray.empty t268 x7_1).toList) ((rdOf ByteArray.empty t271 x7_1).toList) || ((rdOf ByteArray.empty t268 x7_1).toList) == ((rdOf ByteArray.empty t271 x7_1).toList)) = false := by rw [leq_law, c19b0]; rfl
                      have c19b2 : (((rdOf ByteArray.empty t268 x7_1).toList) == ((rdOf ByteArray.empty t271 x7_1).toList)) = false := (Bool.or_eq_false_iff.1 c19b1).2
                      (try have c19b3 : (((rdOf ByteArray.empty t271 x7_1).toList) == ((rdOf ByteArray.empty t268 x7_1).toList)) = _ := (by rw [Bool.beq_comm]; exact c19b2))
                      clear c19
                      obtain rfl := Option.some.inj H
                      obtain ⟨Ao20, co20, eo20⟩ := Kd.R_slice HO_5.out
                      subst eo20
                      have p274 : 0 ≤ (x7_1 : Int) := of_decide_eq_true (by first | (with_reducible assumption) | assumption)
                      have q274 : x7_1 < (t268.length : Int) := of_decide_eq_true (by first | (with_reducible assumption) | assumption)
                      obtain ⟨ad274, e274, hx274_0⟩ := Kd.at_string (Kd.R_reads' HO_5.out).2.2 x7_1 p274 q274
                      cases e274
                      replace p274 := eq_true p274
                      replace q274 := eq_true q274
                      obtain ⟨Ao21, co21, eo21⟩ := Kd.R_slice HO_6.out
                      subst eo21
                      have p275 : 0 ≤ (x7_1 : Int) := of_decide_eq_true (by first | (with_reducible assumption) | assumption)
                      have q275 : x7_1 < (t271.length : Int) := of_decide_eq_true (by first | (with_reducible assumption) | assumption)
                      obtain ⟨ad275, e275, hx275_0⟩ := Kd.at_string (Kd.R_reads' HO_6.out).2.2 x7_1 p275 q275
                      cases e275
                      replace p275 := eq_true p275
                      replace q275 := eq_true q275
                      have p276 : 0 ≤ (x7_1 : Int) := of_decide_eq_true (by first | (with_reducible assumption) | assumption)
                      have q276 : x7_1 < (t268.length : Int) := of_decide_eq_true (by first | (with_reducible assumption) | assumption)
                      obtain ⟨ad276, e276, hx276_0⟩ := Kd.at_string (Kd.R_reads' HO_5.out).2.2 x7_1 p276 q276
                      obtain rfl : ad274 = ad276 := (by injection e276)
                      replace p276 := eq_true p276
                      replace q276 := eq_true q276
                      have p277 : 0 ≤ (x7_1 : Int) := of_decide_eq_true (by first | (with_reducible assumption) | assumption)
                      have q277 : x7_1 < (t271.length : Int) := of_decide_eq_true (by first | (with_reducible assumption) | assumption)
                      obtain ⟨ad277, e277, hx277_0⟩ := Kd.at_string (Kd.R_reads' HO_6.out).2.2 x7_1 p277 q277
                      obtain rfl : ad275 = ad277 := (by injection e277)
                      replace p277 := eq_true p277
                      replace q277 := eq_true q277
                      go_wp2
                      repeat (go_quiet (fail); try go_wp2)
                      go_ret
                      exact ⟨by first | rfl | (simp [errW_none, errW_some] <;> rfl) | (simp [*, errW_none, errW_some] <;> rfl), by repeat (first | (with_reducible first | exact HB.out | apply below_alloc | apply pw_below_drewN | apply below_drew1) | exact HB.out)⟩
                    · rw [if_neg c19] at H
                      have c19b0 : (Op.bytesLess ((rdOf ByteArray.empty t271 x7_1).toList) ((rdOf ByteArray.empty t268 x7_1).toList)) = false := by simpa using c19
                      have c19b1 : (Op.bytesLess ((rdOf ByteArray.empty t268 x7_1).toList) ((rdOf ByteArray.empty t271 x7_1).toList) || ((rdOf ByteArray.empty t268 x7_1).toList) == ((rdOf ByteArray.empty t271 x7_1).toList)) = true := by rw [leq_law, c19b0]; rfl
                      (try have c19b2 : (((rdOf ByteArray.empty t268 x7_1).toList) == ((rdOf ByteArray.empty t271 x7_1).toList)) = true := (by have h_ := c19b1; rw [show Op.bytesLess ((rdOf ByteArray.empty t268 x7_1).toList) ((rdOf ByteArray.empty t271 x7_1).toList) = false from (by assumption), Bool.false_or] at h_; exact h_))
                      (try have c19b3 : (((rdOf ByteArray.empty t271 x7_1).toList) == ((rdOf ByteArray.empty t268 x7_1).toList)) = _ := (by rw [Bool.beq_comm]; exact c19b2))
                      clear c19
                      have H' := Aside0.mk H
                      clear H
                      obtain ⟨Ao22, co22, eo22⟩ := Kd.R_slice HO_5.out
                      subst eo22
                      have p274 : 0 ≤ (x7_1 : Int) := of_decide_eq_true (by first | (with_reducible assumption) | assumption)
                      have q274 : x7_1 < (t268.length : Int) := of_decide_eq_true (by first | (with_reducible assumption) | assumption)
                      obtain ⟨ad274, e274, hx274_0⟩ := Kd.at_string (Kd.R_reads' HO_5.out).2.2 x7_1 p274 q274
                      cases e274
                      replace p274 := eq_true p274
                      replace q274 := eq_true q274
                      obtain ⟨Ao23, co23, eo23⟩ := Kd.R_slice HO_6.out
                      subst eo23
                      have p275 : 0 ≤ (x7_1 : Int) := of_decide_eq_true (by first | (with_reducible assumption) | assumption)
                      have q275 : x7_1 < (t271.length : Int) := of_decide_eq_true (by first | (with_reducible assumption) | assumption)
                      obtain ⟨ad275, e275, hx275_0⟩ := Kd.at_string (Kd.R_reads' HO_6.out).2.2 x7_1 p275 q275
                      cases e275
                      replace p275 := eq_true p275
                      replace q275 := eq_true q275
                      have p276 : 0 ≤ (x7_1 : Int) := of_decide_eq_true (by first | (with_reducible assumption) | assumption)
                      have q276 : x7_1 < (t268.length : Int) := of_decide_eq_true (by first | (with_reducible assumption) | assumption)
                      obtain ⟨ad276, e276, hx276_0⟩ := Kd.at_string (Kd.R_reads' HO_5.out).2.2 x7_1 p276 q276
                      obtain rfl : ad274 = ad276 := (by injection e276)
                      replace p276 := eq_true p276
                      replace q276 := eq_true q276
                      have p277 : 0 ≤ (x7_1 : Int) := of_decide_eq_true (by first | (with_reducible assumption) | assumption)
                      have q277 : x7_1 < (t271.length : Int) := of_decide_eq_true (by first | (with_reducible assumption) | assumption)
                      obtain ⟨ad277, e277, hx277_0⟩ := Kd.at_string (Kd.R_reads' HO_6.out).2.2 x7_1 p277 q277
                      obtain rfl : ad275 = ad277 := (by injection e277)
                      replace p277 := eq_true p277
                      replace q277 := eq_true q277
                      go_wp2
                      repeat (go_quiet (fail); try go_wp2)
                      go_roundg kj6
                      case measure => have := HK1.out; have := HJ6.out; omega
                      case rel => exact ⟨(wrap64 (x7_1 + 1)), (by first | rfl | (simp; done) | (simp [*]; done)), H', ⟨by have := HK1.out; have := HJ6.out; omega⟩, ⟨by (with_reducible repeat (first | apply Kd.R_alloc | apply Kd.R_drewN | apply Kd.R_drew)); exact HO_5.out⟩, ⟨by (with_reducible repeat (first | apply Kd.R_alloc | apply Kd.R_drewN | apply Kd.R_drew)); exact HO_6.out⟩, ⟨by repeat (first | (with_reducible first | exact HB.out | apply below_alloc | apply pw_below_drewN | apply below_drew1) | exact HB.out)⟩⟩
                · rw [if_neg c15] at H
                  exact absurd H (by simp)
              · rw [if_neg c14] at H
                exact absurd H (by simp)
            · rw [if_neg c13] at H
              exact absurd H (by simp)
          · replace c12 := Bool.eq_false_iff.mpr c12
            subst c12
            have H1 : (if (t268.length : Int) < (t271.length : Int) then (some (-1)) else (if (t268.length : Int) > (t271.length : Int) then (some 1) else (some 0))) = some r := by rw [if_neg (show ¬ (false = true) by decide)] at H; exact H
            clear H
            have H := H1
            clear H1
            by_cases c24 : (t268.length : Int) < (t271.length : Int)
            · rw [if_pos c24] at H
              have c24b0 : decide ((t268.length : Int) < (t271.length : Int)) = true := decide_eq_true c24
              have c24b1 : decide (t268.length < t271.length) = true := decide_eq_true (Int.ofNat_lt.mp c24)
              clear c24
              obtain rfl := Option.some.inj H
              obtain ⟨Ao25, co25, eo25⟩ := Kd.R_slice HO_5.out
              subst eo25
              obtain ⟨Ao26, co26, eo26⟩ := Kd.R_slice HO_6.out
              subst eo26
              go_wp2
              repeat (go_quiet (fail); try go_wp2)
              go_ret
              exact ⟨by first | rfl | (simp [errW_none, errW_some] <;> rfl) | (simp [*, errW_none, errW_some] <;> rfl), by repeat (first | (with_reducible first | exact HB.out | apply below_alloc | apply pw_below_drewN | apply below_drew1) | exact HB.out)⟩
            · rw [if_neg c24] at H
              have c24b0 : decide ((t268.length : Int) < (t271.length : Int)) = false := decide_eq_false c24
              have c24b1 : decide (t268.length < t271.length) = false := decide_eq_false (fun h => c24 (Int.ofNat_lt.mpr h))
              clear c24
              by_cases c27 : (t268.length : Int) > (t271.length : Int)
              · rw [if_pos c27] at H
                have c27b0 : decide ((t271.length : Int) < (t268.length : Int)) = true := decide_eq_true c27
                have c27b1 : decide (t271.length < t268.length) = true := decide_eq_true (Int.ofNat_lt.mp c27)
                clear c27
                obtain rfl := Option.some.inj H
                obtain ⟨Ao28, co28, eo28⟩ := Kd.R_slice HO_5.out
                subst eo28
                obtain ⟨Ao29, co29, eo29⟩ := Kd.R_slice HO_6.out
                subst eo29
                go_wp2
                repeat (go_quiet (fail); try go_wp2)
                go_ret
                exact ⟨by first | rfl | (simp [errW_none, errW_some] <;> rfl) | (simp [*, errW_none, errW_some] <;> rfl), by repeat (first | (with_reducible first | exact HB.out | apply below_alloc | apply pw_below_drewN | apply below_drew1) | exact HB.out)⟩
              · rw [if_neg c27] at H
                have c27b0 : decide ((t271.length : Int) < (t268.length : Int)) = false := decide_eq_false c27
                have c27b1 : decide (t271.length < t268.length) = false := decide_eq_false (fun h => c27 (Int.ofNat_lt.mpr h))
                clear c27
                obtain rfl := Option.some.inj H
                obtain ⟨Ao30, co30, eo30⟩ := Kd.R_slice HO_5.out
                subst eo30
                obtain ⟨Ao31, co31, eo31⟩ := Kd.R_slice HO_6.out
                subst eo31
                go_wp2
                repeat (go_quiet (fail); try go_wp2)
                go_ret
                exact ⟨by first | rfl | (simp [errW_none, errW_some] <;> rfl) | (simp [*, errW_none, errW_some] <;> rfl), by repeat (first | (with_reducible first | exact HB.out | apply below_alloc | apply pw_below_drewN | apply below_drew1) | exact HB.out)⟩

/-! ### amphoraref09_kind: function 41 -/
def amphoraref09_kind.l0 : Nat → List (S28) → Int → ByteArray → Int → Option (Int)
  | 0, _, _, _, _ => none
  | k + 1, x0, x1, x2, x7 => if x7 < x1 then (if 0 ≤ x7 then (if x7 < (x0.length : Int) then (if ((rd_T28 x0 x7).f0).toList = x2.toList then (some ((rd_T28 x0 x7).f1)) else (amphoraref09_kind.l0 k x0 x1 x2 (wrap64 (x7 + 1)))) else (none)) else (none)) else (some 0)
def amphoraref09_kind.f (k : Nat) (l0 : List (S28)) (a1 : Int) (a2 : ByteArray) : Option (Int) := amphoraref09_kind.l0 k l0 a1 a2 0
theorem amphoraref09_kind.mono_l : ∀ k, (∀ y0 y1 y2 y3, LeO (amphoraref09_kind.l0 k y0 y1 y2 y3) (amphoraref09_kind.l0 (k + 1) y0 y1 y2 y3))
  | 0 => fun _ _ _ _ r h => by simp [amphoraref09_kind.l0] at h
  | k + 1 => by
    have ih0 := amphoraref09_kind.mono_l k
    · intro y0 y1 y2 y3
      unfold amphoraref09_kind.l0
      repeat' first
      | (with_reducible exact ih0 _ _ _ _)
      | (with_reducible exact LeO.refl _)
      | (with_reducible exact LeO.none _)
      | (with_reducible refine LeO.ite ?_ ?_)
      | (with_reducible refine LeO.bind ?_ (fun _ => ?_))
      | exact ih0 _ _ _ _
      | exact LeO.none _
      | refine LeO.ite ?_ ?_
      | refine LeO.bind ?_ (fun _ => ?_)
theorem amphoraref09_kind.mono : ∀ a0 a1 a2 k, LeO (amphoraref09_kind.f k a0 a1 a2) (amphoraref09_kind.f (k + 1) a0 a1 a2) := by
  intro a0 a1 a2 k
  have ih0 := amphoraref09_kind.mono_l k
  unfold amphoraref09_kind.f
  repeat' first
      | (with_reducible exact ih0 _ _ _ _)
      | (with_reducible exact LeO.refl _)
      | (with_reducible exact LeO.none _)
      | (with_reducible refine LeO.ite ?_ ?_)
      | (with_reducible refine LeO.bind ?_ (fun _ => ?_))
      | exact ih0 _ _ _ _
      | exact LeO.none _
      | refine LeO.ite ?_ ?_
      | refine LeO.bind ?_ (fun _ => ?_)
set_option maxHeartbeats 8000000 in
set_option maxRecDepth 100000 in
theorem amphoraref09_kind.calls (k : Nat) (A0 : Option Addr) (c0 : Nat) (l0 : List (S28)) (a1 : Int) (a2 : ByteArray) (r : Int) (w : World) (hr0 : Kd.C k28 w A0 l0.length l0) (hc0 : l0.length ≤ c0) (hGl : Gl w) (h : amphoraref09_kind.f k l0 a1 a2 = some r) :
    Calls Tryz.prog 41 #[.slice A0 l0.length c0, .int .i64 a1, .string a2] w fun e w' => e = .returned (.int .i64 r) ∧ Drawn0 w w' := by
  have HR0 := Aside0.mk hr0
  have HC0 := Aside0.mk hc0
  clear hr0 hc0
  have HGL := Aside0.mk hGl
  clear hGl
  have H : (amphoraref09_kind.l0 k l0 a1 a2 0) = some r := h
  clear h
  have H' := Aside0.mk H
  clear H
  go_enter Tryz.func41, Tryz.ntmps41
  go_wp2
  go_loopg [7] k (fun kq v7 w' => ∃ (x7_1 : Int), v7 = .int .i64 x7_1 ∧ Aside0 (amphoraref09_kind.l0 kq l0 a1 a2 x7_1 = some r) ∧ Aside0 (kq ≤ k) ∧ Drawn0 w w')
  case atStart => exact ⟨(0), (by first | rfl | (simp; done) | (simp [*]; done)), H', ⟨Nat.le_refl _⟩, by repeat (first | exact Drawn0.refl _ | apply Drawn0.step)⟩
  case round =>
    clear H'
    try clear p2
    obtain ⟨x7_1, rfl, HA, HK1, ⟨m1, rfl⟩⟩ := hrel
    cases gk with
    | zero => exact absurd HA.out (by simp [amphoraref09_kind.l0])
    | succ k1 =>
      have H := HA.out
      clear HA
      simp only [amphoraref09_kind.l0] at H
      by_cases c4 : x7_1 < a1
      · rw [if_pos c4] at H
        have c4b0 : decide (x7_1 < a1) = true := decide_eq_true c4
        clear c4
        by_cases c5 : 0 ≤ x7_1
        · rw [if_pos c5] at H
          have c5b0 : decide (0 ≤ x7_1) = true := decide_eq_true c5
          clear c5
          by_cases c6 : x7_1 < (l0.length : Int)
          · rw [if_pos c6] at H
            have c6b0 : decide (x7_1 < (l0.length : Int)) = true := decide_eq_true c6
            clear c6
            by_cases c7 : ((rd_T28 l0 x7_1).f0).toList = a2.toList
            · rw [if_pos c7] at H
              have c7b0 : (((rd_T28 l0 x7_1).f0).toList == a2.toList) = true := beq_iff_eq.mpr c7
              have c7b1 : (((rd_T28 l0 x7_1).f0).toList != a2.toList) = false := bne_eq_false_iff_eq.mpr c7
              clear c7
              obtain rfl := Option.some.inj H
              have p278 : 0 ≤ (x7_1 : Int) := of_decide_eq_true (by first | (with_reducible assumption) | assumption)
              have q278 : x7_1 < (l0.length : Int) := of_decide_eq_true (by first | (with_reducible assumption) | assumption)
              obtain ⟨ad278, A278_7, c278_7, e278, hx278_0, hx278_1, hx278_2, hx278_3, hx278_4, hx278_5, hx278_6, hx278_7, hl278_7, hi278_7⟩ := at_T28 HR0.out x7_1 p278 q278
              cases e278
              have HR278_7 := Aside0.mk hi278_7
              have HC278_7 := Aside0.mk hl278_7
              clear hi278_7 hl278_7
              replace p278 := eq_true p278
              replace q278 := eq_true q278
              have p279 : 0 ≤ (x7_1 : Int) := of_decide_eq_true (by first | (with_reducible assumption) | assumption)
              have q279 : x7_1 < (l0.length : Int) := of_decide_eq_true (by first | (with_reducible assumption) | assumption)
              obtain ⟨ad279, A279_7, c279_7, e279, hx279_0, hx279_1, hx279_2, hx279_3, hx279_4, hx279_5, hx279_6, hx279_7, hl279_7, hi279_7⟩ := at_T28 HR0.out x7_1 p279 q279
              obtain rfl : ad278 = ad279 := (by injection e279)
              have HR279_7 := Aside0.mk hi279_7
              have HC279_7 := Aside0.mk hl279_7
              clear hi279_7 hl279_7
              replace p279 := eq_true p279
              replace q279 := eq_true q279
              have ea_ := Option.some.inj (hx278_7.symm.trans hx279_7)
              injection ea_ with ea_ en_ ec_
              subst ea_
              subst ec_
              clear en_
              go_wp2
              go_ret
              exact ⟨by first | rfl | (simp; done) | (simp [*]; done), by repeat (first | exact Drawn0.refl _ | apply Drawn0.step)⟩
            · rw [if_neg c7] at H
              have c7b0 : (((rd_T28 l0 x7_1).f0).toList == a2.toList) = false := beq_eq_false_iff_ne.mpr c7
              have c7b1 : (((rd_T28 l0 x7_1).f0).toList != a2.toList) = true := bne_iff_ne.mpr c7
              have H' := Aside0.mk H
              clear H
              have p278 : 0 ≤ (x7_1 : Int) := of_decide_eq_true (by first | (with_reducible assumption) | assumption)
              have q278 : x7_1 < (l0.length : Int) := of_decide_eq_true (by first | (with_reducible assumption) | assumption)
              obtain ⟨ad278, A278_7, c278_7, e278, hx278_0, hx278_1, hx278_2, hx278_3, hx278_4, hx278_5, hx278_6, hx278_7, hl278_7, hi278_7⟩ := at_T28 HR0.out x7_1 p278 q278
              cases e278
              have HR278_7 := Aside0.mk hi278_7
              have HC278_7 := Aside0.mk hl278_7
              clear hi278_7 hl278_7
              replace p278 := eq_true p278
              replace q278 := eq_true q278
              go_wp2
              go_roundg k1
              case measure => have := HK1.out; omega
              case rel => exact ⟨(wrap64 (x7_1 + 1)), (by first | rfl | (simp; done) | (simp [*]; done)), H', ⟨by have := HK1.out; omega⟩, by repeat (first | exact Drawn0.refl _ | apply Drawn0.step)⟩
          · rw [if_neg c6] at H
            exact absurd H (by simp)
        · rw [if_neg c5] at H
          exact absurd H (by simp)
      · rw [if_neg c4] at H
        have c4b0 : decide (x7_1 < a1) = false := decide_eq_false c4
        clear c4
        obtain rfl := Option.some.inj H
        go_wp2
        go_ret
        exact ⟨by first | rfl | (simp; done) | (simp [*]; done), by repeat (first | exact Drawn0.refl _ | apply Drawn0.step)⟩

end Go.Proofs.YtfkbmjfhakooiaaGreatDoor.PTree
