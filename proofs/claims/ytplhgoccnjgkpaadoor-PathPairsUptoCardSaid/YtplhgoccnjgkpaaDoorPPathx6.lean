/- Printed for this claim by a copy of the kit's print.py that takes functions walked by our own texts. Conditions: none. -/
import Derived.Test.YtplhgoccnjgkpaaDoorPPathx0
import Derived.Test.YtplhgoccnjgkpaaDoorPPathx2
import Derived.Test.YtplhgoccnjgkpaaDoorPPathx4
namespace Go.Proofs.YtplhgoccnjgkpaaDoor.PPath
open Go.RowKit Go.Proofs.YtplhgoccnjgkpaaDoorW.PrintWords Go.Proofs.YtplhgoccnjgkpaaDoorW.PrintLast Go.Proofs.YtplhgoccnjgkpaaDoorW.PrintMore
attribute [local go_sem] max2_int min2_int max_two min_two max_three min_three max_four min_four   -- for this text's walks alone
set_option linter.unusedVariables false
set_option linter.unusedSimpArgs false

private theorem leq_law : ∀ a b : List UInt8, (Op.bytesLess a b || a == b) = !(Op.bytesLess b a)
  | [], [] => rfl
  | [], _ :: _ => rfl
  | _ :: _, [] => rfl
  | a :: x, b :: y => by
    have ih := leq_law x y
    simp only [Op.bytesLess]
    rcases Nat.lt_trichotomy a.toNat b.toNat with h | h | h
    · have h1 : a < b := h
      have h2 : ¬ b < a := fun q => by have q : b.toNat < a.toNat := q; omega
      have h3 : ¬ b = a := fun q => by rw [q] at h; omega
      simp [h1, h2, h3]
    · obtain rfl := UInt8.toNat_inj.1 h
      have h2 : ¬ a < a := fun q => by have q : a.toNat < a.toNat := q; omega
      simp only [h2, decide_false, beq_self_eq_true, Bool.true_and, Bool.false_or]
      rw [← ih]; simp
    · have h1 : b < a := h
      have h2 : ¬ a < b := fun q => by have q : a.toNat < b.toNat := q; omega
      have h3 : ¬ a = b := fun q => by rw [q] at h; omega
      simp [h1, h2, h3]
/-! ### amphoraref08_Compare: function 17 -/
mutual
def amphoraref08_Compare.l0 : Nat → List ByteArray → List ByteArray → Int → Option (Int)
  | 0, _, _, _ => none
  | k + 1, x5, x6, x7 => if x7 < (x5.length : Int) then (amphoraref08_Compare.j1 k x5 x6 x7 (decide (x7 < (x6.length : Int)))) else (amphoraref08_Compare.j1 k x5 x6 x7 false)
def amphoraref08_Compare.j1 : Nat → List ByteArray → List ByteArray → Int → Bool → Option (Int)
  | 0, _, _, _, _ => none
  | k + 1, x5, x6, x7, x21 => if x21 = true then (if 0 ≤ x7 then (if x7 < (x5.length : Int) then (if x7 < (x6.length : Int) then (if (Op.bytesLess ((rdOf ByteArray.empty x5 x7).toList) ((rdOf ByteArray.empty x6 x7).toList)) = true then (some (-1)) else (if (Op.bytesLess ((rdOf ByteArray.empty x6 x7).toList) ((rdOf ByteArray.empty x5 x7).toList)) = true then (some 1) else (amphoraref08_Compare.l0 k x5 x6 (wrap64 (x7 + 1))))) else (none)) else (none)) else (none)) else (if (x5.length : Int) < (x6.length : Int) then (some (-1)) else (if (x5.length : Int) > (x6.length : Int) then (some 1) else (some 0)))
end
def amphoraref08_Compare.f (k : Nat) (a0 : ByteArray) (a1 : ByteArray) : Option (Int) := (amphoraref08_Pieces.f k a0).bind fun t207 => ((amphoraref08_Pieces.f k a1).bind fun t210 => (amphoraref08_Compare.l0 k t207 t210 0))
theorem amphoraref08_Compare.mono_l : ∀ k, (∀ y0 y1 y2, LeO (amphoraref08_Compare.l0 k y0 y1 y2) (amphoraref08_Compare.l0 (k + 1) y0 y1 y2)) ∧ (∀ y0 y1 y2 y3, LeO (amphoraref08_Compare.j1 k y0 y1 y2 y3) (amphoraref08_Compare.j1 (k + 1) y0 y1 y2 y3))
  | 0 => ⟨fun _ _ _ r h => by simp [amphoraref08_Compare.l0] at h, fun _ _ _ _ r h => by simp [amphoraref08_Compare.j1] at h⟩
  | k + 1 => by
    obtain ⟨ih0, ih1⟩ := amphoraref08_Compare.mono_l k
    refine ⟨?_, ?_⟩
    · intro y0 y1 y2
      unfold amphoraref08_Compare.l0
      repeat' first
      | (with_reducible exact ih0 _ _ _)
      | (with_reducible exact ih1 _ _ _ _)
      | (with_reducible exact amphoraref08_Pieces.mono _ _)
      | (with_reducible exact LeO.refl _)
      | (with_reducible exact LeO.none _)
      | (with_reducible refine LeO.ite ?_ ?_)
      | (with_reducible refine LeO.bind ?_ (fun _ => ?_))
      | exact ih0 _ _ _
      | exact ih1 _ _ _ _
      | exact amphoraref08_Pieces.mono _ _
      | exact LeO.none _
      | refine LeO.ite ?_ ?_
      | refine LeO.bind ?_ (fun _ => ?_)
    · intro y0 y1 y2 y3
      unfold amphoraref08_Compare.j1
      repeat' first
      | (with_reducible exact ih0 _ _ _)
      | (with_reducible exact ih1 _ _ _ _)
      | (with_reducible exact amphoraref08_Pieces.mono _ _)
      | (with_reducible exact LeO.refl _)
      | (with_reducible exact LeO.none _)
      | (with_reducible refine LeO.ite ?_ ?_)
      | (with_reducible refine LeO.bind ?_ (fun _ => ?_))
      | exact ih0 _ _ _
      | exact ih1 _ _ _ _
      | exact amphoraref08_Pieces.mono _ _
      | exact LeO.none _
      | refine LeO.ite ?_ ?_
      | refine LeO.bind ?_ (fun _ => ?_)
theorem amphoraref08_Compare.mono : ∀ a0 a1 k, LeO (amphoraref08_Compare.f k a0 a1) (amphoraref08_Compare.f (k + 1) a0 a1) := by
  intro a0 a1 k
  obtain ⟨ih0, ih1⟩ := amphoraref08_Compare.mono_l k
  unfold amphoraref08_Compare.f
  repeat' first
      | (with_reducible exact ih0 _ _ _)
      | (with_reducible exact ih1 _ _ _ _)
      | (with_reducible exact amphoraref08_Pieces.mono _ _)
      | (with_reducible exact LeO.refl _)
      | (with_reducible exact LeO.none _)
      | (with_reducible refine LeO.ite ?_ ?_)
      | (with_reducible refine LeO.bind ?_ (fun _ => ?_))
      | exact ih0 _ _ _
      | exact ih1 _ _ _ _
      | exact amphoraref08_Pieces.mono _ _
      | exact LeO.none _
      | refine LeO.ite ?_ ?_
      | refine LeO.bind ?_ (fun _ => ?_)
set_option maxHeartbeats 8000000 in
set_option maxRecDepth 100000 in
theorem amphoraref08_Compare.calls (k : Nat) (a0 : ByteArray) (a1 : ByteArray) (r : Int) (w : World) (hGl : Gl w) (h : amphoraref08_Compare.f k a0 a1 = some r) :
    Calls Tryd.prog 17 #[.string a0, .string a1] w fun e w' => e = .returned (.int .i64 r) ∧ Below w.heap.size w w' := by
  have HB := Aside0.mk (Below.refl w.heap.size w)
  have HGL := Aside0.mk hGl
  clear hGl
  have H : ((amphoraref08_Pieces.f k a0).bind fun t207 => ((amphoraref08_Pieces.f k a1).bind fun t210 => (amphoraref08_Compare.l0 k t207 t210 0))) = some r := h
  clear h
  replace H := Option.bind_eq_some_iff.mp H
  obtain ⟨t207, A30, H⟩ := H
  replace H : ((amphoraref08_Pieces.f k a1).bind fun t210 => (amphoraref08_Compare.l0 k t207 t210 0)) = some r := H
  have A3 := Aside0.mk A30
  clear A30
  replace H := Option.bind_eq_some_iff.mp H
  obtain ⟨t210, A40, H⟩ := H
  replace H : (amphoraref08_Compare.l0 k t207 t210 0) = some r := H
  have A4 := Aside0.mk A40
  clear A40
  have H' := Aside0.mk H
  clear H
  go_enter Tryd.func17, Tryd.ntmps17
  go_wp2_with (first | (go_at_call 34; (with_reducible refine (amphoraref08_Pieces.calls k a0 t207 _ ?side1 A3.out).mono ?_); (case side1 => first | exact HGL.out | exact Gl.drewN HGL.out _ | exact Gl.of HGL.out (by repeat (first | (with_reducible first | exact HB.out | apply below_alloc | apply pw_below_drewN | apply below_drew1) | exact HB.out))); rintro e w5 ⟨v208, rfl, ho0, hb⟩; have n0_ := Aside0.mk (Kd.R_lower ho0 (below_size (by repeat (first | (with_reducible first | exact HB.out | apply below_alloc | apply pw_below_drewN | apply below_drew1) | exact HB.out)))); have n1_ := Aside0.mk (below_step (by repeat (first | (with_reducible first | exact HB.out | apply below_alloc | apply pw_below_drewN | apply below_drew1) | exact HB.out)) hb); clear HB; have HO209 := n0_; have HB := n1_; clear n0_ n1_; (try clear hb); (try clear hb2); (try clear hk); (try clear hi); (try clear ho0)) | (go_at_call 34; (with_reducible refine (amphoraref08_Pieces.calls k a1 t210 _ ?side1 A4.out).mono ?_); (case side1 => first | exact HGL.out | exact Gl.drewN HGL.out _ | exact Gl.of HGL.out (by repeat (first | (with_reducible first | exact HB.out | apply below_alloc | apply pw_below_drewN | apply below_drew1) | exact HB.out))); rintro e w6 ⟨v211, rfl, ho0, hb⟩; have n0_ := Aside0.mk (Kd.R_elder' (by (with_reducible repeat (first | apply Kd.R_alloc | apply Kd.R_drewN | apply Kd.R_drew)); exact HO209.out) (Kd.R_base ho0) hb); have n1_ := Aside0.mk (Kd.R_lower (Kd.R_new' ho0 (Kd.R_lt (by (with_reducible repeat (first | apply Kd.R_alloc | apply Kd.R_drewN | apply Kd.R_drew)); exact HO209.out))) (below_size (by repeat (first | (with_reducible first | exact HB.out | apply below_alloc | apply pw_below_drewN | apply below_drew1) | exact HB.out)))); have n2_ := Aside0.mk (below_step (by repeat (first | (with_reducible first | exact HB.out | apply below_alloc | apply pw_below_drewN | apply below_drew1) | exact HB.out)) hb); clear HO209; clear HB; have HO209 := n0_; have HO212 := n1_; have HB := n2_; clear n0_ n1_ n2_; (try clear hb); (try clear hb2); (try clear hk); (try clear hi); (try clear ho0)))
  repeat (go_quiet (first | (go_at_call 34; (with_reducible refine (amphoraref08_Pieces.calls k a0 t207 _ ?side1 A3.out).mono ?_); (case side1 => first | exact HGL.out | exact Gl.drewN HGL.out _ | exact Gl.of HGL.out (by repeat (first | (with_reducible first | exact HB.out | apply below_alloc | apply pw_below_drewN | apply below_drew1) | exact HB.out))); rintro e w5 ⟨v208, rfl, ho0, hb⟩; have n0_ := Aside0.mk (Kd.R_lower ho0 (below_size (by repeat (first | (with_reducible first | exact HB.out | apply below_alloc | apply pw_below_drewN | apply below_drew1) | exact HB.out)))); have n1_ := Aside0.mk (below_step (by repeat (first | (with_reducible first | exact HB.out | apply below_alloc | apply pw_below_drewN | apply below_drew1) | exact HB.out)) hb); clear HB; have HO209 := n0_; have HB := n1_; clear n0_ n1_; (try clear hb); (try clear hb2); (try clear hk); (try clear hi); (try clear ho0)) | (go_at_call 34; (with_reducible refine (amphoraref08_Pieces.calls k a1 t210 _ ?side1 A4.out).mono ?_); (case side1 => first | exact HGL.out | exact Gl.drewN HGL.out _ | exact Gl.of HGL.out (by repeat (first | (with_reducible first | exact HB.out | apply below_alloc | apply pw_below_drewN | apply below_drew1) | exact HB.out))); rintro e w6 ⟨v211, rfl, ho0, hb⟩; have n0_ := Aside0.mk (Kd.R_elder' (by (with_reducible repeat (first | apply Kd.R_alloc | apply Kd.R_drewN | apply Kd.R_drew)); exact HO209.out) (Kd.R_base ho0) hb); have n1_ := Aside0.mk (Kd.R_lower (Kd.R_new' ho0 (Kd.R_lt (by (with_reducible repeat (first | apply Kd.R_alloc | apply Kd.R_drewN | apply Kd.R_drew)); exact HO209.out))) (below_size (by repeat (first | (with_reducible first | exact HB.out | apply below_alloc | apply pw_below_drewN | apply below_drew1) | exact HB.out)))); have n2_ := Aside0.mk (below_step (by repeat (first | (with_reducible first | exact HB.out | apply below_alloc | apply pw_below_drewN | apply below_drew1) | exact HB.out)) hb); clear HO209; clear HB; have HO209 := n0_; have HO212 := n1_; have HB := n2_; clear n0_ n1_ n2_; (try clear hb); (try clear hb2); (try clear hk); (try clear hi); (try clear ho0))); try go_wp2_with (first | (go_at_call 34; (with_reducible refine (amphoraref08_Pieces.calls k a0 t207 _ ?side1 A3.out).mono ?_); (case side1 => first | exact HGL.out | exact Gl.drewN HGL.out _ | exact Gl.of HGL.out (by repeat (first | (with_reducible first | exact HB.out | apply below_alloc | apply pw_below_drewN | apply below_drew1) | exact HB.out))); rintro e w5 ⟨v208, rfl, ho0, hb⟩; have n0_ := Aside0.mk (Kd.R_lower ho0 (below_size (by repeat (first | (with_reducible first | exact HB.out | apply below_alloc | apply pw_below_drewN | apply below_drew1) | exact HB.out)))); have n1_ := Aside0.mk (below_step (by repeat (first | (with_reducible first | exact HB.out | apply below_alloc | apply pw_below_drewN | apply below_drew1) | exact HB.out)) hb); clear HB; have HO209 := n0_; have HB := n1_; clear n0_ n1_; (try clear hb); (try clear hb2); (try clear hk); (try clear hi); (try clear ho0)) | (go_at_call 34; (with_reducible refine (amphoraref08_Pieces.calls k a1 t210 _ ?side1 A4.out).mono ?_); (case side1 => first | exact HGL.out | exact Gl.drewN HGL.out _ | exact Gl.of HGL.out (by repeat (first | (with_reducible first | exact HB.out | apply below_alloc | apply pw_below_drewN | apply below_drew1) | exact HB.out))); rintro e w6 ⟨v211, rfl, ho0, hb⟩; have n0_ := Aside0.mk (Kd.R_elder' (by (with_reducible repeat (first | apply Kd.R_alloc | apply Kd.R_drewN | apply Kd.R_drew)); exact HO209.out) (Kd.R_base ho0) hb); have n1_ := Aside0.mk (Kd.R_lower (Kd.R_new' ho0 (Kd.R_lt (by (with_reducible repeat (first | apply Kd.R_alloc | apply Kd.R_drewN | apply Kd.R_drew)); exact HO209.out))) (below_size (by repeat (first | (with_reducible first | exact HB.out | apply below_alloc | apply pw_below_drewN | apply below_drew1) | exact HB.out)))); have n2_ := Aside0.mk (below_step (by repeat (first | (with_reducible first | exact HB.out | apply below_alloc | apply pw_below_drewN | apply below_drew1) | exact HB.out)) hb); clear HO209; clear HB; have HO209 := n0_; have HO212 := n1_; have HB := n2_; clear n0_ n1_ n2_; (try clear hb); (try clear hb2); (try clear hk); (try clear hi); (try clear ho0))))
  go_loopg [7] k (fun kq v7 w' => ∃ (x7_1 : Int), v7 = .int .i64 x7_1 ∧ Aside0 (amphoraref08_Compare.l0 kq t207 t210 x7_1 = some r) ∧ Aside0 (kq ≤ k) ∧ Aside0 (Kd.R Kd.string 9 w' w.heap.size (fun k_ => some k_ ≠ (v211 : Value).ownBlock) v208 t207) ∧ Aside0 (Kd.R Kd.string 9 w' w.heap.size (fun k_ => some k_ ≠ (v208 : Value).ownBlock) v211 t210) ∧ Aside0 (Below w.heap.size w w'))
  case atStart => exact ⟨(0), (by first | rfl | (simp; done) | (simp [*]; done)), H', ⟨Nat.le_refl _⟩, ⟨by (with_reducible repeat (first | apply Kd.R_alloc | apply Kd.R_drewN | apply Kd.R_drew)); exact Kd.R_mono HO209.out (fun _ hk => hk.2)⟩, ⟨by (with_reducible repeat (first | apply Kd.R_alloc | apply Kd.R_drewN | apply Kd.R_drew)); exact Kd.R_mono HO212.out (fun _ hk => hk.2)⟩, ⟨by repeat (first | (with_reducible first | exact HB.out | apply below_alloc | apply pw_below_drewN | apply below_drew1) | exact HB.out)⟩⟩
  case round =>
    clear H'
    try clear c1
    try clear p2
    obtain ⟨x7_1, rfl, HA, HK1, HO_5, HO_6, HB⟩ := hrel
    cases gk with
    | zero => exact absurd HA.out (by simp [amphoraref08_Compare.l0])
    | succ k1 =>
      have H := HA.out
      clear HA
      simp only [amphoraref08_Compare.l0] at H
      have HC7 := Aside0.mk H
      clear H
      go_upto_region 4 with (fail)
      repeat (go_quiet (fail); go_upto_region 4 with (fail))
      go_cut [21] (fun v21 wc => ∃ (kq : Nat) (x21_6 : Bool), v21 = .bool x21_6 ∧ Aside0 (amphoraref08_Compare.j1 kq t207 t210 x7_1 x21_6 = some r) ∧ Aside0 (kq ≤ k1) ∧ Aside0 (Kd.R Kd.string 9 wc w.heap.size (fun k_ => some k_ ≠ (v211 : Value).ownBlock) v208 t207) ∧ Aside0 (Kd.R Kd.string 9 wc w.heap.size (fun k_ => some k_ ≠ (v208 : Value).ownBlock) v211 t210) ∧ Aside0 (Below w.heap.size w wc))
      case first =>
        have H := HC7.out
        clear HC7
        by_cases c8 : x7_1 < (t207.length : Int)
        · rw [if_pos c8] at H
          have c8b0 : decide (x7_1 < (t207.length : Int)) = true := decide_eq_true c8
          clear c8
          (first | rw [c8b0] | (simp only [i64_w, i32_w]; rw [c8b0]) | rw [c8b1] | skip)
          have H' := Aside0.mk H
          clear H
          obtain ⟨Ao9, co9, eo9⟩ := Kd.R_slice HO_5.out
          subst eo9
          obtain ⟨Ao10, co10, eo10⟩ := Kd.R_slice HO_6.out
          subst eo10
          go_wp2
          repeat (go_quiet (fail); try go_wp2)
          go_meet
          case rel => exact ⟨_, (decide (x7_1 < (t210.length : Int))), (by first | rfl | (simp; done) | (simp [*]; done)), H', ⟨by have := HK1.out; first | omega | exact Nat.le_refl _⟩, ⟨by (with_reducible repeat (first | apply Kd.R_alloc | apply Kd.R_drewN | apply Kd.R_drew)); exact HO_5.out⟩, ⟨by (with_reducible repeat (first | apply Kd.R_alloc | apply Kd.R_drewN | apply Kd.R_drew)); exact HO_6.out⟩, ⟨by repeat (first | (with_reducible first | exact HB.out | apply below_alloc | apply pw_below_drewN | apply below_drew1) | exact HB.out)⟩⟩
        · rw [if_neg c8] at H
          have c8b0 : decide (x7_1 < (t207.length : Int)) = false := decide_eq_false c8
          clear c8
          (first | rw [c8b0] | (simp only [i64_w, i32_w]; rw [c8b0]) | rw [c8b1] | skip)
          have H' := Aside0.mk H
          clear H
          obtain ⟨Ao11, co11, eo11⟩ := Kd.R_slice HO_5.out
          subst eo11
          go_wp2
          repeat (go_quiet (fail); try go_wp2)
          go_meet
          case rel => exact ⟨_, (false), (by first | rfl | (simp; done) | (simp [*]; done)), H', ⟨by have := HK1.out; first | omega | exact Nat.le_refl _⟩, ⟨by (with_reducible repeat (first | apply Kd.R_alloc | apply Kd.R_drewN | apply Kd.R_drew)); exact HO_5.out⟩, ⟨by (with_reducible repeat (first | apply Kd.R_alloc | apply Kd.R_drewN | apply Kd.R_drew)); exact HO_6.out⟩, ⟨by repeat (first | (with_reducible first | exact HB.out | apply below_alloc | apply pw_below_drewN | apply below_drew1) | exact HB.out)⟩⟩
      case rest =>
        clear HC7
        try clear c1
        try clear p2
        try clear c8
        try clear c8b0
        try clear p2
        obtain ⟨kq, x21_6, rfl, HA, HJ6, HO_5, HO_6, HB⟩ := hcut
        cases kq with
        | zero => exact absurd HA.out (by simp [amphoraref08_Compare.j1])
        | succ kj6 =>
          have H := HA.out
          clear HA
          simp only [amphoraref08_Compare.j1] at H
          by_cases c12 : x21_6 = true
          · subst c12
            have H1 : (if 0 ≤ x7_1 then (if x7_1 < (t207.length : Int) then (if x7_1 < (t210.length : Int) then (if (Op.bytesLess ((rdOf ByteArray.empty t207 x7_1).toList) ((rdOf ByteArray.empty t210 x7_1).toList)) = true then (some (-1)) else (if (Op.bytesLess ((rdOf ByteArray.empty t210 x7_1).toList) ((rdOf ByteArray.empty t207 x7_1).toList)) = true then (some 1) else (amphoraref08_Compare.l0 kj6 t207 t210 (wrap64 (x7_1 + 1))))) else (none)) else (none)) else (none)) = some r := by rw [if_pos rfl] at H; exact H
            clear H
            have H := H1
            clear H1
            by_cases c13 : 0 ≤ x7_1
            · rw [if_pos c13] at H
              have c13b0 : decide (0 ≤ x7_1) = true := decide_eq_true c13
              clear c13
              by_cases c14 : x7_1 < (t207.length : Int)
              · rw [if_pos c14] at H
                have c14b0 : decide (x7_1 < (t207.length : Int)) = true := decide_eq_true c14
                clear c14
                by_cases c15 : x7_1 < (t210.length : Int)
                · rw [if_pos c15] at H
                  have c15b0 : decide (x7_1 < (t210.length : Int)) = true := decide_eq_true c15
                  clear c15
                  by_cases c16 : (Op.bytesLess ((rdOf ByteArray.empty t207 x7_1).toList) ((rdOf ByteArray.empty t210 x7_1).toList)) = true
                  · rw [if_pos c16] at H
                    have c16b0 : (Op.bytesLess ((rdOf ByteArray.empty t207 x7_1).toList) ((rdOf ByteArray.empty t210 x7_1).toList)) = true := c16
                    have c16b1 : (Op.bytesLess ((rdOf ByteArray.empty t210 x7_1).toList) ((rdOf ByteArray.empty t207 x7_1).toList) || ((rdOf ByteArray.empty t210 x7_1).toList) == ((rdOf ByteArray.empty t207 x7_1).toList)) = false := by rw [leq_law, c16b0]; rfl
                    have c16b2 : (((rdOf ByteArray.empty t210 x7_1).toList) == ((rdOf ByteArray.empty t207 x7_1).toList)) = false := (Bool.or_eq_false_iff.1 c16b1).2
                    (try have c16b3 : (((rdOf ByteArray.empty t207 x7_1).toList) == ((rdOf ByteArray.empty t210 x7_1).toList)) = _ := (by rw [Bool.beq_comm]; exact c16b2))
                    clear c16
                    obtain rfl := Option.some.inj H
                    obtain ⟨Ao17, co17, eo17⟩ := Kd.R_slice HO_5.out
                    subst eo17
                    have p213 : 0 ≤ (x7_1 : Int) := of_decide_eq_true (by first | (with_reducible assumption) | assumption)
                    have q213 : x7_1 < (t207.length : Int) := of_decide_eq_true (by first | (with_reducible assumption) | assumption)
                    obtain ⟨ad213, e213, hx213_0⟩ := Kd.at_string (Kd.R_reads' HO_5.out).2.2 x7_1 p213 q213
                    cases e213
                    replace p213 := eq_true p213
                    replace q213 := eq_true q213
                    obtain ⟨Ao18, co18, eo18⟩ := Kd.R_slice HO_6.out
                    subst eo18
                    have p214 : 0 ≤ (x7_1 : Int) := of_decide_eq_true (by first | (with_reducible assumption) | assumption)
                    have q214 : x7_1 < (t210.length : Int) := of_decide_eq_true (by first | (with_reducible assumption) | assumption)
                    obtain ⟨ad214, e214, hx214_0⟩ := Kd.at_string (Kd.R_reads' HO_6.out).2.2 x7_1 p214 q214
                    cases e214
                    replace p214 := eq_true p214
                    replace q214 := eq_true q214
                    go_wp2
                    repeat (go_quiet (fail); try go_wp2)
                    go_ret
                    exact ⟨by first | rfl | (simp [errW_none, errW_some] <;> rfl) | (simp [*, errW_none, errW_some] <;> rfl), by repeat (first | (with_reducible first | exact HB.out | apply below_alloc | apply pw_below_drewN | apply below_drew1) | exact HB.out)⟩
                  · rw [if_neg c16] at H
                    have c16b0 : (Op.bytesLess ((rdOf ByteArray.empty t207 x7_1).toList) ((rdOf ByteArray.empty t210 x7_1).toList)) = false := by simpa using c16
                    have c16b1 : (Op.bytesLess ((rdOf ByteArray.empty t210 x7_1).toList) ((rdOf ByteArray.empty t207 x7_1).toList) || ((rdOf ByteArray.empty t210 x7_1).toList) == ((rdOf ByteArray.empty t207 x7_1).toList)) = true := by rw [leq_law, c16b0]; rfl
                    (try have c16b2 : (((rdOf ByteArray.empty t210 x7_1).toList) == ((rdOf ByteArray.empty t207 x7_1).toList)) = true := (by have h_ := c16b1; rw [show Op.bytesLess ((rdOf ByteArray.empty t210 x7_1).toList) ((rdOf ByteArray.empty t207 x7_1).toList) = false from (by assumption), Bool.false_or] at h_; exact h_))
                    (try have c16b3 : (((rdOf ByteArray.empty t207 x7_1).toList) == ((rdOf ByteArray.empty t210 x7_1).toList)) = _ := (by rw [Bool.beq_comm]; exact c16b2))
                    clear c16
                    by_cases c19 : (Op.bytesLess ((rdOf ByteArray.empty t210 x7_1).toList) ((rdOf ByteArray.empty t207 x7_1).toList)) = true
                    · rw [if_pos c19] at H
                      have c19b0 : (Op.bytesLess ((rdOf ByteArray.empty t210 x7_1).toList) ((rdOf ByteArray.empty t207 x7_1).toList)) = true := c19
                      have c19b1 : (Op.bytesLess ((rdOf ByteArray.empty t207 x7_1).toList) ((rdOf ByteArray.empty t210 x7_1).toList) || ((rdOf ByteArray.empty t207 x7_1).toList) == ((rdOf ByteArray.empty t210 x7_1).toList)) = false := by rw [leq_law, c19b0]; rfl
                      have c19b2 : (((rdOf ByteArray.empty t207 x7_1).toList) == ((rdOf ByteArray.empty t210 x7_1).toList)) = false := (Bool.or_eq_false_iff.1 c19b1).2
                      (try have c19b3 : (((rdOf ByteArray.empty t210 x7_1).toList) == ((rdOf ByteArray.empty t207 x7_1).toList)) = _ := (by rw [Bool.beq_comm]; exact c19b2))
                      clear c19
                      obtain rfl := Option.some.inj H
                      obtain ⟨Ao20, co20, eo20⟩ := Kd.R_slice HO_5.out
                      subst eo20
                      have p213 : 0 ≤ (x7_1 : Int) := of_decide_eq_true (by first | (with_reducible assumption) | assumption)
                      have q213 : x7_1 < (t207.length : Int) := of_decide_eq_true (by first | (with_reducible assumption) | assumption)
                      obtain ⟨ad213, e213, hx213_0⟩ := Kd.at_string (Kd.R_reads' HO_5.out).2.2 x7_1 p213 q213
                      cases e213
                      replace p213 := eq_true p213
                      replace q213 := eq_true q213
                      obtain ⟨Ao21, co21, eo21⟩ := Kd.R_slice HO_6.out
                      subst eo21
                      have p214 : 0 ≤ (x7_1 : Int) := of_decide_eq_true (by first | (with_reducible assumption) | assumption)
                      have q214 : x7_1 < (t210.length : Int) := of_decide_eq_true (by first | (with_reducible assumption) | assumption)
                      obtain ⟨ad214, e214, hx214_0⟩ := Kd.at_string (Kd.R_reads' HO_6.out).2.2 x7_1 p214 q214
                      cases e214
                      replace p214 := eq_true p214
                      replace q214 := eq_true q214
                      have p215 : 0 ≤ (x7_1 : Int) := of_decide_eq_true (by first | (with_reducible assumption) | assumption)
                      have q215 : x7_1 < (t207.length : Int) := of_decide_eq_true (by first | (with_reducible assumption) | assumption)
                      obtain ⟨ad215, e215, hx215_0⟩ := Kd.at_string (Kd.R_reads' HO_5.out).2.2 x7_1 p215 q215
                      obtain rfl : ad213 = ad215 := (by injection e215)
                      replace p215 := eq_true p215
                      replace q215 := eq_true q215
                      have p216 : 0 ≤ (x7_1 : Int) := of_decide_eq_true (by first | (with_reducible assumption) | assumption)
                      have q216 : x7_1 < (t210.length : Int) := of_decide_eq_true (by first | (with_reducible assumption) | assumption)
                      obtain ⟨ad216, e216, hx216_0⟩ := Kd.at_string (Kd.R_reads' HO_6.out).2.2 x7_1 p216 q216
                      obtain rfl : ad214 = ad216 := (by injection e216)
                      replace p216 := eq_true p216
                      replace q216 := eq_true q216
                      go_wp2
                      repeat (go_quiet (fail); try go_wp2)
                      go_ret
                      exact ⟨by first | rfl | (simp [errW_none, errW_some] <;> rfl) | (simp [*, errW_none, errW_some] <;> rfl), by repeat (first | (with_reducible first | exact HB.out | apply below_alloc | apply pw_below_drewN | apply below_drew1) | exact HB.out)⟩
                    · rw [if_neg c19] at H
                      have c19b0 : (Op.bytesLess ((rdOf ByteArray.empty t210 x7_1).toList) ((rdOf ByteArray.empty t207 x7_1).toList)) = false := by simpa using c19
                      have c19b1 : (Op.bytesLess ((rdOf ByteArray.empty t207 x7_1).toList) ((rdOf ByteArray.empty t210 x7_1).toList) || ((rdOf ByteArray.empty t207 x7_1).toList) == ((rdOf ByteArray.empty t210 x7_1).toList)) = true := by rw [leq_law, c19b0]; rfl
                      (try have c19b2 : (((rdOf ByteArray.empty t207 x7_1).toList) == ((rdOf ByteArray.empty t210 x7_1).toList)) = true := (by have h_ := c19b1; rw [show Op.bytesLess ((rdOf ByteArray.empty t207 x7_1).toList) ((rdOf ByteArray.empty t210 x7_1).toList) = false from (by assumption), Bool.false_or] at h_; exact h_))
                      (try have c19b3 : (((rdOf ByteArray.empty t210 x7_1).toList) == ((rdOf ByteArray.empty t207 x7_1).toList)) = _ := (by rw [Bool.beq_comm]; exact c19b2))
                      clear c19
                      have H' := Aside0.mk H
                      clear H
                      obtain ⟨Ao22, co22, eo22⟩ := Kd.R_slice HO_5.out
                      subst eo22
                      have p213 : 0 ≤ (x7_1 : Int) := of_decide_eq_true (by first | (with_reducible assumption) | assumption)
                      have q213 : x7_1 < (t207.length : Int) := of_decide_eq_true (by first | (with_reducible assumption) | assumption)
                      obtain ⟨ad213, e213, hx213_0⟩ := Kd.at_string (Kd.R_reads' HO_5.out).2.2 x7_1 p213 q213
                      cases e213
                      replace p213 := eq_true p213
                      replace q213 := eq_true q213
                      obtain ⟨Ao23, co23, eo23⟩ := Kd.R_slice HO_6.out
                      subst eo23
                      have p214 : 0 ≤ (x7_1 : Int) := of_decide_eq_true (by first | (with_reducible assumption) | assumption)
                      have q214 : x7_1 < (t210.length : Int) := of_decide_eq_true (by first | (with_reducible assumption) | assumption)
                      obtain ⟨ad214, e214, hx214_0⟩ := Kd.at_string (Kd.R_reads' HO_6.out).2.2 x7_1 p214 q214
                      cases e214
                      replace p214 := eq_true p214
                      replace q214 := eq_true q214
                      have p215 : 0 ≤ (x7_1 : Int) := of_decide_eq_true (by first | (with_reducible assumption) | assumption)
                      have q215 : x7_1 < (t207.length : Int) := of_decide_eq_true (by first | (with_reducible assumption) | assumption)
                      obtain ⟨ad215, e215, hx215_0⟩ := Kd.at_string (Kd.R_reads' HO_5.out).2.2 x7_1 p215 q215
                      obtain rfl : ad213 = ad215 := (by injection e215)
                      replace p215 := eq_true p215
                      replace q215 := eq_true q215
                      have p216 : 0 ≤ (x7_1 : Int) := of_decide_eq_true (by first | (with_reducible assumption) | assumption)
                      have q216 : x7_1 < (t210.length : Int) := of_decide_eq_true (by first | (with_reducible assumption) | assumption)
                      obtain ⟨ad216, e216, hx216_0⟩ := Kd.at_string (Kd.R_reads' HO_6.out).2.2 x7_1 p216 q216
                      obtain rfl : ad214 = ad216 := (by injection e216)
                      replace p216 := eq_true p216
                      replace q216 := eq_true q216
                      go_wp2
                      repeat (go_quiet (fail); try go_wp2)
                      go_roundg kj6
                      case measure => have := HK1.out; have := HJ6.out; omega
                      case rel => exact ⟨(wrap64 (x7_1 + 1)), (by first | rfl | (simp; done) | (simp [*]; done)), H', ⟨by have := HK1.out; have := HJ6.out; omega⟩, ⟨by (with_reducible repeat (first | apply Kd.R_alloc | apply Kd.R_drewN | apply Kd.R_drew)); exact HO_5.out⟩, ⟨by (with_reducible repeat (first | apply Kd.R_alloc | apply Kd.R_drewN | apply Kd.R_drew)); exact HO_6.out⟩, ⟨by repeat (first | (with_reducible first | exact HB.out | apply below_alloc | apply pw_below_drewN | apply below_drew1) | exact HB.out)⟩⟩
                · rw [if_neg c15] at H
                  exact absurd H (by simp)
              · rw [if_neg c14] at H
                exact absurd H (by simp)
            · rw [if_neg c13] at H
              exact absurd H (by simp)
          · replace c12 := Bool.eq_false_iff.mpr c12
            subst c12
            have H1 : (if (t207.length : Int) < (t210.length : Int) then (some (-1)) else (if (t207.length : Int) > (t210.length : Int) then (some 1) else (some 0))) = some r := by rw [if_neg (show ¬ (false = true) by decide)] at H; exact H
            clear H
            have H := H1
            clear H1
            by_cases c24 : (t207.length : Int) < (t210.length : Int)
            · rw [if_pos c24] at H
              have c24b0 : decide ((t207.length : Int) < (t210.length : Int)) = true := decide_eq_true c24
              have c24b1 : decide (t207.length < t210.length) = true := decide_eq_true (Int.ofNat_lt.mp c24)
              clear c24
              obtain rfl := Option.some.inj H
              obtain ⟨Ao25, co25, eo25⟩ := Kd.R_slice HO_5.out
              subst eo25
              obtain ⟨Ao26, co26, eo26⟩ := Kd.R_slice HO_6.out
              subst eo26
              go_wp2
              repeat (go_quiet (fail); try go_wp2)
              go_ret
              exact ⟨by first | rfl | (simp [errW_none, errW_some] <;> rfl) | (simp [*, errW_none, errW_some] <;> rfl), by repeat (first | (with_reducible first | exact HB.out | apply below_alloc | apply pw_below_drewN | apply below_drew1) | exact HB.out)⟩
            · rw [if_neg c24] at H
              have c24b0 : decide ((t207.length : Int) < (t210.length : Int)) = false := decide_eq_false c24
              have c24b1 : decide (t207.length < t210.length) = false := decide_eq_false (fun h => c24 (Int.ofNat_lt.mpr h))
              clear c24
              by_cases c27 : (t207.length : Int) > (t210.length : Int)
              · rw [if_pos c27] at H
                have c27b0 : decide ((t210.length : Int) < (t207.length : Int)) = true := decide_eq_true c27
                have c27b1 : decide (t210.length < t207.length) = true := decide_eq_true (Int.ofNat_lt.mp c27)
                clear c27
                obtain rfl := Option.some.inj H
                obtain ⟨Ao28, co28, eo28⟩ := Kd.R_slice HO_5.out
                subst eo28
                obtain ⟨Ao29, co29, eo29⟩ := Kd.R_slice HO_6.out
                subst eo29
                go_wp2
                repeat (go_quiet (fail); try go_wp2)
                go_ret
                exact ⟨by first | rfl | (simp [errW_none, errW_some] <;> rfl) | (simp [*, errW_none, errW_some] <;> rfl), by repeat (first | (with_reducible first | exact HB.out | apply below_alloc | apply pw_below_drewN | apply below_drew1) | exact HB.out)⟩
              · rw [if_neg c27] at H
                have c27b0 : decide ((t210.length : Int) < (t207.length : Int)) = false := decide_eq_false c27
                have c27b1 : decide (t210.length < t207.length) = false := decide_eq_false (fun h => c27 (Int.ofNat_lt.mpr h))
                clear c27
                obtain rfl := Option.some.inj H
                obtain ⟨Ao30, co30, eo30⟩ := Kd.R_slice HO_5.out
                subst eo30
                obtain ⟨Ao31, co31, eo31⟩ := Kd.R_slice HO_6.out
                subst eo31
                go_wp2
                repeat (go_quiet (fail); try go_wp2)
                go_ret
                exact ⟨by first | rfl | (simp [errW_none, errW_some] <;> rfl) | (simp [*, errW_none, errW_some] <;> rfl), by repeat (first | (with_reducible first | exact HB.out | apply below_alloc | apply pw_below_drewN | apply below_drew1) | exact HB.out)⟩

/-! ### stringslite_HasPrefix: function 52 -/
def stringslite_HasPrefix.f (a0 : ByteArray) (a1 : ByteArray) : Option (Bool) := if (a0.size : Int) ≥ (a1.size : Int) then (if 0 ≤ (a1.size : Int) then (if (a1.size : Int) ≤ (a0.size : Int) then (some ((a0.extract 0 ((a1.size : Int) : Int).toNat).toList == a1.toList)) else (none)) else (none)) else (some false)
set_option maxHeartbeats 8000000 in
set_option maxRecDepth 100000 in
theorem stringslite_HasPrefix.calls (a0 : ByteArray) (a1 : ByteArray) (r : Bool) (w : World) (hGl : Gl w) (h : stringslite_HasPrefix.f a0 a1 = some r) :
    Calls Tryd.prog 52 #[.string a0, .string a1] w fun e w' => e = .returned (.bool r) ∧ Drawn0 w w' := by
  have HGL := Aside0.mk hGl
  clear hGl
  have H : (if (a0.size : Int) ≥ (a1.size : Int) then (if 0 ≤ (a1.size : Int) then (if (a1.size : Int) ≤ (a0.size : Int) then (some ((a0.extract 0 ((a1.size : Int) : Int).toNat).toList == a1.toList)) else (none)) else (none)) else (some false)) = some r := h
  clear h
  by_cases c3 : (a0.size : Int) ≥ (a1.size : Int)
  · rw [if_pos c3] at H
    have c3b0 : decide ((a1.size : Int) ≤ (a0.size : Int)) = true := decide_eq_true c3
    have c3b1 : decide (a1.size ≤ a0.size) = true := decide_eq_true (Int.ofNat_le.mp c3)
    clear c3
    by_cases c4 : 0 ≤ (a1.size : Int)
    · rw [if_pos c4] at H
      have c4b0 := eq_true c4
      have c4b1 : decide (0 ≤ (a1.size : Int)) = true := decide_eq_true c4
      clear c4
      by_cases c5 : (a1.size : Int) ≤ (a0.size : Int)
      · rw [if_pos c5] at H
        have c5b0 := eq_true c5
        have c5b1 : decide ((a1.size : Int) ≤ (a0.size : Int)) = true := decide_eq_true c5
        clear c5
        obtain rfl := Option.some.inj H
        go_enter Tryd.func52, Tryd.ntmps52
        go_wp2
        go_ret
        exact ⟨by first | rfl | (simp; done) | (simp [*]; done), by repeat (first | exact Drawn0.refl _ | apply Drawn0.step)⟩
      · rw [if_neg c5] at H
        exact absurd H (by simp)
    · rw [if_neg c4] at H
      exact absurd H (by simp)
  · rw [if_neg c3] at H
    have c3b0 : decide ((a1.size : Int) ≤ (a0.size : Int)) = false := decide_eq_false c3
    have c3b1 : decide (a1.size ≤ a0.size) = false := decide_eq_false (fun h => c3 (Int.ofNat_le.mpr h))
    clear c3
    obtain rfl := Option.some.inj H
    go_enter Tryd.func52, Tryd.ntmps52
    go_wp2
    go_ret
    exact ⟨by first | rfl | (simp; done) | (simp [*]; done), by repeat (first | exact Drawn0.refl _ | apply Drawn0.step)⟩

/-! ### strings_HasPrefix: function 37 -/
def strings_HasPrefix.f (a0 : ByteArray) (a1 : ByteArray) : Option (Bool) := (stringslite_HasPrefix.f a0 a1).bind fun t217 => (some t217)
set_option maxHeartbeats 8000000 in
set_option maxRecDepth 100000 in
theorem strings_HasPrefix.calls (a0 : ByteArray) (a1 : ByteArray) (r : Bool) (w : World) (hGl : Gl w) (h : strings_HasPrefix.f a0 a1 = some r) :
    Calls Tryd.prog 37 #[.string a0, .string a1] w fun e w' => e = .returned (.bool r) ∧ Drawn0 w w' := by
  have HGL := Aside0.mk hGl
  clear hGl
  have H : ((stringslite_HasPrefix.f a0 a1).bind fun t217 => (some t217)) = some r := h
  clear h
  replace H := Option.bind_eq_some_iff.mp H
  obtain ⟨t217, A30, H⟩ := H
  replace H : (some t217) = some r := H
  have A3 := Aside0.mk A30
  clear A30
  obtain rfl := Option.some.inj H
  go_enter Tryd.func37, Tryd.ntmps37
  go_wp2_with (first | ((with_reducible refine gate_callee (f := 52) rfl ?_); refine goesL_ (some 7) rfl rfl Tryd.func52 (by kernel_rfl) rfl #[.string a0, .string a1] rfl (by (try simp only [List.map_toArray, List.map_cons, List.map_nil]); first | done | rfl | (simp only [List.length_drop, List.length_take]; rfl)) ?_; (with_reducible refine (stringslite_HasPrefix.calls a0 a1 t217 _ ?side1 A3.out).mono ?_); (case side1 => first | exact HGL.out | exact Gl.drewN HGL.out _ | exact Gl.of HGL.out (by repeat (first | (with_reducible first | exact HB.out | apply below_alloc | apply pw_below_drewN | apply below_drew1) | exact HB.out))); rintro e w' ⟨rfl, ⟨nd, rfl⟩⟩; refine ⟨_, rfl, ?_⟩))
  go_ret
  exact ⟨by first | rfl | (simp; done) | (simp [*]; done), by repeat (first | exact Drawn0.refl _ | apply Drawn0.step)⟩

/-! ### path_Above: function 18 -/
def path_Above.f (k : Nat) (a0 : ByteArray) (a1 : ByteArray) : Option (Bool) := (path_Good.f k a0).bind fun t218 => (if t218 = true then ((path_Good.f k a1).bind fun t219 => (if t219 = true then (if a0.size + 1 ≤ 9223372036854775807 then ((strings_HasPrefix.f a1 (a0 ++ (⟨#[47]⟩ : ByteArray))).bind fun t220 => (some t220)) else (none)) else (some false))) else (some false))
theorem path_Above.mono : ∀ a0 a1 k, LeO (path_Above.f k a0 a1) (path_Above.f (k + 1) a0 a1) := by
  intro a0 a1 k
  unfold path_Above.f
  repeat' first
      | (with_reducible exact path_Good.mono _ _)
      | (with_reducible exact LeO.refl _)
      | (with_reducible exact LeO.none _)
      | (with_reducible refine LeO.ite ?_ ?_)
      | (with_reducible refine LeO.bind ?_ (fun _ => ?_))
      | exact path_Good.mono _ _
      | exact LeO.none _
      | refine LeO.ite ?_ ?_
      | refine LeO.bind ?_ (fun _ => ?_)
set_option maxHeartbeats 8000000 in
set_option maxRecDepth 100000 in
theorem path_Above.calls (k : Nat) (a0 : ByteArray) (a1 : ByteArray) (r : Bool) (w : World) (hGl : Gl w) (h : path_Above.f k a0 a1 = some r) :
    Calls Tryd.prog 18 #[.string a0, .string a1] w fun e w' => e = .returned (.bool r) ∧ Below w.heap.size w w' := by
  have HB := Aside0.mk (Below.refl w.heap.size w)
  have HGL := Aside0.mk hGl
  clear hGl
  have H : ((path_Good.f k a0).bind fun t218 => (if t218 = true then ((path_Good.f k a1).bind fun t219 => (if t219 = true then (if a0.size + 1 ≤ 9223372036854775807 then ((strings_HasPrefix.f a1 (a0 ++ (⟨#[47]⟩ : ByteArray))).bind fun t220 => (some t220)) else (none)) else (some false))) else (some false))) = some r := h
  clear h
  replace H := Option.bind_eq_some_iff.mp H
  obtain ⟨t218, A30, H⟩ := H
  replace H : (if t218 = true then ((path_Good.f k a1).bind fun t219 => (if t219 = true then (if a0.size + 1 ≤ 9223372036854775807 then ((strings_HasPrefix.f a1 (a0 ++ (⟨#[47]⟩ : ByteArray))).bind fun t220 => (some t220)) else (none)) else (some false))) else (some false)) = some r := H
  have A3 := Aside0.mk A30
  clear A30
  by_cases c4 : t218 = true
  · subst c4
    have H1 : ((path_Good.f k a1).bind fun t219 => (if t219 = true then (if a0.size + 1 ≤ 9223372036854775807 then ((strings_HasPrefix.f a1 (a0 ++ (⟨#[47]⟩ : ByteArray))).bind fun t220 => (some t220)) else (none)) else (some false))) = some r := by rw [if_pos rfl] at H; exact H
    clear H
    have H := H1
    clear H1
    replace H := Option.bind_eq_some_iff.mp H
    obtain ⟨t219, A50, H⟩ := H
    replace H : (if t219 = true then (if a0.size + 1 ≤ 9223372036854775807 then ((strings_HasPrefix.f a1 (a0 ++ (⟨#[47]⟩ : ByteArray))).bind fun t220 => (some t220)) else (none)) else (some false)) = some r := H
    have A5 := Aside0.mk A50
    clear A50
    by_cases c6 : t219 = true
    · subst c6
      have H1 : (if a0.size + 1 ≤ 9223372036854775807 then ((strings_HasPrefix.f a1 (a0 ++ (⟨#[47]⟩ : ByteArray))).bind fun t220 => (some t220)) else (none)) = some r := by rw [if_pos rfl] at H; exact H
      clear H
      have H := H1
      clear H1
      by_cases c7 : a0.size + 1 ≤ 9223372036854775807
      · rw [if_pos c7] at H
        have c7b0 := eq_true c7
        have c7b1 : decide (a0.size + 1 ≤ 9223372036854775807) = true := decide_eq_true c7
        try have c7b2 : (9223372036854775807 < a0.size + 1) = False := eq_false (Nat.not_lt.2 c7)
        replace H := Option.bind_eq_some_iff.mp H
        obtain ⟨t220, A80, H⟩ := H
        replace H : (some t220) = some r := H
        have A8 := Aside0.mk A80
        clear A80
        obtain rfl := Option.some.inj H
        go_enter Tryd.func18, Tryd.ntmps18
        go_wp2_with (first | ((with_reducible refine gate_callee (f := 20) rfl ?_); refine goesL_ (some 6) rfl rfl Tryd.func20 (by kernel_rfl) rfl #[.string a0] rfl (by (try simp only [List.map_toArray, List.map_cons, List.map_nil]); first | done | rfl | (simp only [List.length_drop, List.length_take]; rfl)) ?_; (with_reducible refine (path_Good.calls k a0 true _ ?side1 A3.out).mono ?_); (case side1 => first | exact HGL.out | exact Gl.drewN HGL.out _ | exact Gl.of HGL.out (by repeat (first | (with_reducible first | exact HB.out | apply below_alloc | apply pw_below_drewN | apply below_drew1) | exact HB.out))); rintro e w9 ⟨rfl, hb⟩; refine ⟨_, rfl, ?_⟩; have n0_ := Aside0.mk (below_step (by repeat (first | (with_reducible first | exact HB.out | apply below_alloc | apply pw_below_drewN | apply below_drew1) | exact HB.out)) hb); clear HB; have HB := n0_; clear n0_; (try clear hb); (try clear hb2); (try clear hk); (try clear hi)) | (go_at_call 20; (with_reducible refine (path_Good.calls k a1 true _ ?side1 A5.out).mono ?_); (case side1 => first | exact HGL.out | exact Gl.drewN HGL.out _ | exact Gl.of HGL.out (by repeat (first | (with_reducible first | exact HB.out | apply below_alloc | apply pw_below_drewN | apply below_drew1) | exact HB.out))); rintro e w10 ⟨rfl, hb⟩; have n0_ := Aside0.mk (below_step (by repeat (first | (with_reducible first | exact HB.out | apply below_alloc | apply pw_below_drewN | apply below_drew1) | exact HB.out)) hb); clear HB; have HB := n0_; clear n0_; (try clear hb); (try clear hb2); (try clear hk); (try clear hi)) | (go_at_call 37; (with_reducible refine (strings_HasPrefix.calls a1 (a0 ++ (⟨#[47]⟩ : ByteArray)) t220 _ ?side1 A8.out).mono ?_); (case side1 => first | exact HGL.out | exact Gl.drewN HGL.out _ | exact Gl.of HGL.out (by repeat (first | (with_reducible first | exact HB.out | apply below_alloc | apply pw_below_drewN | apply below_drew1) | exact HB.out))); rintro e w' ⟨rfl, ⟨nd, rfl⟩⟩))
        go_ret
        exact ⟨by first | rfl | (simp [errW_none, errW_some] <;> rfl) | (simp [*, errW_none, errW_some] <;> rfl), by repeat (first | (with_reducible first | exact HB.out | apply below_alloc | apply pw_below_drewN | apply below_drew1) | exact HB.out)⟩
      · rw [if_neg c7] at H
        exact absurd H (by simp)
    · replace c6 := Bool.eq_false_iff.mpr c6
      subst c6
      have H1 : (some false) = some r := by rw [if_neg (show ¬ (false = true) by decide)] at H; exact H
      clear H
      have H := H1
      clear H1
      obtain rfl := Option.some.inj H
      go_enter Tryd.func18, Tryd.ntmps18
      go_wp2_with (first | ((with_reducible refine gate_callee (f := 20) rfl ?_); refine goesL_ (some 6) rfl rfl Tryd.func20 (by kernel_rfl) rfl #[.string a0] rfl (by (try simp only [List.map_toArray, List.map_cons, List.map_nil]); first | done | rfl | (simp only [List.length_drop, List.length_take]; rfl)) ?_; (with_reducible refine (path_Good.calls k a0 true _ ?side1 A3.out).mono ?_); (case side1 => first | exact HGL.out | exact Gl.drewN HGL.out _ | exact Gl.of HGL.out (by repeat (first | (with_reducible first | exact HB.out | apply below_alloc | apply pw_below_drewN | apply below_drew1) | exact HB.out))); rintro e w11 ⟨rfl, hb⟩; refine ⟨_, rfl, ?_⟩; have n0_ := Aside0.mk (below_step (by repeat (first | (with_reducible first | exact HB.out | apply below_alloc | apply pw_below_drewN | apply below_drew1) | exact HB.out)) hb); clear HB; have HB := n0_; clear n0_; (try clear hb); (try clear hb2); (try clear hk); (try clear hi)) | (go_at_call 20; (with_reducible refine (path_Good.calls k a1 false _ ?side1 A5.out).mono ?_); (case side1 => first | exact HGL.out | exact Gl.drewN HGL.out _ | exact Gl.of HGL.out (by repeat (first | (with_reducible first | exact HB.out | apply below_alloc | apply pw_below_drewN | apply below_drew1) | exact HB.out))); rintro e w12 ⟨rfl, hb⟩; have n0_ := Aside0.mk (below_step (by repeat (first | (with_reducible first | exact HB.out | apply below_alloc | apply pw_below_drewN | apply below_drew1) | exact HB.out)) hb); clear HB; have HB := n0_; clear n0_; (try clear hb); (try clear hb2); (try clear hk); (try clear hi)))
      go_ret
      exact ⟨by first | rfl | (simp [errW_none, errW_some] <;> rfl) | (simp [*, errW_none, errW_some] <;> rfl), by repeat (first | (with_reducible first | exact HB.out | apply below_alloc | apply pw_below_drewN | apply below_drew1) | exact HB.out)⟩
  · replace c4 := Bool.eq_false_iff.mpr c4
    subst c4
    have H1 : (some false) = some r := by rw [if_neg (show ¬ (false = true) by decide)] at H; exact H
    clear H
    have H := H1
    clear H1
    obtain rfl := Option.some.inj H
    go_enter Tryd.func18, Tryd.ntmps18
    go_wp2_with (first | ((with_reducible refine gate_callee (f := 20) rfl ?_); refine goesL_ (some 6) rfl rfl Tryd.func20 (by kernel_rfl) rfl #[.string a0] rfl (by (try simp only [List.map_toArray, List.map_cons, List.map_nil]); first | done | rfl | (simp only [List.length_drop, List.length_take]; rfl)) ?_; (with_reducible refine (path_Good.calls k a0 false _ ?side1 A3.out).mono ?_); (case side1 => first | exact HGL.out | exact Gl.drewN HGL.out _ | exact Gl.of HGL.out (by repeat (first | (with_reducible first | exact HB.out | apply below_alloc | apply pw_below_drewN | apply below_drew1) | exact HB.out))); rintro e w13 ⟨rfl, hb⟩; refine ⟨_, rfl, ?_⟩; have n0_ := Aside0.mk (below_step (by repeat (first | (with_reducible first | exact HB.out | apply below_alloc | apply pw_below_drewN | apply below_drew1) | exact HB.out)) hb); clear HB; have HB := n0_; clear n0_; (try clear hb); (try clear hb2); (try clear hk); (try clear hi)))
    go_ret
    exact ⟨by first | rfl | (simp [errW_none, errW_some] <;> rfl) | (simp [*, errW_none, errW_some] <;> rfl), by repeat (first | (with_reducible first | exact HB.out | apply below_alloc | apply pw_below_drewN | apply below_drew1) | exact HB.out)⟩

/-! ### amphoraref08_Split: function 23 -/
def amphoraref08_Split.l0 : Nat → List ByteArray → Int → Option (List ByteArray)
  | 0, _, _ => none
  | k + 1, x3, x4 => if x4 < (x3.length : Int) then (if 0 ≤ x4 then ((amphoraref08_Part.f k (rdOf ByteArray.empty x3 x4)).bind fun t225 => (if t225 = true then (amphoraref08_Split.l0 k x3 (wrap64 (x4 + 1))) else (some ([] : List ByteArray)))) else (none)) else (some x3)
def amphoraref08_Split.f (k : Nat) (a0 : ByteArray) : Option (List ByteArray) := if (a0.size : Int) > 400 then (some ([] : List ByteArray)) else ((amphoraref08_Pieces.f k a0).bind fun t221 => (amphoraref08_Split.l0 k t221 0))
theorem amphoraref08_Split.mono_l : ∀ k, (∀ y0 y1, LeO (amphoraref08_Split.l0 k y0 y1) (amphoraref08_Split.l0 (k + 1) y0 y1))
  | 0 => fun _ _ r h => by simp [amphoraref08_Split.l0] at h
  | k + 1 => by
    have ih0 := amphoraref08_Split.mono_l k
    · intro y0 y1
      unfold amphoraref08_Split.l0
      repeat' first
      | (with_reducible exact ih0 _ _)
      | (with_reducible exact amphoraref08_Part.mono _ _)
      | (with_reducible exact amphoraref08_Pieces.mono _ _)
      | (with_reducible exact LeO.refl _)
      | (with_reducible exact LeO.none _)
      | (with_reducible refine LeO.ite ?_ ?_)
      | (with_reducible refine LeO.bind ?_ (fun _ => ?_))
      | exact ih0 _ _
      | exact amphoraref08_Part.mono _ _
      | exact amphoraref08_Pieces.mono _ _
      | exact LeO.none _
      | refine LeO.ite ?_ ?_
      | refine LeO.bind ?_ (fun _ => ?_)
theorem amphoraref08_Split.mono : ∀ a0 k, LeO (amphoraref08_Split.f k a0) (amphoraref08_Split.f (k + 1) a0) := by
  intro a0 k
  have ih0 := amphoraref08_Split.mono_l k
  unfold amphoraref08_Split.f
  repeat' first
      | (with_reducible exact ih0 _ _)
      | (with_reducible exact amphoraref08_Part.mono _ _)
      | (with_reducible exact amphoraref08_Pieces.mono _ _)
      | (with_reducible exact LeO.refl _)
      | (with_reducible exact LeO.none _)
      | (with_reducible refine LeO.ite ?_ ?_)
      | (with_reducible refine LeO.bind ?_ (fun _ => ?_))
      | exact ih0 _ _
      | exact amphoraref08_Part.mono _ _
      | exact amphoraref08_Pieces.mono _ _
      | exact LeO.none _
      | refine LeO.ite ?_ ?_
      | refine LeO.bind ?_ (fun _ => ?_)
set_option maxHeartbeats 8000000 in
set_option maxRecDepth 100000 in
theorem amphoraref08_Split.calls (k : Nat) (a0 : ByteArray) (r : List ByteArray) (w : World) (hGl : Gl w) (h : amphoraref08_Split.f k a0 = some r) :
    Calls Tryd.prog 23 #[.string a0] w fun e w' => ∃ v0_ : Value, e = .returned (v0_) ∧ Kd.R Kd.string 9 w' w.heap.size (fun _ => True) v0_ r ∧ Below w.heap.size w w' := by
  have HB := Aside0.mk (Below.refl w.heap.size w)
  have HGL := Aside0.mk hGl
  clear hGl
  have H : (if (a0.size : Int) > 400 then (some ([] : List ByteArray)) else ((amphoraref08_Pieces.f k a0).bind fun t221 => (amphoraref08_Split.l0 k t221 0))) = some r := h
  clear h
  by_cases c2 : (a0.size : Int) > 400
  · rw [if_pos c2] at H
    have c2b0 : decide (400 < (a0.size : Int)) = true := decide_eq_true c2
    have c2b1 : decide (400 < a0.size) = true := decide_eq_true (by omega)
    clear c2
    obtain rfl := Option.some.inj H
    go_enter Tryd.func23, Tryd.ntmps23
    go_wp2
    go_ret
    exact ⟨_, by first | rfl | (simp [errW_none, errW_some] <;> rfl) | (simp [*, errW_none, errW_some] <;> rfl), by first | exact Kd.R_nil _ _ _ _ _ | exact Kd.N_nil _ _ _ _ _ | exact Kd.V_nil _ _ _ _ _ | exact Kd.Q_nil _ _ _ _ _ | exact Kd.S_nil _ _ _ _ _, by repeat (first | (with_reducible first | exact HB.out | apply below_alloc | apply pw_below_drewN | apply below_drew1) | exact HB.out)⟩
  · rw [if_neg c2] at H
    have c2b0 : decide (400 < (a0.size : Int)) = false := decide_eq_false c2
    have c2b1 : decide (400 < a0.size) = false := decide_eq_false (by omega)
    clear c2
    replace H := Option.bind_eq_some_iff.mp H
    obtain ⟨t221, A30, H⟩ := H
    replace H : (amphoraref08_Split.l0 k t221 0) = some r := H
    have A3 := Aside0.mk A30
    clear A30
    have H' := Aside0.mk H
    clear H
    go_enter Tryd.func23, Tryd.ntmps23
    go_wp2_with (first | ((with_reducible refine gate_callee (f := 34) rfl ?_); refine goesL_ (some 9) rfl rfl Tryd.func34 (by kernel_rfl) rfl #[.string a0] rfl (by (try simp only [List.map_toArray, List.map_cons, List.map_nil]); first | done | rfl | (simp only [List.length_drop, List.length_take]; rfl)) ?_; (with_reducible refine (amphoraref08_Pieces.calls k a0 t221 _ ?side1 A3.out).mono ?_); (case side1 => first | exact HGL.out | exact Gl.drewN HGL.out _ | exact Gl.of HGL.out (by repeat (first | (with_reducible first | exact HB.out | apply below_alloc | apply pw_below_drewN | apply below_drew1) | exact HB.out))); rintro e w4 ⟨v222, rfl, ho0, hb⟩; refine ⟨_, rfl, ?_⟩; have n0_ := Aside0.mk (Kd.R_lower ho0 (below_size (by repeat (first | (with_reducible first | exact HB.out | apply below_alloc | apply pw_below_drewN | apply below_drew1) | exact HB.out)))); have n1_ := Aside0.mk (below_step (by repeat (first | (with_reducible first | exact HB.out | apply below_alloc | apply pw_below_drewN | apply below_drew1) | exact HB.out)) hb); clear HB; have HO223 := n0_; have HB := n1_; clear n0_ n1_; (try clear hb); (try clear hb2); (try clear hk); (try clear hi); (try clear ho0)))
    go_loopg [4] k (fun kq v4 w' => ∃ (x4_1 : Int), v4 = .int .i64 x4_1 ∧ Aside0 (amphoraref08_Split.l0 kq t221 x4_1 = some r) ∧ Aside0 (kq ≤ k) ∧ Aside0 (Kd.R Kd.string 9 w' w.heap.size (fun _ => True) v222 t221) ∧ Aside0 (Below w.heap.size w w'))
    case atStart => exact ⟨(0), (by first | rfl | (simp; done) | (simp [*]; done)), H', ⟨Nat.le_refl _⟩, ⟨by (with_reducible repeat (first | apply Kd.R_alloc | apply Kd.R_drewN | apply Kd.R_drew)); exact HO223.out⟩, ⟨by repeat (first | (with_reducible first | exact HB.out | apply below_alloc | apply pw_below_drewN | apply below_drew1) | exact HB.out)⟩⟩
    case round =>
      clear H'
      try clear c2
      try clear c2b0
      try clear c2b1
      try clear p2
      try clear c3
      obtain ⟨x4_1, rfl, HA, HK1, HO_3, HB⟩ := hrel
      cases gk with
      | zero => exact absurd HA.out (by simp [amphoraref08_Split.l0])
      | succ k1 =>
        have H := HA.out
        clear HA
        simp only [amphoraref08_Split.l0] at H
        by_cases c5 : x4_1 < (t221.length : Int)
        · rw [if_pos c5] at H
          have c5b0 : decide (x4_1 < (t221.length : Int)) = true := decide_eq_true c5
          clear c5
          by_cases c6 : 0 ≤ x4_1
          · rw [if_pos c6] at H
            have c6b0 : decide (0 ≤ x4_1) = true := decide_eq_true c6
            clear c6
            replace H := Option.bind_eq_some_iff.mp H
            obtain ⟨t225, A70, H⟩ := H
            replace H : (if t225 = true then (amphoraref08_Split.l0 k1 t221 (wrap64 (x4_1 + 1))) else (some ([] : List ByteArray))) = some r := H
            have A7 := Aside0.mk A70
            clear A70
            by_cases c8 : t225 = true
            · subst c8
              have H1 : (amphoraref08_Split.l0 k1 t221 (wrap64 (x4_1 + 1))) = some r := by rw [if_pos rfl] at H; exact H
              clear H
              have H := H1
              clear H1
              have H' := Aside0.mk H
              clear H
              obtain ⟨Ao9, co9, eo9⟩ := Kd.R_slice HO_3.out
              subst eo9
              have p224 : 0 ≤ (x4_1 : Int) := of_decide_eq_true (by first | (with_reducible assumption) | assumption)
              have q224 : x4_1 < (t221.length : Int) := of_decide_eq_true (by first | (with_reducible assumption) | assumption)
              obtain ⟨ad224, e224, hx224_0⟩ := Kd.at_string (Kd.R_reads' HO_3.out).2.2 x4_1 p224 q224
              cases e224
              replace p224 := eq_true p224
              replace q224 := eq_true q224
              go_wp2_with (first | ((with_reducible refine gate_callee (f := 32) rfl ?_); refine goesL_ (some 20) rfl rfl Tryd.func32 (by kernel_rfl) rfl #[.string (rdOf ByteArray.empty t221 x4_1)] rfl (by (try simp only [List.map_toArray, List.map_cons, List.map_nil]); first | done | rfl | (simp only [List.length_drop, List.length_take]; rfl)) ?_; (with_reducible refine (amphoraref08_Part.calls k1 (rdOf ByteArray.empty t221 x4_1) true _ ?side1 A7.out).mono ?_); (case side1 => first | exact HGL.out | exact Gl.drewN HGL.out _ | exact Gl.of HGL.out (by repeat (first | (with_reducible first | exact HB.out | apply below_alloc | apply pw_below_drewN | apply below_drew1) | exact HB.out))); rintro e w10 ⟨rfl, hb⟩; refine ⟨_, rfl, ?_⟩; have n0_ := Aside0.mk (Kd.R_below (by (with_reducible repeat (first | apply Kd.R_alloc | apply Kd.R_drewN | apply Kd.R_drew)); exact HO_3.out) hb); have n1_ := Aside0.mk (below_step (by repeat (first | (with_reducible first | exact HB.out | apply below_alloc | apply pw_below_drewN | apply below_drew1) | exact HB.out)) hb); clear HO_3; clear HB; have HO_3 := n0_; have HB := n1_; clear n0_ n1_; (try clear hb); (try clear hb2); (try clear hk); (try clear hi)))
              go_roundg k1
              case measure => have := HK1.out; omega
              case rel => exact ⟨(wrap64 (x4_1 + 1)), (by first | rfl | (simp; done) | (simp [*]; done)), H', ⟨by have := HK1.out; omega⟩, ⟨by (with_reducible repeat (first | apply Kd.R_alloc | apply Kd.R_drewN | apply Kd.R_drew)); exact HO_3.out⟩, ⟨by repeat (first | (with_reducible first | exact HB.out | apply below_alloc | apply pw_below_drewN | apply below_drew1) | exact HB.out)⟩⟩
            · replace c8 := Bool.eq_false_iff.mpr c8
              subst c8
              have H1 : (some ([] : List ByteArray)) = some r := by rw [if_neg (show ¬ (false = true) by decide)] at H; exact H
              clear H
              have H := H1
              clear H1
              obtain rfl := Option.some.inj H
              obtain ⟨Ao11, co11, eo11⟩ := Kd.R_slice HO_3.out
              subst eo11
              have p224 : 0 ≤ (x4_1 : Int) := of_decide_eq_true (by first | (with_reducible assumption) | assumption)
              have q224 : x4_1 < (t221.length : Int) := of_decide_eq_true (by first | (with_reducible assumption) | assumption)
              obtain ⟨ad224, e224, hx224_0⟩ := Kd.at_string (Kd.R_reads' HO_3.out).2.2 x4_1 p224 q224
              cases e224
              replace p224 := eq_true p224
              replace q224 := eq_true q224
              go_wp2_with (first | ((with_reducible refine gate_callee (f := 32) rfl ?_); refine goesL_ (some 20) rfl rfl Tryd.func32 (by kernel_rfl) rfl #[.string (rdOf ByteArray.empty t221 x4_1)] rfl (by (try simp only [List.map_toArray, List.map_cons, List.map_nil]); first | done | rfl | (simp only [List.length_drop, List.length_take]; rfl)) ?_; (with_reducible refine (amphoraref08_Part.calls k1 (rdOf ByteArray.empty t221 x4_1) false _ ?side1 A7.out).mono ?_); (case side1 => first | exact HGL.out | exact Gl.drewN HGL.out _ | exact Gl.of HGL.out (by repeat (first | (with_reducible first | exact HB.out | apply below_alloc | apply pw_below_drewN | apply below_drew1) | exact HB.out))); rintro e w12 ⟨rfl, hb⟩; refine ⟨_, rfl, ?_⟩; have n0_ := Aside0.mk (Kd.R_below (by (with_reducible repeat (first | apply Kd.R_alloc | apply Kd.R_drewN | apply Kd.R_drew)); exact HO_3.out) hb); have n1_ := Aside0.mk (below_step (by repeat (first | (with_reducible first | exact HB.out | apply below_alloc | apply pw_below_drewN | apply below_drew1) | exact HB.out)) hb); clear HO_3; clear HB; have HO_3 := n0_; have HB := n1_; clear n0_ n1_; (try clear hb); (try clear hb2); (try clear hk); (try clear hi)))
              go_ret
              exact ⟨_, by first | rfl | (simp [errW_none, errW_some] <;> rfl) | (simp [*, errW_none, errW_some] <;> rfl), by first | exact Kd.R_nil _ _ _ _ _ | exact Kd.N_nil _ _ _ _ _ | exact Kd.V_nil _ _ _ _ _ | exact Kd.Q_nil _ _ _ _ _ | exact Kd.S_nil _ _ _ _ _, by repeat (first | (with_reducible first | exact HB.out | apply below_alloc | apply pw_below_drewN | apply below_drew1) | exact HB.out)⟩
          · rw [if_neg c6] at H
            exact absurd H (by simp)
        · rw [if_neg c5] at H
          have c5b0 : decide (x4_1 < (t221.length : Int)) = false := decide_eq_false c5
          clear c5
          obtain rfl := Option.some.inj H
          obtain ⟨Ao13, co13, eo13⟩ := Kd.R_slice HO_3.out
          subst eo13
          go_wp2
          go_ret
          exact ⟨_, by first | rfl | (simp [errW_none, errW_some] <;> rfl) | (simp [*, errW_none, errW_some] <;> rfl), by (with_reducible repeat (first | apply Kd.R_alloc | apply Kd.R_drewN | apply Kd.R_drew)); exact HO_3.out, by repeat (first | (with_reducible first | exact HB.out | apply below_alloc | apply pw_below_drewN | apply below_drew1) | exact HB.out)⟩

/-! ### amphoraref08_Above: function 19 -/
mutual
def amphoraref08_Above.j0 : Nat → List ByteArray → List ByteArray → Bool → Option (Bool)
  | 0, _, _, _ => none
  | k + 1, x5, x6, x21 => if x21 = true then (some false) else (amphoraref08_Above.l0 k x5 x6 0)
def amphoraref08_Above.l0 : Nat → List ByteArray → List ByteArray → Int → Option (Bool)
  | 0, _, _, _ => none
  | k + 1, x5, x6, x7 => if x7 < (x5.length : Int) then (if 0 ≤ x7 then (if x7 < (x6.length : Int) then (if (rdOf ByteArray.empty x5 x7).toList = (rdOf ByteArray.empty x6 x7).toList then (amphoraref08_Above.l0 k x5 x6 (wrap64 (x7 + 1))) else (some false)) else (none)) else (none)) else (some true)
end
def amphoraref08_Above.f (k : Nat) (a0 : ByteArray) (a1 : ByteArray) : Option (Bool) := (amphoraref08_Split.f k a0).bind fun t226 => ((amphoraref08_Split.f k a1).bind fun t229 => (if (t226.length : Int) = 0 then (amphoraref08_Above.j0 k t226 t229 true) else (amphoraref08_Above.j0 k t226 t229 (decide ((t229.length : Int) ≤ (t226.length : Int))))))
theorem amphoraref08_Above.mono_l : ∀ k, (∀ y0 y1 y2, LeO (amphoraref08_Above.j0 k y0 y1 y2) (amphoraref08_Above.j0 (k + 1) y0 y1 y2)) ∧ (∀ y0 y1 y2, LeO (amphoraref08_Above.l0 k y0 y1 y2) (amphoraref08_Above.l0 (k + 1) y0 y1 y2))
  | 0 => ⟨fun _ _ _ r h => by simp [amphoraref08_Above.j0] at h, fun _ _ _ r h => by simp [amphoraref08_Above.l0] at h⟩
  | k + 1 => by
    obtain ⟨ih0, ih1⟩ := amphoraref08_Above.mono_l k
    refine ⟨?_, ?_⟩
    · intro y0 y1 y2
      unfold amphoraref08_Above.j0
      repeat' first
      | (with_reducible exact ih0 _ _ _)
      | (with_reducible exact ih1 _ _ _)
      | (with_reducible exact amphoraref08_Split.mono _ _)
      | (with_reducible exact LeO.refl _)
      | (with_reducible exact LeO.none _)
      | (with_reducible refine LeO.ite ?_ ?_)
      | (with_reducible refine LeO.bind ?_ (fun _ => ?_))
      | exact ih0 _ _ _
      | exact ih1 _ _ _
      | exact amphoraref08_Split.mono _ _
      | exact LeO.none _
      | refine LeO.ite ?_ ?_
      | refine LeO.bind ?_ (fun _ => ?_)
    · intro y0 y1 y2
      unfold amphoraref08_Above.l0
      repeat' first
      | (with_reducible exact ih0 _ _ _)
      | (with_reducible exact ih1 _ _ _)
      | (with_reducible exact amphoraref08_Split.mono _ _)
      | (with_reducible exact LeO.refl _)
      | (with_reducible exact LeO.none _)
      | (with_reducible refine LeO.ite ?_ ?_)
      | (with_reducible refine LeO.bind ?_ (fun _ => ?_))
      | exact ih0 _ _ _
      | exact ih1 _ _ _
      | exact amphoraref08_Split.mono _ _
      | exact LeO.none _
      | refine LeO.ite ?_ ?_
      | refine LeO.bind ?_ (fun _ => ?_)
theorem amphoraref08_Above.mono : ∀ a0 a1 k, LeO (amphoraref08_Above.f k a0 a1) (amphoraref08_Above.f (k + 1) a0 a1) := by
  intro a0 a1 k
  obtain ⟨ih0, ih1⟩ := amphoraref08_Above.mono_l k
  unfold amphoraref08_Above.f
  repeat' first
      | (with_reducible exact ih0 _ _ _)
      | (with_reducible exact ih1 _ _ _)
      | (with_reducible exact amphoraref08_Split.mono _ _)
      | (with_reducible exact LeO.refl _)
      | (with_reducible exact LeO.none _)
      | (with_reducible refine LeO.ite ?_ ?_)
      | (with_reducible refine LeO.bind ?_ (fun _ => ?_))
      | exact ih0 _ _ _
      | exact ih1 _ _ _
      | exact amphoraref08_Split.mono _ _
      | exact LeO.none _
      | refine LeO.ite ?_ ?_
      | refine LeO.bind ?_ (fun _ => ?_)
set_option maxHeartbeats 8000000 in
set_option maxRecDepth 100000 in
theorem amphoraref08_Above.calls (k : Nat) (a0 : ByteArray) (a1 : ByteArray) (r : Bool) (w : World) (hGl : Gl w) (h : amphoraref08_Above.f k a0 a1 = some r) :
    Calls Tryd.prog 19 #[.string a0, .string a1] w fun e w' => e = .returned (.bool r) ∧ Below w.heap.size w w' := by
  have HB := Aside0.mk (Below.refl w.heap.size w)
  have HGL := Aside0.mk hGl
  clear hGl
  have H : ((amphoraref08_Split.f k a0).bind fun t226 => ((amphoraref08_Split.f k a1).bind fun t229 => (if (t226.length : Int) = 0 then (amphoraref08_Above.j0 k t226 t229 true) else (amphoraref08_Above.j0 k t226 t229 (decide ((t229.length : Int) ≤ (t226.length : Int))))))) = some r := h
  clear h
  replace H := Option.bind_eq_some_iff.mp H
  obtain ⟨t226, A30, H⟩ := H
  replace H : ((amphoraref08_Split.f k a1).bind fun t229 => (if (t226.length : Int) = 0 then (amphoraref08_Above.j0 k t226 t229 true) else (amphoraref08_Above.j0 k t226 t229 (decide ((t229.length : Int) ≤ (t226.length : Int)))))) = some r := H
  have A3 := Aside0.mk A30
  clear A30
  replace H := Option.bind_eq_some_iff.mp H
  obtain ⟨t229, A40, H⟩ := H
  replace H : (if (t226.length : Int) = 0 then (amphoraref08_Above.j0 k t226 t229 true) else (amphoraref08_Above.j0 k t226 t229 (decide ((t229.length : Int) ≤ (t226.length : Int))))) = some r := H
  have A4 := Aside0.mk A40
  clear A40
  have HC5 := Aside0.mk H
  clear H
  go_enter Tryd.func19, Tryd.ntmps19
  go_upto_region 3 with (first | (go_at_call 23; (with_reducible refine (amphoraref08_Split.calls k a0 t226 _ ?side1 A3.out).mono ?_); (case side1 => first | exact HGL.out | exact Gl.drewN HGL.out _ | exact Gl.of HGL.out (by repeat (first | (with_reducible first | exact HB.out | apply below_alloc | apply pw_below_drewN | apply below_drew1) | exact HB.out))); rintro e w6 ⟨v227, rfl, ho0, hb⟩; have n0_ := Aside0.mk (Kd.R_lower ho0 (below_size (by repeat (first | (with_reducible first | exact HB.out | apply below_alloc | apply pw_below_drewN | apply below_drew1) | exact HB.out)))); have n1_ := Aside0.mk (below_step (by repeat (first | (with_reducible first | exact HB.out | apply below_alloc | apply pw_below_drewN | apply below_drew1) | exact HB.out)) hb); clear HB; have HO228 := n0_; have HB := n1_; clear n0_ n1_; (try clear hb); (try clear hb2); (try clear hk); (try clear hi); (try clear ho0)) | (go_at_call 23; (with_reducible refine (amphoraref08_Split.calls k a1 t229 _ ?side1 A4.out).mono ?_); (case side1 => first | exact HGL.out | exact Gl.drewN HGL.out _ | exact Gl.of HGL.out (by repeat (first | (with_reducible first | exact HB.out | apply below_alloc | apply pw_below_drewN | apply below_drew1) | exact HB.out))); rintro e w7 ⟨v230, rfl, ho0, hb⟩; have n0_ := Aside0.mk (Kd.R_elder' (by (with_reducible repeat (first | apply Kd.R_alloc | apply Kd.R_drewN | apply Kd.R_drew)); exact HO228.out) (Kd.R_base ho0) hb); have n1_ := Aside0.mk (Kd.R_lower (Kd.R_new' ho0 (Kd.R_lt (by (with_reducible repeat (first | apply Kd.R_alloc | apply Kd.R_drewN | apply Kd.R_drew)); exact HO228.out))) (below_size (by repeat (first | (with_reducible first | exact HB.out | apply below_alloc | apply pw_below_drewN | apply below_drew1) | exact HB.out)))); have n2_ := Aside0.mk (below_step (by repeat (first | (with_reducible first | exact HB.out | apply below_alloc | apply pw_below_drewN | apply below_drew1) | exact HB.out)) hb); clear HO228; clear HB; have HO228 := n0_; have HO231 := n1_; have HB := n2_; clear n0_ n1_ n2_; (try clear hb); (try clear hb2); (try clear hk); (try clear hi); (try clear ho0)))
  repeat (go_quiet (first | (go_at_call 23; (with_reducible refine (amphoraref08_Split.calls k a0 t226 _ ?side1 A3.out).mono ?_); (case side1 => first | exact HGL.out | exact Gl.drewN HGL.out _ | exact Gl.of HGL.out (by repeat (first | (with_reducible first | exact HB.out | apply below_alloc | apply pw_below_drewN | apply below_drew1) | exact HB.out))); rintro e w6 ⟨v227, rfl, ho0, hb⟩; have n0_ := Aside0.mk (Kd.R_lower ho0 (below_size (by repeat (first | (with_reducible first | exact HB.out | apply below_alloc | apply pw_below_drewN | apply below_drew1) | exact HB.out)))); have n1_ := Aside0.mk (below_step (by repeat (first | (with_reducible first | exact HB.out | apply below_alloc | apply pw_below_drewN | apply below_drew1) | exact HB.out)) hb); clear HB; have HO228 := n0_; have HB := n1_; clear n0_ n1_; (try clear hb); (try clear hb2); (try clear hk); (try clear hi); (try clear ho0)) | (go_at_call 23; (with_reducible refine (amphoraref08_Split.calls k a1 t229 _ ?side1 A4.out).mono ?_); (case side1 => first | exact HGL.out | exact Gl.drewN HGL.out _ | exact Gl.of HGL.out (by repeat (first | (with_reducible first | exact HB.out | apply below_alloc | apply pw_below_drewN | apply below_drew1) | exact HB.out))); rintro e w7 ⟨v230, rfl, ho0, hb⟩; have n0_ := Aside0.mk (Kd.R_elder' (by (with_reducible repeat (first | apply Kd.R_alloc | apply Kd.R_drewN | apply Kd.R_drew)); exact HO228.out) (Kd.R_base ho0) hb); have n1_ := Aside0.mk (Kd.R_lower (Kd.R_new' ho0 (Kd.R_lt (by (with_reducible repeat (first | apply Kd.R_alloc | apply Kd.R_drewN | apply Kd.R_drew)); exact HO228.out))) (below_size (by repeat (first | (with_reducible first | exact HB.out | apply below_alloc | apply pw_below_drewN | apply below_drew1) | exact HB.out)))); have n2_ := Aside0.mk (below_step (by repeat (first | (with_reducible first | exact HB.out | apply below_alloc | apply pw_below_drewN | apply below_drew1) | exact HB.out)) hb); clear HO228; clear HB; have HO228 := n0_; have HO231 := n1_; have HB := n2_; clear n0_ n1_ n2_; (try clear hb); (try clear hb2); (try clear hk); (try clear hi); (try clear ho0))); go_upto_region 3 with (first | (go_at_call 23; (with_reducible refine (amphoraref08_Split.calls k a0 t226 _ ?side1 A3.out).mono ?_); (case side1 => first | exact HGL.out | exact Gl.drewN HGL.out _ | exact Gl.of HGL.out (by repeat (first | (with_reducible first | exact HB.out | apply below_alloc | apply pw_below_drewN | apply below_drew1) | exact HB.out))); rintro e w6 ⟨v227, rfl, ho0, hb⟩; have n0_ := Aside0.mk (Kd.R_lower ho0 (below_size (by repeat (first | (with_reducible first | exact HB.out | apply below_alloc | apply pw_below_drewN | apply below_drew1) | exact HB.out)))); have n1_ := Aside0.mk (below_step (by repeat (first | (with_reducible first | exact HB.out | apply below_alloc | apply pw_below_drewN | apply below_drew1) | exact HB.out)) hb); clear HB; have HO228 := n0_; have HB := n1_; clear n0_ n1_; (try clear hb); (try clear hb2); (try clear hk); (try clear hi); (try clear ho0)) | (go_at_call 23; (with_reducible refine (amphoraref08_Split.calls k a1 t229 _ ?side1 A4.out).mono ?_); (case side1 => first | exact HGL.out | exact Gl.drewN HGL.out _ | exact Gl.of HGL.out (by repeat (first | (with_reducible first | exact HB.out | apply below_alloc | apply pw_below_drewN | apply below_drew1) | exact HB.out))); rintro e w7 ⟨v230, rfl, ho0, hb⟩; have n0_ := Aside0.mk (Kd.R_elder' (by (with_reducible repeat (first | apply Kd.R_alloc | apply Kd.R_drewN | apply Kd.R_drew)); exact HO228.out) (Kd.R_base ho0) hb); have n1_ := Aside0.mk (Kd.R_lower (Kd.R_new' ho0 (Kd.R_lt (by (with_reducible repeat (first | apply Kd.R_alloc | apply Kd.R_drewN | apply Kd.R_drew)); exact HO228.out))) (below_size (by repeat (first | (with_reducible first | exact HB.out | apply below_alloc | apply pw_below_drewN | apply below_drew1) | exact HB.out)))); have n2_ := Aside0.mk (below_step (by repeat (first | (with_reducible first | exact HB.out | apply below_alloc | apply pw_below_drewN | apply below_drew1) | exact HB.out)) hb); clear HO228; clear HB; have HO228 := n0_; have HO231 := n1_; have HB := n2_; clear n0_ n1_ n2_; (try clear hb); (try clear hb2); (try clear hk); (try clear hi); (try clear ho0))))
  (try simp only [Act.put, List.setIfInBounds_toArray, List.set_cons_zero, List.set_cons_succ])
  go_cut [21] (fun v21 wc => ∃ (kq : Nat) (x21_4 : Bool), v21 = .bool x21_4 ∧ Aside0 (amphoraref08_Above.j0 kq t226 t229 x21_4 = some r) ∧ Aside0 (kq ≤ k) ∧ Aside0 (Kd.R Kd.string 9 wc w.heap.size (fun k_ => some k_ ≠ (v230 : Value).ownBlock) v227 t226) ∧ Aside0 (Kd.R Kd.string 9 wc w.heap.size (fun k_ => some k_ ≠ (v227 : Value).ownBlock) v230 t229) ∧ Aside0 (Below w.heap.size w wc))
  case first =>
    have H := HC5.out
    clear HC5
    by_cases c8 : (t226.length : Int) = 0
    · rw [if_pos c8] at H
      have c8b0 : ((t226.length : Int) == 0) = true := beq_iff_eq.mpr c8
      have c8b1 : ((t226.length : Int) != 0) = false := bne_eq_false_iff_eq.mpr c8
      clear c8
      (first | rw [c8b0] | (simp only [i64_w, i32_w]; rw [c8b0]) | rw [c8b1] | skip)
      have H' := Aside0.mk H
      clear H
      obtain ⟨Ao9, co9, eo9⟩ := Kd.R_slice HO228.out
      subst eo9
      go_wp2
      repeat (go_quiet (fail); try go_wp2)
      go_meet
      case rel => exact ⟨_, (true), (by first | rfl | (simp; done) | (simp [*]; done)), H', ⟨by first | omega | exact Nat.le_refl _⟩, ⟨by (with_reducible repeat (first | apply Kd.R_alloc | apply Kd.R_drewN | apply Kd.R_drew)); exact Kd.R_mono HO228.out (fun _ hk => hk.2)⟩, ⟨by (with_reducible repeat (first | apply Kd.R_alloc | apply Kd.R_drewN | apply Kd.R_drew)); exact Kd.R_mono HO231.out (fun _ hk => hk.2)⟩, ⟨by repeat (first | (with_reducible first | exact HB.out | apply below_alloc | apply pw_below_drewN | apply below_drew1) | exact HB.out)⟩⟩
    · rw [if_neg c8] at H
      have c8b0 : ((t226.length : Int) == 0) = false := beq_eq_false_iff_ne.mpr c8
      have c8b1 : ((t226.length : Int) != 0) = true := bne_iff_ne.mpr c8
      have c8b2 : ¬ (t226 = []) := fun h_ => c8 (by rw [h_]; rfl)
      (first | rw [c8b0] | (simp only [i64_w, i32_w]; rw [c8b0]) | rw [c8b1] | skip)
      have H' := Aside0.mk H
      clear H
      obtain ⟨Ao10, co10, eo10⟩ := Kd.R_slice HO228.out
      subst eo10
      obtain ⟨Ao11, co11, eo11⟩ := Kd.R_slice HO231.out
      subst eo11
      go_wp2
      repeat (go_quiet (fail); try go_wp2)
      go_meet
      case rel => exact ⟨_, (decide ((t229.length : Int) ≤ (t226.length : Int))), (by first | rfl | (simp; done) | (simp [*]; done)), H', ⟨by first | omega | exact Nat.le_refl _⟩, ⟨by (with_reducible repeat (first | apply Kd.R_alloc | apply Kd.R_drewN | apply Kd.R_drew)); exact Kd.R_mono HO228.out (fun _ hk => hk.2)⟩, ⟨by (with_reducible repeat (first | apply Kd.R_alloc | apply Kd.R_drewN | apply Kd.R_drew)); exact Kd.R_mono HO231.out (fun _ hk => hk.2)⟩, ⟨by repeat (first | (with_reducible first | exact HB.out | apply below_alloc | apply pw_below_drewN | apply below_drew1) | exact HB.out)⟩⟩
  case rest =>
    clear HC5
    try clear c1
    try clear p2
    try clear c8
    try clear c8b0
    try clear c8b1
    try clear c8b2
    obtain ⟨kq, x21_4, rfl, HA, HJ4, HO_5, HO_6, HB⟩ := hcut
    cases kq with
    | zero => exact absurd HA.out (by simp [amphoraref08_Above.j0])
    | succ kj4 =>
      have H := HA.out
      clear HA
      simp only [amphoraref08_Above.j0] at H
      by_cases c12 : x21_4 = true
      · subst c12
        have H1 : (some false) = some r := by rw [if_pos rfl] at H; exact H
        clear H
        have H := H1
        clear H1
        obtain rfl := Option.some.inj H
        go_wp2
        repeat (go_quiet (fail); try go_wp2)
        go_ret
        exact ⟨by first | rfl | (simp [errW_none, errW_some] <;> rfl) | (simp [*, errW_none, errW_some] <;> rfl), by repeat (first | (with_reducible first | exact HB.out | apply below_alloc | apply pw_below_drewN | apply below_drew1) | exact HB.out)⟩
      · replace c12 := Bool.eq_false_iff.mpr c12
        subst c12
        have H1 : (amphoraref08_Above.l0 kj4 t226 t229 0) = some r := by rw [if_neg (show ¬ (false = true) by decide)] at H; exact H
        clear H
        have H := H1
        clear H1
        have H' := Aside0.mk H
        clear H
        go_wp2
        repeat (go_quiet (fail); try go_wp2)
        go_loopg [7] kj4 (fun kq v7 w' => ∃ (x7_2 : Int), v7 = .int .i64 x7_2 ∧ Aside0 (amphoraref08_Above.l0 kq t226 t229 x7_2 = some r) ∧ Aside0 (kq ≤ kj4) ∧ Aside0 (Kd.R Kd.string 9 w' w.heap.size (fun k_ => some k_ ≠ (v230 : Value).ownBlock) v227 t226) ∧ Aside0 (Kd.R Kd.string 9 w' w.heap.size (fun k_ => some k_ ≠ (v227 : Value).ownBlock) v230 t229) ∧ Aside0 (Below w.heap.size w w'))
        case atStart => exact ⟨(0), (by first | rfl | (simp; done) | (simp [*]; done)), H', ⟨Nat.le_refl _⟩, ⟨by (with_reducible repeat (first | apply Kd.R_alloc | apply Kd.R_drewN | apply Kd.R_drew)); exact HO_5.out⟩, ⟨by (with_reducible repeat (first | apply Kd.R_alloc | apply Kd.R_drewN | apply Kd.R_drew)); exact HO_6.out⟩, ⟨by repeat (first | (with_reducible first | exact HB.out | apply below_alloc | apply pw_below_drewN | apply below_drew1) | exact HB.out)⟩⟩
        case round =>
          clear H'
          try clear c1
          try clear p2
          try clear c8
          try clear c8b0
          try clear c8b1
          try clear c8b2
          try clear c12
          try clear p2
          obtain ⟨x7_2, rfl, HA, HK2, HO_5, HO_6, HB⟩ := hrel
          cases gk with
          | zero => exact absurd HA.out (by simp [amphoraref08_Above.l0])
          | succ k2 =>
            have H := HA.out
            clear HA
            simp only [amphoraref08_Above.l0] at H
            by_cases c13 : x7_2 < (t226.length : Int)
            · rw [if_pos c13] at H
              have c13b0 : decide (x7_2 < (t226.length : Int)) = true := decide_eq_true c13
              clear c13
              by_cases c14 : 0 ≤ x7_2
              · rw [if_pos c14] at H
                have c14b0 : decide (0 ≤ x7_2) = true := decide_eq_true c14
                clear c14
                by_cases c15 : x7_2 < (t229.length : Int)
                · rw [if_pos c15] at H
                  have c15b0 : decide (x7_2 < (t229.length : Int)) = true := decide_eq_true c15
                  clear c15
                  by_cases c16 : (rdOf ByteArray.empty t226 x7_2).toList = (rdOf ByteArray.empty t229 x7_2).toList
                  · rw [if_pos c16] at H
                    have c16b0 : ((rdOf ByteArray.empty t226 x7_2).toList == (rdOf ByteArray.empty t229 x7_2).toList) = true := beq_iff_eq.mpr c16
                    have c16b1 : ((rdOf ByteArray.empty t226 x7_2).toList != (rdOf ByteArray.empty t229 x7_2).toList) = false := bne_eq_false_iff_eq.mpr c16
                    clear c16
                    have H' := Aside0.mk H
                    clear H
                    obtain ⟨Ao17, co17, eo17⟩ := Kd.R_slice HO_5.out
                    subst eo17
                    have p232 : 0 ≤ (x7_2 : Int) := of_decide_eq_true (by first | (with_reducible assumption) | assumption)
                    have q232 : x7_2 < (t226.length : Int) := of_decide_eq_true (by first | (with_reducible assumption) | assumption)
                    obtain ⟨ad232, e232, hx232_0⟩ := Kd.at_string (Kd.R_reads' HO_5.out).2.2 x7_2 p232 q232
                    cases e232
                    replace p232 := eq_true p232
                    replace q232 := eq_true q232
                    obtain ⟨Ao18, co18, eo18⟩ := Kd.R_slice HO_6.out
                    subst eo18
                    have p233 : 0 ≤ (x7_2 : Int) := of_decide_eq_true (by first | (with_reducible assumption) | assumption)
                    have q233 : x7_2 < (t229.length : Int) := of_decide_eq_true (by first | (with_reducible assumption) | assumption)
                    obtain ⟨ad233, e233, hx233_0⟩ := Kd.at_string (Kd.R_reads' HO_6.out).2.2 x7_2 p233 q233
                    cases e233
                    replace p233 := eq_true p233
                    replace q233 := eq_true q233
                    go_wp2
                    repeat (go_quiet (fail); try go_wp2)
                    go_roundg k2
                    case measure => have := HJ4.out; have := HK2.out; omega
                    case rel => exact ⟨(wrap64 (x7_2 + 1)), (by first | rfl | (simp; done) | (simp [*]; done)), H', ⟨by have := HJ4.out; have := HK2.out; omega⟩, ⟨by (with_reducible repeat (first | apply Kd.R_alloc | apply Kd.R_drewN | apply Kd.R_drew)); exact HO_5.out⟩, ⟨by (with_reducible repeat (first | apply Kd.R_alloc | apply Kd.R_drewN | apply Kd.R_drew)); exact HO_6.out⟩, ⟨by repeat (first | (with_reducible first | exact HB.out | apply below_alloc | apply pw_below_drewN | apply below_drew1) | exact HB.out)⟩⟩
                  · rw [if_neg c16] at H
                    have c16b0 : ((rdOf ByteArray.empty t226 x7_2).toList == (rdOf ByteArray.empty t229 x7_2).toList) = false := beq_eq_false_iff_ne.mpr c16
                    have c16b1 : ((rdOf ByteArray.empty t226 x7_2).toList != (rdOf ByteArray.empty t229 x7_2).toList) = true := bne_iff_ne.mpr c16
                    obtain rfl := Option.some.inj H
                    obtain ⟨Ao19, co19, eo19⟩ := Kd.R_slice HO_5.out
                    subst eo19
                    have p232 : 0 ≤ (x7_2 : Int) := of_decide_eq_true (by first | (with_reducible assumption) | assumption)
                    have q232 : x7_2 < (t226.length : Int) := of_decide_eq_true (by first | (with_reducible assumption) | assumption)
                    obtain ⟨ad232, e232, hx232_0⟩ := Kd.at_string (Kd.R_reads' HO_5.out).2.2 x7_2 p232 q232
                    cases e232
                    replace p232 := eq_true p232
                    replace q232 := eq_true q232
                    obtain ⟨Ao20, co20, eo20⟩ := Kd.R_slice HO_6.out
                    subst eo20
                    have p233 : 0 ≤ (x7_2 : Int) := of_decide_eq_true (by first | (with_reducible assumption) | assumption)
                    have q233 : x7_2 < (t229.length : Int) := of_decide_eq_true (by first | (with_reducible assumption) | assumption)
                    obtain ⟨ad233, e233, hx233_0⟩ := Kd.at_string (Kd.R_reads' HO_6.out).2.2 x7_2 p233 q233
                    cases e233
                    replace p233 := eq_true p233
                    replace q233 := eq_true q233
                    go_wp2
                    repeat (go_quiet (fail); try go_wp2)
                    go_ret
                    exact ⟨by first | rfl | (simp [errW_none, errW_some] <;> rfl) | (simp [*, errW_none, errW_some] <;> rfl), by repeat (first | (with_reducible first | exact HB.out | apply below_alloc | apply pw_below_drewN | apply below_drew1) | exact HB.out)⟩
                · rw [if_neg c15] at H
                  exact absurd H (by simp)
              · rw [if_neg c14] at H
                exact absurd H (by simp)
            · rw [if_neg c13] at H
              have c13b0 : decide (x7_2 < (t226.length : Int)) = false := decide_eq_false c13
              clear c13
              obtain rfl := Option.some.inj H
              obtain ⟨Ao21, co21, eo21⟩ := Kd.R_slice HO_5.out
              subst eo21
              go_wp2
              repeat (go_quiet (fail); try go_wp2)
              go_ret
              exact ⟨by first | rfl | (simp [errW_none, errW_some] <;> rfl) | (simp [*, errW_none, errW_some] <;> rfl), by repeat (first | (with_reducible first | exact HB.out | apply below_alloc | apply pw_below_drewN | apply below_drew1) | exact HB.out)⟩

end Go.Proofs.YtplhgoccnjgkpaaDoor.PPath
