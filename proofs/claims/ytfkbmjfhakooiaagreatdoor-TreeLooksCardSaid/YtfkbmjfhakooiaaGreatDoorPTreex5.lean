/- Printed for this claim by a copy of the kit's print.py that takes functions walked by our own texts. Conditions: none. -/
import Derived.Test.YtfkbmjfhakooiaaGreatDoorPTreex0
namespace Go.Proofs.YtfkbmjfhakooiaaGreatDoor.PTree
open Go.RowKit Go.Proofs.YtfkbmjfhakooiaaGreatDoorW.PrintWords Go.Proofs.YtfkbmjfhakooiaaGreatDoorW.PrintLast Go.Proofs.YtfkbmjfhakooiaaGreatDoorW.PrintMore
attribute [local go_sem] max2_int min2_int max_two min_two max_three min_three max_four min_four   -- for this text's walks alone
set_option linter.unusedVariables false
set_option linter.unusedSimpArgs false

/-! ### amphoraref08_utf: function 69 -/
mutual
def amphoraref08_utf.l0 : Nat → ByteArray → Int → Option (Bool)
  | 0, _, _ => none
  | k + 1, x0, x3 => if x3 < (x0.size : Int) then (if 0 ≤ x3 then (if (bt x0 x3) < 128 then (amphoraref08_utf.j4 k x0 x3 1 128 191) else (if (bt x0 x3) ≥ 194 then (amphoraref08_utf.j1 k x0 x3 (bt x0 x3) 0 128 191 (decide ((bt x0 x3) ≤ 223))) else (amphoraref08_utf.j1 k x0 x3 (bt x0 x3) 0 128 191 false))) else (none)) else (some true)
def amphoraref08_utf.j4 : Nat → ByteArray → Int → Int → Int → Int → Option (Bool)
  | 0, _, _, _, _, _ => none
  | k + 1, x0, x3, x5, x6, x7 => if x5 = 0 then (amphoraref08_utf.j5 k x0 x3 x5 x6 x7 true) else (amphoraref08_utf.j5 k x0 x3 x5 x6 x7 (decide ((wrap64 (x3 + x5)) > (x0.size : Int))))
def amphoraref08_utf.j5 : Nat → ByteArray → Int → Int → Int → Int → Bool → Option (Bool)
  | 0, _, _, _, _, _, _ => none
  | k + 1, x0, x3, x5, x6, x7, x57 => if x57 = true then (some false) else (amphoraref08_utf.l1 k x0 x3 x5 x6 x7 1)
def amphoraref08_utf.l1 : Nat → ByteArray → Int → Int → Int → Int → Int → Option (Bool)
  | 0, _, _, _, _, _, _ => none
  | k + 1, x0, x3, x5, x6, x7, x8 => if x8 < x5 then (if 0 ≤ (wrap64 (x3 + x8)) then (if (wrap64 (x3 + x8)) < (x0.size : Int) then (if (bt x0 (wrap64 (x3 + x8))) < x6 then (some false) else (if (bt x0 (wrap64 (x3 + x8))) > x7 then (some false) else (amphoraref08_utf.l1 k x0 x3 x5 128 191 (wrap64 (x8 + 1))))) else (none)) else (none)) else (amphoraref08_utf.l0 k x0 (wrap64 (x3 + x5)))
def amphoraref08_utf.j1 : Nat → ByteArray → Int → Int → Int → Int → Int → Bool → Option (Bool)
  | 0, _, _, _, _, _, _, _ => none
  | k + 1, x0, x3, x4, x5, x6, x7, x19 => if x19 = true then (amphoraref08_utf.j4 k x0 x3 2 x6 x7) else (if x4 ≥ 224 then (amphoraref08_utf.j2 k x0 x3 x4 x5 x6 x7 (decide (x4 ≤ 239))) else (amphoraref08_utf.j2 k x0 x3 x4 x5 x6 x7 false))
def amphoraref08_utf.j2 : Nat → ByteArray → Int → Int → Int → Int → Int → Bool → Option (Bool)
  | 0, _, _, _, _, _, _, _ => none
  | k + 1, x0, x3, x4, x5, x6, x7, x26 => if x26 = true then (if x4 = 224 then (if x4 = 237 then (amphoraref08_utf.j4 k x0 x3 3 160 159) else (amphoraref08_utf.j4 k x0 x3 3 160 x7)) else (if x4 = 237 then (amphoraref08_utf.j4 k x0 x3 3 x6 159) else (amphoraref08_utf.j4 k x0 x3 3 x6 x7))) else (if x4 ≥ 240 then (amphoraref08_utf.j3 k x0 x3 x4 x5 x6 x7 (decide (x4 ≤ 244))) else (amphoraref08_utf.j3 k x0 x3 x4 x5 x6 x7 false))
def amphoraref08_utf.j3 : Nat → ByteArray → Int → Int → Int → Int → Int → Bool → Option (Bool)
  | 0, _, _, _, _, _, _, _ => none
  | k + 1, x0, x3, x4, x5, x6, x7, x37 => if x37 = true then (if x4 = 240 then (if x4 = 244 then (amphoraref08_utf.j4 k x0 x3 4 144 143) else (amphoraref08_utf.j4 k x0 x3 4 144 x7)) else (if x4 = 244 then (amphoraref08_utf.j4 k x0 x3 4 x6 143) else (amphoraref08_utf.j4 k x0 x3 4 x6 x7))) else (amphoraref08_utf.j4 k x0 x3 x5 x6 x7)
end
def amphoraref08_utf.f (k : Nat) (a0 : ByteArray) : Option (Bool) := amphoraref08_utf.l0 k a0 0
theorem amphoraref08_utf.mono_l : ∀ k, (∀ y0 y1, LeO (amphoraref08_utf.l0 k y0 y1) (amphoraref08_utf.l0 (k + 1) y0 y1)) ∧ (∀ y0 y1 y2 y3 y4, LeO (amphoraref08_utf.j4 k y0 y1 y2 y3 y4) (amphoraref08_utf.j4 (k + 1) y0 y1 y2 y3 y4)) ∧ (∀ y0 y1 y2 y3 y4 y5, LeO (amphoraref08_utf.j5 k y0 y1 y2 y3 y4 y5) (amphoraref08_utf.j5 (k + 1) y0 y1 y2 y3 y4 y5)) ∧ (∀ y0 y1 y2 y3 y4 y5, LeO (amphoraref08_utf.l1 k y0 y1 y2 y3 y4 y5) (amphoraref08_utf.l1 (k + 1) y0 y1 y2 y3 y4 y5)) ∧ (∀ y0 y1 y2 y3 y4 y5 y6, LeO (amphoraref08_utf.j1 k y0 y1 y2 y3 y4 y5 y6) (amphoraref08_utf.j1 (k + 1) y0 y1 y2 y3 y4 y5 y6)) ∧ (∀ y0 y1 y2 y3 y4 y5 y6, LeO (amphoraref08_utf.j2 k y0 y1 y2 y3 y4 y5 y6) (amphoraref08_utf.j2 (k + 1) y0 y1 y2 y3 y4 y5 y6)) ∧ (∀ y0 y1 y2 y3 y4 y5 y6, LeO (amphoraref08_utf.j3 k y0 y1 y2 y3 y4 y5 y6) (amphoraref08_utf.j3 (k + 1) y0 y1 y2 y3 y4 y5 y6))
  | 0 => ⟨fun _ _ r h => by simp [amphoraref08_utf.l0] at h, fun _ _ _ _ _ r h => by simp [amphoraref08_utf.j4] at h, fun _ _ _ _ _ _ r h => by simp [amphoraref08_utf.j5] at h, fun _ _ _ _ _ _ r h => by simp [amphoraref08_utf.l1] at h, fun _ _ _ _ _ _ _ r h => by simp [amphoraref08_utf.j1] at h, fun _ _ _ _ _ _ _ r h => by simp [amphoraref08_utf.j2] at h, fun _ _ _ _ _ _ _ r h => by simp [amphoraref08_utf.j3] at h⟩
  | k + 1 => by
    obtain ⟨ih0, ih1, ih2, ih3, ih4, ih5, ih6⟩ := amphoraref08_utf.mono_l k
    refine ⟨?_, ?_, ?_, ?_, ?_, ?_, ?_⟩
    · intro y0 y1
      unfold amphoraref08_utf.l0
      repeat' first
      | (with_reducible exact ih0 _ _)
      | (with_reducible exact ih1 _ _ _ _ _)
      | (with_reducible exact ih2 _ _ _ _ _ _)
      | (with_reducible exact ih3 _ _ _ _ _ _)
      | (with_reducible exact ih4 _ _ _ _ _ _ _)
      | (with_reducible exact ih5 _ _ _ _ _ _ _)
      | (with_reducible exact ih6 _ _ _ _ _ _ _)
      | (with_reducible exact LeO.refl _)
      | (with_reducible exact LeO.none _)
      | (with_reducible refine LeO.ite ?_ ?_)
      | (with_reducible refine LeO.bind ?_ (fun _ => ?_))
      | exact ih0 _ _
      | exact ih1 _ _ _ _ _
      | exact ih2 _ _ _ _ _ _
      | exact ih3 _ _ _ _ _ _
      | exact ih4 _ _ _ _ _ _ _
      | exact ih5 _ _ _ _ _ _ _
      | exact ih6 _ _ _ _ _ _ _
      | exact LeO.none _
      | refine LeO.ite ?_ ?_
      | refine LeO.bind ?_ (fun _ => ?_)
    · intro y0 y1 y2 y3 y4
      unfold amphoraref08_utf.j4
      repeat' first
      | (with_reducible exact ih0 _ _)
      | (with_reducible exact ih1 _ _ _ _ _)
      | (with_reducible exact ih2 _ _ _ _ _ _)
      | (with_reducible exact ih3 _ _ _ _ _ _)
      | (with_reducible exact ih4 _ _ _ _ _ _ _)
      | (with_reducible exact ih5 _ _ _ _ _ _ _)
      | (with_reducible exact ih6 _ _ _ _ _ _ _)
      | (with_reducible exact LeO.refl _)
      | (with_reducible exact LeO.none _)
      | (with_reducible refine LeO.ite ?_ ?_)
      | (with_reducible refine LeO.bind ?_ (fun _ => ?_))
      | exact ih0 _ _
      | exact ih1 _ _ _ _ _
      | exact ih2 _ _ _ _ _ _
      | exact ih3 _ _ _ _ _ _
      | exact ih4 _ _ _ _ _ _ _
      | exact ih5 _ _ _ _ _ _ _
      | exact ih6 _ _ _ _ _ _ _
      | exact LeO.none _
      | refine LeO.ite ?_ ?_
      | refine LeO.bind ?_ (fun _ => ?_)
    · intro y0 y1 y2 y3 y4 y5
      unfold amphoraref08_utf.j5
      repeat' first
      | (with_reducible exact ih0 _ _)
      | (with_reducible exact ih1 _ _ _ _ _)
      | (with_reducible exact ih2 _ _ _ _ _ _)
      | (with_reducible exact ih3 _ _ _ _ _ _)
      | (with_reducible exact ih4 _ _ _ _ _ _ _)
      | (with_reducible exact ih5 _ _ _ _ _ _ _)
      | (with_reducible exact ih6 _ _ _ _ _ _ _)
      | (with_reducible exact LeO.refl _)
      | (with_reducible exact LeO.none _)
      | (with_reducible refine LeO.ite ?_ ?_)
      | (with_reducible refine LeO.bind ?_ (fun _ => ?_))
      | exact ih0 _ _
      | exact ih1 _ _ _ _ _
      | exact ih2 _ _ _ _ _ _
      | exact ih3 _ _ _ _ _ _
      | exact ih4 _ _ _ _ _ _ _
      | exact ih5 _ _ _ _ _ _ _
      | exact ih6 _ _ _ _ _ _ _
      | exact LeO.none _
      | refine LeO.ite ?_ ?_
      | refine LeO.bind ?_ (fun _ => ?_)
    · intro y0 y1 y2 y3 y4 y5
      unfold amphoraref08_utf.l1
      repeat' first
      | (with_reducible exact ih0 _ _)
      | (with_reducible exact ih1 _ _ _ _ _)
      | (with_reducible exact ih2 _ _ _ _ _ _)
      | (with_reducible exact ih3 _ _ _ _ _ _)
      | (with_reducible exact ih4 _ _ _ _ _ _ _)
      | (with_reducible exact ih5 _ _ _ _ _ _ _)
      | (with_reducible exact ih6 _ _ _ _ _ _ _)
      | (with_reducible exact LeO.refl _)
      | (with_reducible exact LeO.none _)
      | (with_reducible refine LeO.ite ?_ ?_)
      | (with_reducible refine LeO.bind ?_ (fun _ => ?_))
      | exact ih0 _ _
      | exact ih1 _ _ _ _ _
      | exact ih2 _ _ _ _ _ _
      | exact ih3 _ _ _ _ _ _
      | exact ih4 _ _ _ _ _ _ _
      | exact ih5 _ _ _ _ _ _ _
      | exact ih6 _ _ _ _ _ _ _
      | exact LeO.none _
      | refine LeO.ite ?_ ?_
      | refine LeO.bind ?_ (fun _ => ?_)
    · intro y0 y1 y2 y3 y4 y5 y6
      unfold amphoraref08_utf.j1
      repeat' first
      | (with_reducible exact ih0 _ _)
      | (with_reducible exact ih1 _ _ _ _ _)
      | (with_reducible exact ih2 _ _ _ _ _ _)
      | (with_reducible exact ih3 _ _ _ _ _ _)
      | (with_reducible exact ih4 _ _ _ _ _ _ _)
      | (with_reducible exact ih5 _ _ _ _ _ _ _)
      | (with_reducible exact ih6 _ _ _ _ _ _ _)
      | (with_reducible exact LeO.refl _)
      | (with_reducible exact LeO.none _)
      | (with_reducible refine LeO.ite ?_ ?_)
      | (with_reducible refine LeO.bind ?_ (fun _ => ?_))
      | exact ih0 _ _
      | exact ih1 _ _ _ _ _
      | exact ih2 _ _ _ _ _ _
      | exact ih3 _ _ _ _ _ _
      | exact ih4 _ _ _ _ _ _ _
      | exact ih5 _ _ _ _ _ _ _
      | exact ih6 _ _ _ _ _ _ _
      | exact LeO.none _
      | refine LeO.ite ?_ ?_
      | refine LeO.bind ?_ (fun _ => ?_)
    · intro y0 y1 y2 y3 y4 y5 y6
      unfold amphoraref08_utf.j2
      repeat' first
      | (with_reducible exact ih0 _ _)
      | (with_reducible exact ih1 _ _ _ _ _)
      | (with_reducible exact ih2 _ _ _ _ _ _)
      | (with_reducible exact ih3 _ _ _ _ _ _)
      | (with_reducible exact ih4 _ _ _ _ _ _ _)
      | (with_reducible exact ih5 _ _ _ _ _ _ _)
      | (with_reducible exact ih6 _ _ _ _ _ _ _)
      | (with_reducible exact LeO.refl _)
      | (with_reducible exact LeO.none _)
      | (with_reducible refine LeO.ite ?_ ?_)
      | (with_reducible refine LeO.bind ?_ (fun _ => ?_))
      | exact ih0 _ _
      | exact ih1 _ _ _ _ _
      | exact ih2 _ _ _ _ _ _
      | exact ih3 _ _ _ _ _ _
      | exact ih4 _ _ _ _ _ _ _
      | exact ih5 _ _ _ _ _ _ _
      | exact ih6 _ _ _ _ _ _ _
      | exact LeO.none _
      | refine LeO.ite ?_ ?_
      | refine LeO.bind ?_ (fun _ => ?_)
    · intro y0 y1 y2 y3 y4 y5 y6
      unfold amphoraref08_utf.j3
      repeat' first
      | (with_reducible exact ih0 _ _)
      | (with_reducible exact ih1 _ _ _ _ _)
      | (with_reducible exact ih2 _ _ _ _ _ _)
      | (with_reducible exact ih3 _ _ _ _ _ _)
      | (with_reducible exact ih4 _ _ _ _ _ _ _)
      | (with_reducible exact ih5 _ _ _ _ _ _ _)
      | (with_reducible exact ih6 _ _ _ _ _ _ _)
      | (with_reducible exact LeO.refl _)
      | (with_reducible exact LeO.none _)
      | (with_reducible refine LeO.ite ?_ ?_)
      | (with_reducible refine LeO.bind ?_ (fun _ => ?_))
      | exact ih0 _ _
      | exact ih1 _ _ _ _ _
      | exact ih2 _ _ _ _ _ _
      | exact ih3 _ _ _ _ _ _
      | exact ih4 _ _ _ _ _ _ _
      | exact ih5 _ _ _ _ _ _ _
      | exact ih6 _ _ _ _ _ _ _
      | exact LeO.none _
      | refine LeO.ite ?_ ?_
      | refine LeO.bind ?_ (fun _ => ?_)
theorem amphoraref08_utf.mono : ∀ a0 k, LeO (amphoraref08_utf.f k a0) (amphoraref08_utf.f (k + 1) a0) := by
  intro a0 k
  obtain ⟨ih0, ih1, ih2, ih3, ih4, ih5, ih6⟩ := amphoraref08_utf.mono_l k
  unfold amphoraref08_utf.f
  repeat' first
      | (with_reducible exact ih0 _ _)
      | (with_reducible exact ih1 _ _ _ _ _)
      | (with_reducible exact ih2 _ _ _ _ _ _)
      | (with_reducible exact ih3 _ _ _ _ _ _)
      | (with_reducible exact ih4 _ _ _ _ _ _ _)
      | (with_reducible exact ih5 _ _ _ _ _ _ _)
      | (with_reducible exact ih6 _ _ _ _ _ _ _)
      | (with_reducible exact LeO.refl _)
      | (with_reducible exact LeO.none _)
      | (with_reducible refine LeO.ite ?_ ?_)
      | (with_reducible refine LeO.bind ?_ (fun _ => ?_))
      | exact ih0 _ _
      | exact ih1 _ _ _ _ _
      | exact ih2 _ _ _ _ _ _
      | exact ih3 _ _ _ _ _ _
      | exact ih4 _ _ _ _ _ _ _
      | exact ih5 _ _ _ _ _ _ _
      | exact ih6 _ _ _ _ _ _ _
      | exact LeO.none _
      | refine LeO.ite ?_ ?_
      | refine LeO.bind ?_ (fun _ => ?_)
set_option maxHeartbeats 8000000 in
set_option maxRecDepth 100000 in
theorem amphoraref08_utf.calls (k : Nat) (a0 : ByteArray) (r : Bool) (w : World) (hGl : Gl w) (h : amphoraref08_utf.f k a0 = some r) :
    Calls Tryz.prog 69 #[.string a0] w fun e w' => e = .returned (.bool r) ∧ Drawn0 w w' := by
  have HGL := Aside0.mk hGl
  clear hGl
  have H : (amphoraref08_utf.l0 k a0 0) = some r := h
  clear h
  have H' := Aside0.mk H
  clear H
  go_enter Tryz.func69, Tryz.ntmps69
  go_wp2
  go_loopg [3] k (fun kq v3 w' => ∃ (x3_1 : Int), v3 = .int .i64 x3_1 ∧ Aside0 (amphoraref08_utf.l0 kq a0 x3_1 = some r) ∧ Aside0 (kq ≤ k) ∧ Drawn0 w w')
  case atStart => exact ⟨(0), (by first | rfl | (simp; done) | (simp [*]; done)), H', ⟨Nat.le_refl _⟩, by repeat (first | exact Drawn0.refl _ | apply Drawn0.step)⟩
  case round =>
    clear H'
    obtain ⟨x3_1, rfl, HA, HK1, ⟨m1, rfl⟩⟩ := hrel
    cases gk with
    | zero => exact absurd HA.out (by simp [amphoraref08_utf.l0])
    | succ k1 =>
      have H := HA.out
      clear HA
      simp only [amphoraref08_utf.l0] at H
      by_cases c2 : x3_1 < (a0.size : Int)
      · rw [if_pos c2] at H
        have c2b0 : decide (x3_1 < (a0.size : Int)) = true := decide_eq_true c2
        clear c2
        by_cases c3 : 0 ≤ x3_1
        · rw [if_pos c3] at H
          have c3b0 : decide (0 ≤ x3_1) = true := decide_eq_true c3
          clear c3
          have HC5 := Aside0.mk H
          clear H
          have p4 : 0 ≤ (x3_1 : Int) := of_decide_eq_true (by first | (with_reducible assumption) | assumption)
          have q4 : x3_1 < (a0.size : Int) := of_decide_eq_true (by first | (with_reducible assumption) | assumption)
          have hx4 := bt_at a0 x3_1
          replace p4 := eq_true p4
          replace q4 := eq_true q4
          go_upto_block 2 with (fail)
          go_cut [5, 6, 7] (fun v5 v6 v7 wc => ∃ (kq : Nat) (x5_4 : Int) (x6_4 : Int) (x7_4 : Int), v5 = .int .i64 x5_4 ∧ v6 = .int .u8 x6_4 ∧ v7 = .int .u8 x7_4 ∧ Aside0 (amphoraref08_utf.j4 kq a0 x3_1 x5_4 x6_4 x7_4 = some r) ∧ Aside0 (kq ≤ k1) ∧ Drawn0 w wc)
          case first =>
            have H := HC5.out
            clear HC5
            by_cases c6 : (bt a0 x3_1) < 128
            · rw [if_pos c6] at H
              have c6b0 : decide ((bt a0 x3_1) < 128) = true := decide_eq_true c6
              clear c6
              (first | rw [c6b0] | (simp only [i64_w, i32_w]; rw [c6b0]) | rw [c6b1] | skip)
              have H' := Aside0.mk H
              clear H
              go_wp2
              go_meet
              case rel => exact ⟨_, (1), (128), (191), (by first | rfl | (simp; done) | (simp [*]; done)), (by first | rfl | (simp; done) | (simp [*]; done)), (by first | rfl | (simp; done) | (simp [*]; done)), H', ⟨by have := HK1.out; first | omega | exact Nat.le_refl _⟩, by repeat (first | exact Drawn0.refl _ | apply Drawn0.step)⟩
            · rw [if_neg c6] at H
              have c6b0 : decide ((bt a0 x3_1) < 128) = false := decide_eq_false c6
              clear c6
              (first | rw [c6b0] | (simp only [i64_w, i32_w]; rw [c6b0]) | rw [c6b1] | skip)
              have HC7 := Aside0.mk H
              clear H
              go_upto_region 9 with (fail)
              go_cut [19] (fun v19 wc => ∃ (kq : Nat) (x19_6 : Bool), v19 = .bool x19_6 ∧ Aside0 (amphoraref08_utf.j1 kq a0 x3_1 (bt a0 x3_1) 0 128 191 x19_6 = some r) ∧ Aside0 (kq ≤ k1) ∧ Drawn0 w wc)
              case first =>
                have H := HC7.out
                clear HC7
                by_cases c8 : (bt a0 x3_1) ≥ 194
                · rw [if_pos c8] at H
                  have c8b0 : decide (194 ≤ (bt a0 x3_1)) = true := decide_eq_true c8
                  clear c8
                  (first | rw [c8b0] | (simp only [i64_w, i32_w]; rw [c8b0]) | rw [c8b1] | skip)
                  have H' := Aside0.mk H
                  clear H
                  go_wp2
                  go_meet
                  case rel => exact ⟨_, (decide ((bt a0 x3_1) ≤ 223)), (by first | rfl | (simp; done) | (simp [*]; done)), H', ⟨by have := HK1.out; first | omega | exact Nat.le_refl _⟩, by repeat (first | exact Drawn0.refl _ | apply Drawn0.step)⟩
                · rw [if_neg c8] at H
                  have c8b0 : decide (194 ≤ (bt a0 x3_1)) = false := decide_eq_false c8
                  clear c8
                  (first | rw [c8b0] | (simp only [i64_w, i32_w]; rw [c8b0]) | rw [c8b1] | skip)
                  have H' := Aside0.mk H
                  clear H
                  go_wp2
                  go_meet
                  case rel => exact ⟨_, (false), (by first | rfl | (simp; done) | (simp [*]; done)), H', ⟨by have := HK1.out; first | omega | exact Nat.le_refl _⟩, by repeat (first | exact Drawn0.refl _ | apply Drawn0.step)⟩
              case rest =>
                clear HC7
                try clear c2
                try clear c2b0
                try clear p2
                try clear c3
                try clear c3b0
                try clear p4
                try clear q4
                try clear hx4
                try clear c6
                try clear c6b0
                try clear c8
                try clear c8b0
                try clear p4
                try clear q4
                obtain ⟨kq, x19_6, rfl, HA, HJ6, ⟨mc6, rfl⟩⟩ := hcut
                cases kq with
                | zero => exact absurd HA.out (by simp [amphoraref08_utf.j1])
                | succ kj6 =>
                  have H := HA.out
                  clear HA
                  simp only [amphoraref08_utf.j1] at H
                  by_cases c9 : x19_6 = true
                  · subst c9
                    have H1 : (amphoraref08_utf.j4 kj6 a0 x3_1 2 128 191) = some r := by rw [if_pos rfl] at H; exact H
                    clear H
                    have H := H1
                    clear H1
                    have H' := Aside0.mk H
                    clear H
                    go_wp2
                    go_meet
                    case rel => exact ⟨_, (2), (128), (191), (by first | rfl | (simp; done) | (simp [*]; done)), (by first | rfl | (simp; done) | (simp [*]; done)), (by first | rfl | (simp; done) | (simp [*]; done)), H', ⟨by have := HK1.out; have := HJ6.out; first | omega | exact Nat.le_refl _⟩, by repeat (first | exact Drawn0.refl _ | apply Drawn0.step)⟩
                  · replace c9 := Bool.eq_false_iff.mpr c9
                    subst c9
                    have H1 : (if (bt a0 x3_1) ≥ 224 then (amphoraref08_utf.j2 kj6 a0 x3_1 (bt a0 x3_1) 0 128 191 (decide ((bt a0 x3_1) ≤ 239))) else (amphoraref08_utf.j2 kj6 a0 x3_1 (bt a0 x3_1) 0 128 191 false)) = some r := by rw [if_neg (show ¬ (false = true) by decide)] at H; exact H
                    clear H
                    have H := H1
                    clear H1
                    have HC10 := Aside0.mk H
                    clear H
                    go_upto_region 11 with (fail)
                    go_cut [26] (fun v26 wc => ∃ (kq : Nat) (x26_9 : Bool), v26 = .bool x26_9 ∧ Aside0 (amphoraref08_utf.j2 kq a0 x3_1 (bt a0 x3_1) 0 128 191 x26_9 = some r) ∧ Aside0 (kq ≤ kj6) ∧ Drawn0 w wc)
                    case first =>
                      have H := HC10.out
                      clear HC10
                      by_cases c11 : (bt a0 x3_1) ≥ 224
                      · rw [if_pos c11] at H
                        have c11b0 : decide (224 ≤ (bt a0 x3_1)) = true := decide_eq_true c11
                        clear c11
                        (first | rw [c11b0] | (simp only [i64_w, i32_w]; rw [c11b0]) | rw [c11b1] | skip)
                        have H' := Aside0.mk H
                        clear H
                        go_wp2
                        go_meet
                        case rel => exact ⟨_, (decide ((bt a0 x3_1) ≤ 239)), (by first | rfl | (simp; done) | (simp [*]; done)), H', ⟨by have := HK1.out; have := HJ6.out; first | omega | exact Nat.le_refl _⟩, by repeat (first | exact Drawn0.refl _ | apply Drawn0.step)⟩
                      · rw [if_neg c11] at H
                        have c11b0 : decide (224 ≤ (bt a0 x3_1)) = false := decide_eq_false c11
                        clear c11
                        (first | rw [c11b0] | (simp only [i64_w, i32_w]; rw [c11b0]) | rw [c11b1] | skip)
                        have H' := Aside0.mk H
                        clear H
                        go_wp2
                        go_meet
                        case rel => exact ⟨_, (false), (by first | rfl | (simp; done) | (simp [*]; done)), H', ⟨by have := HK1.out; have := HJ6.out; first | omega | exact Nat.le_refl _⟩, by repeat (first | exact Drawn0.refl _ | apply Drawn0.step)⟩
                    case rest =>
                      clear HC10
                      try clear c1
                      try clear c2
                      try clear c2b0
                      try clear p2
                      try clear c3
                      try clear c3b0
                      try clear p4
                      try clear q4
                      try clear hx4
                      try clear c6
                      try clear c6b0
                      try clear c8
                      try clear c8b0
                      try clear c9
                      try clear c11
                      try clear c11b0
                      try clear p2
                      try clear p4
                      try clear q4
                      obtain ⟨kq, x26_9, rfl, HA, HJ9, ⟨mc9, rfl⟩⟩ := hcut
                      cases kq with
                      | zero => exact absurd HA.out (by simp [amphoraref08_utf.j2])
                      | succ kj9 =>
                        have H := HA.out
                        clear HA
                        simp only [amphoraref08_utf.j2] at H
                        by_cases c12 : x26_9 = true
                        · subst c12
                          have H1 : (if (bt a0 x3_1) = 224 then (if (bt a0 x3_1) = 237 then (amphoraref08_utf.j4 kj9 a0 x3_1 3 160 159) else (amphoraref08_utf.j4 kj9 a0 x3_1 3 160 191)) else (if (bt a0 x3_1) = 237 then (amphoraref08_utf.j4 kj9 a0 x3_1 3 128 159) else (amphoraref08_utf.j4 kj9 a0 x3_1 3 128 191))) = some r := by rw [if_pos rfl] at H; exact H
                          clear H
                          have H := H1
                          clear H1
                          by_cases c13 : (bt a0 x3_1) = 224
                          · rw [if_pos c13] at H
                            have c13b0 : ((bt a0 x3_1) == 224) = true := beq_iff_eq.mpr c13
                            have c13b1 : ((bt a0 x3_1) != 224) = false := bne_eq_false_iff_eq.mpr c13
                            clear c13
                            by_cases c14 : (bt a0 x3_1) = 237
                            · rw [if_pos c14] at H
                              have c14b0 : ((bt a0 x3_1) == 237) = true := beq_iff_eq.mpr c14
                              have c14b1 : ((bt a0 x3_1) != 237) = false := bne_eq_false_iff_eq.mpr c14
                              clear c14
                              have H' := Aside0.mk H
                              clear H
                              go_wp2
                              go_meet
                              case rel => exact ⟨_, (3), (160), (159), (by first | rfl | (simp; done) | (simp [*]; done)), (by first | rfl | (simp; done) | (simp [*]; done)), (by first | rfl | (simp; done) | (simp [*]; done)), H', ⟨by have := HK1.out; have := HJ6.out; have := HJ9.out; first | omega | exact Nat.le_refl _⟩, by repeat (first | exact Drawn0.refl _ | apply Drawn0.step)⟩
                            · rw [if_neg c14] at H
                              have c14b0 : ((bt a0 x3_1) == 237) = false := beq_eq_false_iff_ne.mpr c14
                              have c14b1 : ((bt a0 x3_1) != 237) = true := bne_iff_ne.mpr c14
                              have H' := Aside0.mk H
                              clear H
                              go_wp2
                              go_meet
                              case rel => exact ⟨_, (3), (160), (191), (by first | rfl | (simp; done) | (simp [*]; done)), (by first | rfl | (simp; done) | (simp [*]; done)), (by first | rfl | (simp; done) | (simp [*]; done)), H', ⟨by have := HK1.out; have := HJ6.out; have := HJ9.out; first | omega | exact Nat.le_refl _⟩, by repeat (first | exact Drawn0.refl _ | apply Drawn0.step)⟩
                          · rw [if_neg c13] at H
                            have c13b0 : ((bt a0 x3_1) == 224) = false := beq_eq_false_iff_ne.mpr c13
                            have c13b1 : ((bt a0 x3_1) != 224) = true := bne_iff_ne.mpr c13
                            by_cases c15 : (bt a0 x3_1) = 237
                            · rw [if_pos c15] at H
                              have c15b0 : ((bt a0 x3_1) == 237) = true := beq_iff_eq.mpr c15
                              have c15b1 : ((bt a0 x3_1) != 237) = false := bne_eq_false_iff_eq.mpr c15
                              clear c15
                              have H' := Aside0.mk H
                              clear H
                              go_wp2
                              go_meet
                              case rel => exact ⟨_, (3), (128), (159), (by first | rfl | (simp; done) | (simp [*]; done)), (by first | rfl | (simp; done) | (simp [*]; done)), (by first | rfl | (simp; done) | (simp [*]; done)), H', ⟨by have := HK1.out; have := HJ6.out; have := HJ9.out; first | omega | exact Nat.le_refl _⟩, by repeat (first | exact Drawn0.refl _ | apply Drawn0.step)⟩
                            · rw [if_neg c15] at H
                              have c15b0 : ((bt a0 x3_1) == 237) = false := beq_eq_false_iff_ne.mpr c15
                              have c15b1 : ((bt a0 x3_1) != 237) = true := bne_iff_ne.mpr c15
                              have H' := Aside0.mk H
                              clear H
                              go_wp2
                              go_meet
                              case rel => exact ⟨_, (3), (128), (191), (by first | rfl | (simp; done) | (simp [*]; done)), (by first | rfl | (simp; done) | (simp [*]; done)), (by first | rfl | (simp; done) | (simp [*]; done)), H', ⟨by have := HK1.out; have := HJ6.out; have := HJ9.out; first | omega | exact Nat.le_refl _⟩, by repeat (first | exact Drawn0.refl _ | apply Drawn0.step)⟩
                        · replace c12 := Bool.eq_false_iff.mpr c12
                          subst c12
                          have H1 : (if (bt a0 x3_1) ≥ 240 then (amphoraref08_utf.j3 kj9 a0 x3_1 (bt a0 x3_1) 0 128 191 (decide ((bt a0 x3_1) ≤ 244))) else (amphoraref08_utf.j3 kj9 a0 x3_1 (bt a0 x3_1) 0 128 191 false)) = some r := by rw [if_neg (show ¬ (false = true) by decide)] at H; exact H
                          clear H
                          have H := H1
                          clear H1
                          have HC16 := Aside0.mk H
                          clear H
                          go_upto_region 17 with (fail)
                          go_cut [37] (fun v37 wc => ∃ (kq : Nat) (x37_15 : Bool), v37 = .bool x37_15 ∧ Aside0 (amphoraref08_utf.j3 kq a0 x3_1 (bt a0 x3_1) 0 128 191 x37_15 = some r) ∧ Aside0 (kq ≤ kj9) ∧ Drawn0 w wc)
                          case first =>
                            have H := HC16.out
                            clear HC16
                            by_cases c17 : (bt a0 x3_1) ≥ 240
                            · rw [if_pos c17] at H
                              have c17b0 : decide (240 ≤ (bt a0 x3_1)) = true := decide_eq_true c17
                              clear c17
                              (first | rw [c17b0] | (simp only [i64_w, i32_w]; rw [c17b0]) | rw [c17b1] | skip)
                              have H' := Aside0.mk H
                              clear H
                              go_wp2
                              go_meet
                              case rel => exact ⟨_, (decide ((bt a0 x3_1) ≤ 244)), (by first | rfl | (simp; done) | (simp [*]; done)), H', ⟨by have := HK1.out; have := HJ6.out; have := HJ9.out; first | omega | exact Nat.le_refl _⟩, by repeat (first | exact Drawn0.refl _ | apply Drawn0.step)⟩
                            · rw [if_neg c17] at H
                              have c17b0 : decide (240 ≤ (bt a0 x3_1)) = false := decide_eq_false c17
                              clear c17
                              (first | rw [c17b0] | (simp only [i64_w, i32_w]; rw [c17b0]) | rw [c17b1] | skip)
                              have H' := Aside0.mk H
                              clear H
                              go_wp2
                              go_meet
                              case rel => exact ⟨_, (false), (by first | rfl | (simp; done) | (simp [*]; done)), H', ⟨by have := HK1.out; have := HJ6.out; have := HJ9.out; first | omega | exact Nat.le_refl _⟩, by repeat (first | exact Drawn0.refl _ | apply Drawn0.step)⟩
                          case rest =>
                            clear HC16
                            try clear c1
                            try clear c2
                            try clear c2b0
                            try clear p2
                            try clear c3
                            try clear c3b0
                            try clear p4
                            try clear q4
                            try clear hx4
                            try clear c6
                            try clear c6b0
                            try clear c8
                            try clear c8b0
                            try clear c9
                            try clear c11
                            try clear c11b0
                            try clear c12
                            try clear c13
                            try clear c13b0
                            try clear c13b1
                            try clear c14
                            try clear c14b0
                            try clear c14b1
                            try clear c15
                            try clear c15b0
                            try clear c15b1
                            try clear c17
                            try clear c17b0
                            try clear p2
                            try clear p4
                            try clear q4
                            obtain ⟨kq, x37_15, rfl, HA, HJ15, ⟨mc15, rfl⟩⟩ := hcut
                            cases kq with
                            | zero => exact absurd HA.out (by simp [amphoraref08_utf.j3])
                            | succ kj15 =>
                              have H := HA.out
                              clear HA
                              simp only [amphoraref08_utf.j3] at H
                              by_cases c18 : x37_15 = true
                              · subst c18
                                have H1 : (if (bt a0 x3_1) = 240 then (if (bt a0 x3_1) = 244 then (amphoraref08_utf.j4 kj15 a0 x3_1 4 144 143) else (amphoraref08_utf.j4 kj15 a0 x3_1 4 144 191)) else (if (bt a0 x3_1) = 244 then (amphoraref08_utf.j4 kj15 a0 x3_1 4 128 143) else (amphoraref08_utf.j4 kj15 a0 x3_1 4 128 191))) = some r := by rw [if_pos rfl] at H; exact H
                                clear H
                                have H := H1
                                clear H1
                                by_cases c19 : (bt a0 x3_1) = 240
                                · rw [if_pos c19] at H
                                  have c19b0 : ((bt a0 x3_1) == 240) = true := beq_iff_eq.mpr c19
                                  have c19b1 : ((bt a0 x3_1) != 240) = false := bne_eq_false_iff_eq.mpr c19
                                  clear c19
                                  by_cases c20 : (bt a0 x3_1) = 244
                                  · rw [if_pos c20] at H
                                    have c20b0 : ((bt a0 x3_1) == 244) = true := beq_iff_eq.mpr c20
                                    have c20b1 : ((bt a0 x3_1) != 244) = false := bne_eq_false_iff_eq.mpr c20
                                    clear c20
                                    have H' := Aside0.mk H
                                    clear H
                                    go_wp2
                                    go_meet
                                    case rel => exact ⟨_, (4), (144), (143), (by first | rfl | (simp; done) | (simp [*]; done)), (by first | rfl | (simp; done) | (simp [*]; done)), (by first | rfl | (simp; done) | (simp [*]; done)), H', ⟨by have := HK1.out; have := HJ6.out; have := HJ9.out; have := HJ15.out; first | omega | exact Nat.le_refl _⟩, by repeat (first | exact Drawn0.refl _ | apply Drawn0.step)⟩
                                  · rw [if_neg c20] at H
                                    have c20b0 : ((bt a0 x3_1) == 244) = false := beq_eq_false_iff_ne.mpr c20
                                    have c20b1 : ((bt a0 x3_1) != 244) = true := bne_iff_ne.mpr c20
                                    have H' := Aside0.mk H
                                    clear H
                                    go_wp2
                                    go_meet
                                    case rel => exact ⟨_, (4), (144), (191), (by first | rfl | (simp; done) | (simp [*]; done)), (by first | rfl | (simp; done) | (simp [*]; done)), (by first | rfl | (simp; done) | (simp [*]; done)), H', ⟨by have := HK1.out; have := HJ6.out; have := HJ9.out; have := HJ15.out; first | omega | exact Nat.le_refl _⟩, by repeat (first | exact Drawn0.refl _ | apply Drawn0.step)⟩
                                · rw [if_neg c19] at H
                                  have c19b0 : ((bt a0 x3_1) == 240) = false := beq_eq_false_iff_ne.mpr c19
                                  have c19b1 : ((bt a0 x3_1) != 240) = true := bne_iff_ne.mpr c19
                                  by_cases c21 : (bt a0 x3_1) = 244
                                  · rw [if_pos c21] at H
                                    have c21b0 : ((bt a0 x3_1) == 244) = true := beq_iff_eq.mpr c21
                                    have c21b1 : ((bt a0 x3_1) != 244) = false := bne_eq_false_iff_eq.mpr c21
                                    clear c21
                                    have H' := Aside0.mk H
                                    clear H
                                    go_wp2
                                    go_meet
                                    case rel => exact ⟨_, (4), (128), (143), (by first | rfl | (simp; done) | (simp [*]; done)), (by first | rfl | (simp; done) | (simp [*]; done)), (by first | rfl | (simp; done) | (simp [*]; done)), H', ⟨by have := HK1.out; have := HJ6.out; have := HJ9.out; have := HJ15.out; first | omega | exact Nat.le_refl _⟩, by repeat (first | exact Drawn0.refl _ | apply Drawn0.step)⟩
                                  · rw [if_neg c21] at H
                                    have c21b0 : ((bt a0 x3_1) == 244) = false := beq_eq_false_iff_ne.mpr c21
                                    have c21b1 : ((bt a0 x3_1) != 244) = true := bne_iff_ne.mpr c21
                                    have H' := Aside0.mk H
                                    clear H
                                    go_wp2
                                    go_meet
                                    case rel => exact ⟨_, (4), (128), (191), (by first | rfl | (simp; done) | (simp [*]; done)), (by first | rfl | (simp; done) | (simp [*]; done)), (by first | rfl | (simp; done) | (simp [*]; done)), H', ⟨by have := HK1.out; have := HJ6.out; have := HJ9.out; have := HJ15.out; first | omega | exact Nat.le_refl _⟩, by repeat (first | exact Drawn0.refl _ | apply Drawn0.step)⟩
                              · replace c18 := Bool.eq_false_iff.mpr c18
                                subst c18
                                have H1 : (amphoraref08_utf.j4 kj15 a0 x3_1 0 128 191) = some r := by rw [if_neg (show ¬ (false = true) by decide)] at H; exact H
                                clear H
                                have H := H1
                                clear H1
                                have H' := Aside0.mk H
                                clear H
                                go_wp2
                                go_meet
                                case rel => exact ⟨_, (0), (128), (191), (by first | rfl | (simp; done) | (simp [*]; done)), (by first | rfl | (simp; done) | (simp [*]; done)), (by first | rfl | (simp; done) | (simp [*]; done)), H', ⟨by have := HK1.out; have := HJ6.out; have := HJ9.out; have := HJ15.out; first | omega | exact Nat.le_refl _⟩, by repeat (first | exact Drawn0.refl _ | apply Drawn0.step)⟩
          case rest =>
            clear HC5
            try clear c1
            try clear c2
            try clear c2b0
            try clear p2
            try clear c3
            try clear c3b0
            try clear p4
            try clear q4
            try clear hx4
            try clear c6
            try clear c6b0
            try clear c8
            try clear c8b0
            try clear c9
            try clear c11
            try clear c11b0
            try clear c12
            try clear c13
            try clear c13b0
            try clear c13b1
            try clear c14
            try clear c14b0
            try clear c14b1
            try clear c15
            try clear c15b0
            try clear c15b1
            try clear c17
            try clear c17b0
            try clear c18
            try clear c19
            try clear c19b0
            try clear c19b1
            try clear c20
            try clear c20b0
            try clear c20b1
            try clear c21
            try clear c21b0
            try clear c21b1
            try clear p2
            try clear p4
            try clear q4
            obtain ⟨kq, x5_4, x6_4, x7_4, rfl, rfl, rfl, HA, HJ4, ⟨mc4, rfl⟩⟩ := hcut
            cases kq with
            | zero => exact absurd HA.out (by simp [amphoraref08_utf.j4])
            | succ kj4 =>
              have H := HA.out
              clear HA
              simp only [amphoraref08_utf.j4] at H
              have HC22 := Aside0.mk H
              clear H
              go_upto_region 23 with (fail)
              go_cut [57] (fun v57 wc => ∃ (kq : Nat) (x57_21 : Bool), v57 = .bool x57_21 ∧ Aside0 (amphoraref08_utf.j5 kq a0 x3_1 x5_4 x6_4 x7_4 x57_21 = some r) ∧ Aside0 (kq ≤ kj4) ∧ Drawn0 w wc)
              case first =>
                have H := HC22.out
                clear HC22
                by_cases c23 : x5_4 = 0
                · rw [if_pos c23] at H
                  have c23b0 : (x5_4 == 0) = true := beq_iff_eq.mpr c23
                  have c23b1 : (x5_4 != 0) = false := bne_eq_false_iff_eq.mpr c23
                  clear c23
                  (first | rw [c23b0] | (simp only [i64_w, i32_w]; rw [c23b0]) | rw [c23b1] | skip)
                  have H' := Aside0.mk H
                  clear H
                  go_wp2
                  go_meet
                  case rel => exact ⟨_, (true), (by first | rfl | (simp; done) | (simp [*]; done)), H', ⟨by have := HK1.out; have := HJ4.out; first | omega | exact Nat.le_refl _⟩, by repeat (first | exact Drawn0.refl _ | apply Drawn0.step)⟩
                · rw [if_neg c23] at H
                  have c23b0 : (x5_4 == 0) = false := beq_eq_false_iff_ne.mpr c23
                  have c23b1 : (x5_4 != 0) = true := bne_iff_ne.mpr c23
                  (first | rw [c23b0] | (simp only [i64_w, i32_w]; rw [c23b0]) | rw [c23b1] | skip)
                  have H' := Aside0.mk H
                  clear H
                  go_wp2
                  go_meet
                  case rel => exact ⟨_, (decide ((wrap64 (x3_1 + x5_4)) > (a0.size : Int))), (by first | rfl | (simp; done) | (simp [*]; done)), H', ⟨by have := HK1.out; have := HJ4.out; first | omega | exact Nat.le_refl _⟩, by repeat (first | exact Drawn0.refl _ | apply Drawn0.step)⟩
              case rest =>
                clear HC22
                try clear c1
                try clear c2
                try clear c2b0
                try clear p2
                try clear c3
                try clear c3b0
                try clear c4
                try clear p4
                try clear q4
                try clear hx4
                try clear c6
                try clear c6b0
                try clear p6
                try clear c8
                try clear c8b0
                try clear c9
                try clear c11
                try clear c11b0
                try clear c12
                try clear c13
                try clear c13b0
                try clear c13b1
                try clear c14
                try clear c14b0
                try clear c14b1
                try clear c15
                try clear c15b0
                try clear c15b1
                try clear c17
                try clear c17b0
                try clear c18
                try clear c19
                try clear c19b0
                try clear c19b1
                try clear c20
                try clear c20b0
                try clear c20b1
                try clear c21
                try clear c21b0
                try clear c21b1
                try clear c23
                try clear c23b0
                try clear c23b1
                try clear p2
                try clear p4
                try clear q4
                obtain ⟨kq, x57_21, rfl, HA, HJ21, ⟨mc21, rfl⟩⟩ := hcut
                cases kq with
                | zero => exact absurd HA.out (by simp [amphoraref08_utf.j5])
                | succ kj21 =>
                  have H := HA.out
                  clear HA
                  simp only [amphoraref08_utf.j5] at H
                  by_cases c24 : x57_21 = true
                  · subst c24
                    have H1 : (some false) = some r := by rw [if_pos rfl] at H; exact H
                    clear H
                    have H := H1
                    clear H1
                    obtain rfl := Option.some.inj H
                    go_wp2
                    go_ret
                    exact ⟨by first | rfl | (simp; done) | (simp [*]; done), by repeat (first | exact Drawn0.refl _ | apply Drawn0.step)⟩
                  · replace c24 := Bool.eq_false_iff.mpr c24
                    subst c24
                    have H1 : (amphoraref08_utf.l1 kj21 a0 x3_1 x5_4 x6_4 x7_4 1) = some r := by rw [if_neg (show ¬ (false = true) by decide)] at H; exact H
                    clear H
                    have H := H1
                    clear H1
                    have H' := Aside0.mk H
                    clear H
                    go_wp2
                    go_loopg [6, 7, 8] kj21 (fun kq v6 v7 v8 w' => ∃ (x6_4 : Int) (x7_4 : Int) (x8_4 : Int), v6 = .int .u8 x6_4 ∧ v7 = .int .u8 x7_4 ∧ v8 = .int .i64 x8_4 ∧ Aside0 (amphoraref08_utf.l1 kq a0 x3_1 x5_4 x6_4 x7_4 x8_4 = some r) ∧ Aside0 (kq ≤ kj21) ∧ Drawn0 w w')
                    case atStart => exact ⟨(x6_4), (x7_4), (1), (by first | rfl | (simp; done) | (simp [*]; done)), (by first | rfl | (simp; done) | (simp [*]; done)), (by first | rfl | (simp; done) | (simp [*]; done)), H', ⟨Nat.le_refl _⟩, by repeat (first | exact Drawn0.refl _ | apply Drawn0.step)⟩
                    case round =>
                      clear H'
                      try clear c1
                      try clear c2
                      try clear c2b0
                      try clear p2
                      try clear c3
                      try clear c3b0
                      try clear c4
                      try clear p4
                      try clear q4
                      try clear hx4
                      try clear c6
                      try clear c6b0
                      try clear p6
                      try clear c8
                      try clear c8b0
                      try clear c9
                      try clear c11
                      try clear c11b0
                      try clear c12
                      try clear c13
                      try clear c13b0
                      try clear c13b1
                      try clear c14
                      try clear c14b0
                      try clear c14b1
                      try clear c15
                      try clear c15b0
                      try clear c15b1
                      try clear c17
                      try clear c17b0
                      try clear c18
                      try clear c19
                      try clear c19b0
                      try clear c19b1
                      try clear c20
                      try clear c20b0
                      try clear c20b1
                      try clear c21
                      try clear c21b0
                      try clear c21b1
                      try clear c23
                      try clear c23b0
                      try clear c23b1
                      try clear c24
                      try clear p2
                      try clear p4
                      try clear p6
                      try clear q4
                      obtain ⟨x6_4, x7_4, x8_4, rfl, rfl, rfl, HA, HK4, ⟨m4, rfl⟩⟩ := hrel
                      cases gk with
                      | zero => exact absurd HA.out (by simp [amphoraref08_utf.l1])
                      | succ k4 =>
                        have H := HA.out
                        clear HA
                        simp only [amphoraref08_utf.l1] at H
                        by_cases c25 : x8_4 < x5_4
                        · rw [if_pos c25] at H
                          have c25b0 : decide (x8_4 < x5_4) = true := decide_eq_true c25
                          clear c25
                          obtain ⟨ji26, hji26⟩ : ∃ j_ : Int, (wrap64 (x3_1 + x8_4)) = j_ := ⟨_, rfl⟩
                          replace H : (if 0 ≤ (ji26) then (if (ji26) < (a0.size : Int) then (if (bt a0 (ji26)) < x6_4 then (some false) else (if (bt a0 (ji26)) > x7_4 then (some false) else (amphoraref08_utf.l1 k4 a0 x3_1 x5_4 128 191 (wrap64 (x8_4 + 1))))) else (none)) else (none)) = some r := by first | (rw [hji26] at H; exact H) | (simp only [hji26] at H ⊢; exact H)
                          have hji26w : (IntKind.i64.wrap (x3_1 + x8_4)) = ji26 := (i64_w _).trans hji26
                          by_cases c27 : 0 ≤ (ji26)
                          · rw [if_pos c27] at H
                            have c27b0 : decide (0 ≤ (ji26)) = true := decide_eq_true c27
                            clear c27
                            by_cases c28 : (ji26) < (a0.size : Int)
                            · rw [if_pos c28] at H
                              have c28b0 : decide ((ji26) < (a0.size : Int)) = true := decide_eq_true c28
                              clear c28
                              by_cases c30 : (bt a0 (ji26)) < x6_4
                              · rw [if_pos c30] at H
                                have c30b0 : decide ((bt a0 (ji26)) < x6_4) = true := decide_eq_true c30
                                clear c30
                                obtain rfl := Option.some.inj H
                                have p29 : 0 ≤ ((ji26) : Int) := of_decide_eq_true (by first | (with_reducible assumption) | assumption)
                                have q29 : (ji26) < (a0.size : Int) := of_decide_eq_true (by first | (with_reducible assumption) | assumption)
                                have hx29 := bt_at a0 (ji26)
                                replace p29 := eq_true p29
                                replace q29 := eq_true q29
                                go_wp2
                                go_ret
                                exact ⟨by first | rfl | (simp; done) | (simp only [← hji26] <;> (first | rfl | simp)) | (simp [*]; done), by repeat (first | exact Drawn0.refl _ | apply Drawn0.step)⟩
                              · rw [if_neg c30] at H
                                have c30b0 : decide ((bt a0 (ji26)) < x6_4) = false := decide_eq_false c30
                                clear c30
                                by_cases c32 : (bt a0 (ji26)) > x7_4
                                · rw [if_pos c32] at H
                                  have c32b0 : decide (x7_4 < (bt a0 (ji26))) = true := decide_eq_true c32
                                  clear c32
                                  obtain rfl := Option.some.inj H
                                  have p29 : 0 ≤ ((ji26) : Int) := of_decide_eq_true (by first | (with_reducible assumption) | assumption)
                                  have q29 : (ji26) < (a0.size : Int) := of_decide_eq_true (by first | (with_reducible assumption) | assumption)
                                  have hx29 := bt_at a0 (ji26)
                                  replace p29 := eq_true p29
                                  replace q29 := eq_true q29
                                  have p31 : 0 ≤ ((ji26) : Int) := of_decide_eq_true (by first | (with_reducible assumption) | assumption)
                                  have q31 : (ji26) < (a0.size : Int) := of_decide_eq_true (by first | (with_reducible assumption) | assumption)
                                  have hx31 := bt_at a0 (ji26)
                                  replace p31 := eq_true p31
                                  replace q31 := eq_true q31
                                  go_wp2
                                  go_ret
                                  exact ⟨by first | rfl | (simp; done) | (simp only [← hji26] <;> (first | rfl | simp)) | (simp [*]; done), by repeat (first | exact Drawn0.refl _ | apply Drawn0.step)⟩
                                · rw [if_neg c32] at H
                                  have c32b0 : decide (x7_4 < (bt a0 (ji26))) = false := decide_eq_false c32
                                  clear c32
                                  have H' := Aside0.mk H
                                  clear H
                                  have p29 : 0 ≤ ((ji26) : Int) := of_decide_eq_true (by first | (with_reducible assumption) | assumption)
                                  have q29 : (ji26) < (a0.size : Int) := of_decide_eq_true (by first | (with_reducible assumption) | assumption)
                                  have hx29 := bt_at a0 (ji26)
                                  replace p29 := eq_true p29
                                  replace q29 := eq_true q29
                                  have p31 : 0 ≤ ((ji26) : Int) := of_decide_eq_true (by first | (with_reducible assumption) | assumption)
                                  have q31 : (ji26) < (a0.size : Int) := of_decide_eq_true (by first | (with_reducible assumption) | assumption)
                                  have hx31 := bt_at a0 (ji26)
                                  replace p31 := eq_true p31
                                  replace q31 := eq_true q31
                                  go_wp2
                                  go_roundg k4
                                  case measure => have := HK1.out; have := HJ4.out; have := HJ21.out; have := HK4.out; omega
                                  case rel => exact ⟨(128), (191), (wrap64 (x8_4 + 1)), (by first | rfl | (simp; done) | (simp [*]; done)), (by first | rfl | (simp; done) | (simp [*]; done)), (by first | rfl | (simp; done) | (simp [*]; done)), H', ⟨by have := HK1.out; have := HJ4.out; have := HJ21.out; have := HK4.out; omega⟩, by repeat (first | exact Drawn0.refl _ | apply Drawn0.step)⟩
                            · rw [if_neg c28] at H
                              exact absurd H (by simp)
                          · rw [if_neg c27] at H
                            exact absurd H (by simp)
                        · rw [if_neg c25] at H
                          have c25b0 : decide (x8_4 < x5_4) = false := decide_eq_false c25
                          clear c25
                          have H' := Aside0.mk H
                          clear H
                          go_wp2
                          go_roundg k4
                          case measure => have := HK1.out; have := HJ4.out; have := HJ21.out; have := HK4.out; omega
                          case rel => exact ⟨(wrap64 (x3_1 + x5_4)), (by first | rfl | (simp; done) | (simp [*]; done)), H', ⟨by have := HK1.out; have := HJ4.out; have := HJ21.out; have := HK4.out; omega⟩, by repeat (first | exact Drawn0.refl _ | apply Drawn0.step)⟩
        · rw [if_neg c3] at H
          exact absurd H (by simp)
      · rw [if_neg c2] at H
        have c2b0 : decide (x3_1 < (a0.size : Int)) = false := decide_eq_false c2
        clear c2
        obtain rfl := Option.some.inj H
        go_wp2
        go_ret
        exact ⟨by first | rfl | (simp; done) | (simp [*]; done), by repeat (first | exact Drawn0.refl _ | apply Drawn0.step)⟩

end Go.Proofs.YtfkbmjfhakooiaaGreatDoor.PTree
