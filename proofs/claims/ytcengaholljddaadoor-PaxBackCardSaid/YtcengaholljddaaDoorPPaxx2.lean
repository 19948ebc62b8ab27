/- Printed for this claim by a copy of the kit's print.py that takes functions walked by our own texts. Conditions: none. -/
import Derived.Test.YtcengaholljddaaDoorPPaxx0
namespace Go.Proofs.YtcengaholljddaaDoor.PPax
open Go.RowKit Go.Proofs.YtcengaholljddaaDoorW.PrintWords Go.Proofs.YtcengaholljddaaDoorW.PrintLast Go.Proofs.YtcengaholljddaaDoorW.PrintMore
attribute [local go_sem] max2_int min2_int max_two min_two max_three min_three max_four min_four   -- for this text's walks alone
set_option linter.unusedVariables false
set_option linter.unusedSimpArgs false

/-! ### pax_keyword: function 24 -/
mutual
def pax_keyword.j0 : Nat → ByteArray → Bool → Option (Bool)
  | 0, _, _ => none
  | k + 1, x0, x10 => if x10 = true then (some false) else (pax_keyword.l0 k x0 (x0.size : Int) 0)
def pax_keyword.l0 : Nat → ByteArray → Int → Int → Option (Bool)
  | 0, _, _, _ => none
  | k + 1, x0, x12, x13 => if x13 < x12 then (if 0 ≤ x13 then (if x13 < (x0.size : Int) then (if (bt x0 x13) < 33 then (some false) else (if (bt x0 x13) > 126 then (some false) else (if (bt x0 x13) = 61 then (some false) else (pax_keyword.l0 k x0 x12 (wrap64 (x13 + 1)))))) else (none)) else (none)) else (some true)
end
def pax_keyword.f (k : Nat) (a0 : ByteArray) : Option (Bool) := if a0.toList = ([] : List UInt8) then (pax_keyword.j0 k a0 true) else (pax_keyword.j0 k a0 (decide ((a0.size : Int) > 100)))
theorem pax_keyword.mono_l : ∀ k, (∀ y0 y1, LeO (pax_keyword.j0 k y0 y1) (pax_keyword.j0 (k + 1) y0 y1)) ∧ (∀ y0 y1 y2, LeO (pax_keyword.l0 k y0 y1 y2) (pax_keyword.l0 (k + 1) y0 y1 y2))
  | 0 => ⟨fun _ _ r h => by simp [pax_keyword.j0] at h, fun _ _ _ r h => by simp [pax_keyword.l0] at h⟩
  | k + 1 => by
    obtain ⟨ih0, ih1⟩ := pax_keyword.mono_l k
    refine ⟨?_, ?_⟩
    · intro y0 y1
      unfold pax_keyword.j0
      repeat' first
      | (with_reducible exact ih0 _ _)
      | (with_reducible exact ih1 _ _ _)
      | (with_reducible exact LeO.refl _)
      | (with_reducible exact LeO.none _)
      | (with_reducible refine LeO.ite ?_ ?_)
      | (with_reducible refine LeO.bind ?_ (fun _ => ?_))
      | exact ih0 _ _
      | exact ih1 _ _ _
      | exact LeO.none _
      | refine LeO.ite ?_ ?_
      | refine LeO.bind ?_ (fun _ => ?_)
    · intro y0 y1 y2
      unfold pax_keyword.l0
      repeat' first
      | (with_reducible exact ih0 _ _)
      | (with_reducible exact ih1 _ _ _)
      | (with_reducible exact LeO.refl _)
      | (with_reducible exact LeO.none _)
      | (with_reducible refine LeO.ite ?_ ?_)
      | (with_reducible refine LeO.bind ?_ (fun _ => ?_))
      | exact ih0 _ _
      | exact ih1 _ _ _
      | exact LeO.none _
      | refine LeO.ite ?_ ?_
      | refine LeO.bind ?_ (fun _ => ?_)
theorem pax_keyword.mono : ∀ a0 k, LeO (pax_keyword.f k a0) (pax_keyword.f (k + 1) a0) := by
  intro a0 k
  obtain ⟨ih0, ih1⟩ := pax_keyword.mono_l k
  unfold pax_keyword.f
  repeat' first
      | (with_reducible exact ih0 _ _)
      | (with_reducible exact ih1 _ _ _)
      | (with_reducible exact LeO.refl _)
      | (with_reducible exact LeO.none _)
      | (with_reducible refine LeO.ite ?_ ?_)
      | (with_reducible refine LeO.bind ?_ (fun _ => ?_))
      | exact ih0 _ _
      | exact ih1 _ _ _
      | exact LeO.none _
      | refine LeO.ite ?_ ?_
      | refine LeO.bind ?_ (fun _ => ?_)
set_option maxHeartbeats 8000000 in
set_option maxRecDepth 100000 in
theorem pax_keyword.calls (k : Nat) (a0 : ByteArray) (r : Bool) (w : World) (hGl : Gl w) (h : pax_keyword.f k a0 = some r) :
    Calls Tryd.prog 24 #[.string a0] w fun e w' => e = .returned (.bool r) ∧ Drawn0 w w' := by
  have HGL := Aside0.mk hGl
  clear hGl
  have H : (if a0.toList = ([] : List UInt8) then (pax_keyword.j0 k a0 true) else (pax_keyword.j0 k a0 (decide ((a0.size : Int) > 100)))) = some r := h
  clear h
  have HC2 := Aside0.mk H
  clear H
  go_enter Tryd.func24, Tryd.ntmps24
  go_upto_region 1 with (fail)
  go_cut [10] (fun v10 wc => ∃ (kq : Nat) (x10_1 : Bool), v10 = .bool x10_1 ∧ Aside0 (pax_keyword.j0 kq a0 x10_1 = some r) ∧ Aside0 (kq ≤ k) ∧ Drawn0 w wc)
  case first =>
    have H := HC2.out
    clear HC2
    by_cases c3 : a0.toList = ([] : List UInt8)
    · rw [if_pos c3] at H
      have c3b0 : (a0.toList == ([] : List UInt8)) = true := beq_iff_eq.mpr c3
      have c3b1 : (a0.toList != ([] : List UInt8)) = false := bne_eq_false_iff_eq.mpr c3
      have c3b2 : a0.toList.isEmpty = true := List.isEmpty_iff.2 c3
      clear c3
      (try rw [c3b2])
      (try simp only [Bool.not_true, Bool.not_false])
      (first | rw [c3b0] | (simp only [i64_w, i32_w]; rw [c3b0]) | skip)
      have H' := Aside0.mk H
      clear H
      go_wp2
      go_meet
      case rel => exact ⟨_, (true), (by first | rfl | (simp; done) | (simp [*]; done)), H', ⟨by first | omega | exact Nat.le_refl _⟩, by repeat (first | exact Drawn0.refl _ | apply Drawn0.step)⟩
    · rw [if_neg c3] at H
      have c3b0 : (a0.toList == ([] : List UInt8)) = false := beq_eq_false_iff_ne.mpr c3
      have c3b1 : (a0.toList != ([] : List UInt8)) = true := bne_iff_ne.mpr c3
      have c3b2 : a0.toList.isEmpty = false := Bool.eq_false_iff.2 (fun h_ => c3 (List.isEmpty_iff.1 h_))
      (try rw [c3b2])
      (try simp only [Bool.not_true, Bool.not_false])
      (first | rw [c3b0] | (simp only [i64_w, i32_w]; rw [c3b0]) | skip)
      have H' := Aside0.mk H
      clear H
      go_wp2
      go_meet
      case rel => exact ⟨_, (decide ((a0.size : Int) > 100)), (by first | rfl | (simp; done) | (simp [*]; done)), H', ⟨by first | omega | exact Nat.le_refl _⟩, by repeat (first | exact Drawn0.refl _ | apply Drawn0.step)⟩
  case rest =>
    clear HC2
    try clear c2
    try clear p2
    try clear c3
    try clear c3b0
    try clear c3b1
    obtain ⟨kq, x10_1, rfl, HA, HJ1, ⟨mc1, rfl⟩⟩ := hcut
    cases kq with
    | zero => exact absurd HA.out (by simp [pax_keyword.j0])
    | succ kj1 =>
      have H := HA.out
      clear HA
      simp only [pax_keyword.j0] at H
      by_cases c4 : x10_1 = true
      · subst c4
        have H1 : (some false) = some r := by rw [if_pos rfl] at H; exact H
        clear H
        have H := H1
        clear H1
        obtain rfl := Option.some.inj H
        go_wp2
        go_ret
        exact ⟨by first | rfl | (simp; done) | (simp [*]; done), by repeat (first | exact Drawn0.refl _ | apply Drawn0.step)⟩
      · replace c4 := Bool.eq_false_iff.mpr c4
        subst c4
        have H1 : (pax_keyword.l0 kj1 a0 (a0.size : Int) 0) = some r := by rw [if_neg (show ¬ (false = true) by decide)] at H; exact H
        clear H
        have H := H1
        clear H1
        have H' := Aside0.mk H
        clear H
        go_wp2
        go_loopg [13] kj1 (fun kq v13 w' => ∃ (x13_2 : Int), v13 = .int .i64 x13_2 ∧ Aside0 (pax_keyword.l0 kq a0 (a0.size : Int) x13_2 = some r) ∧ Aside0 (kq ≤ kj1) ∧ Drawn0 w w')
        case atStart => exact ⟨(0), (by first | rfl | (simp; done) | (simp [*]; done)), H', ⟨Nat.le_refl _⟩, by repeat (first | exact Drawn0.refl _ | apply Drawn0.step)⟩
        case round =>
          clear H'
          try clear c1
          try clear c2
          try clear p2
          try clear c3
          try clear c3b0
          try clear c3b1
          try clear c4
          try clear p2
          obtain ⟨x13_2, rfl, HA, HK2, ⟨m2, rfl⟩⟩ := hrel
          cases gk with
          | zero => exact absurd HA.out (by simp [pax_keyword.l0])
          | succ k2 =>
            have H := HA.out
            clear HA
            simp only [pax_keyword.l0] at H
            by_cases c5 : x13_2 < (a0.size : Int)
            · rw [if_pos c5] at H
              have c5b0 : decide (x13_2 < (a0.size : Int)) = true := decide_eq_true c5
              clear c5
              by_cases c6 : 0 ≤ x13_2
              · rw [if_pos c6] at H
                have c6b0 : decide (0 ≤ x13_2) = true := decide_eq_true c6
                clear c6
                by_cases c7 : x13_2 < (a0.size : Int)
                · rw [if_pos c7] at H
                  have c7b0 : decide (x13_2 < (a0.size : Int)) = true := decide_eq_true c7
                  clear c7
                  by_cases c9 : (bt a0 x13_2) < 33
                  · rw [if_pos c9] at H
                    have c9b0 : decide ((bt a0 x13_2) < 33) = true := decide_eq_true c9
                    clear c9
                    obtain rfl := Option.some.inj H
                    have p8 : 0 ≤ (x13_2 : Int) := of_decide_eq_true (by first | (with_reducible assumption) | assumption)
                    have q8 : x13_2 < (a0.size : Int) := of_decide_eq_true (by first | (with_reducible assumption) | assumption)
                    have hx8 := bt_at a0 x13_2
                    replace p8 := eq_true p8
                    replace q8 := eq_true q8
                    go_wp2
                    go_ret
                    exact ⟨by first | rfl | (simp; done) | (simp [*]; done), by repeat (first | exact Drawn0.refl _ | apply Drawn0.step)⟩
                  · rw [if_neg c9] at H
                    have c9b0 : decide ((bt a0 x13_2) < 33) = false := decide_eq_false c9
                    clear c9
                    by_cases c11 : (bt a0 x13_2) > 126
                    · rw [if_pos c11] at H
                      have c11b0 : decide (126 < (bt a0 x13_2)) = true := decide_eq_true c11
                      clear c11
                      obtain rfl := Option.some.inj H
                      have p8 : 0 ≤ (x13_2 : Int) := of_decide_eq_true (by first | (with_reducible assumption) | assumption)
                      have q8 : x13_2 < (a0.size : Int) := of_decide_eq_true (by first | (with_reducible assumption) | assumption)
                      have hx8 := bt_at a0 x13_2
                      replace p8 := eq_true p8
                      replace q8 := eq_true q8
                      have p10 : 0 ≤ (x13_2 : Int) := of_decide_eq_true (by first | (with_reducible assumption) | assumption)
                      have q10 : x13_2 < (a0.size : Int) := of_decide_eq_true (by first | (with_reducible assumption) | assumption)
                      have hx10 := bt_at a0 x13_2
                      replace p10 := eq_true p10
                      replace q10 := eq_true q10
                      go_wp2
                      go_ret
                      exact ⟨by first | rfl | (simp; done) | (simp [*]; done), by repeat (first | exact Drawn0.refl _ | apply Drawn0.step)⟩
                    · rw [if_neg c11] at H
                      have c11b0 : decide (126 < (bt a0 x13_2)) = false := decide_eq_false c11
                      clear c11
                      by_cases c13 : (bt a0 x13_2) = 61
                      · rw [if_pos c13] at H
                        have c13b0 : ((bt a0 x13_2) == 61) = true := beq_iff_eq.mpr c13
                        have c13b1 : ((bt a0 x13_2) != 61) = false := bne_eq_false_iff_eq.mpr c13
                        clear c13
                        obtain rfl := Option.some.inj H
                        have p8 : 0 ≤ (x13_2 : Int) := of_decide_eq_true (by first | (with_reducible assumption) | assumption)
                        have q8 : x13_2 < (a0.size : Int) := of_decide_eq_true (by first | (with_reducible assumption) | assumption)
                        have hx8 := bt_at a0 x13_2
                        replace p8 := eq_true p8
                        replace q8 := eq_true q8
                        have p10 : 0 ≤ (x13_2 : Int) := of_decide_eq_true (by first | (with_reducible assumption) | assumption)
                        have q10 : x13_2 < (a0.size : Int) := of_decide_eq_true (by first | (with_reducible assumption) | assumption)
                        have hx10 := bt_at a0 x13_2
                        replace p10 := eq_true p10
                        replace q10 := eq_true q10
                        have p12 : 0 ≤ (x13_2 : Int) := of_decide_eq_true (by first | (with_reducible assumption) | assumption)
                        have q12 : x13_2 < (a0.size : Int) := of_decide_eq_true (by first | (with_reducible assumption) | assumption)
                        have hx12 := bt_at a0 x13_2
                        replace p12 := eq_true p12
                        replace q12 := eq_true q12
                        go_wp2
                        go_ret
                        exact ⟨by first | rfl | (simp; done) | (simp [*]; done), by repeat (first | exact Drawn0.refl _ | apply Drawn0.step)⟩
                      · rw [if_neg c13] at H
                        have c13b0 : ((bt a0 x13_2) == 61) = false := beq_eq_false_iff_ne.mpr c13
                        have c13b1 : ((bt a0 x13_2) != 61) = true := bne_iff_ne.mpr c13
                        have H' := Aside0.mk H
                        clear H
                        have p8 : 0 ≤ (x13_2 : Int) := of_decide_eq_true (by first | (with_reducible assumption) | assumption)
                        have q8 : x13_2 < (a0.size : Int) := of_decide_eq_true (by first | (with_reducible assumption) | assumption)
                        have hx8 := bt_at a0 x13_2
                        replace p8 := eq_true p8
                        replace q8 := eq_true q8
                        have p10 : 0 ≤ (x13_2 : Int) := of_decide_eq_true (by first | (with_reducible assumption) | assumption)
                        have q10 : x13_2 < (a0.size : Int) := of_decide_eq_true (by first | (with_reducible assumption) | assumption)
                        have hx10 := bt_at a0 x13_2
                        replace p10 := eq_true p10
                        replace q10 := eq_true q10
                        have p12 : 0 ≤ (x13_2 : Int) := of_decide_eq_true (by first | (with_reducible assumption) | assumption)
                        have q12 : x13_2 < (a0.size : Int) := of_decide_eq_true (by first | (with_reducible assumption) | assumption)
                        have hx12 := bt_at a0 x13_2
                        replace p12 := eq_true p12
                        replace q12 := eq_true q12
                        go_wp2
                        go_roundg k2
                        case measure => have := HJ1.out; have := HK2.out; omega
                        case rel => exact ⟨(wrap64 (x13_2 + 1)), (by first | rfl | (simp; done) | (simp [*]; done)), H', ⟨by have := HJ1.out; have := HK2.out; omega⟩, by repeat (first | exact Drawn0.refl _ | apply Drawn0.step)⟩
                · rw [if_neg c7] at H
                  exact absurd H (by simp)
              · rw [if_neg c6] at H
                exact absurd H (by simp)
            · rw [if_neg c5] at H
              have c5b0 : decide (x13_2 < (a0.size : Int)) = false := decide_eq_false c5
              clear c5
              obtain rfl := Option.some.inj H
              go_wp2
              go_ret
              exact ⟨by first | rfl | (simp; done) | (simp [*]; done), by repeat (first | exact Drawn0.refl _ | apply Drawn0.step)⟩

-- NOT PRINTED: function 41 (strconv_small)

-- NOT PRINTED: function 57 (strconv_log10Pow2)

-- NOT PRINTED: function 58 (bits_Len64)

-- NOT PRINTED: function 59 (strconv_bool2_int)

-- NOT PRINTED: function 42 (strconv_numDigits)

-- NOT PRINTED: function 43 (strconv_formatBase10)

-- NOT PRINTED: function 60 (strconv_isPowerOfTwo)

-- NOT PRINTED: function 70 (bits_TrailingZeros32)

-- NOT PRINTED: function 71 (bits_TrailingZeros64)

-- NOT PRINTED: function 61 (bits_TrailingZeros)

-- NOT PRINTED: function 44 (strconv_formatBits)

-- NOT PRINTED: function 35 (strconv_FormatInt)

-- NOT PRINTED: function 30 (strconv_Itoa_30)

/-! ### strconv_Itoa_26: function 26 -/
def itoaB (n : Int) : ByteArray := ⟨(Lib.itoa n).toArray⟩
def strconv_Itoa_26.f (n : Int) : Option ByteArray := if -9223372036854775808 ≤ n ∧ n ≤ 9223372036854775807 then some (itoaB n) else none
theorem below_grow (w : World) (k : Nat) (os : Array Obj) : Below w.heap.size w (Sort.grow (w.drewN k) os) :=
  ⟨rfl, rfl, rfl, by show w.heap.size ≤ (w.heap ++ os).size; rw [Array.size_append]; omega, fun i hi => Array.getElem?_append_left hi⟩
theorem strconv_Itoa_26.calls (n : Int) (r : ByteArray) (w : World) (hGl : Gl w) (h : strconv_Itoa_26.f n = some r) :
    Calls Tryd.prog 26 #[.int .i64 n] w fun e w' => e = .returned (.string r) ∧ Below w.heap.size w w' := by
  unfold strconv_Itoa_26.f at h
  by_cases hc : -9223372036854775808 ≤ n ∧ n ≤ 9223372036854775807
  · rw [if_pos hc] at h
    have hr := Option.some.inj h
    refine (Tryd.strconv_Itoa n hc.1 hc.2 w hGl.tab).mono ?_
    rintro e w' ⟨rfl, k, os, rfl⟩
    exact ⟨by rw [← hr]; rfl, below_grow w k os⟩
  · rw [if_neg hc] at h; cases h

/-! ### pax_length: function 25 -/
def pax_length.l0 : Nat → Int → Int → Option (Int)
  | 0, _, _ => none
  | k + 1, x0, x3 => (strconv_Itoa_26.f x3).bind fun t117 => (if x3 = (wrap64 (x0 + (t117.size : Int))) then (some x3) else ((strconv_Itoa_26.f x3).bind fun t118 => (pax_length.l0 k x0 (wrap64 (x0 + (t118.size : Int))))))
def pax_length.f (k : Nat) (a0 : Int) : Option (Int) := pax_length.l0 k a0 (wrap64 (a0 + 1))
theorem pax_length.mono_l : ∀ k, (∀ y0 y1, LeO (pax_length.l0 k y0 y1) (pax_length.l0 (k + 1) y0 y1))
  | 0 => fun _ _ r h => by simp [pax_length.l0] at h
  | k + 1 => by
    have ih0 := pax_length.mono_l k
    · intro y0 y1
      unfold pax_length.l0
      repeat' first
      | (with_reducible exact ih0 _ _)
      | (with_reducible exact LeO.refl _)
      | (with_reducible exact LeO.none _)
      | (with_reducible refine LeO.ite ?_ ?_)
      | (with_reducible refine LeO.bind ?_ (fun _ => ?_))
      | exact ih0 _ _
      | exact LeO.none _
      | refine LeO.ite ?_ ?_
      | refine LeO.bind ?_ (fun _ => ?_)
theorem pax_length.mono : ∀ a0 k, LeO (pax_length.f k a0) (pax_length.f (k + 1) a0) := by
  intro a0 k
  have ih0 := pax_length.mono_l k
  unfold pax_length.f
  repeat' first
      | (with_reducible exact ih0 _ _)
      | (with_reducible exact LeO.refl _)
      | (with_reducible exact LeO.none _)
      | (with_reducible refine LeO.ite ?_ ?_)
      | (with_reducible refine LeO.bind ?_ (fun _ => ?_))
      | exact ih0 _ _
      | exact LeO.none _
      | refine LeO.ite ?_ ?_
      | refine LeO.bind ?_ (fun _ => ?_)
set_option maxHeartbeats 8000000 in
set_option maxRecDepth 100000 in
theorem pax_length.calls (k : Nat) (a0 : Int) (r : Int) (w : World) (hGl : Gl w) (h : pax_length.f k a0 = some r) :
    Calls Tryd.prog 25 #[.int .i64 a0] w fun e w' => e = .returned (.int .i64 r) ∧ Below w.heap.size w w' := by
  have HB := Aside0.mk (Below.refl w.heap.size w)
  have HGL := Aside0.mk hGl
  clear hGl
  have H : (pax_length.l0 k a0 (wrap64 (a0 + 1))) = some r := h
  clear h
  have H' := Aside0.mk H
  clear H
  go_enter Tryd.func25, Tryd.ntmps25
  go_wp2
  go_loopg [3] k (fun kq v3 w' => ∃ (x3_1 : Int), v3 = .int .i64 x3_1 ∧ Aside0 (pax_length.l0 kq a0 x3_1 = some r) ∧ Aside0 (kq ≤ k) ∧ Aside0 (Below w.heap.size w w'))
  case atStart => exact ⟨(wrap64 (a0 + 1)), (by first | rfl | (simp; done) | (simp [*]; done)), H', ⟨Nat.le_refl _⟩, ⟨by repeat (first | (with_reducible first | exact HB.out | apply below_alloc | apply pw_below_drewN | apply below_drew1) | exact HB.out)⟩⟩
  case round =>
    clear H'
    obtain ⟨x3_1, rfl, HA, HK1, HB⟩ := hrel
    cases gk with
    | zero => exact absurd HA.out (by simp [pax_length.l0])
    | succ k1 =>
      have H := HA.out
      clear HA
      simp only [pax_length.l0] at H
      replace H := Option.bind_eq_some_iff.mp H
      obtain ⟨t117, A20, H⟩ := H
      replace H : (if x3_1 = (wrap64 (a0 + (t117.size : Int))) then (some x3_1) else ((strconv_Itoa_26.f x3_1).bind fun t118 => (pax_length.l0 k1 a0 (wrap64 (a0 + (t118.size : Int)))))) = some r := H
      have A2 := Aside0.mk A20
      clear A20
      by_cases c3 : x3_1 = (wrap64 (a0 + (t117.size : Int)))
      · rw [if_pos c3] at H
        have c3b0 : (x3_1 == (wrap64 (a0 + (t117.size : Int)))) = true := beq_iff_eq.mpr c3
        have c3b1 : (x3_1 != (wrap64 (a0 + (t117.size : Int)))) = false := bne_eq_false_iff_eq.mpr c3
        clear c3
        obtain rfl := Option.some.inj H
        go_wp2_with (first | ((with_reducible refine gate_callee (f := 26) rfl ?_); refine goesL_ (some 9) rfl rfl Tryd.func26 (by kernel_rfl) rfl #[.int .i64 x3_1] rfl (by (try simp only [List.map_toArray, List.map_cons, List.map_nil]); first | done | rfl | (simp only [List.length_drop, List.length_take]; rfl)) ?_; (with_reducible refine (strconv_Itoa_26.calls x3_1 t117 _ ?side1 A2.out).mono ?_); (case side1 => first | exact HGL.out | exact Gl.drewN HGL.out _ | exact Gl.of HGL.out (by repeat (first | (with_reducible first | exact HB.out | apply below_alloc | apply pw_below_drewN | apply below_drew1) | exact HB.out))); rintro e w4 ⟨rfl, hb⟩; refine ⟨_, rfl, ?_⟩; have n0_ := Aside0.mk (below_step (by repeat (first | (with_reducible first | exact HB.out | apply below_alloc | apply pw_below_drewN | apply below_drew1) | exact HB.out)) hb); clear HB; have HB := n0_; clear n0_; (try clear hb); (try clear hb2); (try clear hk); (try clear hi)))
        go_ret
        exact ⟨by first | rfl | (simp [errW_none, errW_some] <;> rfl) | (simp [*, errW_none, errW_some] <;> rfl), by repeat (first | (with_reducible first | exact HB.out | apply below_alloc | apply pw_below_drewN | apply below_drew1) | exact HB.out)⟩
      · rw [if_neg c3] at H
        have c3b0 : (x3_1 == (wrap64 (a0 + (t117.size : Int)))) = false := beq_eq_false_iff_ne.mpr c3
        have c3b1 : (x3_1 != (wrap64 (a0 + (t117.size : Int)))) = true := bne_iff_ne.mpr c3
        replace H := Option.bind_eq_some_iff.mp H
        obtain ⟨t118, A50, H⟩ := H
        replace H : (pax_length.l0 k1 a0 (wrap64 (a0 + (t118.size : Int)))) = some r := H
        have A5 := Aside0.mk A50
        clear A50
        have H' := Aside0.mk H
        clear H
        go_wp2_with (first | ((with_reducible refine gate_callee (f := 26) rfl ?_); refine goesL_ (some 9) rfl rfl Tryd.func26 (by kernel_rfl) rfl #[.int .i64 x3_1] rfl (by (try simp only [List.map_toArray, List.map_cons, List.map_nil]); first | done | rfl | (simp only [List.length_drop, List.length_take]; rfl)) ?_; (with_reducible refine (strconv_Itoa_26.calls x3_1 t117 _ ?side1 A2.out).mono ?_); (case side1 => first | exact HGL.out | exact Gl.drewN HGL.out _ | exact Gl.of HGL.out (by repeat (first | (with_reducible first | exact HB.out | apply below_alloc | apply pw_below_drewN | apply below_drew1) | exact HB.out))); rintro e w6 ⟨rfl, hb⟩; refine ⟨_, rfl, ?_⟩; have n0_ := Aside0.mk (below_step (by repeat (first | (with_reducible first | exact HB.out | apply below_alloc | apply pw_below_drewN | apply below_drew1) | exact HB.out)) hb); clear HB; have HB := n0_; clear n0_; (try clear hb); (try clear hb2); (try clear hk); (try clear hi)) | ((with_reducible refine gate_callee (f := 26) rfl ?_); refine goesL_ (some 15) rfl rfl Tryd.func26 (by kernel_rfl) rfl #[.int .i64 x3_1] rfl (by (try simp only [List.map_toArray, List.map_cons, List.map_nil]); first | done | rfl | (simp only [List.length_drop, List.length_take]; rfl)) ?_; (with_reducible refine (strconv_Itoa_26.calls x3_1 t118 _ ?side1 A5.out).mono ?_); (case side1 => first | exact HGL.out | exact Gl.drewN HGL.out _ | exact Gl.of HGL.out (by repeat (first | (with_reducible first | exact HB.out | apply below_alloc | apply pw_below_drewN | apply below_drew1) | exact HB.out))); rintro e w7 ⟨rfl, hb⟩; refine ⟨_, rfl, ?_⟩; have n0_ := Aside0.mk (below_step (by repeat (first | (with_reducible first | exact HB.out | apply below_alloc | apply pw_below_drewN | apply below_drew1) | exact HB.out)) hb); clear HB; have HB := n0_; clear n0_; (try clear hb); (try clear hb2); (try clear hk); (try clear hi)))
        go_roundg k1
        case measure => have := HK1.out; omega
        case rel => exact ⟨(wrap64 (a0 + (t118.size : Int))), (by first | rfl | (simp; done) | (simp [*]; done)), H', ⟨by have := HK1.out; omega⟩, ⟨by repeat (first | (with_reducible first | exact HB.out | apply below_alloc | apply pw_below_drewN | apply below_drew1) | exact HB.out)⟩⟩

/-! ### pax_Line: function 9 -/
def pax_Line.j0 : Nat → ByteArray → ByteArray → Bool → Option (ByteArray × Option Int)
  | 0, _, _, _ => none
  | k + 1, x0, x1, x15 => if x15 = true then (some ((⟨#[]⟩ : ByteArray), some 15)) else (if 1 + x0.size ≤ 9223372036854775807 then (if ((⟨#[32]⟩ : ByteArray) ++ x0).size + 1 ≤ 9223372036854775807 then (if (((⟨#[32]⟩ : ByteArray) ++ x0) ++ (⟨#[61]⟩ : ByteArray)).size + x1.size ≤ 9223372036854775807 then (if ((((⟨#[32]⟩ : ByteArray) ++ x0) ++ (⟨#[61]⟩ : ByteArray)) ++ x1).size + 1 ≤ 9223372036854775807 then ((pax_length.f k ((((((⟨#[32]⟩ : ByteArray) ++ x0) ++ (⟨#[61]⟩ : ByteArray)) ++ x1) ++ (⟨#[10]⟩ : ByteArray)).size : Int)).bind fun t120 => (if t120 > 65536 then (some ((⟨#[]⟩ : ByteArray), some 15)) else ((strconv_Itoa_26.f t120).bind fun t121 => (if t121.size + (((((⟨#[32]⟩ : ByteArray) ++ x0) ++ (⟨#[61]⟩ : ByteArray)) ++ x1) ++ (⟨#[10]⟩ : ByteArray)).size ≤ 9223372036854775807 then (some (t121 ++ (((((⟨#[32]⟩ : ByteArray) ++ x0) ++ (⟨#[61]⟩ : ByteArray)) ++ x1) ++ (⟨#[10]⟩ : ByteArray)), none)) else (none))))) else (none)) else (none)) else (none)) else (none))
def pax_Line.f (k : Nat) (a0 : ByteArray) (a1 : ByteArray) : Option (ByteArray × Option Int) := (pax_keyword.f k a0).bind fun t119 => (if t119 = true then (pax_Line.j0 k a0 a1 (decide ((a1.size : Int) > 65536))) else (pax_Line.j0 k a0 a1 true))
theorem pax_Line.mono_l : ∀ k, (∀ y0 y1 y2, LeO (pax_Line.j0 k y0 y1 y2) (pax_Line.j0 (k + 1) y0 y1 y2))
  | 0 => fun _ _ _ r h => by simp [pax_Line.j0] at h
  | k + 1 => by
    have ih0 := pax_Line.mono_l k
    · intro y0 y1 y2
      unfold pax_Line.j0
      repeat' first
      | (with_reducible exact ih0 _ _ _)
      | (with_reducible exact pax_keyword.mono _ _)
      | (with_reducible exact pax_length.mono _ _)
      | (with_reducible exact LeO.refl _)
      | (with_reducible exact LeO.none _)
      | (with_reducible refine LeO.ite ?_ ?_)
      | (with_reducible refine LeO.bind ?_ (fun _ => ?_))
      | exact ih0 _ _ _
      | exact pax_keyword.mono _ _
      | exact pax_length.mono _ _
      | exact LeO.none _
      | refine LeO.ite ?_ ?_
      | refine LeO.bind ?_ (fun _ => ?_)
theorem pax_Line.mono : ∀ a0 a1 k, LeO (pax_Line.f k a0 a1) (pax_Line.f (k + 1) a0 a1) := by
  intro a0 a1 k
  have ih0 := pax_Line.mono_l k
  unfold pax_Line.f
  repeat' first
      | (with_reducible exact ih0 _ _ _)
      | (with_reducible exact pax_keyword.mono _ _)
      | (with_reducible exact pax_length.mono _ _)
      | (with_reducible exact LeO.refl _)
      | (with_reducible exact LeO.none _)
      | (with_reducible refine LeO.ite ?_ ?_)
      | (with_reducible refine LeO.bind ?_ (fun _ => ?_))
      | exact ih0 _ _ _
      | exact pax_keyword.mono _ _
      | exact pax_length.mono _ _
      | exact LeO.none _
      | refine LeO.ite ?_ ?_
      | refine LeO.bind ?_ (fun _ => ?_)
set_option maxHeartbeats 8000000 in
set_option maxRecDepth 100000 in
theorem pax_Line.calls (k : Nat) (a0 : ByteArray) (a1 : ByteArray) (r1 : ByteArray) (r2 : Option Int) (w : World) (hGl : Gl w) (h : pax_Line.f k a0 a1 = some (r1, r2)) :
    Calls Tryd.prog 9 #[.string a0, .string a1] w fun e w' => e = .returned (.tuple #[.string r1, errW r2]) ∧ Below w.heap.size w w' := by
  have hu24 := Tryd.underlying24
  have hu42 := Tryd.underlying42
  have HB := Aside0.mk (Below.refl w.heap.size w)
  have HGL := Aside0.mk hGl
  clear hGl
  have H : ((pax_keyword.f k a0).bind fun t119 => (if t119 = true then (pax_Line.j0 k a0 a1 (decide ((a1.size : Int) > 65536))) else (pax_Line.j0 k a0 a1 true))) = some (r1, r2) := h
  clear h
  have HC3 := Aside0.mk H
  clear H
  go_enter Tryd.func9, Tryd.ntmps9
  go_upto_region 1 with (fail)
  go_cut [15] (fun v15 wc => ∃ (kq : Nat) (x15_2 : Bool), v15 = .bool x15_2 ∧ Aside0 (pax_Line.j0 kq a0 a1 x15_2 = some (r1, r2)) ∧ Aside0 (kq ≤ k) ∧ Aside0 (Below w.heap.size w wc))
  case first =>
    have H := HC3.out
    clear HC3
    replace H := Option.bind_eq_some_iff.mp H
    obtain ⟨t119, A40, H⟩ := H
    replace H : (if t119 = true then (pax_Line.j0 k a0 a1 (decide ((a1.size : Int) > 65536))) else (pax_Line.j0 k a0 a1 true)) = some (r1, r2) := H
    have A4 := Aside0.mk A40
    clear A40
    by_cases c5 : t119 = true
    · subst c5
      have H1 : (pax_Line.j0 k a0 a1 (decide ((a1.size : Int) > 65536))) = some (r1, r2) := by rw [if_pos rfl] at H; exact H
      clear H
      have H := H1
      clear H1
      have H' := Aside0.mk H
      clear H
      go_wp2_with (first | ((with_reducible refine gate_callee (f := 24) rfl ?_); refine goesL_ (some 9) rfl rfl Tryd.func24 (by kernel_rfl) rfl #[.string a0] rfl (by (try simp only [List.map_toArray, List.map_cons, List.map_nil]); first | done | rfl | (simp only [List.length_drop, List.length_take]; rfl)) ?_; (with_reducible refine (pax_keyword.calls k a0 true _ ?side1 A4.out).mono ?_); (case side1 => first | exact HGL.out | exact Gl.drewN HGL.out _ | exact Gl.of HGL.out (by repeat (first | (with_reducible first | exact HB.out | apply below_alloc | apply pw_below_drewN | apply below_drew1) | exact HB.out))); rintro e w' ⟨rfl, ⟨nd, rfl⟩⟩; refine ⟨_, rfl, ?_⟩))
      go_meet
      case rel => exact ⟨_, (decide ((a1.size : Int) > 65536)), (by first | rfl | (simp; done) | (simp [*]; done)), H', ⟨by first | omega | exact Nat.le_refl _⟩, ⟨by repeat (first | (with_reducible first | exact HB.out | apply below_alloc | apply pw_below_drewN | apply below_drew1) | exact HB.out)⟩⟩
    · replace c5 := Bool.eq_false_iff.mpr c5
      subst c5
      have H1 : (pax_Line.j0 k a0 a1 true) = some (r1, r2) := by rw [if_neg (show ¬ (false = true) by decide)] at H; exact H
      clear H
      have H := H1
      clear H1
      have H' := Aside0.mk H
      clear H
      go_wp2_with (first | ((with_reducible refine gate_callee (f := 24) rfl ?_); refine goesL_ (some 9) rfl rfl Tryd.func24 (by kernel_rfl) rfl #[.string a0] rfl (by (try simp only [List.map_toArray, List.map_cons, List.map_nil]); first | done | rfl | (simp only [List.length_drop, List.length_take]; rfl)) ?_; (with_reducible refine (pax_keyword.calls k a0 false _ ?side1 A4.out).mono ?_); (case side1 => first | exact HGL.out | exact Gl.drewN HGL.out _ | exact Gl.of HGL.out (by repeat (first | (with_reducible first | exact HB.out | apply below_alloc | apply pw_below_drewN | apply below_drew1) | exact HB.out))); rintro e w' ⟨rfl, ⟨nd, rfl⟩⟩; refine ⟨_, rfl, ?_⟩))
      go_meet
      case rel => exact ⟨_, (true), (by first | rfl | (simp; done) | (simp [*]; done)), H', ⟨by first | omega | exact Nat.le_refl _⟩, ⟨by repeat (first | (with_reducible first | exact HB.out | apply below_alloc | apply pw_below_drewN | apply below_drew1) | exact HB.out)⟩⟩
  case rest =>
    clear HC3
    try clear c2
    try clear p2
    try clear c5
    obtain ⟨kq, x15_2, rfl, HA, HJ2, HB⟩ := hcut
    cases kq with
    | zero => exact absurd HA.out (by simp [pax_Line.j0])
    | succ kj2 =>
      have H := HA.out
      clear HA
      simp only [pax_Line.j0] at H
      by_cases c6 : x15_2 = true
      · subst c6
        have H1 : (some ((⟨#[]⟩ : ByteArray), some 15)) = some (r1, r2) := by rw [if_pos rfl] at H; exact H
        clear H
        have H := H1
        clear H1
        simp only [Option.some.injEq, Prod.mk.injEq] at H
        obtain ⟨rfl, rfl⟩ := H
        go_wp2
        go_ret2
        exact ⟨by first | rfl | (simp [errW_none, errW_some] <;> rfl) | (simp [*, errW_none, errW_some] <;> rfl), by repeat (first | (with_reducible first | exact HB.out | apply below_alloc | apply pw_below_drewN | apply below_drew1) | exact HB.out)⟩
      · replace c6 := Bool.eq_false_iff.mpr c6
        subst c6
        have H1 : (if 1 + a0.size ≤ 9223372036854775807 then (if ((⟨#[32]⟩ : ByteArray) ++ a0).size + 1 ≤ 9223372036854775807 then (if (((⟨#[32]⟩ : ByteArray) ++ a0) ++ (⟨#[61]⟩ : ByteArray)).size + a1.size ≤ 9223372036854775807 then (if ((((⟨#[32]⟩ : ByteArray) ++ a0) ++ (⟨#[61]⟩ : ByteArray)) ++ a1).size + 1 ≤ 9223372036854775807 then ((pax_length.f kj2 ((((((⟨#[32]⟩ : ByteArray) ++ a0) ++ (⟨#[61]⟩ : ByteArray)) ++ a1) ++ (⟨#[10]⟩ : ByteArray)).size : Int)).bind fun t120 => (if t120 > 65536 then (some ((⟨#[]⟩ : ByteArray), some 15)) else ((strconv_Itoa_26.f t120).bind fun t121 => (if t121.size + (((((⟨#[32]⟩ : ByteArray) ++ a0) ++ (⟨#[61]⟩ : ByteArray)) ++ a1) ++ (⟨#[10]⟩ : ByteArray)).size ≤ 9223372036854775807 then (some (t121 ++ (((((⟨#[32]⟩ : ByteArray) ++ a0) ++ (⟨#[61]⟩ : ByteArray)) ++ a1) ++ (⟨#[10]⟩ : ByteArray)), none)) else (none))))) else (none)) else (none)) else (none)) else (none)) = some (r1, r2) := by rw [if_neg (show ¬ (false = true) by decide)] at H; exact H
        clear H
        have H := H1
        clear H1
        by_cases c7 : 1 + a0.size ≤ 9223372036854775807
        · rw [if_pos c7] at H
          have c7b0 := eq_true c7
          have c7b1 : decide (1 + a0.size ≤ 9223372036854775807) = true := decide_eq_true c7
          try have c7b2 : (9223372036854775807 < 1 + a0.size) = False := eq_false (Nat.not_lt.2 c7)
          by_cases c8 : ((⟨#[32]⟩ : ByteArray) ++ a0).size + 1 ≤ 9223372036854775807
          · rw [if_pos c8] at H
            have c8b0 := eq_true c8
            have c8b1 : decide (((⟨#[32]⟩ : ByteArray) ++ a0).size + 1 ≤ 9223372036854775807) = true := decide_eq_true c8
            try have c8b2 : (9223372036854775807 < ((⟨#[32]⟩ : ByteArray) ++ a0).size + 1) = False := eq_false (Nat.not_lt.2 c8)
            try have c8b6 : (9223372036854775807 < 1 + a0.size + 1) = False := eq_false (by have h_ := c8; simp only [ByteArray.size_append] at h_; (try simp only [show ∀ x_ : UInt8, (⟨#[x_]⟩ : ByteArray).size = 1 from fun _ => rfl] at h_); omega)
            by_cases c9 : (((⟨#[32]⟩ : ByteArray) ++ a0) ++ (⟨#[61]⟩ : ByteArray)).size + a1.size ≤ 9223372036854775807
            · rw [if_pos c9] at H
              have c9b0 := eq_true c9
              have c9b1 : decide ((((⟨#[32]⟩ : ByteArray) ++ a0) ++ (⟨#[61]⟩ : ByteArray)).size + a1.size ≤ 9223372036854775807) = true := decide_eq_true c9
              try have c9b2 : (9223372036854775807 < (((⟨#[32]⟩ : ByteArray) ++ a0) ++ (⟨#[61]⟩ : ByteArray)).size + a1.size) = False := eq_false (Nat.not_lt.2 c9)
              try have c9b6 : (9223372036854775807 < 1 + a0.size + 1 + a1.size) = False := eq_false (by have h_ := c9; simp only [ByteArray.size_append] at h_; (try simp only [show ∀ x_ : UInt8, (⟨#[x_]⟩ : ByteArray).size = 1 from fun _ => rfl] at h_); omega)
              by_cases c10 : ((((⟨#[32]⟩ : ByteArray) ++ a0) ++ (⟨#[61]⟩ : ByteArray)) ++ a1).size + 1 ≤ 9223372036854775807
              · rw [if_pos c10] at H
                have c10b0 := eq_true c10
                have c10b1 : decide (((((⟨#[32]⟩ : ByteArray) ++ a0) ++ (⟨#[61]⟩ : ByteArray)) ++ a1).size + 1 ≤ 9223372036854775807) = true := decide_eq_true c10
                try have c10b2 : (9223372036854775807 < ((((⟨#[32]⟩ : ByteArray) ++ a0) ++ (⟨#[61]⟩ : ByteArray)) ++ a1).size + 1) = False := eq_false (Nat.not_lt.2 c10)
                try have c10b6 : (9223372036854775807 < 1 + a0.size + 1 + a1.size + 1) = False := eq_false (by have h_ := c10; simp only [ByteArray.size_append] at h_; (try simp only [show ∀ x_ : UInt8, (⟨#[x_]⟩ : ByteArray).size = 1 from fun _ => rfl] at h_); omega)
                replace H := Option.bind_eq_some_iff.mp H
                obtain ⟨t120, A110, H⟩ := H
                replace H : (if t120 > 65536 then (some ((⟨#[]⟩ : ByteArray), some 15)) else ((strconv_Itoa_26.f t120).bind fun t121 => (if t121.size + (((((⟨#[32]⟩ : ByteArray) ++ a0) ++ (⟨#[61]⟩ : ByteArray)) ++ a1) ++ (⟨#[10]⟩ : ByteArray)).size ≤ 9223372036854775807 then (some (t121 ++ (((((⟨#[32]⟩ : ByteArray) ++ a0) ++ (⟨#[61]⟩ : ByteArray)) ++ a1) ++ (⟨#[10]⟩ : ByteArray)), none)) else (none)))) = some (r1, r2) := H
                have A11 := Aside0.mk A110
                clear A110
                by_cases c12 : t120 > 65536
                · rw [if_pos c12] at H
                  have c12b0 : decide (65536 < t120) = true := decide_eq_true c12
                  clear c12
                  simp only [Option.some.injEq, Prod.mk.injEq] at H
                  obtain ⟨rfl, rfl⟩ := H
                  go_wp2_with (first | ((with_reducible refine gate_callee (f := 25) rfl ?_); refine goesL_ (some 25) rfl rfl Tryd.func25 (by kernel_rfl) rfl #[.int .i64 ((((((⟨#[32]⟩ : ByteArray) ++ a0) ++ (⟨#[61]⟩ : ByteArray)) ++ a1) ++ (⟨#[10]⟩ : ByteArray)).size : Int)] rfl (by (try simp only [List.map_toArray, List.map_cons, List.map_nil]); first | done | rfl | (simp only [List.length_drop, List.length_take]; rfl) | (simp [ByteArray.size_append]; done) | (simp [ByteArray.size_append]; omega) | (simp [ByteArray.size_append]; rfl)) ?_; (with_reducible refine (pax_length.calls kj2 ((((((⟨#[32]⟩ : ByteArray) ++ a0) ++ (⟨#[61]⟩ : ByteArray)) ++ a1) ++ (⟨#[10]⟩ : ByteArray)).size : Int) t120 _ ?side1 A11.out).mono ?_); (case side1 => first | exact HGL.out | exact Gl.drewN HGL.out _ | exact Gl.of HGL.out (by repeat (first | (with_reducible first | exact HB.out | apply below_alloc | apply pw_below_drewN | apply below_drew1) | exact HB.out))); rintro e w13 ⟨rfl, hb⟩; refine ⟨_, rfl, ?_⟩; have n0_ := Aside0.mk (below_step (by repeat (first | (with_reducible first | exact HB.out | apply below_alloc | apply pw_below_drewN | apply below_drew1) | exact HB.out)) hb); clear HB; have HB := n0_; clear n0_; (try clear hb); (try clear hb2); (try clear hk); (try clear hi)))
                  go_ret2
                  exact ⟨by first | rfl | (simp [errW_none, errW_some] <;> rfl) | (simp [*, errW_none, errW_some] <;> rfl), by repeat (first | (with_reducible first | exact HB.out | apply below_alloc | apply pw_below_drewN | apply below_drew1) | exact HB.out)⟩
                · rw [if_neg c12] at H
                  have c12b0 : decide (65536 < t120) = false := decide_eq_false c12
                  clear c12
                  replace H := Option.bind_eq_some_iff.mp H
                  obtain ⟨t121, A140, H⟩ := H
                  replace H : (if t121.size + (((((⟨#[32]⟩ : ByteArray) ++ a0) ++ (⟨#[61]⟩ : ByteArray)) ++ a1) ++ (⟨#[10]⟩ : ByteArray)).size ≤ 9223372036854775807 then (some (t121 ++ (((((⟨#[32]⟩ : ByteArray) ++ a0) ++ (⟨#[61]⟩ : ByteArray)) ++ a1) ++ (⟨#[10]⟩ : ByteArray)), none)) else (none)) = some (r1, r2) := H
                  have A14 := Aside0.mk A140
                  clear A140
                  by_cases c15 : t121.size + (((((⟨#[32]⟩ : ByteArray) ++ a0) ++ (⟨#[61]⟩ : ByteArray)) ++ a1) ++ (⟨#[10]⟩ : ByteArray)).size ≤ 9223372036854775807
                  · rw [if_pos c15] at H
                    have c15b0 := eq_true c15
                    have c15b1 : decide (t121.size + (((((⟨#[32]⟩ : ByteArray) ++ a0) ++ (⟨#[61]⟩ : ByteArray)) ++ a1) ++ (⟨#[10]⟩ : ByteArray)).size ≤ 9223372036854775807) = true := decide_eq_true c15
                    try have c15b2 : (9223372036854775807 < t121.size + (((((⟨#[32]⟩ : ByteArray) ++ a0) ++ (⟨#[61]⟩ : ByteArray)) ++ a1) ++ (⟨#[10]⟩ : ByteArray)).size) = False := eq_false (Nat.not_lt.2 c15)
                    try have c15b6 : (9223372036854775807 < t121.size + (1 + a0.size + 1 + a1.size + 1)) = False := eq_false (by have h_ := c15; simp only [ByteArray.size_append] at h_; (try simp only [show ∀ x_ : UInt8, (⟨#[x_]⟩ : ByteArray).size = 1 from fun _ => rfl] at h_); omega)
                    simp only [Option.some.injEq, Prod.mk.injEq] at H
                    obtain ⟨rfl, rfl⟩ := H
                    go_wp2_with (first | ((with_reducible refine gate_callee (f := 25) rfl ?_); refine goesL_ (some 25) rfl rfl Tryd.func25 (by kernel_rfl) rfl #[.int .i64 ((((((⟨#[32]⟩ : ByteArray) ++ a0) ++ (⟨#[61]⟩ : ByteArray)) ++ a1) ++ (⟨#[10]⟩ : ByteArray)).size : Int)] rfl (by (try simp only [List.map_toArray, List.map_cons, List.map_nil]); first | done | rfl | (simp only [List.length_drop, List.length_take]; rfl) | (simp [ByteArray.size_append]; done) | (simp [ByteArray.size_append]; omega) | (simp [ByteArray.size_append]; rfl)) ?_; (with_reducible refine (pax_length.calls kj2 ((((((⟨#[32]⟩ : ByteArray) ++ a0) ++ (⟨#[61]⟩ : ByteArray)) ++ a1) ++ (⟨#[10]⟩ : ByteArray)).size : Int) t120 _ ?side1 A11.out).mono ?_); (case side1 => first | exact HGL.out | exact Gl.drewN HGL.out _ | exact Gl.of HGL.out (by repeat (first | (with_reducible first | exact HB.out | apply below_alloc | apply pw_below_drewN | apply below_drew1) | exact HB.out))); rintro e w16 ⟨rfl, hb⟩; refine ⟨_, rfl, ?_⟩; have n0_ := Aside0.mk (below_step (by repeat (first | (with_reducible first | exact HB.out | apply below_alloc | apply pw_below_drewN | apply below_drew1) | exact HB.out)) hb); clear HB; have HB := n0_; clear n0_; (try clear hb); (try clear hb2); (try clear hk); (try clear hi)) | ((with_reducible refine gate_callee (f := 26) rfl ?_); refine goesL_ (some 30) rfl rfl Tryd.func26 (by kernel_rfl) rfl #[.int .i64 t120] rfl (by (try simp only [List.map_toArray, List.map_cons, List.map_nil]); first | done | rfl | (simp only [List.length_drop, List.length_take]; rfl) | (simp [ByteArray.size_append]; done) | (simp [ByteArray.size_append]; omega) | (simp [ByteArray.size_append]; rfl)) ?_; (with_reducible refine (strconv_Itoa_26.calls t120 t121 _ ?side1 A14.out).mono ?_); (case side1 => first | exact HGL.out | exact Gl.drewN HGL.out _ | exact Gl.of HGL.out (by repeat (first | (with_reducible first | exact HB.out | apply below_alloc | apply pw_below_drewN | apply below_drew1) | exact HB.out))); rintro e w17 ⟨rfl, hb⟩; refine ⟨_, rfl, ?_⟩; have n0_ := Aside0.mk (below_step (by repeat (first | (with_reducible first | exact HB.out | apply below_alloc | apply pw_below_drewN | apply below_drew1) | exact HB.out)) hb); clear HB; have HB := n0_; clear n0_; (try clear hb); (try clear hb2); (try clear hk); (try clear hi)))
                    go_ret2
                    exact ⟨by first | rfl | (simp [errW_none, errW_some] <;> rfl) | (simp [*, errW_none, errW_some] <;> rfl), by repeat (first | (with_reducible first | exact HB.out | apply below_alloc | apply pw_below_drewN | apply below_drew1) | exact HB.out)⟩
                  · rw [if_neg c15] at H
                    exact absurd H (by simp)
              · rw [if_neg c10] at H
                exact absurd H (by simp)
            · rw [if_neg c9] at H
              exact absurd H (by simp)
          · rw [if_neg c8] at H
            exact absurd H (by simp)
        · rw [if_neg c7] at H
          exact absurd H (by simp)

-- NOT PRINTED: function 62 (bytealg_IndexByte)

-- NOT PRINTED: function 45 (bytes_IndexByte)

-- NOT PRINTED: function 46 (bytes_Equal)

-- NOT PRINTED: function 47 (bytealg_Index)

-- NOT PRINTED: function 48 (bytealg_Cutover)

-- NOT PRINTED: function 63 (bytealg_hashStr_byte)

-- NOT PRINTED: function 49 (bytealg_IndexRabinKarp_byte)

-- NOT PRINTED: function 36 (bytes_Index)

-- NOT PRINTED: function 31 (bytes_Cut)

-- NOT PRINTED: function 72 (strconv_lower)

-- NOT PRINTED: function 73 (strconv_underscoreOK)

-- NOT PRINTED: function 64 (strconv_ParseUint)

-- NOT PRINTED: function 50 (strconv_ParseInt)

-- NOT PRINTED: function 37 (strconv_Atoi_37)

-- NOT PRINTED: function 65 (stringslite_Clone)

-- NOT PRINTED: function 51 (strconv_syntaxError)

-- NOT PRINTED: function 52 (strconv_rangeError)

-- NOT PRINTED: function 66 (errors_New)

-- NOT PRINTED: function 53 (strconv_baseError)

-- NOT PRINTED: function 54 (strconv_bitSizeError)

-- NOT PRINTED: function 38 (strconv_toError)

-- NOT PRINTED: function 32 (strconv_Atoi_32)

-- NOT PRINTED: function 74 (bytealg_IndexByteString)

-- NOT PRINTED: function 67 (stringslite_IndexByte)

-- NOT PRINTED: function 68 (bytealg_IndexString)

-- NOT PRINTED: function 75 (bytealg_hashStr_string)

-- NOT PRINTED: function 69 (bytealg_IndexRabinKarp_string)

/-! ### stringslite_Index: function 55 -/
def idx1 (s sep : ByteArray) : Int := Lib.indexByte s.data.toList (sep.data.toList.headD 0)
def stringslite_Index.f (s sep : ByteArray) : Option Int := if sep.size = 1 then some (idx1 s sep) else none
theorem stringslite_Index.calls (s sep : ByteArray) (r : Int) (w : World) (hGl : Gl w) (h : stringslite_Index.f s sep = some r) :
    Calls Tryd.prog 55 #[.string s, .string sep] w fun e w' => e = .returned (.int .i64 r) ∧ Drawn0 w w' := by
  unfold stringslite_Index.f at h
  by_cases hc : sep.size = 1
  · rw [if_pos hc] at h
    have hr := Option.some.inj h
    have hl : sep.data.toList.length = 1 := by rw [Array.length_toList]; exact hc
    obtain ⟨c, hcl⟩ : ∃ c, sep.data.toList = [c] := List.length_eq_one_iff.1 hl
    have hs : sep = ⟨#[c]⟩ := by apply ByteArray.ext; apply Array.ext'; exact hcl
    refine (hs ▸ Tryd.stringslite_Index_one s c w).mono ?_
    rintro e w' ⟨rfl, rfl⟩
    refine ⟨?_, Drawn0.refl _⟩
    rw [← hr]; unfold idx1; rw [hcl]; rfl
  · rw [if_neg hc] at h; cases h

/-! ### stringslite_Cut: function 39 -/
def stringslite_Cut.f (a0 : ByteArray) (a1 : ByteArray) : Option (ByteArray × ByteArray × Bool) := (stringslite_Index.f a0 a1).bind fun t127 => (if t127 ≥ 0 then (if 0 ≤ t127 then (if t127 ≤ (a0.size : Int) then (if 0 ≤ (wrap64 (t127 + (a1.size : Int))) then (if (wrap64 (t127 + (a1.size : Int))) ≤ (a0.size : Int) then (some (a0.extract 0 (t127 : Int).toNat, a0.extract ((wrap64 (t127 + (a1.size : Int))) : Int).toNat a0.size, true)) else (none)) else (none)) else (none)) else (none)) else (some (a0, (⟨#[]⟩ : ByteArray), false)))
set_option maxHeartbeats 8000000 in
set_option maxRecDepth 100000 in
theorem stringslite_Cut.calls (a0 : ByteArray) (a1 : ByteArray) (r1 : ByteArray) (r2 : ByteArray) (r3 : Bool) (w : World) (hGl : Gl w) (h : stringslite_Cut.f a0 a1 = some (r1, r2, r3)) :
    Calls Tryd.prog 39 #[.string a0, .string a1] w fun e w' => e = .returned (.tuple #[.string r1, .string r2, .bool r3]) ∧ Drawn0 w w' := by
  have HGL := Aside0.mk hGl
  clear hGl
  have H : ((stringslite_Index.f a0 a1).bind fun t127 => (if t127 ≥ 0 then (if 0 ≤ t127 then (if t127 ≤ (a0.size : Int) then (if 0 ≤ (wrap64 (t127 + (a1.size : Int))) then (if (wrap64 (t127 + (a1.size : Int))) ≤ (a0.size : Int) then (some (a0.extract 0 (t127 : Int).toNat, a0.extract ((wrap64 (t127 + (a1.size : Int))) : Int).toNat a0.size, true)) else (none)) else (none)) else (none)) else (none)) else (some (a0, (⟨#[]⟩ : ByteArray), false)))) = some (r1, r2, r3) := h
  clear h
  replace H := Option.bind_eq_some_iff.mp H
  obtain ⟨t127, A30, H⟩ := H
  replace H : (if t127 ≥ 0 then (if 0 ≤ t127 then (if t127 ≤ (a0.size : Int) then (if 0 ≤ (wrap64 (t127 + (a1.size : Int))) then (if (wrap64 (t127 + (a1.size : Int))) ≤ (a0.size : Int) then (some (a0.extract 0 (t127 : Int).toNat, a0.extract ((wrap64 (t127 + (a1.size : Int))) : Int).toNat a0.size, true)) else (none)) else (none)) else (none)) else (none)) else (some (a0, (⟨#[]⟩ : ByteArray), false))) = some (r1, r2, r3) := H
  have A3 := Aside0.mk A30
  clear A30
  by_cases c4 : t127 ≥ 0
  · rw [if_pos c4] at H
    have c4b0 : decide (0 ≤ t127) = true := decide_eq_true c4
    clear c4
    by_cases c5 : 0 ≤ t127
    · rw [if_pos c5] at H
      have c5b0 := eq_true c5
      have c5b1 : decide (0 ≤ t127) = true := decide_eq_true c5
      clear c5
      by_cases c6 : t127 ≤ (a0.size : Int)
      · rw [if_pos c6] at H
        have c6b0 := eq_true c6
        have c6b1 : decide (t127 ≤ (a0.size : Int)) = true := decide_eq_true c6
        clear c6
        obtain ⟨ji7, hji7⟩ : ∃ j_ : Int, (wrap64 (t127 + (a1.size : Int))) = j_ := ⟨_, rfl⟩
        replace H : (if 0 ≤ (ji7) then (if (ji7) ≤ (a0.size : Int) then (some (a0.extract 0 (t127 : Int).toNat, a0.extract ((ji7) : Int).toNat a0.size, true)) else (none)) else (none)) = some (r1, r2, r3) := by first | (rw [hji7] at H; exact H) | (simp only [hji7] at H ⊢; exact H)
        (try rw [hji7] at A3)
        have hji7w : (IntKind.i64.wrap (t127 + (a1.size : Int))) = ji7 := (i64_w _).trans hji7
        by_cases c8 : 0 ≤ (ji7)
        · rw [if_pos c8] at H
          have c8b0 := eq_true c8
          have c8b1 : decide (0 ≤ (ji7)) = true := decide_eq_true c8
          clear c8
          by_cases c9 : (ji7) ≤ (a0.size : Int)
          · rw [if_pos c9] at H
            have c9b0 := eq_true c9
            have c9b1 : decide ((ji7) ≤ (a0.size : Int)) = true := decide_eq_true c9
            clear c9
            simp only [Option.some.injEq, Prod.mk.injEq] at H
            obtain ⟨rfl, rfl, rfl⟩ := H
            go_enter Tryd.func39, Tryd.ntmps39
            go_wp2_with (first | (go_at_call 55; (with_reducible refine (stringslite_Index.calls a0 a1 t127 _ ?side1 A3.out).mono ?_); (case side1 => first | exact HGL.out | exact Gl.drewN HGL.out _ | exact Gl.of HGL.out (by repeat (first | (with_reducible first | exact HB.out | apply below_alloc | apply pw_below_drewN | apply below_drew1) | exact HB.out))); rintro e w' ⟨rfl, ⟨nd, rfl⟩⟩; (try first | exact ⟨rfl, _, World.drewN_drewN _ _ _⟩ | exact ⟨rfl, _, Eq.trans (World.drewN_drewN _ _ _) (congrArg (World.drewN _) (Nat.add_assoc _ _ _))⟩)))
            repeat (go_quiet (first | (go_at_call 55; (with_reducible refine (stringslite_Index.calls a0 a1 t127 _ ?side1 A3.out).mono ?_); (case side1 => first | exact HGL.out | exact Gl.drewN HGL.out _ | exact Gl.of HGL.out (by repeat (first | (with_reducible first | exact HB.out | apply below_alloc | apply pw_below_drewN | apply below_drew1) | exact HB.out))); rintro e w' ⟨rfl, ⟨nd, rfl⟩⟩; (try first | exact ⟨rfl, _, World.drewN_drewN _ _ _⟩ | exact ⟨rfl, _, Eq.trans (World.drewN_drewN _ _ _) (congrArg (World.drewN _) (Nat.add_assoc _ _ _))⟩))); try go_wp2_with (first | (go_at_call 55; (with_reducible refine (stringslite_Index.calls a0 a1 t127 _ ?side1 A3.out).mono ?_); (case side1 => first | exact HGL.out | exact Gl.drewN HGL.out _ | exact Gl.of HGL.out (by repeat (first | (with_reducible first | exact HB.out | apply below_alloc | apply pw_below_drewN | apply below_drew1) | exact HB.out))); rintro e w' ⟨rfl, ⟨nd, rfl⟩⟩; (try first | exact ⟨rfl, _, World.drewN_drewN _ _ _⟩ | exact ⟨rfl, _, Eq.trans (World.drewN_drewN _ _ _) (congrArg (World.drewN _) (Nat.add_assoc _ _ _))⟩))))
            go_ret3
            exact ⟨by first | rfl | (simp; done) | (simp only [← hji7] <;> (first | rfl | simp)) | (simp [*]; done), by repeat (first | exact Drawn0.refl _ | apply Drawn0.step)⟩
          · rw [if_neg c9] at H
            exact absurd H (by simp)
        · rw [if_neg c8] at H
          exact absurd H (by simp)
      · rw [if_neg c6] at H
        exact absurd H (by simp)
    · rw [if_neg c5] at H
      exact absurd H (by simp)
  · rw [if_neg c4] at H
    have c4b0 : decide (0 ≤ t127) = false := decide_eq_false c4
    clear c4
    simp only [Option.some.injEq, Prod.mk.injEq] at H
    obtain ⟨rfl, rfl, rfl⟩ := H
    go_enter Tryd.func39, Tryd.ntmps39
    go_wp2_with (first | (go_at_call 55; (with_reducible refine (stringslite_Index.calls a0 a1 t127 _ ?side1 A3.out).mono ?_); (case side1 => first | exact HGL.out | exact Gl.drewN HGL.out _ | exact Gl.of HGL.out (by repeat (first | (with_reducible first | exact HB.out | apply below_alloc | apply pw_below_drewN | apply below_drew1) | exact HB.out))); rintro e w' ⟨rfl, ⟨nd, rfl⟩⟩; (try first | exact ⟨rfl, _, World.drewN_drewN _ _ _⟩ | exact ⟨rfl, _, Eq.trans (World.drewN_drewN _ _ _) (congrArg (World.drewN _) (Nat.add_assoc _ _ _))⟩)))
    repeat (go_quiet (first | (go_at_call 55; (with_reducible refine (stringslite_Index.calls a0 a1 t127 _ ?side1 A3.out).mono ?_); (case side1 => first | exact HGL.out | exact Gl.drewN HGL.out _ | exact Gl.of HGL.out (by repeat (first | (with_reducible first | exact HB.out | apply below_alloc | apply pw_below_drewN | apply below_drew1) | exact HB.out))); rintro e w' ⟨rfl, ⟨nd, rfl⟩⟩; (try first | exact ⟨rfl, _, World.drewN_drewN _ _ _⟩ | exact ⟨rfl, _, Eq.trans (World.drewN_drewN _ _ _) (congrArg (World.drewN _) (Nat.add_assoc _ _ _))⟩))); try go_wp2_with (first | (go_at_call 55; (with_reducible refine (stringslite_Index.calls a0 a1 t127 _ ?side1 A3.out).mono ?_); (case side1 => first | exact HGL.out | exact Gl.drewN HGL.out _ | exact Gl.of HGL.out (by repeat (first | (with_reducible first | exact HB.out | apply below_alloc | apply pw_below_drewN | apply below_drew1) | exact HB.out))); rintro e w' ⟨rfl, ⟨nd, rfl⟩⟩; (try first | exact ⟨rfl, _, World.drewN_drewN _ _ _⟩ | exact ⟨rfl, _, Eq.trans (World.drewN_drewN _ _ _) (congrArg (World.drewN _) (Nat.add_assoc _ _ _))⟩))))
    go_ret3
    exact ⟨by first | rfl | (simp; done) | (simp [*]; done), by repeat (first | exact Drawn0.refl _ | apply Drawn0.step)⟩

/-! ### strings_Cut: function 33 -/
def strings_Cut.f (a0 : ByteArray) (a1 : ByteArray) : Option (ByteArray × ByteArray × Bool) := (stringslite_Cut.f a0 a1).bind fun bt128 => (some (bt128.1, bt128.2.1, bt128.2.2))
set_option maxHeartbeats 8000000 in
set_option maxRecDepth 100000 in
theorem strings_Cut.calls (a0 : ByteArray) (a1 : ByteArray) (r1 : ByteArray) (r2 : ByteArray) (r3 : Bool) (w : World) (hGl : Gl w) (h : strings_Cut.f a0 a1 = some (r1, r2, r3)) :
    Calls Tryd.prog 33 #[.string a0, .string a1] w fun e w' => e = .returned (.tuple #[.string r1, .string r2, .bool r3]) ∧ Drawn0 w w' := by
  have HGL := Aside0.mk hGl
  clear hGl
  have H : ((stringslite_Cut.f a0 a1).bind fun bt128 => (some (bt128.1, bt128.2.1, bt128.2.2))) = some (r1, r2, r3) := h
  clear h
  replace H := Option.bind_eq_some_iff.mp H
  obtain ⟨⟨t128, t129, t130⟩, A30, H⟩ := H
  replace H : (some (t128, t129, t130)) = some (r1, r2, r3) := H
  have A3 := Aside0.mk A30
  clear A30
  simp only [Option.some.injEq, Prod.mk.injEq] at H
  obtain ⟨rfl, rfl, rfl⟩ := H
  go_enter Tryd.func33, Tryd.ntmps33
  go_wp2_with (first | ((with_reducible refine gate_callee (f := 39) rfl ?_); refine goesL_ (some 9) rfl rfl Tryd.func39 (by kernel_rfl) rfl #[.string a0, .string a1] rfl (by (try simp only [List.map_toArray, List.map_cons, List.map_nil]); first | done | rfl | (simp only [List.length_drop, List.length_take]; rfl)) ?_; (with_reducible refine (stringslite_Cut.calls a0 a1 t128 t129 t130 _ ?side1 A3.out).mono ?_); (case side1 => first | exact HGL.out | exact Gl.drewN HGL.out _ | exact Gl.of HGL.out (by repeat (first | (with_reducible first | exact HB.out | apply below_alloc | apply pw_below_drewN | apply below_drew1) | exact HB.out))); rintro e w' ⟨rfl, ⟨nd, rfl⟩⟩; refine ⟨_, rfl, ?_⟩))
  go_ret3
  exact ⟨by first | rfl | (simp; done) | (simp [*]; done), by repeat (first | exact Drawn0.refl _ | apply Drawn0.step)⟩

/-! ### stringslite_HasSuffix: function 56 -/
def stringslite_HasSuffix.f (a0 : ByteArray) (a1 : ByteArray) : Option (Bool) := if (a0.size : Int) ≥ (a1.size : Int) then (if 0 ≤ (wrap64 ((a0.size : Int) - (a1.size : Int))) then (if (wrap64 ((a0.size : Int) - (a1.size : Int))) ≤ (a0.size : Int) then (some ((a0.extract ((wrap64 ((a0.size : Int) - (a1.size : Int))) : Int).toNat a0.size).toList == a1.toList)) else (none)) else (none)) else (some false)
set_option maxHeartbeats 8000000 in
set_option maxRecDepth 100000 in
theorem stringslite_HasSuffix.calls (a0 : ByteArray) (a1 : ByteArray) (r : Bool) (w : World) (hGl : Gl w) (h : stringslite_HasSuffix.f a0 a1 = some r) :
    Calls Tryd.prog 56 #[.string a0, .string a1] w fun e w' => e = .returned (.bool r) ∧ Drawn0 w w' := by
  have HGL := Aside0.mk hGl
  clear hGl
  have H : (if (a0.size : Int) ≥ (a1.size : Int) then (if 0 ≤ (wrap64 ((a0.size : Int) - (a1.size : Int))) then (if (wrap64 ((a0.size : Int) - (a1.size : Int))) ≤ (a0.size : Int) then (some ((a0.extract ((wrap64 ((a0.size : Int) - (a1.size : Int))) : Int).toNat a0.size).toList == a1.toList)) else (none)) else (none)) else (some false)) = some r := h
  clear h
  by_cases c3 : (a0.size : Int) ≥ (a1.size : Int)
  · rw [if_pos c3] at H
    have c3b0 : decide ((a1.size : Int) ≤ (a0.size : Int)) = true := decide_eq_true c3
    have c3b1 : decide (a1.size ≤ a0.size) = true := decide_eq_true (Int.ofNat_le.mp c3)
    clear c3
    obtain ⟨ji4, hji4⟩ : ∃ j_ : Int, (wrap64 ((a0.size : Int) - (a1.size : Int))) = j_ := ⟨_, rfl⟩
    replace H : (if 0 ≤ (ji4) then (if (ji4) ≤ (a0.size : Int) then (some ((a0.extract ((ji4) : Int).toNat a0.size).toList == a1.toList)) else (none)) else (none)) = some r := by first | (rw [hji4] at H; exact H) | (simp only [hji4] at H ⊢; exact H)
    have hji4w : (IntKind.i64.wrap ((a0.size : Int) - (a1.size : Int))) = ji4 := (i64_w _).trans hji4
    by_cases c5 : 0 ≤ (ji4)
    · rw [if_pos c5] at H
      have c5b0 := eq_true c5
      have c5b1 : decide (0 ≤ (ji4)) = true := decide_eq_true c5
      clear c5
      by_cases c6 : (ji4) ≤ (a0.size : Int)
      · rw [if_pos c6] at H
        have c6b0 := eq_true c6
        have c6b1 : decide ((ji4) ≤ (a0.size : Int)) = true := decide_eq_true c6
        clear c6
        obtain rfl := Option.some.inj H
        go_enter Tryd.func56, Tryd.ntmps56
        go_wp2
        go_ret
        exact ⟨by first | rfl | (simp; done) | (simp only [← hji4] <;> (first | rfl | simp)) | (simp [*]; done), by repeat (first | exact Drawn0.refl _ | apply Drawn0.step)⟩
      · rw [if_neg c6] at H
        exact absurd H (by simp)
    · rw [if_neg c5] at H
      exact absurd H (by simp)
  · rw [if_neg c3] at H
    have c3b0 : decide ((a1.size : Int) ≤ (a0.size : Int)) = false := decide_eq_false c3
    have c3b1 : decide (a1.size ≤ a0.size) = false := decide_eq_false (fun h => c3 (Int.ofNat_le.mpr h))
    clear c3
    obtain rfl := Option.some.inj H
    go_enter Tryd.func56, Tryd.ntmps56
    go_wp2
    go_ret
    exact ⟨by first | rfl | (simp; done) | (simp [*]; done), by repeat (first | exact Drawn0.refl _ | apply Drawn0.step)⟩

/-! ### stringslite_CutSuffix: function 40 -/
def stringslite_CutSuffix.f (a0 : ByteArray) (a1 : ByteArray) : Option (ByteArray × Bool) := (stringslite_HasSuffix.f a0 a1).bind fun t131 => (if t131 = true then (if 0 ≤ (wrap64 ((a0.size : Int) - (a1.size : Int))) then (if (wrap64 ((a0.size : Int) - (a1.size : Int))) ≤ (a0.size : Int) then (some (a0.extract 0 ((wrap64 ((a0.size : Int) - (a1.size : Int))) : Int).toNat, true)) else (none)) else (none)) else (some (a0, false)))
set_option maxHeartbeats 8000000 in
set_option maxRecDepth 100000 in
theorem stringslite_CutSuffix.calls (a0 : ByteArray) (a1 : ByteArray) (r1 : ByteArray) (r2 : Bool) (w : World) (hGl : Gl w) (h : stringslite_CutSuffix.f a0 a1 = some (r1, r2)) :
    Calls Tryd.prog 40 #[.string a0, .string a1] w fun e w' => e = .returned (.tuple #[.string r1, .bool r2]) ∧ Drawn0 w w' := by
  have HGL := Aside0.mk hGl
  clear hGl
  have H : ((stringslite_HasSuffix.f a0 a1).bind fun t131 => (if t131 = true then (if 0 ≤ (wrap64 ((a0.size : Int) - (a1.size : Int))) then (if (wrap64 ((a0.size : Int) - (a1.size : Int))) ≤ (a0.size : Int) then (some (a0.extract 0 ((wrap64 ((a0.size : Int) - (a1.size : Int))) : Int).toNat, true)) else (none)) else (none)) else (some (a0, false)))) = some (r1, r2) := h
  clear h
  replace H := Option.bind_eq_some_iff.mp H
  obtain ⟨t131, A30, H⟩ := H
  replace H : (if t131 = true then (if 0 ≤ (wrap64 ((a0.size : Int) - (a1.size : Int))) then (if (wrap64 ((a0.size : Int) - (a1.size : Int))) ≤ (a0.size : Int) then (some (a0.extract 0 ((wrap64 ((a0.size : Int) - (a1.size : Int))) : Int).toNat, true)) else (none)) else (none)) else (some (a0, false))) = some (r1, r2) := H
  have A3 := Aside0.mk A30
  clear A30
  by_cases c4 : t131 = true
  · subst c4
    have H1 : (if 0 ≤ (wrap64 ((a0.size : Int) - (a1.size : Int))) then (if (wrap64 ((a0.size : Int) - (a1.size : Int))) ≤ (a0.size : Int) then (some (a0.extract 0 ((wrap64 ((a0.size : Int) - (a1.size : Int))) : Int).toNat, true)) else (none)) else (none)) = some (r1, r2) := by rw [if_pos rfl] at H; exact H
    clear H
    have H := H1
    clear H1
    obtain ⟨ji5, hji5⟩ : ∃ j_ : Int, (wrap64 ((a0.size : Int) - (a1.size : Int))) = j_ := ⟨_, rfl⟩
    replace H : (if 0 ≤ (ji5) then (if (ji5) ≤ (a0.size : Int) then (some (a0.extract 0 ((ji5) : Int).toNat, true)) else (none)) else (none)) = some (r1, r2) := by first | (rw [hji5] at H; exact H) | (simp only [hji5] at H ⊢; exact H)
    (try rw [hji5] at A3)
    have hji5w : (IntKind.i64.wrap ((a0.size : Int) - (a1.size : Int))) = ji5 := (i64_w _).trans hji5
    by_cases c6 : 0 ≤ (ji5)
    · rw [if_pos c6] at H
      have c6b0 := eq_true c6
      have c6b1 : decide (0 ≤ (ji5)) = true := decide_eq_true c6
      clear c6
      by_cases c7 : (ji5) ≤ (a0.size : Int)
      · rw [if_pos c7] at H
        have c7b0 := eq_true c7
        have c7b1 : decide ((ji5) ≤ (a0.size : Int)) = true := decide_eq_true c7
        clear c7
        simp only [Option.some.injEq, Prod.mk.injEq] at H
        obtain ⟨rfl, rfl⟩ := H
        go_enter Tryd.func40, Tryd.ntmps40
        go_wp2_with (first | ((with_reducible refine gate_callee (f := 56) rfl ?_); refine goesL_ (some 8) rfl rfl Tryd.func56 (by kernel_rfl) rfl #[.string a0, .string a1] rfl (by (try simp only [List.map_toArray, List.map_cons, List.map_nil]); first | done | rfl | (simp only [List.length_drop, List.length_take]; rfl)) ?_; (with_reducible refine (stringslite_HasSuffix.calls a0 a1 true _ ?side1 A3.out).mono ?_); (case side1 => first | exact HGL.out | exact Gl.drewN HGL.out _ | exact Gl.of HGL.out (by repeat (first | (with_reducible first | exact HB.out | apply below_alloc | apply pw_below_drewN | apply below_drew1) | exact HB.out))); rintro e w' ⟨rfl, ⟨nd, rfl⟩⟩; refine ⟨_, rfl, ?_⟩))
        go_ret2
        exact ⟨by first | rfl | (simp; done) | (simp only [← hji5] <;> (first | rfl | simp)) | (simp [*]; done), by repeat (first | exact Drawn0.refl _ | apply Drawn0.step)⟩
      · rw [if_neg c7] at H
        exact absurd H (by simp)
    · rw [if_neg c6] at H
      exact absurd H (by simp)
  · replace c4 := Bool.eq_false_iff.mpr c4
    subst c4
    have H1 : (some (a0, false)) = some (r1, r2) := by rw [if_neg (show ¬ (false = true) by decide)] at H; exact H
    clear H
    have H := H1
    clear H1
    simp only [Option.some.injEq, Prod.mk.injEq] at H
    obtain ⟨rfl, rfl⟩ := H
    go_enter Tryd.func40, Tryd.ntmps40
    go_wp2_with (first | ((with_reducible refine gate_callee (f := 56) rfl ?_); refine goesL_ (some 8) rfl rfl Tryd.func56 (by kernel_rfl) rfl #[.string a0, .string a1] rfl (by (try simp only [List.map_toArray, List.map_cons, List.map_nil]); first | done | rfl | (simp only [List.length_drop, List.length_take]; rfl)) ?_; (with_reducible refine (stringslite_HasSuffix.calls a0 a1 false _ ?side1 A3.out).mono ?_); (case side1 => first | exact HGL.out | exact Gl.drewN HGL.out _ | exact Gl.of HGL.out (by repeat (first | (with_reducible first | exact HB.out | apply below_alloc | apply pw_below_drewN | apply below_drew1) | exact HB.out))); rintro e w' ⟨rfl, ⟨nd, rfl⟩⟩; refine ⟨_, rfl, ?_⟩))
    go_ret2
    exact ⟨by first | rfl | (simp; done) | (simp [*]; done), by repeat (first | exact Drawn0.refl _ | apply Drawn0.step)⟩

/-! ### strings_CutSuffix: function 34 -/
def strings_CutSuffix.f (a0 : ByteArray) (a1 : ByteArray) : Option (ByteArray × Bool) := (stringslite_CutSuffix.f a0 a1).bind fun bt132 => (some (bt132.1, bt132.2))
set_option maxHeartbeats 8000000 in
set_option maxRecDepth 100000 in
theorem strings_CutSuffix.calls (a0 : ByteArray) (a1 : ByteArray) (r1 : ByteArray) (r2 : Bool) (w : World) (hGl : Gl w) (h : strings_CutSuffix.f a0 a1 = some (r1, r2)) :
    Calls Tryd.prog 34 #[.string a0, .string a1] w fun e w' => e = .returned (.tuple #[.string r1, .bool r2]) ∧ Drawn0 w w' := by
  have HGL := Aside0.mk hGl
  clear hGl
  have H : ((stringslite_CutSuffix.f a0 a1).bind fun bt132 => (some (bt132.1, bt132.2))) = some (r1, r2) := h
  clear h
  replace H := Option.bind_eq_some_iff.mp H
  obtain ⟨⟨t132, t133⟩, A30, H⟩ := H
  replace H : (some (t132, t133)) = some (r1, r2) := H
  have A3 := Aside0.mk A30
  clear A30
  simp only [Option.some.injEq, Prod.mk.injEq] at H
  obtain ⟨rfl, rfl⟩ := H
  go_enter Tryd.func34, Tryd.ntmps34
  go_wp2_with (first | ((with_reducible refine gate_callee (f := 40) rfl ?_); refine goesL_ (some 8) rfl rfl Tryd.func40 (by kernel_rfl) rfl #[.string a0, .string a1] rfl (by (try simp only [List.map_toArray, List.map_cons, List.map_nil]); first | done | rfl | (simp only [List.length_drop, List.length_take]; rfl)) ?_; (with_reducible refine (stringslite_CutSuffix.calls a0 a1 t132 t133 _ ?side1 A3.out).mono ?_); (case side1 => first | exact HGL.out | exact Gl.drewN HGL.out _ | exact Gl.of HGL.out (by repeat (first | (with_reducible first | exact HB.out | apply below_alloc | apply pw_below_drewN | apply below_drew1) | exact HB.out))); rintro e w' ⟨rfl, ⟨nd, rfl⟩⟩; refine ⟨_, rfl, ?_⟩))
  go_ret2
  exact ⟨by first | rfl | (simp; done) | (simp [*]; done), by repeat (first | exact Drawn0.refl _ | apply Drawn0.step)⟩

end Go.Proofs.YtcengaholljddaaDoor.PPax
