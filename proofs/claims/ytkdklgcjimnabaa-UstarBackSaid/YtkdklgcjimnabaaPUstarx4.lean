/- Printed for this claim by a copy of the kit's print.py that takes functions walked by our own texts. Conditions: none. -/
import Derived.Test.YtkdklgcjimnabaaCopyS
import Derived.Test.YtkdklgcjimnabaaPUstarx0
import Derived.Test.YtkdklgcjimnabaaPUstarx2
import Derived.Test.YtkdklgcjimnabaaPUstarx3
namespace Go.Proofs.Ytkdklgcjimnabaa.PUstar
open Go.RowKit Go.Proofs.YtkdklgcjimnabaaW.PrintWords Go.Proofs.YtkdklgcjimnabaaW.PrintLast Go.Proofs.YtkdklgcjimnabaaW.PrintMore
attribute [local go_sem] max2_int min2_int max_two min_two max_three min_three max_four min_four   -- for this text's walks alone
set_option linter.unusedVariables false
set_option linter.unusedSimpArgs false

/-! ### ustar_block_sum: function 33 -/
def ustar_block_sum.l0 : Nat → Int → List Int → Int → Int → Option (Int)
  | 0, _, _, _, _ => none
  | k + 1, x3, x6, x7, x8 => if x8 < x7 then (if 0 ≤ x8 then (if x8 < (x6.length : Int) then (if x8 < 148 then (ustar_block_sum.l0 k (wrap64 (x3 + (wrap64 (rd x6 x8)))) x6 x7 (wrap64 (x8 + 1))) else (if x8 ≥ 156 then (ustar_block_sum.l0 k (wrap64 (x3 + (wrap64 (rd x6 x8)))) x6 x7 (wrap64 (x8 + 1))) else (ustar_block_sum.l0 k x3 x6 x7 (wrap64 (x8 + 1))))) else (none)) else (none)) else (some x3)
def ustar_block_sum.f (k : Nat) (l0 : List Int) : Option (Int) := ustar_block_sum.l0 k 256 l0 (l0.length : Int) 0
theorem ustar_block_sum.mono_l : ∀ k, (∀ y0 y1 y2 y3, LeO (ustar_block_sum.l0 k y0 y1 y2 y3) (ustar_block_sum.l0 (k + 1) y0 y1 y2 y3))
  | 0 => fun _ _ _ _ r h => by simp [ustar_block_sum.l0] at h
  | k + 1 => by
    have ih0 := ustar_block_sum.mono_l k
    · intro y0 y1 y2 y3
      unfold ustar_block_sum.l0
      repeat' first
      | (with_reducible exact ih0 _ _ _ _)
      | (with_reducible exact LeO.refl _)
      | (with_reducible exact LeO.none _)
      | (with_reducible refine LeO.ite ?_ ?_)
      | (with_reducible refine LeO.bind ?_ (fun _ => ?_))
      | exact ih0 _ _ _ _
      | exact LeO.none _
      | refine LeO.ite ?_ ?_
      | refine LeO.bind ?_ (fun _ => ?_)
theorem ustar_block_sum.mono : ∀ a0 k, LeO (ustar_block_sum.f k a0) (ustar_block_sum.f (k + 1) a0) := by
  intro a0 k
  have ih0 := ustar_block_sum.mono_l k
  unfold ustar_block_sum.f
  repeat' first
      | (with_reducible exact ih0 _ _ _ _)
      | (with_reducible exact LeO.refl _)
      | (with_reducible exact LeO.none _)
      | (with_reducible refine LeO.ite ?_ ?_)
      | (with_reducible refine LeO.bind ?_ (fun _ => ?_))
      | exact ih0 _ _ _ _
      | exact LeO.none _
      | refine LeO.ite ?_ ?_
      | refine LeO.bind ?_ (fun _ => ?_)
set_option maxHeartbeats 8000000 in
set_option maxRecDepth 100000 in
theorem ustar_block_sum.calls (k : Nat) (A0 : Option Addr) (c0 : Nat) (l0 : List Int) (r : Int) (w : World) (hr0 : Kd.C (Kd.int .u8) w A0 l0.length l0) (hc0 : l0.length ≤ c0) (h : ustar_block_sum.f k l0 = some r) :
    Calls Try.prog 33 #[.slice A0 l0.length c0] w fun e w' => e = .returned (.int .i64 r) ∧ Drawn0 w w' := by
  have HR0 := Aside0.mk hr0
  have HC0 := Aside0.mk hc0
  clear hr0 hc0
  have H : (ustar_block_sum.l0 k 256 l0 (l0.length : Int) 0) = some r := h
  clear h
  have H' := Aside0.mk H
  clear H
  go_enter Try.func33, Try.ntmps33
  go_wp2
  go_loopg [3, 8] k (fun kq v3 v8 w' => ∃ (x3_1 : Int) (x8_1 : Int), v3 = .int .i64 x3_1 ∧ v8 = .int .i64 x8_1 ∧ Aside0 (ustar_block_sum.l0 kq x3_1 l0 (l0.length : Int) x8_1 = some r) ∧ Aside0 (kq ≤ k) ∧ Drawn0 w w')
  case atStart => exact ⟨(256), (0), (by first | rfl | (simp; done) | (simp [*]; done)), (by first | rfl | (simp; done) | (simp [*]; done)), H', ⟨Nat.le_refl _⟩, by repeat (first | exact Drawn0.refl _ | apply Drawn0.step)⟩
  case round =>
    clear H'
    obtain ⟨x3_1, x8_1, rfl, rfl, HA, HK1, ⟨m1, rfl⟩⟩ := hrel
    cases gk with
    | zero => exact absurd HA.out (by simp [ustar_block_sum.l0])
    | succ k1 =>
      have H := HA.out
      clear HA
      simp only [ustar_block_sum.l0] at H
      by_cases c2 : x8_1 < (l0.length : Int)
      · rw [if_pos c2] at H
        have c2b0 : decide (x8_1 < (l0.length : Int)) = true := decide_eq_true c2
        clear c2
        by_cases c3 : 0 ≤ x8_1
        · rw [if_pos c3] at H
          have c3b0 : decide (0 ≤ x8_1) = true := decide_eq_true c3
          clear c3
          by_cases c4 : x8_1 < (l0.length : Int)
          · rw [if_pos c4] at H
            have c4b0 : decide (x8_1 < (l0.length : Int)) = true := decide_eq_true c4
            clear c4
            by_cases c5 : x8_1 < 148
            · rw [if_pos c5] at H
              have c5b0 : decide (x8_1 < 148) = true := decide_eq_true c5
              clear c5
              have H' := Aside0.mk H
              clear H
              have p111 : 0 ≤ (x8_1 : Int) := of_decide_eq_true (by first | (with_reducible assumption) | assumption)
              have q111 : x8_1 < (l0.length : Int) := of_decide_eq_true (by first | (with_reducible assumption) | assumption)
              obtain ⟨ad111, e111, hx111_0⟩ := Kd.at_int HR0.out x8_1 p111 q111
              cases e111
              replace p111 := eq_true p111
              replace q111 := eq_true q111
              go_wp2
              go_roundg k1
              case measure => have := HK1.out; omega
              case rel => exact ⟨(wrap64 (x3_1 + (wrap64 (rd l0 x8_1)))), (wrap64 (x8_1 + 1)), (by first | rfl | (simp; done) | (simp [*]; done)), (by first | rfl | (simp; done) | (simp [*]; done)), H', ⟨by have := HK1.out; omega⟩, by repeat (first | exact Drawn0.refl _ | apply Drawn0.step)⟩
            · rw [if_neg c5] at H
              have c5b0 : decide (x8_1 < 148) = false := decide_eq_false c5
              clear c5
              by_cases c6 : x8_1 ≥ 156
              · rw [if_pos c6] at H
                have c6b0 : decide (156 ≤ x8_1) = true := decide_eq_true c6
                clear c6
                have H' := Aside0.mk H
                clear H
                have p111 : 0 ≤ (x8_1 : Int) := of_decide_eq_true (by first | (with_reducible assumption) | assumption)
                have q111 : x8_1 < (l0.length : Int) := of_decide_eq_true (by first | (with_reducible assumption) | assumption)
                obtain ⟨ad111, e111, hx111_0⟩ := Kd.at_int HR0.out x8_1 p111 q111
                cases e111
                replace p111 := eq_true p111
                replace q111 := eq_true q111
                go_wp2
                go_roundg k1
                case measure => have := HK1.out; omega
                case rel => exact ⟨(wrap64 (x3_1 + (wrap64 (rd l0 x8_1)))), (wrap64 (x8_1 + 1)), (by first | rfl | (simp; done) | (simp [*]; done)), (by first | rfl | (simp; done) | (simp [*]; done)), H', ⟨by have := HK1.out; omega⟩, by repeat (first | exact Drawn0.refl _ | apply Drawn0.step)⟩
              · rw [if_neg c6] at H
                have c6b0 : decide (156 ≤ x8_1) = false := decide_eq_false c6
                clear c6
                have H' := Aside0.mk H
                clear H
                have p111 : 0 ≤ (x8_1 : Int) := of_decide_eq_true (by first | (with_reducible assumption) | assumption)
                have q111 : x8_1 < (l0.length : Int) := of_decide_eq_true (by first | (with_reducible assumption) | assumption)
                obtain ⟨ad111, e111, hx111_0⟩ := Kd.at_int HR0.out x8_1 p111 q111
                cases e111
                replace p111 := eq_true p111
                replace q111 := eq_true q111
                go_wp2
                go_roundg k1
                case measure => have := HK1.out; omega
                case rel => exact ⟨(x3_1), (wrap64 (x8_1 + 1)), (by first | rfl | (simp; done) | (simp [*]; done)), (by first | rfl | (simp; done) | (simp [*]; done)), H', ⟨by have := HK1.out; omega⟩, by repeat (first | exact Drawn0.refl _ | apply Drawn0.step)⟩
          · rw [if_neg c4] at H
            exact absurd H (by simp)
        · rw [if_neg c3] at H
          exact absurd H (by simp)
      · rw [if_neg c2] at H
        have c2b0 : decide (x8_1 < (l0.length : Int)) = false := decide_eq_false c2
        clear c2
        obtain rfl := Option.some.inj H
        go_wp2
        go_ret
        exact ⟨by first | rfl | (simp; done) | (simp [*]; done), by repeat (first | exact Drawn0.refl _ | apply Drawn0.step)⟩

/-! ### ustar_Encode: function 14 -/
def ustar_Encode.j0 : Nat → ByteArray → ByteArray → Bool → ByteArray → Int → Int → Int → Int → Int → Int → ByteArray → Option (List Int × Option Int)
  | 0, _, _, _, _, _, _, _, _, _, _, _ => none
  | k + 1, x4, x5, x21, x113000, x113001, x113002, x113003, x113004, x113005, x113006, x113007 => if x21 = true then (some (([] : List Int), some 14)) else (if 512 ≤ 281474976710656 then ((some (List.replicate 512 0 : List Int)).bind fun y117 => ((CopyS.copyF y117 0 x5).bind fun t120 => ((ustar_block_octal.f k t120 100 7 x113001).bind fun t121 => ((ustar_block_octal.f k t121 108 7 x113002).bind fun t122 => ((ustar_block_octal.f k t122 116 7 x113003).bind fun t123 => ((ustar_block_octal.f k t123 124 11 x113004).bind fun t124 => ((ustar_block_octal.f k t124 136 11 x113005).bind fun t125 => (if 156 < (y117.length : Int) then (if 157 ≤ (y117.length : Int) then ((CopyS.copyF (t125.set (156 : Int).toNat x113006) 157 x113007).bind fun t131 => (if 257 ≤ (y117.length : Int) then ((CopyS.copyF t131 257 CopyS.magicS).bind fun t136 => ((ustar_block_octal.f k t136 329 7 0).bind fun t137 => ((ustar_block_octal.f k t137 337 7 0).bind fun t138 => (if 345 ≤ (y117.length : Int) then ((CopyS.copyF t138 345 x4).bind fun t143 => ((ustar_block_sum.f k t143).bind fun t144 => ((ustar_block_octal.f k t143 148 6 t144).bind fun t145 => (if 155 < (y117.length : Int) then (some ((t145.set (155 : Int).toNat 32), none)) else (none))))) else (none))))) else (none))) else (none)) else (none))))))))) else (none))
def ustar_Encode.f (k : Nat) (a0_0 : ByteArray) (a0_1 : Int) (a0_2 : Int) (a0_3 : Int) (a0_4 : Int) (a0_5 : Int) (a0_6 : Int) (a0_7 : ByteArray) : Option (List Int × Option Int) := (ustar_split.f k a0_0).bind fun bt113 => (if bt113.2.2 = true then ((ustar_fits.f k a0_0 a0_1 a0_2 a0_3 a0_4 a0_5 a0_6 a0_7).bind fun t116 => (ustar_Encode.j0 k bt113.1 bt113.2.1 (!t116) a0_0 a0_1 a0_2 a0_3 a0_4 a0_5 a0_6 a0_7)) else (ustar_Encode.j0 k bt113.1 bt113.2.1 true a0_0 a0_1 a0_2 a0_3 a0_4 a0_5 a0_6 a0_7))
theorem ustar_Encode.mono_l : ∀ k, (∀ y0 y1 y2 y3 y4 y5 y6 y7 y8 y9 y10, LeO (ustar_Encode.j0 k y0 y1 y2 y3 y4 y5 y6 y7 y8 y9 y10) (ustar_Encode.j0 (k + 1) y0 y1 y2 y3 y4 y5 y6 y7 y8 y9 y10))
  | 0 => fun _ _ _ _ _ _ _ _ _ _ _ r h => by simp [ustar_Encode.j0] at h
  | k + 1 => by
    have ih0 := ustar_Encode.mono_l k
    · intro y0 y1 y2 y3 y4 y5 y6 y7 y8 y9 y10
      unfold ustar_Encode.j0
      repeat' first
      | (with_reducible exact ih0 _ _ _ _ _ _ _ _ _ _ _)
      | (with_reducible exact ustar_block_octal.mono _ _ _ _ _)
      | (with_reducible exact ustar_block_sum.mono _ _)
      | (with_reducible exact ustar_fits.mono _ _ _ _ _ _ _ _ _)
      | (with_reducible exact ustar_split.mono _ _)
      | (with_reducible exact LeO.refl _)
      | (with_reducible exact LeO.none _)
      | (with_reducible refine LeO.ite ?_ ?_)
      | (with_reducible refine LeO.bind ?_ (fun _ => ?_))
      | exact ih0 _ _ _ _ _ _ _ _ _ _ _
      | exact ustar_block_octal.mono _ _ _ _ _
      | exact ustar_block_sum.mono _ _
      | exact ustar_fits.mono _ _ _ _ _ _ _ _ _
      | exact ustar_split.mono _ _
      | exact LeO.none _
      | refine LeO.ite ?_ ?_
      | refine LeO.bind ?_ (fun _ => ?_)
theorem ustar_Encode.mono : ∀ a0 a1 a2 a3 a4 a5 a6 a7 k, LeO (ustar_Encode.f k a0 a1 a2 a3 a4 a5 a6 a7) (ustar_Encode.f (k + 1) a0 a1 a2 a3 a4 a5 a6 a7) := by
  intro a0 a1 a2 a3 a4 a5 a6 a7 k
  have ih0 := ustar_Encode.mono_l k
  unfold ustar_Encode.f
  repeat' first
      | (with_reducible exact ih0 _ _ _ _ _ _ _ _ _ _ _)
      | (with_reducible exact ustar_block_octal.mono _ _ _ _ _)
      | (with_reducible exact ustar_block_sum.mono _ _)
      | (with_reducible exact ustar_fits.mono _ _ _ _ _ _ _ _ _)
      | (with_reducible exact ustar_split.mono _ _)
      | (with_reducible exact LeO.refl _)
      | (with_reducible exact LeO.none _)
      | (with_reducible refine LeO.ite ?_ ?_)
      | (with_reducible refine LeO.bind ?_ (fun _ => ?_))
      | exact ih0 _ _ _ _ _ _ _ _ _ _ _
      | exact ustar_block_octal.mono _ _ _ _ _
      | exact ustar_block_sum.mono _ _
      | exact ustar_fits.mono _ _ _ _ _ _ _ _ _
      | exact ustar_split.mono _ _
      | exact LeO.none _
      | refine LeO.ite ?_ ?_
      | refine LeO.bind ?_ (fun _ => ?_)
set_option maxHeartbeats 8000000 in
set_option maxRecDepth 100000 in
theorem ustar_Encode.calls (k : Nat) (a0_0 : ByteArray) (a0_1 : Int) (a0_2 : Int) (a0_3 : Int) (a0_4 : Int) (a0_5 : Int) (a0_6 : Int) (a0_7 : ByteArray) (r1 : List Int) (r2 : Option Int) (w : World) (h : ustar_Encode.f k a0_0 a0_1 a0_2 a0_3 a0_4 a0_5 a0_6 a0_7 = some (r1, r2)) :
    Calls Try.prog 14 #[.agg #[.string a0_0, .int .i64 a0_1, .int .i64 a0_2, .int .i64 a0_3, .int .i64 a0_4, .int .i64 a0_5, .int .u8 a0_6, .string a0_7]] w fun e w' => ∃ v0_ : Value, e = .returned (.tuple #[v0_, errW r2]) ∧ Kd.R (Kd.int .u8) 5 w' w.heap.size (fun _ => True) v0_ r1 ∧ Below w.heap.size w w' := by
  have hu26 := Try.underlying26
  have hu28 := Try.underlying28
  have hu40 := Try.underlying40
  have HB := Aside0.mk (Below.refl w.heap.size w)
  have H : ((ustar_split.f k a0_0).bind fun bt113 => (if bt113.2.2 = true then ((ustar_fits.f k a0_0 a0_1 a0_2 a0_3 a0_4 a0_5 a0_6 a0_7).bind fun t116 => (ustar_Encode.j0 k bt113.1 bt113.2.1 (!t116) a0_0 a0_1 a0_2 a0_3 a0_4 a0_5 a0_6 a0_7)) else (ustar_Encode.j0 k bt113.1 bt113.2.1 true a0_0 a0_1 a0_2 a0_3 a0_4 a0_5 a0_6 a0_7))) = some (r1, r2) := h
  clear h
  replace H := Option.bind_eq_some_iff.mp H
  obtain ⟨⟨t113, t114, t115⟩, A20, H⟩ := H
  replace H : (if t115 = true then ((ustar_fits.f k a0_0 a0_1 a0_2 a0_3 a0_4 a0_5 a0_6 a0_7).bind fun t116 => (ustar_Encode.j0 k t113 t114 (!t116) a0_0 a0_1 a0_2 a0_3 a0_4 a0_5 a0_6 a0_7)) else (ustar_Encode.j0 k t113 t114 true a0_0 a0_1 a0_2 a0_3 a0_4 a0_5 a0_6 a0_7)) = some (r1, r2) := H
  have A2 := Aside0.mk A20
  clear A20
  have HC3 := Aside0.mk H
  clear H
  go_enter Try.func14, Try.ntmps14
  go_upto_region 2 with (first | ((with_reducible refine gate_dst (N := 1) rfl ?_); refine box_event ?hg (N := 1) ?hd (cs := #[.string a0_0, .int .i64 a0_1, .int .i64 a0_2, .int .i64 a0_3, .int .i64 a0_4, .int .i64 a0_5, .int .u8 a0_6, .string a0_7]) (t := 26) ?hr ?_; (case hd => rfl); (case hg => rfl); (case hr => first | (go_simp; done) | (go_simp; rfl)); intro gb112 hg w4 hbox hb; have n0_ := Aside0.mk (below_step (by repeat (first | (with_reducible first | exact HB.out | apply below_alloc | apply pw_below_drewN | apply below_drew1) | exact HB.out)) hb); have n1_ := Aside0.mk (hbox); have n2_ := Aside0.mk ((by rw [hg]; exact (below_size (by repeat (first | (with_reducible first | exact HB.out | apply below_alloc | apply pw_below_drewN | apply below_drew1) | exact HB.out))) : w.heap.size ≤ gb112)); have n3_ := Aside0.mk ((by rw [hg]; exact (below_size (by repeat (first | (with_reducible first | exact HB.out | apply below_alloc | apply pw_below_drewN | apply below_drew1) | exact HB.out))) : w.heap.size ≤ gb112)); clear HB; have HB := n0_; have BK112 := n1_; have GW112 := n2_; have GE112 := n3_; clear n0_ n1_ n2_ n3_; clear hb hbox hg; have hcz5_0 : w4.cell? ⟨gb112, 0, none⟩ = some (.string a0_0) := (blk_cell BK112.out 0).trans rfl; have hcz5_1 : w4.cell? ⟨gb112, 1, none⟩ = some (.int .i64 a0_1) := (blk_cell BK112.out 1).trans rfl; have hcz5_2 : w4.cell? ⟨gb112, 2, none⟩ = some (.int .i64 a0_2) := (blk_cell BK112.out 2).trans rfl; have hcz5_3 : w4.cell? ⟨gb112, 3, none⟩ = some (.int .i64 a0_3) := (blk_cell BK112.out 3).trans rfl; have hcz5_4 : w4.cell? ⟨gb112, 4, none⟩ = some (.int .i64 a0_4) := (blk_cell BK112.out 4).trans rfl; have hcz5_5 : w4.cell? ⟨gb112, 5, none⟩ = some (.int .i64 a0_5) := (blk_cell BK112.out 5).trans rfl; have hcz5_6 : w4.cell? ⟨gb112, 6, none⟩ = some (.int .u8 a0_6) := (blk_cell BK112.out 6).trans rfl; have hcz5_7 : w4.cell? ⟨gb112, 7, none⟩ = some (.string a0_7) := (blk_cell BK112.out 7).trans rfl; have hfz5_0 := blk_frozen BK112.out 0; have hfz5_1 := blk_frozen BK112.out 1; have hfz5_2 := blk_frozen BK112.out 2; have hfz5_3 := blk_frozen BK112.out 3; have hfz5_4 := blk_frozen BK112.out 4; have hfz5_5 := blk_frozen BK112.out 5; have hfz5_6 := blk_frozen BK112.out 6; have hfz5_7 := blk_frozen BK112.out 7) | ((with_reducible refine gate_callee (f := 30) rfl ?_); refine goesL_ (some 11) rfl rfl Try.func30 (by kernel_rfl) rfl #[.string a0_0] rfl (by (try simp only [List.map_toArray, List.map_cons, List.map_nil]); first | done | rfl | (simp only [List.length_drop, List.length_take]; rfl)) ?_; (with_reducible refine (ustar_split.calls k a0_0 t113 t114 t115 _ A2.out).mono ?_); rintro e w6 ⟨rfl, hb⟩; refine ⟨_, rfl, ?_⟩; have n0_ := Aside0.mk (blk_below (g := gb112) (o := .cells #[.string a0_0, .int .i64 a0_1, .int .i64 a0_2, .int .i64 a0_3, .int .i64 a0_4, .int .i64 a0_5, .int .u8 a0_6, .string a0_7] 26 (0, 0)) (by (with_reducible repeat (first | refine blk_drewN ?_ _ | refine blk_drew ?_ | refine blk_alloc ?_ _)); exact BK112.out) hb); have n1_ := Aside0.mk (below_step (by repeat (first | (with_reducible first | exact HB.out | apply below_alloc | apply pw_below_drewN | apply below_drew1 | refine below_set ?_ GE112.out) | exact HB.out)) hb); clear BK112; clear HB; have BK112 := n0_; have HB := n1_; clear n0_ n1_; (try clear hb); (try clear hb2); (try clear hk); (try clear hi)))
  (try simp only [Act.put, List.setIfInBounds_toArray, List.set_cons_zero, List.set_cons_succ])
  go_cut [21] (fun v21 wc => ∃ (kq : Nat) (x21_2 : Bool), v21 = .bool x21_2 ∧ Aside0 (ustar_Encode.j0 kq t113 t114 x21_2 a0_0 a0_1 a0_2 a0_3 a0_4 a0_5 a0_6 a0_7 = some (r1, r2)) ∧ Aside0 (kq ≤ k) ∧ Aside0 (wc.heap[gb112]? = some (.cells #[.string a0_0, .int .i64 a0_1, .int .i64 a0_2, .int .i64 a0_3, .int .i64 a0_4, .int .i64 a0_5, .int .u8 a0_6, .string a0_7] 26 (0, 0))) ∧ Aside0 (Below w.heap.size w wc))
  case first =>
    have H := HC3.out
    clear HC3
    by_cases c7 : t115 = true
    · subst c7
      have H1 : ((ustar_fits.f k a0_0 a0_1 a0_2 a0_3 a0_4 a0_5 a0_6 a0_7).bind fun t116 => (ustar_Encode.j0 k t113 t114 (!t116) a0_0 a0_1 a0_2 a0_3 a0_4 a0_5 a0_6 a0_7)) = some (r1, r2) := by rw [if_pos rfl] at H; exact H
      clear H
      have H := H1
      clear H1
      replace H := Option.bind_eq_some_iff.mp H
      obtain ⟨t116, A80, H⟩ := H
      replace H : (ustar_Encode.j0 k t113 t114 (!t116) a0_0 a0_1 a0_2 a0_3 a0_4 a0_5 a0_6 a0_7) = some (r1, r2) := H
      have A8 := Aside0.mk A80
      clear A80
      have H' := Aside0.mk H
      clear H
      have hcz9_0 : w6.cell? ⟨gb112, 0, none⟩ = some (.string a0_0) := (blk_cell BK112.out 0).trans rfl
      have hcz9_1 : w6.cell? ⟨gb112, 1, none⟩ = some (.int .i64 a0_1) := (blk_cell BK112.out 1).trans rfl
      have hcz9_2 : w6.cell? ⟨gb112, 2, none⟩ = some (.int .i64 a0_2) := (blk_cell BK112.out 2).trans rfl
      have hcz9_3 : w6.cell? ⟨gb112, 3, none⟩ = some (.int .i64 a0_3) := (blk_cell BK112.out 3).trans rfl
      have hcz9_4 : w6.cell? ⟨gb112, 4, none⟩ = some (.int .i64 a0_4) := (blk_cell BK112.out 4).trans rfl
      have hcz9_5 : w6.cell? ⟨gb112, 5, none⟩ = some (.int .i64 a0_5) := (blk_cell BK112.out 5).trans rfl
      have hcz9_6 : w6.cell? ⟨gb112, 6, none⟩ = some (.int .u8 a0_6) := (blk_cell BK112.out 6).trans rfl
      have hcz9_7 : w6.cell? ⟨gb112, 7, none⟩ = some (.string a0_7) := (blk_cell BK112.out 7).trans rfl
      have hfz9_0 := blk_frozen BK112.out 0
      have hfz9_1 := blk_frozen BK112.out 1
      have hfz9_2 := blk_frozen BK112.out 2
      have hfz9_3 := blk_frozen BK112.out 3
      have hfz9_4 := blk_frozen BK112.out 4
      have hfz9_5 := blk_frozen BK112.out 5
      have hfz9_6 := blk_frozen BK112.out 6
      have hfz9_7 := blk_frozen BK112.out 7
      go_wp2_with (first | (go_at_call 31; (with_reducible refine (ustar_fits.calls k a0_0 a0_1 a0_2 a0_3 a0_4 a0_5 a0_6 a0_7 t116 _ A8.out).mono ?_); rintro e w10 ⟨rfl, hb⟩; have n0_ := Aside0.mk (blk_below (g := gb112) (o := .cells #[.string a0_0, .int .i64 a0_1, .int .i64 a0_2, .int .i64 a0_3, .int .i64 a0_4, .int .i64 a0_5, .int .u8 a0_6, .string a0_7] 26 (0, 0)) (by (with_reducible repeat (first | refine blk_drewN ?_ _ | refine blk_drew ?_ | refine blk_alloc ?_ _)); exact BK112.out) hb); have n1_ := Aside0.mk (below_step (by repeat (first | (with_reducible first | exact HB.out | apply below_alloc | apply pw_below_drewN | apply below_drew1 | refine below_set ?_ GE112.out) | exact HB.out)) hb); clear BK112; clear HB; have BK112 := n0_; have HB := n1_; clear n0_ n1_; (try clear hb); (try clear hb2); (try clear hk); (try clear hi)))
      go_meet
      case rel => exact ⟨_, (!t116), (by first | rfl | (simp; done) | (simp [*]; done)), H', ⟨by first | omega | exact Nat.le_refl _⟩, ⟨by (with_reducible repeat (first | refine blk_drewN ?_ _ | refine blk_drew ?_ | refine blk_alloc ?_ _)); exact BK112.out⟩, ⟨by repeat (first | (with_reducible first | exact HB.out | apply below_alloc | apply pw_below_drewN | apply below_drew1 | refine below_set ?_ GE112.out) | exact HB.out)⟩⟩
    · replace c7 := Bool.eq_false_iff.mpr c7
      subst c7
      have H1 : (ustar_Encode.j0 k t113 t114 true a0_0 a0_1 a0_2 a0_3 a0_4 a0_5 a0_6 a0_7) = some (r1, r2) := by rw [if_neg (show ¬ (false = true) by decide)] at H; exact H
      clear H
      have H := H1
      clear H1
      have H' := Aside0.mk H
      clear H
      go_wp2
      go_meet
      case rel => exact ⟨_, (true), (by first | rfl | (simp; done) | (simp [*]; done)), H', ⟨by first | omega | exact Nat.le_refl _⟩, ⟨by (with_reducible repeat (first | refine blk_drewN ?_ _ | refine blk_drew ?_ | refine blk_alloc ?_ _)); exact BK112.out⟩, ⟨by repeat (first | (with_reducible first | exact HB.out | apply below_alloc | apply pw_below_drewN | apply below_drew1 | refine below_set ?_ GE112.out) | exact HB.out)⟩⟩
  case rest =>
    clear HC3
    try clear c1
    try clear p2
    try clear c3
    try clear c7
    try clear hcz5_0
    try clear hcz5_1
    try clear hcz5_2
    try clear hcz5_3
    try clear hcz5_4
    try clear hcz5_5
    try clear hcz5_6
    try clear hcz5_7
    try clear hcz9_0
    try clear hcz9_1
    try clear hcz9_2
    try clear hcz9_3
    try clear hcz9_4
    try clear hcz9_5
    try clear hcz9_6
    try clear hcz9_7
    try clear hfz5_0
    try clear hfz5_1
    try clear hfz5_2
    try clear hfz5_3
    try clear hfz5_4
    try clear hfz5_5
    try clear hfz5_6
    try clear hfz5_7
    try clear hfz9_0
    try clear hfz9_1
    try clear hfz9_2
    try clear hfz9_3
    try clear hfz9_4
    try clear hfz9_5
    try clear hfz9_6
    try clear hfz9_7
    obtain ⟨kq, x21_2, rfl, HA, HJ2, BK112, HB⟩ := hcut
    cases kq with
    | zero => exact absurd HA.out (by simp [ustar_Encode.j0])
    | succ kj2 =>
      have H := HA.out
      clear HA
      simp only [ustar_Encode.j0] at H
      by_cases c11 : x21_2 = true
      · subst c11
        have H1 : (some (([] : List Int), some 14)) = some (r1, r2) := by rw [if_pos rfl] at H; exact H
        clear H
        have H := H1
        clear H1
        simp only [Option.some.injEq, Prod.mk.injEq] at H
        obtain ⟨rfl, rfl⟩ := H
        go_wp2
        go_ret2
        exact ⟨_, by first | rfl | (simp [errW_none, errW_some] <;> rfl) | (simp [*, errW_none, errW_some] <;> rfl), by first | exact Kd.R_nil _ _ _ _ _ | exact Kd.N_nil _ _ _ _ _ | exact Kd.V_nil _ _ _ _ _ | exact Kd.Q_nil _ _ _ _ _ | exact Kd.S_nil _ _ _ _ _, by repeat (first | (with_reducible first | exact HB.out | apply below_alloc | apply pw_below_drewN | apply below_drew1 | refine below_set ?_ GE112.out) | exact HB.out)⟩
      · replace c11 := Bool.eq_false_iff.mpr c11
        subst c11
        have H1 : (if 512 ≤ 281474976710656 then ((some (List.replicate 512 0 : List Int)).bind fun y117 => ((CopyS.copyF y117 0 t114).bind fun t120 => ((ustar_block_octal.f kj2 t120 100 7 a0_1).bind fun t121 => ((ustar_block_octal.f kj2 t121 108 7 a0_2).bind fun t122 => ((ustar_block_octal.f kj2 t122 116 7 a0_3).bind fun t123 => ((ustar_block_octal.f kj2 t123 124 11 a0_4).bind fun t124 => ((ustar_block_octal.f kj2 t124 136 11 a0_5).bind fun t125 => (if 156 < (y117.length : Int) then (if 157 ≤ (y117.length : Int) then ((CopyS.copyF (t125.set (156 : Int).toNat a0_6) 157 a0_7).bind fun t131 => (if 257 ≤ (y117.length : Int) then ((CopyS.copyF t131 257 CopyS.magicS).bind fun t136 => ((ustar_block_octal.f kj2 t136 329 7 0).bind fun t137 => ((ustar_block_octal.f kj2 t137 337 7 0).bind fun t138 => (if 345 ≤ (y117.length : Int) then ((CopyS.copyF t138 345 t113).bind fun t143 => ((ustar_block_sum.f kj2 t143).bind fun t144 => ((ustar_block_octal.f kj2 t143 148 6 t144).bind fun t145 => (if 155 < (y117.length : Int) then (some ((t145.set (155 : Int).toNat 32), none)) else (none))))) else (none))))) else (none))) else (none)) else (none))))))))) else (none)) = some (r1, r2) := by rw [if_neg (show ¬ (false = true) by decide)] at H; exact H
        clear H
        have H := H1
        clear H1
        by_cases c12 : 512 ≤ 281474976710656
        · rw [if_pos c12] at H
          have c12b0 := eq_true c12
          have c12b1 : decide (512 ≤ 281474976710656) = true := decide_eq_true c12
          clear c12
          obtain ⟨y117, hy117⟩ : ∃ y_ : List Int, y_ = (List.replicate 512 0) := ⟨_, rfl⟩
          replace H : ((CopyS.copyF y117 0 t114).bind fun t120 => ((ustar_block_octal.f kj2 t120 100 7 a0_1).bind fun t121 => ((ustar_block_octal.f kj2 t121 108 7 a0_2).bind fun t122 => ((ustar_block_octal.f kj2 t122 116 7 a0_3).bind fun t123 => ((ustar_block_octal.f kj2 t123 124 11 a0_4).bind fun t124 => ((ustar_block_octal.f kj2 t124 136 11 a0_5).bind fun t125 => (if 156 < (y117.length : Int) then (if 157 ≤ (y117.length : Int) then ((CopyS.copyF (t125.set (156 : Int).toNat a0_6) 157 a0_7).bind fun t131 => (if 257 ≤ (y117.length : Int) then ((CopyS.copyF t131 257 CopyS.magicS).bind fun t136 => ((ustar_block_octal.f kj2 t136 329 7 0).bind fun t137 => ((ustar_block_octal.f kj2 t137 337 7 0).bind fun t138 => (if 345 ≤ (y117.length : Int) then ((CopyS.copyF t138 345 t113).bind fun t143 => ((ustar_block_sum.f kj2 t143).bind fun t144 => ((ustar_block_octal.f kj2 t143 148 6 t144).bind fun t145 => (if 155 < (y117.length : Int) then (some ((t145.set (155 : Int).toNat 32), none)) else (none))))) else (none))))) else (none))) else (none)) else (none)))))))) = some (r1, r2) := by first | (rw [hy117]; with_reducible exact H) | (have H2_ := (Option.bind_some _ _).symm.trans H; rw [hy117]; with_reducible exact H2_) | (have H2_ := (Option.bind_some _ _).symm.trans H; with_reducible exact H2_) | with_reducible exact H | (rw [hy117]; exact H) | exact H
          have Ny117 := Aside0.mk hy117
          clear hy117
          replace H := Option.bind_eq_some_iff.mp H
          obtain ⟨t120, A130, H⟩ := H
          replace H : ((ustar_block_octal.f kj2 t120 100 7 a0_1).bind fun t121 => ((ustar_block_octal.f kj2 t121 108 7 a0_2).bind fun t122 => ((ustar_block_octal.f kj2 t122 116 7 a0_3).bind fun t123 => ((ustar_block_octal.f kj2 t123 124 11 a0_4).bind fun t124 => ((ustar_block_octal.f kj2 t124 136 11 a0_5).bind fun t125 => (if 156 < (y117.length : Int) then (if 157 ≤ (y117.length : Int) then ((CopyS.copyF (t125.set (156 : Int).toNat a0_6) 157 a0_7).bind fun t131 => (if 257 ≤ (y117.length : Int) then ((CopyS.copyF t131 257 CopyS.magicS).bind fun t136 => ((ustar_block_octal.f kj2 t136 329 7 0).bind fun t137 => ((ustar_block_octal.f kj2 t137 337 7 0).bind fun t138 => (if 345 ≤ (y117.length : Int) then ((CopyS.copyF t138 345 t113).bind fun t143 => ((ustar_block_sum.f kj2 t143).bind fun t144 => ((ustar_block_octal.f kj2 t143 148 6 t144).bind fun t145 => (if 155 < (y117.length : Int) then (some ((t145.set (155 : Int).toNat 32), none)) else (none))))) else (none))))) else (none))) else (none)) else (none))))))) = some (r1, r2) := H
          have A13 := Aside0.mk A130
          clear A130
          replace H := Option.bind_eq_some_iff.mp H
          obtain ⟨t121, A140, H⟩ := H
          replace H : ((ustar_block_octal.f kj2 t121 108 7 a0_2).bind fun t122 => ((ustar_block_octal.f kj2 t122 116 7 a0_3).bind fun t123 => ((ustar_block_octal.f kj2 t123 124 11 a0_4).bind fun t124 => ((ustar_block_octal.f kj2 t124 136 11 a0_5).bind fun t125 => (if 156 < (y117.length : Int) then (if 157 ≤ (y117.length : Int) then ((CopyS.copyF (t125.set (156 : Int).toNat a0_6) 157 a0_7).bind fun t131 => (if 257 ≤ (y117.length : Int) then ((CopyS.copyF t131 257 CopyS.magicS).bind fun t136 => ((ustar_block_octal.f kj2 t136 329 7 0).bind fun t137 => ((ustar_block_octal.f kj2 t137 337 7 0).bind fun t138 => (if 345 ≤ (y117.length : Int) then ((CopyS.copyF t138 345 t113).bind fun t143 => ((ustar_block_sum.f kj2 t143).bind fun t144 => ((ustar_block_octal.f kj2 t143 148 6 t144).bind fun t145 => (if 155 < (y117.length : Int) then (some ((t145.set (155 : Int).toNat 32), none)) else (none))))) else (none))))) else (none))) else (none)) else (none)))))) = some (r1, r2) := H
          have A14 := Aside0.mk A140
          clear A140
          replace H := Option.bind_eq_some_iff.mp H
          obtain ⟨t122, A150, H⟩ := H
          replace H : ((ustar_block_octal.f kj2 t122 116 7 a0_3).bind fun t123 => ((ustar_block_octal.f kj2 t123 124 11 a0_4).bind fun t124 => ((ustar_block_octal.f kj2 t124 136 11 a0_5).bind fun t125 => (if 156 < (y117.length : Int) then (if 157 ≤ (y117.length : Int) then ((CopyS.copyF (t125.set (156 : Int).toNat a0_6) 157 a0_7).bind fun t131 => (if 257 ≤ (y117.length : Int) then ((CopyS.copyF t131 257 CopyS.magicS).bind fun t136 => ((ustar_block_octal.f kj2 t136 329 7 0).bind fun t137 => ((ustar_block_octal.f kj2 t137 337 7 0).bind fun t138 => (if 345 ≤ (y117.length : Int) then ((CopyS.copyF t138 345 t113).bind fun t143 => ((ustar_block_sum.f kj2 t143).bind fun t144 => ((ustar_block_octal.f kj2 t143 148 6 t144).bind fun t145 => (if 155 < (y117.length : Int) then (some ((t145.set (155 : Int).toNat 32), none)) else (none))))) else (none))))) else (none))) else (none)) else (none))))) = some (r1, r2) := H
          have A15 := Aside0.mk A150
          clear A150
          replace H := Option.bind_eq_some_iff.mp H
          obtain ⟨t123, A160, H⟩ := H
          replace H : ((ustar_block_octal.f kj2 t123 124 11 a0_4).bind fun t124 => ((ustar_block_octal.f kj2 t124 136 11 a0_5).bind fun t125 => (if 156 < (y117.length : Int) then (if 157 ≤ (y117.length : Int) then ((CopyS.copyF (t125.set (156 : Int).toNat a0_6) 157 a0_7).bind fun t131 => (if 257 ≤ (y117.length : Int) then ((CopyS.copyF t131 257 CopyS.magicS).bind fun t136 => ((ustar_block_octal.f kj2 t136 329 7 0).bind fun t137 => ((ustar_block_octal.f kj2 t137 337 7 0).bind fun t138 => (if 345 ≤ (y117.length : Int) then ((CopyS.copyF t138 345 t113).bind fun t143 => ((ustar_block_sum.f kj2 t143).bind fun t144 => ((ustar_block_octal.f kj2 t143 148 6 t144).bind fun t145 => (if 155 < (y117.length : Int) then (some ((t145.set (155 : Int).toNat 32), none)) else (none))))) else (none))))) else (none))) else (none)) else (none)))) = some (r1, r2) := H
          have A16 := Aside0.mk A160
          clear A160
          replace H := Option.bind_eq_some_iff.mp H
          obtain ⟨t124, A170, H⟩ := H
          replace H : ((ustar_block_octal.f kj2 t124 136 11 a0_5).bind fun t125 => (if 156 < (y117.length : Int) then (if 157 ≤ (y117.length : Int) then ((CopyS.copyF (t125.set (156 : Int).toNat a0_6) 157 a0_7).bind fun t131 => (if 257 ≤ (y117.length : Int) then ((CopyS.copyF t131 257 CopyS.magicS).bind fun t136 => ((ustar_block_octal.f kj2 t136 329 7 0).bind fun t137 => ((ustar_block_octal.f kj2 t137 337 7 0).bind fun t138 => (if 345 ≤ (y117.length : Int) then ((CopyS.copyF t138 345 t113).bind fun t143 => ((ustar_block_sum.f kj2 t143).bind fun t144 => ((ustar_block_octal.f kj2 t143 148 6 t144).bind fun t145 => (if 155 < (y117.length : Int) then (some ((t145.set (155 : Int).toNat 32), none)) else (none))))) else (none))))) else (none))) else (none)) else (none))) = some (r1, r2) := H
          have A17 := Aside0.mk A170
          clear A170
          replace H := Option.bind_eq_some_iff.mp H
          obtain ⟨t125, A180, H⟩ := H
          replace H : (if 156 < (y117.length : Int) then (if 157 ≤ (y117.length : Int) then ((CopyS.copyF (t125.set (156 : Int).toNat a0_6) 157 a0_7).bind fun t131 => (if 257 ≤ (y117.length : Int) then ((CopyS.copyF t131 257 CopyS.magicS).bind fun t136 => ((ustar_block_octal.f kj2 t136 329 7 0).bind fun t137 => ((ustar_block_octal.f kj2 t137 337 7 0).bind fun t138 => (if 345 ≤ (y117.length : Int) then ((CopyS.copyF t138 345 t113).bind fun t143 => ((ustar_block_sum.f kj2 t143).bind fun t144 => ((ustar_block_octal.f kj2 t143 148 6 t144).bind fun t145 => (if 155 < (y117.length : Int) then (some ((t145.set (155 : Int).toNat 32), none)) else (none))))) else (none))))) else (none))) else (none)) else (none)) = some (r1, r2) := H
          have A18 := Aside0.mk A180
          clear A180
          by_cases c19 : 156 < (y117.length : Int)
          · rw [if_pos c19] at H
            have c19b0 : decide (156 < (y117.length : Int)) = true := decide_eq_true c19
            have c19b1 : decide (156 < y117.length) = true := decide_eq_true (by omega)
            clear c19
            obtain ⟨y126, hy126⟩ : ∃ y_ : List Int, y_ = (t125.set (156 : Int).toNat a0_6) := ⟨_, rfl⟩
            replace H : (if 157 ≤ (y117.length : Int) then ((CopyS.copyF y126 157 a0_7).bind fun t131 => (if 257 ≤ (y117.length : Int) then ((CopyS.copyF t131 257 CopyS.magicS).bind fun t136 => ((ustar_block_octal.f kj2 t136 329 7 0).bind fun t137 => ((ustar_block_octal.f kj2 t137 337 7 0).bind fun t138 => (if 345 ≤ (y117.length : Int) then ((CopyS.copyF t138 345 t113).bind fun t143 => ((ustar_block_sum.f kj2 t143).bind fun t144 => ((ustar_block_octal.f kj2 t143 148 6 t144).bind fun t145 => (if 155 < (y117.length : Int) then (some ((t145.set (155 : Int).toNat 32), none)) else (none))))) else (none))))) else (none))) else (none)) = some (r1, r2) := by first | (rw [hy126]; with_reducible exact H) | (have H2_ := (Option.bind_some _ _).symm.trans H; rw [hy126]; with_reducible exact H2_) | (have H2_ := (Option.bind_some _ _).symm.trans H; with_reducible exact H2_) | with_reducible exact H | (rw [hy126]; exact H) | exact H
            have Ny126 := Aside0.mk hy126
            clear hy126
            by_cases c21 : 157 ≤ (y117.length : Int)
            · rw [if_pos c21] at H
              have c21b0 := eq_true c21
              have c21b1 : decide (157 ≤ (y117.length : Int)) = true := decide_eq_true c21
              clear c21
              obtain ⟨y127, hy127⟩ : ∃ y_ : List Int, y_ = (y126.drop 157) := ⟨_, rfl⟩
              replace H : ((CopyS.copyF y126 157 a0_7).bind fun t131 => (if 257 ≤ (y117.length : Int) then ((CopyS.copyF t131 257 CopyS.magicS).bind fun t136 => ((ustar_block_octal.f kj2 t136 329 7 0).bind fun t137 => ((ustar_block_octal.f kj2 t137 337 7 0).bind fun t138 => (if 345 ≤ (y117.length : Int) then ((CopyS.copyF t138 345 t113).bind fun t143 => ((ustar_block_sum.f kj2 t143).bind fun t144 => ((ustar_block_octal.f kj2 t143 148 6 t144).bind fun t145 => (if 155 < (y117.length : Int) then (some ((t145.set (155 : Int).toNat 32), none)) else (none))))) else (none))))) else (none))) = some (r1, r2) := by first | (rw [hy127]; with_reducible exact H) | (have H2_ := (Option.bind_some _ _).symm.trans H; rw [hy127]; with_reducible exact H2_) | (have H2_ := (Option.bind_some _ _).symm.trans H; with_reducible exact H2_) | with_reducible exact H | (rw [hy127]; exact H) | exact H
              have Ny127 := Aside0.mk hy127
              clear hy127
              replace H := Option.bind_eq_some_iff.mp H
              obtain ⟨t131, A220, H⟩ := H
              replace H : (if 257 ≤ (y117.length : Int) then ((CopyS.copyF t131 257 CopyS.magicS).bind fun t136 => ((ustar_block_octal.f kj2 t136 329 7 0).bind fun t137 => ((ustar_block_octal.f kj2 t137 337 7 0).bind fun t138 => (if 345 ≤ (y117.length : Int) then ((CopyS.copyF t138 345 t113).bind fun t143 => ((ustar_block_sum.f kj2 t143).bind fun t144 => ((ustar_block_octal.f kj2 t143 148 6 t144).bind fun t145 => (if 155 < (y117.length : Int) then (some ((t145.set (155 : Int).toNat 32), none)) else (none))))) else (none))))) else (none)) = some (r1, r2) := H
              have A22 := Aside0.mk A220
              clear A220
              by_cases c23 : 257 ≤ (y117.length : Int)
              · rw [if_pos c23] at H
                have c23b0 := eq_true c23
                have c23b1 : decide (257 ≤ (y117.length : Int)) = true := decide_eq_true c23
                clear c23
                obtain ⟨y132, hy132⟩ : ∃ y_ : List Int, y_ = (t131.drop 257) := ⟨_, rfl⟩
                replace H : ((CopyS.copyF t131 257 CopyS.magicS).bind fun t136 => ((ustar_block_octal.f kj2 t136 329 7 0).bind fun t137 => ((ustar_block_octal.f kj2 t137 337 7 0).bind fun t138 => (if 345 ≤ (y117.length : Int) then ((CopyS.copyF t138 345 t113).bind fun t143 => ((ustar_block_sum.f kj2 t143).bind fun t144 => ((ustar_block_octal.f kj2 t143 148 6 t144).bind fun t145 => (if 155 < (y117.length : Int) then (some ((t145.set (155 : Int).toNat 32), none)) else (none))))) else (none))))) = some (r1, r2) := by first | (rw [hy132]; with_reducible exact H) | (have H2_ := (Option.bind_some _ _).symm.trans H; rw [hy132]; with_reducible exact H2_) | (have H2_ := (Option.bind_some _ _).symm.trans H; with_reducible exact H2_) | with_reducible exact H | (rw [hy132]; exact H) | exact H
                have Ny132 := Aside0.mk hy132
                clear hy132
                replace H := Option.bind_eq_some_iff.mp H
                obtain ⟨t136, A240, H⟩ := H
                replace H : ((ustar_block_octal.f kj2 t136 329 7 0).bind fun t137 => ((ustar_block_octal.f kj2 t137 337 7 0).bind fun t138 => (if 345 ≤ (y117.length : Int) then ((CopyS.copyF t138 345 t113).bind fun t143 => ((ustar_block_sum.f kj2 t143).bind fun t144 => ((ustar_block_octal.f kj2 t143 148 6 t144).bind fun t145 => (if 155 < (y117.length : Int) then (some ((t145.set (155 : Int).toNat 32), none)) else (none))))) else (none)))) = some (r1, r2) := H
                have A24 := Aside0.mk A240
                clear A240
                replace H := Option.bind_eq_some_iff.mp H
                obtain ⟨t137, A250, H⟩ := H
                replace H : ((ustar_block_octal.f kj2 t137 337 7 0).bind fun t138 => (if 345 ≤ (y117.length : Int) then ((CopyS.copyF t138 345 t113).bind fun t143 => ((ustar_block_sum.f kj2 t143).bind fun t144 => ((ustar_block_octal.f kj2 t143 148 6 t144).bind fun t145 => (if 155 < (y117.length : Int) then (some ((t145.set (155 : Int).toNat 32), none)) else (none))))) else (none))) = some (r1, r2) := H
                have A25 := Aside0.mk A250
                clear A250
                replace H := Option.bind_eq_some_iff.mp H
                obtain ⟨t138, A260, H⟩ := H
                replace H : (if 345 ≤ (y117.length : Int) then ((CopyS.copyF t138 345 t113).bind fun t143 => ((ustar_block_sum.f kj2 t143).bind fun t144 => ((ustar_block_octal.f kj2 t143 148 6 t144).bind fun t145 => (if 155 < (y117.length : Int) then (some ((t145.set (155 : Int).toNat 32), none)) else (none))))) else (none)) = some (r1, r2) := H
                have A26 := Aside0.mk A260
                clear A260
                by_cases c27 : 345 ≤ (y117.length : Int)
                · rw [if_pos c27] at H
                  have c27b0 := eq_true c27
                  have c27b1 : decide (345 ≤ (y117.length : Int)) = true := decide_eq_true c27
                  clear c27
                  obtain ⟨y139, hy139⟩ : ∃ y_ : List Int, y_ = (t138.drop 345) := ⟨_, rfl⟩
                  replace H : ((CopyS.copyF t138 345 t113).bind fun t143 => ((ustar_block_sum.f kj2 t143).bind fun t144 => ((ustar_block_octal.f kj2 t143 148 6 t144).bind fun t145 => (if 155 < (y117.length : Int) then (some ((t145.set (155 : Int).toNat 32), none)) else (none))))) = some (r1, r2) := by first | (rw [hy139]; with_reducible exact H) | (have H2_ := (Option.bind_some _ _).symm.trans H; rw [hy139]; with_reducible exact H2_) | (have H2_ := (Option.bind_some _ _).symm.trans H; with_reducible exact H2_) | with_reducible exact H | (rw [hy139]; exact H) | exact H
                  have Ny139 := Aside0.mk hy139
                  clear hy139
                  replace H := Option.bind_eq_some_iff.mp H
                  obtain ⟨t143, A280, H⟩ := H
                  replace H : ((ustar_block_sum.f kj2 t143).bind fun t144 => ((ustar_block_octal.f kj2 t143 148 6 t144).bind fun t145 => (if 155 < (y117.length : Int) then (some ((t145.set (155 : Int).toNat 32), none)) else (none)))) = some (r1, r2) := H
                  have A28 := Aside0.mk A280
                  clear A280
                  replace H := Option.bind_eq_some_iff.mp H
                  obtain ⟨t144, A290, H⟩ := H
                  replace H : ((ustar_block_octal.f kj2 t143 148 6 t144).bind fun t145 => (if 155 < (y117.length : Int) then (some ((t145.set (155 : Int).toNat 32), none)) else (none))) = some (r1, r2) := H
                  have A29 := Aside0.mk A290
                  clear A290
                  replace H := Option.bind_eq_some_iff.mp H
                  obtain ⟨t145, A300, H⟩ := H
                  replace H : (if 155 < (y117.length : Int) then (some ((t145.set (155 : Int).toNat 32), none)) else (none)) = some (r1, r2) := H
                  have A30 := Aside0.mk A300
                  clear A300
                  by_cases c31 : 155 < (y117.length : Int)
                  · rw [if_pos c31] at H
                    have c31b0 : decide (155 < (y117.length : Int)) = true := decide_eq_true c31
                    have c31b1 : decide (155 < y117.length) = true := decide_eq_true (by omega)
                    clear c31
                    obtain ⟨y146, hy146⟩ : ∃ y_ : List Int, y_ = (t145.set (155 : Int).toNat 32) := ⟨_, rfl⟩
                    replace H : (some (y146, none)) = some (r1, r2) := by first | (rw [hy146]; with_reducible exact H) | (have H2_ := (Option.bind_some _ _).symm.trans H; rw [hy146]; with_reducible exact H2_) | (have H2_ := (Option.bind_some _ _).symm.trans H; with_reducible exact H2_) | with_reducible exact H | (rw [hy146]; exact H) | exact H
                    have Ny146 := Aside0.mk hy146
                    clear hy146
                    simp only [Option.some.injEq, Prod.mk.injEq] at H
                    obtain ⟨rfl, rfl⟩ := H
                    try go_wp2_with (first | ((with_reducible refine gate_dst (N := 23) rfl ?_); refine Kd.R_make (Kd.int .u8) _ 5 rfl (N := 23) rfl 51 _ _ rfl 512 rfl rfl Try.underlying51 (.int .u8 0) 1 info5 rfl (by decide) (by omega) 0 (ok := fun _ => True) (okp := fun _ => True) rfl (fun _ hk => hk) trivial (by omega) (by omega) (Below.refl _ _) (Nat.le_refl _) ?_; intro v118 w33 ho34 hb hg_ hnew_; clear hg_ hnew_; (first | rw [← Ny117.out] at ho34 | (simp only [Int.reduceToNat] at ho34; rw [← Ny117.out] at ho34)); have n0_ := Aside0.mk (Kd.R_lower ho34 (below_size (by repeat (first | (with_reducible first | exact HB.out | apply below_alloc | apply pw_below_drewN | apply below_drew1 | refine below_set ?_ GE112.out) | exact HB.out)))); have n1_ := Aside0.mk (blk_below (g := gb112) (o := .cells #[.string a0_0, .int .i64 a0_1, .int .i64 a0_2, .int .i64 a0_3, .int .i64 a0_4, .int .i64 a0_5, .int .u8 a0_6, .string a0_7] 26 (0, 0)) (by (with_reducible repeat (first | refine blk_drewN ?_ _ | refine blk_drew ?_ | refine blk_alloc ?_ _)); exact BK112.out) hb); have n2_ := Aside0.mk (below_step (by repeat (first | (with_reducible first | exact HB.out | apply below_alloc | apply pw_below_drewN | apply below_drew1 | refine below_set ?_ GE112.out) | exact HB.out)) hb); clear BK112; clear HB; have HO119 := n0_; have BK112 := n1_; have HB := n2_; clear n0_ n1_ n2_; clear hb ho34; obtain ⟨Ao35, co34, eo35⟩ := Kd.R_slice HO119.out; subst eo35) | ((with_reducible refine gate_dst (N := 26) rfl ?_); refine CopyS.copy_event (some 26) rfl rfl _ _ 51 9 5 rfl Try.underlying51 (by obtain ⟨i_, hi_, _, hz_, _⟩ := info_parts info5; rw [hi_]; exact congrArg some hz_) co34 0 y117.length y117.length co34 Ao35 Ao35 y117 t114 (fun _ => True) rfl rfl (fun g_ e_ _ => e_) (by omega) HO119.out ?_; intro w36 hp_ hg_; have n0_ := Aside0.mk (blk_grown (g := gb112) (o := .cells #[.string a0_0, .int .i64 a0_1, .int .i64 a0_2, .int .i64 a0_3, .int .i64 a0_4, .int .i64 a0_5, .int .u8 a0_6, .string a0_7] 26 (0, 0)) (by (with_reducible repeat (first | refine blk_drewN ?_ _ | refine blk_drew ?_ | refine blk_alloc ?_ _)); exact BK112.out) hg_ (Kd.R_ne HO119.out BK112.out (by decide))); have n1_ := Aside0.mk (show Kd.R (Kd.int .u8) 5 w36 w.heap.size (fun _ => True) (.slice Ao35 y117.length co34) t120 from by rw [← Option.some.inj A13.out]; exact hp_); have n2_ := Aside0.mk (CopyS.below_copy (by repeat (first | (with_reducible first | exact HB.out | apply below_alloc | apply pw_below_drewN | apply below_drew1 | refine below_set ?_ GE112.out) | exact HB.out)) (below_size (by repeat (first | (with_reducible first | exact HB.out | apply below_alloc | apply pw_below_drewN | apply below_drew1 | refine below_set ?_ GE112.out) | exact HB.out))) HO119.out hg_); clear BK112; clear HO119; clear HB; have BK112 := n0_; have HO119 := n1_; have HB := n2_; clear n0_ n1_ n2_; clear hg_ hp_; have hcz37_0 : w36.cell? ⟨gb112, 0, none⟩ = some (.string a0_0) := (blk_cell BK112.out 0).trans rfl; have hcz37_1 : w36.cell? ⟨gb112, 1, none⟩ = some (.int .i64 a0_1) := (blk_cell BK112.out 1).trans rfl; have hcz37_2 : w36.cell? ⟨gb112, 2, none⟩ = some (.int .i64 a0_2) := (blk_cell BK112.out 2).trans rfl; have hcz37_3 : w36.cell? ⟨gb112, 3, none⟩ = some (.int .i64 a0_3) := (blk_cell BK112.out 3).trans rfl; have hcz37_4 : w36.cell? ⟨gb112, 4, none⟩ = some (.int .i64 a0_4) := (blk_cell BK112.out 4).trans rfl; have hcz37_5 : w36.cell? ⟨gb112, 5, none⟩ = some (.int .i64 a0_5) := (blk_cell BK112.out 5).trans rfl; have hcz37_6 : w36.cell? ⟨gb112, 6, none⟩ = some (.int .u8 a0_6) := (blk_cell BK112.out 6).trans rfl; have hcz37_7 : w36.cell? ⟨gb112, 7, none⟩ = some (.string a0_7) := (blk_cell BK112.out 7).trans rfl; have hfz37_0 := blk_frozen BK112.out 0; have hfz37_1 := blk_frozen BK112.out 1; have hfz37_2 := blk_frozen BK112.out 2; have hfz37_3 := blk_frozen BK112.out 3; have hfz37_4 := blk_frozen BK112.out 4; have hfz37_5 := blk_frozen BK112.out 5; have hfz37_6 := blk_frozen BK112.out 6; have hfz37_7 := blk_frozen BK112.out 7) | ((with_reducible refine gate_callee (f := 32) rfl ?_); refine goesL_ (some 30) rfl rfl Try.func32 (by kernel_rfl) rfl #[.slice Ao35 y117.length co34, .int .i64 100, .int .i64 7, .int .i64 a0_1] rfl (by (try simp only [List.map_toArray, List.map_cons, List.map_nil]); first | done | rfl | (simp only [List.length_drop, List.length_take]; rfl)) ?_; (with_reducible refine (ustar_block_octal.calls kj2 (fun k_ => some k_ = (.slice Ao35 y117.length co34 : Value).ownBlock) (.slice Ao35 y117.length co34) t120 100 7 a0_1 t121 w _ ?side1 ?side2 A14.out).mono ?_); (case side1 => repeat (first | (with_reducible first | exact HB.out | apply below_alloc | apply pw_below_drewN | apply below_drew1 | refine below_set ?_ GE112.out) | exact HB.out)); (case side2 => exact Kd.R_tight rfl HO119.out); rintro e w38 ⟨rfl, hy0, hb, hkp⟩; refine ⟨_, rfl, ?_⟩; have n0_ := Aside0.mk (blk_kept (by (with_reducible repeat (first | refine blk_drewN ?_ _ | refine blk_drew ?_ | refine blk_alloc ?_ _)); exact BK112.out) hkp (fun hs_ => (fun e_ => (Kd.R_ne HO119.out BK112.out (by decide)) e_) hs_)); have n1_ := Aside0.mk (Kd.R_reok rfl hy0 (fun k_ e_ => HO119.out.1 k_ e_)); have n2_ := Aside0.mk (hb); clear BK112; clear HO119; clear HB; have BK112 := n0_; have HO119 := n1_; have HB := n2_; clear n0_ n1_ n2_; (try clear hb); (try clear hkp); (try clear hy0); have hcz39_0 : w38.cell? ⟨gb112, 0, none⟩ = some (.string a0_0) := (blk_cell BK112.out 0).trans rfl; have hcz39_1 : w38.cell? ⟨gb112, 1, none⟩ = some (.int .i64 a0_1) := (blk_cell BK112.out 1).trans rfl; have hcz39_2 : w38.cell? ⟨gb112, 2, none⟩ = some (.int .i64 a0_2) := (blk_cell BK112.out 2).trans rfl; have hcz39_3 : w38.cell? ⟨gb112, 3, none⟩ = some (.int .i64 a0_3) := (blk_cell BK112.out 3).trans rfl; have hcz39_4 : w38.cell? ⟨gb112, 4, none⟩ = some (.int .i64 a0_4) := (blk_cell BK112.out 4).trans rfl; have hcz39_5 : w38.cell? ⟨gb112, 5, none⟩ = some (.int .i64 a0_5) := (blk_cell BK112.out 5).trans rfl; have hcz39_6 : w38.cell? ⟨gb112, 6, none⟩ = some (.int .u8 a0_6) := (blk_cell BK112.out 6).trans rfl; have hcz39_7 : w38.cell? ⟨gb112, 7, none⟩ = some (.string a0_7) := (blk_cell BK112.out 7).trans rfl; have hfz39_0 := blk_frozen BK112.out 0; have hfz39_1 := blk_frozen BK112.out 1; have hfz39_2 := blk_frozen BK112.out 2; have hfz39_3 := blk_frozen BK112.out 3; have hfz39_4 := blk_frozen BK112.out 4; have hfz39_5 := blk_frozen BK112.out 5; have hfz39_6 := blk_frozen BK112.out 6; have hfz39_7 := blk_frozen BK112.out 7) | ((with_reducible refine gate_callee (f := 32) rfl ?_); refine goesL_ (some 34) rfl rfl Try.func32 (by kernel_rfl) rfl #[.slice Ao35 y117.length co34, .int .i64 108, .int .i64 7, .int .i64 a0_2] rfl (by (try simp only [List.map_toArray, List.map_cons, List.map_nil]); first | done | rfl | (simp only [List.length_drop, List.length_take]; rfl)) ?_; (with_reducible refine (ustar_block_octal.calls kj2 (fun k_ => some k_ = (.slice Ao35 y117.length co34 : Value).ownBlock) (.slice Ao35 y117.length co34) t121 108 7 a0_2 t122 w _ ?side1 ?side2 A15.out).mono ?_); (case side1 => repeat (first | (with_reducible first | exact HB.out | apply below_alloc | apply pw_below_drewN | apply below_drew1 | refine below_set ?_ GE112.out) | exact HB.out)); (case side2 => exact Kd.R_tight rfl HO119.out); rintro e w40 ⟨rfl, hy0, hb, hkp⟩; refine ⟨_, rfl, ?_⟩; have n0_ := Aside0.mk (blk_kept (by (with_reducible repeat (first | refine blk_drewN ?_ _ | refine blk_drew ?_ | refine blk_alloc ?_ _)); exact BK112.out) hkp (fun hs_ => (fun e_ => (Kd.R_ne HO119.out BK112.out (by decide)) e_) hs_)); have n1_ := Aside0.mk (Kd.R_reok rfl hy0 (fun k_ e_ => HO119.out.1 k_ e_)); have n2_ := Aside0.mk (hb); clear BK112; clear HO119; clear HB; have BK112 := n0_; have HO119 := n1_; have HB := n2_; clear n0_ n1_ n2_; (try clear hb); (try clear hkp); (try clear hy0); have hcz41_0 : w40.cell? ⟨gb112, 0, none⟩ = some (.string a0_0) := (blk_cell BK112.out 0).trans rfl; have hcz41_1 : w40.cell? ⟨gb112, 1, none⟩ = some (.int .i64 a0_1) := (blk_cell BK112.out 1).trans rfl; have hcz41_2 : w40.cell? ⟨gb112, 2, none⟩ = some (.int .i64 a0_2) := (blk_cell BK112.out 2).trans rfl; have hcz41_3 : w40.cell? ⟨gb112, 3, none⟩ = some (.int .i64 a0_3) := (blk_cell BK112.out 3).trans rfl; have hcz41_4 : w40.cell? ⟨gb112, 4, none⟩ = some (.int .i64 a0_4) := (blk_cell BK112.out 4).trans rfl; have hcz41_5 : w40.cell? ⟨gb112, 5, none⟩ = some (.int .i64 a0_5) := (blk_cell BK112.out 5).trans rfl; have hcz41_6 : w40.cell? ⟨gb112, 6, none⟩ = some (.int .u8 a0_6) := (blk_cell BK112.out 6).trans rfl; have hcz41_7 : w40.cell? ⟨gb112, 7, none⟩ = some (.string a0_7) := (blk_cell BK112.out 7).trans rfl; have hfz41_0 := blk_frozen BK112.out 0; have hfz41_1 := blk_frozen BK112.out 1; have hfz41_2 := blk_frozen BK112.out 2; have hfz41_3 := blk_frozen BK112.out 3; have hfz41_4 := blk_frozen BK112.out 4; have hfz41_5 := blk_frozen BK112.out 5; have hfz41_6 := blk_frozen BK112.out 6; have hfz41_7 := blk_frozen BK112.out 7) | ((with_reducible refine gate_callee (f := 32) rfl ?_); refine goesL_ (some 38) rfl rfl Try.func32 (by kernel_rfl) rfl #[.slice Ao35 y117.length co34, .int .i64 116, .int .i64 7, .int .i64 a0_3] rfl (by (try simp only [List.map_toArray, List.map_cons, List.map_nil]); first | done | rfl | (simp only [List.length_drop, List.length_take]; rfl)) ?_; (with_reducible refine (ustar_block_octal.calls kj2 (fun k_ => some k_ = (.slice Ao35 y117.length co34 : Value).ownBlock) (.slice Ao35 y117.length co34) t122 116 7 a0_3 t123 w _ ?side1 ?side2 A16.out).mono ?_); (case side1 => repeat (first | (with_reducible first | exact HB.out | apply below_alloc | apply pw_below_drewN | apply below_drew1 | refine below_set ?_ GE112.out) | exact HB.out)); (case side2 => exact Kd.R_tight rfl HO119.out); rintro e w42 ⟨rfl, hy0, hb, hkp⟩; refine ⟨_, rfl, ?_⟩; have n0_ := Aside0.mk (blk_kept (by (with_reducible repeat (first | refine blk_drewN ?_ _ | refine blk_drew ?_ | refine blk_alloc ?_ _)); exact BK112.out) hkp (fun hs_ => (fun e_ => (Kd.R_ne HO119.out BK112.out (by decide)) e_) hs_)); have n1_ := Aside0.mk (Kd.R_reok rfl hy0 (fun k_ e_ => HO119.out.1 k_ e_)); have n2_ := Aside0.mk (hb); clear BK112; clear HO119; clear HB; have BK112 := n0_; have HO119 := n1_; have HB := n2_; clear n0_ n1_ n2_; (try clear hb); (try clear hkp); (try clear hy0); have hcz43_0 : w42.cell? ⟨gb112, 0, none⟩ = some (.string a0_0) := (blk_cell BK112.out 0).trans rfl; have hcz43_1 : w42.cell? ⟨gb112, 1, none⟩ = some (.int .i64 a0_1) := (blk_cell BK112.out 1).trans rfl; have hcz43_2 : w42.cell? ⟨gb112, 2, none⟩ = some (.int .i64 a0_2) := (blk_cell BK112.out 2).trans rfl; have hcz43_3 : w42.cell? ⟨gb112, 3, none⟩ = some (.int .i64 a0_3) := (blk_cell BK112.out 3).trans rfl; have hcz43_4 : w42.cell? ⟨gb112, 4, none⟩ = some (.int .i64 a0_4) := (blk_cell BK112.out 4).trans rfl; have hcz43_5 : w42.cell? ⟨gb112, 5, none⟩ = some (.int .i64 a0_5) := (blk_cell BK112.out 5).trans rfl; have hcz43_6 : w42.cell? ⟨gb112, 6, none⟩ = some (.int .u8 a0_6) := (blk_cell BK112.out 6).trans rfl; have hcz43_7 : w42.cell? ⟨gb112, 7, none⟩ = some (.string a0_7) := (blk_cell BK112.out 7).trans rfl; have hfz43_0 := blk_frozen BK112.out 0; have hfz43_1 := blk_frozen BK112.out 1; have hfz43_2 := blk_frozen BK112.out 2; have hfz43_3 := blk_frozen BK112.out 3; have hfz43_4 := blk_frozen BK112.out 4; have hfz43_5 := blk_frozen BK112.out 5; have hfz43_6 := blk_frozen BK112.out 6; have hfz43_7 := blk_frozen BK112.out 7) | ((with_reducible refine gate_callee (f := 32) rfl ?_); refine goesL_ (some 42) rfl rfl Try.func32 (by kernel_rfl) rfl #[.slice Ao35 y117.length co34, .int .i64 124, .int .i64 11, .int .i64 a0_4] rfl (by (try simp only [List.map_toArray, List.map_cons, List.map_nil]); first | done | rfl | (simp only [List.length_drop, List.length_take]; rfl)) ?_; (with_reducible refine (ustar_block_octal.calls kj2 (fun k_ => some k_ = (.slice Ao35 y117.length co34 : Value).ownBlock) (.slice Ao35 y117.length co34) t123 124 11 a0_4 t124 w _ ?side1 ?side2 A17.out).mono ?_); (case side1 => repeat (first | (with_reducible first | exact HB.out | apply below_alloc | apply pw_below_drewN | apply below_drew1 | refine below_set ?_ GE112.out) | exact HB.out)); (case side2 => exact Kd.R_tight rfl HO119.out); rintro e w44 ⟨rfl, hy0, hb, hkp⟩; refine ⟨_, rfl, ?_⟩; have n0_ := Aside0.mk (blk_kept (by (with_reducible repeat (first | refine blk_drewN ?_ _ | refine blk_drew ?_ | refine blk_alloc ?_ _)); exact BK112.out) hkp (fun hs_ => (fun e_ => (Kd.R_ne HO119.out BK112.out (by decide)) e_) hs_)); have n1_ := Aside0.mk (Kd.R_reok rfl hy0 (fun k_ e_ => HO119.out.1 k_ e_)); have n2_ := Aside0.mk (hb); clear BK112; clear HO119; clear HB; have BK112 := n0_; have HO119 := n1_; have HB := n2_; clear n0_ n1_ n2_; (try clear hb); (try clear hkp); (try clear hy0); have hcz45_0 : w44.cell? ⟨gb112, 0, none⟩ = some (.string a0_0) := (blk_cell BK112.out 0).trans rfl; have hcz45_1 : w44.cell? ⟨gb112, 1, none⟩ = some (.int .i64 a0_1) := (blk_cell BK112.out 1).trans rfl; have hcz45_2 : w44.cell? ⟨gb112, 2, none⟩ = some (.int .i64 a0_2) := (blk_cell BK112.out 2).trans rfl; have hcz45_3 : w44.cell? ⟨gb112, 3, none⟩ = some (.int .i64 a0_3) := (blk_cell BK112.out 3).trans rfl; have hcz45_4 : w44.cell? ⟨gb112, 4, none⟩ = some (.int .i64 a0_4) := (blk_cell BK112.out 4).trans rfl; have hcz45_5 : w44.cell? ⟨gb112, 5, none⟩ = some (.int .i64 a0_5) := (blk_cell BK112.out 5).trans rfl; have hcz45_6 : w44.cell? ⟨gb112, 6, none⟩ = some (.int .u8 a0_6) := (blk_cell BK112.out 6).trans rfl; have hcz45_7 : w44.cell? ⟨gb112, 7, none⟩ = some (.string a0_7) := (blk_cell BK112.out 7).trans rfl; have hfz45_0 := blk_frozen BK112.out 0; have hfz45_1 := blk_frozen BK112.out 1; have hfz45_2 := blk_frozen BK112.out 2; have hfz45_3 := blk_frozen BK112.out 3; have hfz45_4 := blk_frozen BK112.out 4; have hfz45_5 := blk_frozen BK112.out 5; have hfz45_6 := blk_frozen BK112.out 6; have hfz45_7 := blk_frozen BK112.out 7) | ((with_reducible refine gate_callee (f := 32) rfl ?_); refine goesL_ (some 46) rfl rfl Try.func32 (by kernel_rfl) rfl #[.slice Ao35 y117.length co34, .int .i64 136, .int .i64 11, .int .i64 a0_5] rfl (by (try simp only [List.map_toArray, List.map_cons, List.map_nil]); first | done | rfl | (simp only [List.length_drop, List.length_take]; rfl)) ?_; (with_reducible refine (ustar_block_octal.calls kj2 (fun k_ => some k_ = (.slice Ao35 y117.length co34 : Value).ownBlock) (.slice Ao35 y117.length co34) t124 136 11 a0_5 t125 w _ ?side1 ?side2 A18.out).mono ?_); (case side1 => repeat (first | (with_reducible first | exact HB.out | apply below_alloc | apply pw_below_drewN | apply below_drew1 | refine below_set ?_ GE112.out) | exact HB.out)); (case side2 => exact Kd.R_tight rfl HO119.out); rintro e w46 ⟨rfl, hy0, hb, hkp⟩; refine ⟨_, rfl, ?_⟩; have n0_ := Aside0.mk (blk_kept (by (with_reducible repeat (first | refine blk_drewN ?_ _ | refine blk_drew ?_ | refine blk_alloc ?_ _)); exact BK112.out) hkp (fun hs_ => (fun e_ => (Kd.R_ne HO119.out BK112.out (by decide)) e_) hs_)); have n1_ := Aside0.mk (Kd.R_reok rfl hy0 (fun k_ e_ => HO119.out.1 k_ e_)); have n2_ := Aside0.mk (hb); clear BK112; clear HO119; clear HB; have BK112 := n0_; have HO119 := n1_; have HB := n2_; clear n0_ n1_ n2_; (try clear hb); (try clear hkp); (try clear hy0); have hcz47_0 : w46.cell? ⟨gb112, 0, none⟩ = some (.string a0_0) := (blk_cell BK112.out 0).trans rfl; have hcz47_1 : w46.cell? ⟨gb112, 1, none⟩ = some (.int .i64 a0_1) := (blk_cell BK112.out 1).trans rfl; have hcz47_2 : w46.cell? ⟨gb112, 2, none⟩ = some (.int .i64 a0_2) := (blk_cell BK112.out 2).trans rfl; have hcz47_3 : w46.cell? ⟨gb112, 3, none⟩ = some (.int .i64 a0_3) := (blk_cell BK112.out 3).trans rfl; have hcz47_4 : w46.cell? ⟨gb112, 4, none⟩ = some (.int .i64 a0_4) := (blk_cell BK112.out 4).trans rfl; have hcz47_5 : w46.cell? ⟨gb112, 5, none⟩ = some (.int .i64 a0_5) := (blk_cell BK112.out 5).trans rfl; have hcz47_6 : w46.cell? ⟨gb112, 6, none⟩ = some (.int .u8 a0_6) := (blk_cell BK112.out 6).trans rfl; have hcz47_7 : w46.cell? ⟨gb112, 7, none⟩ = some (.string a0_7) := (blk_cell BK112.out 7).trans rfl; have hfz47_0 := blk_frozen BK112.out 0; have hfz47_1 := blk_frozen BK112.out 1; have hfz47_2 := blk_frozen BK112.out 2; have hfz47_3 := blk_frozen BK112.out 3; have hfz47_4 := blk_frozen BK112.out 4; have hfz47_5 := blk_frozen BK112.out 5; have hfz47_6 := blk_frozen BK112.out 6; have hfz47_7 := blk_frozen BK112.out 7; have p20 : 0 ≤ (156 : Int) := (by omega); have q20 : (156 : Int) < ((y117.length : Int) : Int) := of_decide_eq_true (by first | (with_reducible assumption) | assumption); have qi20 : (156 < y117.length) = True := eq_true (by omega); obtain ⟨go19, co20, eo20, gb20, gl20, cl20, HG20⟩ := Kd.R_form HO119.out (by have h9_ := (Kd.R_reads' HO119.out).1; omega); (first | cases eo20 | (injection eo20 with ea_ en_ ec_; (first | subst ea_ | (injection ea_ with ea_; subst ea_)); subst ec_; clear en_)); have GB20 := Aside0.mk gb20; have GG20 := Aside0.mk HG20; clear gb20 gl20 HG20; obtain ⟨hx20_0, hf20_0⟩ := Kd.R_celln 0 HO119.out (156 : Int) p20 q20; (try rw [show ((156 : Int)).toNat = 156 from rfl] at hx20_0); (try simp only [Nat.reduceMul, Nat.zero_mul, Nat.zero_add, Nat.reduceAdd] at hx20_0); (try rw [show ((156 : Int)).toNat = 156 from rfl] at hf20_0); (try simp only [Nat.reduceMul, Nat.zero_mul, Nat.zero_add, Nat.reduceAdd] at hf20_0); replace p20 := eq_true p20; replace q20 := eq_true q20; obtain ⟨hy48_, hz48_⟩ := Kd.R_celln 0 HO119.out (156 : Int) (by omega) (of_decide_eq_true (by first | (with_reducible assumption) | assumption)); (try simp only [Int.reduceToNat, Int.toNat_zero, Int.toNat_ofNat, Nat.reduceMul, Nat.zero_mul, Nat.zero_add] at hy48_ hz48_); (try rw [show ((156 : Int)).toNat = 156 from rfl] at hy48_); (try rw [show ((156 : Int)).toNat = 156 from rfl] at hz48_); have HP48 := Kd.R_putg HO119.out (156 : Int) a0_6) | ((with_reducible refine gate_store (t := 5) (p := 50) rfl ?_); refine store_event (t := 5) (p := 50) (v := ?vo_w49) (w1 := (w46.setCell ⟨go19, (156 : Int).toNat, none⟩ (.int .u8 a0_6))) ?hg ?ho ?hn ?hr ?_; (case ho => rfl); (case hg => rfl); (case hn => rfl); (case hr => first | (go_simp; done) | (go_simp; rfl)); intro w49 hw; have hg : w46.grownBy w49 (some go19) := (by rw [hw]; exact HP48.2); have hp_ : Kd.R (Kd.int .u8) 5 w49 w.heap.size (fun _ => True) (.slice (some ⟨go19, 0, none⟩) y117.length co34) y126 := (by rw [hw, Ny126.out]; exact HP48.1); clear HP48; have n0_ := Aside0.mk (blk_grown (g := gb112) (o := .cells #[.string a0_0, .int .i64 a0_1, .int .i64 a0_2, .int .i64 a0_3, .int .i64 a0_4, .int .i64 a0_5, .int .u8 a0_6, .string a0_7] 26 (0, 0)) (by (with_reducible repeat (first | refine blk_drewN ?_ _ | refine blk_drew ?_ | refine blk_alloc ?_ _)); exact BK112.out) hg (Kd.R_ne HO119.out BK112.out (by decide))); have n1_ := Aside0.mk (hp_); have n2_ := Aside0.mk ((by rw [hw]; exact below_set (HB.out) GB20.out : Below w.heap.size w w49)); clear BK112; clear HO119; clear HB; have BK112 := n0_; have HO119 := n1_; have HB := n2_; clear n0_ n1_ n2_; clear hg hw hp_))
                    have n0_ := Aside0.mk (Kd.R_drew HO119.out)
                    have n1_ := Aside0.mk (blk_drew BK112.out)
                    have n2_ := Aside0.mk (below_drew1 HB.out)
                    clear HO119
                    clear BK112
                    clear HB
                    have HO119 := n0_
                    have BK112 := n1_
                    have HB := n2_
                    clear n0_ n1_ n2_
                    have hlx51 := (Kd.R_reads' HO119.out).1
                    have q51 : (157 : Int) ≤ ((y117.length : Int) : Int) := of_decide_eq_true (by first | (with_reducible assumption) | assumption)
                    obtain ⟨i051, hi051, _, hsz51, _⟩ := info_parts info5
                    have hroom51 : y117.length ≤ co34 := (Kd.R_reads' HO119.out).2.1
                    have hroomc51 : y126.length ≤ co34 := (by rw [← hlx51]; exact hroom51)
                    have hC51 : Kd.C (Kd.int .u8) _ (some ⟨go19, 0, none⟩) y126.length y126 := (Kd.R_reads' HO119.out).2.2
                    have hcut51 := cut_from (P := Try.prog) 51 5 .i64 Try.underlying51 hi051 1 hsz51 (some ⟨go19, 0, none⟩) y117.length co34 157 (by omega) q51
                    have hr51 := Kd.C_drop (m := (157 : Int).toNat) (c := co34) hC51 (by omega) hroomc51
                    obtain ⟨A51, hA51⟩ : ∃ A1, A1 = (if co34 = (157 : Int).toNat then (some ⟨go19, 0, none⟩) else ((some ⟨go19, 0, none⟩) : Option Addr).map (·.add ((157 : Int).toNat * 1))) := ⟨_, rfl⟩
                    obtain ⟨c51, hc51⟩ : ∃ c1, c1 = co34 - (157 : Int).toNat := ⟨_, rfl⟩
                    have hy51 : y127.length = y117.length - (157 : Int).toNat := (by rw [Ny127.out, List.length_drop] <;> omega)
                    rw [show (y126).drop (157 : Int).toNat = y127 from Ny127.out.symm] at hr51
                    replace hr51 : Kd.C (Kd.int .u8) _ A51 y127.length y127 := (by rw [hA51]; exact hr51)
                    rw [← hy51, ← hA51, ← hc51] at hcut51
                    have HR130 := Aside0.mk hr51
                    have HC130 := Aside0.mk (show y127.length ≤ c51 from by rw [hy51, hc51]; exact Nat.sub_le_sub_right hroom51 _)
                    clear hr51 hC51 hroom51 hi051 hsz51 hc51 hroomc51
                    have KY51 := Aside0.mk hy51
                    have KA51 := Aside0.mk hA51
                    clear hy51 hA51
                    have KE51 := Aside0.mk hlx51
                    have KL51 := Aside0.mk (show 157 ≤ y126.length from by omega)
                    clear hlx51
                    replace q51 := eq_true q51
                    refine start_ (n := 5) (S := fun w' => w'.cell? ⟨gb112, 0, none⟩ = some (.string a0_0) ∧ w'.cell? ⟨gb112, 1, none⟩ = some (.int .i64 a0_1) ∧ w'.cell? ⟨gb112, 2, none⟩ = some (.int .i64 a0_2) ∧ w'.cell? ⟨gb112, 3, none⟩ = some (.int .i64 a0_3) ∧ w'.cell? ⟨gb112, 4, none⟩ = some (.int .i64 a0_4) ∧ w'.cell? ⟨gb112, 5, none⟩ = some (.int .i64 a0_5) ∧ w'.cell? ⟨gb112, 6, none⟩ = some (.int .u8 a0_6) ∧ w'.cell? ⟨gb112, 7, none⟩ = some (.string a0_7)) (ds := []) #[false, false, false, false, false] (by kernel_rfl) rfl rfl ⟨(blk_cell BK112.out 0).trans rfl, (blk_cell BK112.out 1).trans rfl, (blk_cell BK112.out 2).trans rfl, (blk_cell BK112.out 3).trans rfl, (blk_cell BK112.out 4).trans rfl, (blk_cell BK112.out 5).trans rfl, (blk_cell BK112.out 6).trans rfl, (blk_cell BK112.out 7).trans rfl⟩ (fun hHeld => ?_)
                    generalize w49.drew = w50 at HO119 BK112 HB HR130 hHeld ⊢
                    refine pure_ (i := 0) (N := some 51) (v := ?_) (a' := ?_) #[true, false, false, false, false] rfl rfl (by kernel_rfl) (fun _ _ _ h => h) (Or.inl ⟨by rfl, ?_⟩) ?_ ?_
                    rotate_left
                    · intro w'
                      go_simp
                      with_reducible rfl
                    rotate_left
                    · simp only [Act.put, List.setIfInBounds_toArray, List.set_cons_zero, List.set_cons_succ, i64_w, i32_w]
                      rfl
                    refine pure_ (i := 1) (N := some 52) (v := ?_) (a' := ?_) #[true, true, false, false, false] rfl rfl (by kernel_rfl) (fun _ _ _ h => h) (Or.inl ⟨by rfl, ?_⟩) ?_ ?_
                    rotate_left
                    · intro w'
                      go_simp
                      with_reducible rfl
                    rotate_left
                    · simp only [Act.put, List.setIfInBounds_toArray, List.set_cons_zero, List.set_cons_succ, i64_w, i32_w]
                      rfl
                    refine pure_ (i := 2) (N := some 53) (v := ?_) (a' := ?_) #[true, true, true, false, false] rfl rfl (by kernel_rfl) (fun _ _ _ h => h) (Or.inl ⟨by rfl, ?_⟩) ?_ ?_
                    rotate_left
                    · intro w'
                      go_simp
                      with_reducible rfl
                    rotate_left
                    · simp only [Act.put, List.setIfInBounds_toArray, List.set_cons_zero, List.set_cons_succ, i64_w, i32_w]
                      rfl
                    refine take_ (i := 3) (N := some 54) (v := ?_) (a' := ?_) #[true, true, true, true, false] rfl rfl (by kernel_rfl) (fun _ _ _ h => h) (Or.inl ⟨by rfl, ?_⟩) hHeld ?_ ?_
                    rotate_left
                    · rintro w' ⟨s0, s1, s2, s3, s4, s5, s6, s7⟩
                      go_simp
                      with_reducible rfl
                    rotate_left
                    · simp only [Act.put, List.setIfInBounds_toArray, List.set_cons_zero, List.set_cons_succ, i64_w, i32_w]
                      rfl
                    refine one_ (i := 4) (N := some 55) #[true, true, true, true, true] rfl rfl (by kernel_rfl) (by decide) (fun K hK => ?_)
                    refine CopyS.copy_step (some 55) (by rfl) rfl _ _ 51 9 5 rfl Try.underlying51 (by obtain ⟨i_, hi_, _, hz_, _⟩ := info_parts info5; rw [hi_]; exact congrArg some hz_) co34 157 y117.length y127.length c51 (some ⟨go19, 0, none⟩) A51 y126 a0_7 (fun _ => True) (by rfl) (by rfl) (fun g_ e_ h_ => by obtain rfl : go19 = g_ := (by injection e_ with e_; injection e_ with e_); exact CopyS.cutA KA51.out (Kd.R_reads' HO119.out).2.1 KY51.out h_) (by have h1_ := KY51.out; have h2_ := KL51.out; have h3_ := KE51.out; omega) HO119.out ?_
                    intro w52 hp_ hg_
                    have n0_ := Aside0.mk (blk_grown (g := gb112) (o := .cells #[.string a0_0, .int .i64 a0_1, .int .i64 a0_2, .int .i64 a0_3, .int .i64 a0_4, .int .i64 a0_5, .int .u8 a0_6, .string a0_7] 26 (0, 0)) (by (with_reducible repeat (first | refine blk_drewN ?_ _ | refine blk_drew ?_ | refine blk_alloc ?_ _)); exact BK112.out) hg_ (Kd.R_ne HO119.out BK112.out (by decide)))
                    have n1_ := Aside0.mk (show Kd.R (Kd.int .u8) 5 w52 w.heap.size (fun _ => True) (.slice (some ⟨go19, 0, none⟩) y117.length co34) t131 from by rw [← Option.some.inj A22.out]; exact hp_)
                    have n2_ := Aside0.mk (CopyS.below_copy (by repeat (first | (with_reducible first | exact HB.out | apply below_alloc | apply pw_below_drewN | apply below_drew1 | refine below_set ?_ GE112.out) | exact HB.out)) (below_size (by repeat (first | (with_reducible first | exact HB.out | apply below_alloc | apply pw_below_drewN | apply below_drew1 | refine below_set ?_ GE112.out) | exact HB.out))) HO119.out hg_)
                    clear BK112
                    clear HO119
                    clear HB
                    have BK112 := n0_
                    have HO119 := n1_
                    have HB := n2_
                    clear n0_ n1_ n2_
                    clear hg_ hp_
                    refine hK.out _ _ ⟨(blk_cell BK112.out 0).trans rfl, (blk_cell BK112.out 1).trans rfl, (blk_cell BK112.out 2).trans rfl, (blk_cell BK112.out 3).trans rfl, (blk_cell BK112.out 4).trans rfl, (blk_cell BK112.out 5).trans rfl, (blk_cell BK112.out 6).trans rfl, (blk_cell BK112.out 7).trans rfl⟩ (fun hHeld => ?_)
                    clear hK K
                    refine norm_ (a' := ?_) ?_ ?_
                    rotate_left
                    · show Act.put _ (some 55) _ = _
                      simp only [Act.put, List.setIfInBounds_toArray, List.set_cons_zero, List.set_cons_succ, i64_w, i32_w]
                      rfl
                    refine done_ (by kernel_rfl) ?_
                    have hlx53 := (Kd.R_reads' HO119.out).1
                    have q53 : (257 : Int) ≤ ((y117.length : Int) : Int) := of_decide_eq_true (by first | (with_reducible assumption) | assumption)
                    obtain ⟨i053, hi053, _, hsz53, _⟩ := info_parts info5
                    have hroom53 : y117.length ≤ co34 := (Kd.R_reads' HO119.out).2.1
                    have hroomc53 : t131.length ≤ co34 := (by rw [← hlx53]; exact hroom53)
                    have hC53 : Kd.C (Kd.int .u8) _ (some ⟨go19, 0, none⟩) t131.length t131 := (Kd.R_reads' HO119.out).2.2
                    have hcut53 := cut_from (P := Try.prog) 51 5 .i64 Try.underlying51 hi053 1 hsz53 (some ⟨go19, 0, none⟩) y117.length co34 257 (by omega) q53
                    have hr53 := Kd.C_drop (m := (257 : Int).toNat) (c := co34) hC53 (by omega) hroomc53
                    obtain ⟨A53, hA53⟩ : ∃ A1, A1 = (if co34 = (257 : Int).toNat then (some ⟨go19, 0, none⟩) else ((some ⟨go19, 0, none⟩) : Option Addr).map (·.add ((257 : Int).toNat * 1))) := ⟨_, rfl⟩
                    obtain ⟨c53, hc53⟩ : ∃ c1, c1 = co34 - (257 : Int).toNat := ⟨_, rfl⟩
                    have hy53 : y132.length = y117.length - (257 : Int).toNat := (by rw [Ny132.out, List.length_drop] <;> omega)
                    rw [show (t131).drop (257 : Int).toNat = y132 from Ny132.out.symm] at hr53
                    replace hr53 : Kd.C (Kd.int .u8) _ A53 y132.length y132 := (by rw [hA53]; exact hr53)
                    rw [← hy53, ← hA53, ← hc53] at hcut53
                    have HR135 := Aside0.mk hr53
                    have HC135 := Aside0.mk (show y132.length ≤ c53 from by rw [hy53, hc53]; exact Nat.sub_le_sub_right hroom53 _)
                    clear hr53 hC53 hroom53 hi053 hsz53 hc53 hroomc53
                    have KY53 := Aside0.mk hy53
                    have KA53 := Aside0.mk hA53
                    clear hy53 hA53
                    have KE53 := Aside0.mk hlx53
                    have KL53 := Aside0.mk (show 257 ≤ t131.length from by omega)
                    clear hlx53
                    replace q53 := eq_true q53
                    try go_wp2_with (first | ((with_reducible refine gate_dst (N := 58) rfl ?_); refine CopyS.copy_event (some 58) rfl rfl _ _ 51 9 5 rfl Try.underlying51 (by obtain ⟨i_, hi_, _, hz_, _⟩ := info_parts info5; rw [hi_]; exact congrArg some hz_) co34 257 y117.length y132.length c53 (some ⟨go19, 0, none⟩) A53 t131 CopyS.magicS (fun _ => True) rfl rfl (fun g_ e_ h_ => by obtain rfl : go19 = g_ := (by injection e_ with e_; injection e_ with e_); exact CopyS.cutA KA53.out (Kd.R_reads' HO119.out).2.1 KY53.out h_) (by have h1_ := KY53.out; have h2_ := KL53.out; have h3_ := KE53.out; omega) HO119.out ?_; intro w54 hp_ hg_; have n0_ := Aside0.mk (blk_grown (g := gb112) (o := .cells #[.string a0_0, .int .i64 a0_1, .int .i64 a0_2, .int .i64 a0_3, .int .i64 a0_4, .int .i64 a0_5, .int .u8 a0_6, .string a0_7] 26 (0, 0)) (by (with_reducible repeat (first | refine blk_drewN ?_ _ | refine blk_drew ?_ | refine blk_alloc ?_ _)); exact BK112.out) hg_ (Kd.R_ne HO119.out BK112.out (by decide))); have n1_ := Aside0.mk (show Kd.R (Kd.int .u8) 5 w54 w.heap.size (fun _ => True) (.slice (some ⟨go19, 0, none⟩) y117.length co34) t136 from by rw [← Option.some.inj A24.out]; exact hp_); have n2_ := Aside0.mk (CopyS.below_copy (by repeat (first | (with_reducible first | exact HB.out | apply below_alloc | apply pw_below_drewN | apply below_drew1 | refine below_set ?_ GE112.out) | exact HB.out)) (below_size (by repeat (first | (with_reducible first | exact HB.out | apply below_alloc | apply pw_below_drewN | apply below_drew1 | refine below_set ?_ GE112.out) | exact HB.out))) HO119.out hg_); clear BK112; clear HO119; clear HB; have BK112 := n0_; have HO119 := n1_; have HB := n2_; clear n0_ n1_ n2_; clear hg_ hp_) | ((with_reducible refine gate_callee (f := 32) rfl ?_); refine goesL_ (some 60) rfl rfl Try.func32 (by kernel_rfl) rfl #[.slice (some ⟨go19, 0, none⟩) y117.length co34, .int .i64 329, .int .i64 7, .int .i64 0] rfl (by (try simp only [List.map_toArray, List.map_cons, List.map_nil]); first | done | rfl | (simp only [List.length_drop, List.length_take]; rfl)) ?_; (with_reducible refine (ustar_block_octal.calls kj2 (fun k_ => some k_ = (.slice (some ⟨go19, 0, none⟩) y117.length co34 : Value).ownBlock) (.slice (some ⟨go19, 0, none⟩) y117.length co34) t136 329 7 0 t137 w _ ?side1 ?side2 A25.out).mono ?_); (case side1 => repeat (first | (with_reducible first | exact HB.out | apply below_alloc | apply pw_below_drewN | apply below_drew1 | refine below_set ?_ GE112.out) | exact HB.out)); (case side2 => exact Kd.R_tight rfl HO119.out); rintro e w55 ⟨rfl, hy0, hb, hkp⟩; refine ⟨_, rfl, ?_⟩; have n0_ := Aside0.mk (blk_kept (by (with_reducible repeat (first | refine blk_drewN ?_ _ | refine blk_drew ?_ | refine blk_alloc ?_ _)); exact BK112.out) hkp (fun hs_ => (fun e_ => (Kd.R_ne HO119.out BK112.out (by decide)) e_) hs_)); have n1_ := Aside0.mk (Kd.R_reok rfl hy0 (fun k_ e_ => HO119.out.1 k_ e_)); have n2_ := Aside0.mk (hb); clear BK112; clear HO119; clear HB; have BK112 := n0_; have HO119 := n1_; have HB := n2_; clear n0_ n1_ n2_; (try clear hb); (try clear hkp); (try clear hy0)) | ((with_reducible refine gate_callee (f := 32) rfl ?_); refine goesL_ (some 62) rfl rfl Try.func32 (by kernel_rfl) rfl #[.slice (some ⟨go19, 0, none⟩) y117.length co34, .int .i64 337, .int .i64 7, .int .i64 0] rfl (by (try simp only [List.map_toArray, List.map_cons, List.map_nil]); first | done | rfl | (simp only [List.length_drop, List.length_take]; rfl)) ?_; (with_reducible refine (ustar_block_octal.calls kj2 (fun k_ => some k_ = (.slice (some ⟨go19, 0, none⟩) y117.length co34 : Value).ownBlock) (.slice (some ⟨go19, 0, none⟩) y117.length co34) t137 337 7 0 t138 w _ ?side1 ?side2 A26.out).mono ?_); (case side1 => repeat (first | (with_reducible first | exact HB.out | apply below_alloc | apply pw_below_drewN | apply below_drew1 | refine below_set ?_ GE112.out) | exact HB.out)); (case side2 => exact Kd.R_tight rfl HO119.out); rintro e w56 ⟨rfl, hy0, hb, hkp⟩; refine ⟨_, rfl, ?_⟩; have n0_ := Aside0.mk (blk_kept (by (with_reducible repeat (first | refine blk_drewN ?_ _ | refine blk_drew ?_ | refine blk_alloc ?_ _)); exact BK112.out) hkp (fun hs_ => (fun e_ => (Kd.R_ne HO119.out BK112.out (by decide)) e_) hs_)); have n1_ := Aside0.mk (Kd.R_reok rfl hy0 (fun k_ e_ => HO119.out.1 k_ e_)); have n2_ := Aside0.mk (hb); clear BK112; clear HO119; clear HB; have BK112 := n0_; have HO119 := n1_; have HB := n2_; clear n0_ n1_ n2_; (try clear hb); (try clear hkp); (try clear hy0); have hlx57 := (Kd.R_reads' HO119.out).1; have q57 : (345 : Int) ≤ ((y117.length : Int) : Int) := of_decide_eq_true (by first | (with_reducible assumption) | assumption); obtain ⟨i057, hi057, _, hsz57, _⟩ := info_parts info5; have hroom57 : y117.length ≤ co34 := (Kd.R_reads' HO119.out).2.1; have hroomc57 : t138.length ≤ co34 := (by rw [← hlx57]; exact hroom57); have hC57 : Kd.C (Kd.int .u8) _ (some ⟨go19, 0, none⟩) t138.length t138 := (Kd.R_reads' HO119.out).2.2; have hcut57 := cut_from (P := Try.prog) 51 5 .i64 Try.underlying51 hi057 1 hsz57 (some ⟨go19, 0, none⟩) y117.length co34 345 (by omega) q57; have hr57 := Kd.C_drop (m := (345 : Int).toNat) (c := co34) hC57 (by omega) hroomc57; obtain ⟨A57, hA57⟩ : ∃ A1, A1 = (if co34 = (345 : Int).toNat then (some ⟨go19, 0, none⟩) else ((some ⟨go19, 0, none⟩) : Option Addr).map (·.add ((345 : Int).toNat * 1))) := ⟨_, rfl⟩; obtain ⟨c57, hc57⟩ : ∃ c1, c1 = co34 - (345 : Int).toNat := ⟨_, rfl⟩; have hy57 : y139.length = y117.length - (345 : Int).toNat := (by rw [Ny139.out, List.length_drop] <;> omega); rw [show (t138).drop (345 : Int).toNat = y139 from Ny139.out.symm] at hr57; replace hr57 : Kd.C (Kd.int .u8) _ A57 y139.length y139 := (by rw [hA57]; exact hr57); rw [← hy57, ← hA57, ← hc57] at hcut57; have HR142 := Aside0.mk hr57; have HC142 := Aside0.mk (show y139.length ≤ c57 from by rw [hy57, hc57]; exact Nat.sub_le_sub_right hroom57 _); clear hr57 hC57 hroom57 hi057 hsz57 hc57 hroomc57; have KY57 := Aside0.mk hy57; have KA57 := Aside0.mk hA57; clear hy57 hA57; have KE57 := Aside0.mk hlx57; have KL57 := Aside0.mk (show 345 ≤ t138.length from by omega); clear hlx57; replace q57 := eq_true q57) | ((with_reducible refine gate_dst (N := 66) rfl ?_); refine CopyS.copy_event (some 66) rfl rfl _ _ 51 9 5 rfl Try.underlying51 (by obtain ⟨i_, hi_, _, hz_, _⟩ := info_parts info5; rw [hi_]; exact congrArg some hz_) co34 345 y117.length y139.length c57 (some ⟨go19, 0, none⟩) A57 t138 t113 (fun _ => True) rfl rfl (fun g_ e_ h_ => by obtain rfl : go19 = g_ := (by injection e_ with e_; injection e_ with e_); exact CopyS.cutA KA57.out (Kd.R_reads' HO119.out).2.1 KY57.out h_) (by have h1_ := KY57.out; have h2_ := KL57.out; have h3_ := KE57.out; omega) HO119.out ?_; intro w58 hp_ hg_; have n0_ := Aside0.mk (blk_grown (g := gb112) (o := .cells #[.string a0_0, .int .i64 a0_1, .int .i64 a0_2, .int .i64 a0_3, .int .i64 a0_4, .int .i64 a0_5, .int .u8 a0_6, .string a0_7] 26 (0, 0)) (by (with_reducible repeat (first | refine blk_drewN ?_ _ | refine blk_drew ?_ | refine blk_alloc ?_ _)); exact BK112.out) hg_ (Kd.R_ne HO119.out BK112.out (by decide))); have n1_ := Aside0.mk (show Kd.R (Kd.int .u8) 5 w58 w.heap.size (fun _ => True) (.slice (some ⟨go19, 0, none⟩) y117.length co34) t143 from by rw [← Option.some.inj A28.out]; exact hp_); have n2_ := Aside0.mk (CopyS.below_copy (by repeat (first | (with_reducible first | exact HB.out | apply below_alloc | apply pw_below_drewN | apply below_drew1 | refine below_set ?_ GE112.out) | exact HB.out)) (below_size (by repeat (first | (with_reducible first | exact HB.out | apply below_alloc | apply pw_below_drewN | apply below_drew1 | refine below_set ?_ GE112.out) | exact HB.out))) HO119.out hg_); clear BK112; clear HO119; clear HB; have BK112 := n0_; have HO119 := n1_; have HB := n2_; clear n0_ n1_ n2_; clear hg_ hp_) | ((with_reducible refine gate_callee (f := 33) rfl ?_); refine goesL_ (some 69) rfl rfl Try.func33 (by kernel_rfl) rfl #[.slice (some ⟨go19, 0, none⟩) t143.length co34] rfl (by (try simp only [List.map_toArray, List.map_cons, List.map_nil]); first | done | (rw [show t143.length = y117.length from (Kd.R_reads' HO119.out).1.symm] <;> rfl) | rfl | (simp only [List.length_drop, List.length_take]; rfl)) ?_; (with_reducible refine (ustar_block_sum.calls kj2 _ _ t143 t144 _ ?side1 ?side2 A29.out).mono ?_); (case side1 => repeat (first | exact (Kd.R_reads' HO119.out).2.2 | (with_reducible refine Kd.C_alloc ?_ _) | (with_reducible refine Kd.C_drewN ?_ _) | (with_reducible refine Kd.C_drew ?_))); (case side2 => rw [show t143.length = y117.length from (Kd.R_reads' HO119.out).1.symm]; exact (Kd.R_reads' HO119.out).2.1); rintro e w' ⟨rfl, ⟨nd, rfl⟩⟩; refine ⟨_, rfl, ?_⟩; (try (rw [drewN_self w58]; generalize hq_ : World.drewN w58 _ = w58; have n0_ : Aside0 (Kd.R (Kd.int .u8) 5 w58 w.heap.size (fun _ => True) (.slice (some ⟨go19, 0, none⟩) y117.length co34) t143) := ⟨by rw [← hq_]; exact (by (with_reducible repeat (first | apply Kd.R_alloc | apply Kd.R_drewN | apply Kd.R_drew)); exact HO119.out)⟩; have n1_ : Aside0 (w58.heap[gb112]? = some (.cells #[.string a0_0, .int .i64 a0_1, .int .i64 a0_2, .int .i64 a0_3, .int .i64 a0_4, .int .i64 a0_5, .int .u8 a0_6, .string a0_7] 26 (0, 0))) := ⟨by rw [← hq_]; exact (by (with_reducible repeat (first | refine blk_drewN ?_ _ | refine blk_drew ?_ | refine blk_alloc ?_ _)); exact BK112.out)⟩; have n2_ : Aside0 (Below w.heap.size w w58) := ⟨by rw [← hq_]; exact (by repeat (first | (with_reducible first | exact HB.out | apply below_alloc | apply pw_below_drewN | apply below_drew1 | refine below_set ?_ GE112.out) | exact HB.out))⟩; clear HO119 BK112 HB hq_; have HO119 := n0_; have BK112 := n1_; have HB := n2_; clear n0_ n1_ n2_))) | ((with_reducible refine gate_callee (f := 32) rfl ?_); refine goesL_ (some 70) rfl rfl Try.func32 (by kernel_rfl) rfl #[.slice (some ⟨go19, 0, none⟩) y117.length co34, .int .i64 148, .int .i64 6, .int .i64 t144] rfl (by (try simp only [List.map_toArray, List.map_cons, List.map_nil]); first | done | rfl | (simp only [List.length_drop, List.length_take]; rfl)) ?_; (with_reducible refine (ustar_block_octal.calls kj2 (fun k_ => some k_ = (.slice (some ⟨go19, 0, none⟩) y117.length co34 : Value).ownBlock) (.slice (some ⟨go19, 0, none⟩) y117.length co34) t143 148 6 t144 t145 w _ ?side1 ?side2 A30.out).mono ?_); (case side1 => repeat (first | (with_reducible first | exact HB.out | apply below_alloc | apply pw_below_drewN | apply below_drew1 | refine below_set ?_ GE112.out) | exact HB.out)); (case side2 => exact Kd.R_tight rfl HO119.out); rintro e w59 ⟨rfl, hy0, hb, hkp⟩; refine ⟨_, rfl, ?_⟩; have n0_ := Aside0.mk (blk_kept (by (with_reducible repeat (first | refine blk_drewN ?_ _ | refine blk_drew ?_ | refine blk_alloc ?_ _)); exact BK112.out) hkp (fun hs_ => (fun e_ => (Kd.R_ne HO119.out BK112.out (by decide)) e_) hs_)); have n1_ := Aside0.mk (Kd.R_reok rfl hy0 (fun k_ e_ => HO119.out.1 k_ e_)); have n2_ := Aside0.mk (hb); clear BK112; clear HO119; clear HB; have BK112 := n0_; have HO119 := n1_; have HB := n2_; clear n0_ n1_ n2_; (try clear hb); (try clear hkp); (try clear hy0); have p32 : 0 ≤ (155 : Int) := (by omega); have q32 : (155 : Int) < ((y117.length : Int) : Int) := of_decide_eq_true (by first | (with_reducible assumption) | assumption); have qi32 : (155 < y117.length) = True := eq_true (by omega); obtain ⟨hx32_0, hf32_0⟩ := Kd.R_celln 0 HO119.out (155 : Int) p32 q32; (try rw [show ((155 : Int)).toNat = 155 from rfl] at hx32_0); (try simp only [Nat.reduceMul, Nat.zero_mul, Nat.zero_add, Nat.reduceAdd] at hx32_0); (try rw [show ((155 : Int)).toNat = 155 from rfl] at hf32_0); (try simp only [Nat.reduceMul, Nat.zero_mul, Nat.zero_add, Nat.reduceAdd] at hf32_0); replace p32 := eq_true p32; replace q32 := eq_true q32; obtain ⟨hy60_, hz60_⟩ := Kd.R_celln 0 HO119.out (155 : Int) (by omega) (of_decide_eq_true (by first | (with_reducible assumption) | assumption)); (try simp only [Int.reduceToNat, Int.toNat_zero, Int.toNat_ofNat, Nat.reduceMul, Nat.zero_mul, Nat.zero_add] at hy60_ hz60_); (try rw [show ((155 : Int)).toNat = 155 from rfl] at hy60_); (try rw [show ((155 : Int)).toNat = 155 from rfl] at hz60_); have HP60 := Kd.R_putg HO119.out (155 : Int) 32) | ((with_reducible refine gate_store (t := 5) (p := 72) rfl ?_); refine store_event (t := 5) (p := 72) (v := ?vo_w61) (w1 := (w59.setCell ⟨go19, (155 : Int).toNat, none⟩ (.int .u8 32))) ?hg ?ho ?hn ?hr ?_; (case ho => rfl); (case hg => rfl); (case hn => rfl); (case hr => first | (go_simp; done) | (go_simp; rfl)); intro w61 hw; have hg : w59.grownBy w61 (some go19) := (by rw [hw]; exact HP60.2); have hp_ : Kd.R (Kd.int .u8) 5 w61 w.heap.size (fun _ => True) (.slice (some ⟨go19, 0, none⟩) y117.length co34) y146 := (by rw [hw, Ny146.out]; exact HP60.1); clear HP60; have n0_ := Aside0.mk (blk_grown (g := gb112) (o := .cells #[.string a0_0, .int .i64 a0_1, .int .i64 a0_2, .int .i64 a0_3, .int .i64 a0_4, .int .i64 a0_5, .int .u8 a0_6, .string a0_7] 26 (0, 0)) (by (with_reducible repeat (first | refine blk_drewN ?_ _ | refine blk_drew ?_ | refine blk_alloc ?_ _)); exact BK112.out) hg (Kd.R_ne HO119.out BK112.out (by decide))); have n1_ := Aside0.mk (hp_); have n2_ := Aside0.mk ((by rw [hw]; exact below_set (HB.out) GB20.out : Below w.heap.size w w61)); clear BK112; clear HO119; clear HB; have BK112 := n0_; have HO119 := n1_; have HB := n2_; clear n0_ n1_ n2_; clear hg hw hp_))
                    go_ret2
                    exact ⟨_, by first | rfl | (simp [errW_none, errW_some] <;> rfl) | (simp [*, errW_none, errW_some] <;> rfl), by (with_reducible repeat (first | apply Kd.R_alloc | apply Kd.R_drewN | apply Kd.R_drew)); exact HO119.out, by repeat (first | (with_reducible first | exact HB.out | apply below_alloc | apply pw_below_drewN | apply below_drew1 | refine below_set ?_ GE112.out) | exact HB.out)⟩
                  · rw [if_neg c31] at H
                    exact absurd H (by simp)
                · rw [if_neg c27] at H
                  exact absurd H (by simp)
              · rw [if_neg c23] at H
                exact absurd H (by simp)
            · rw [if_neg c21] at H
              exact absurd H (by simp)
          · rw [if_neg c19] at H
            exact absurd H (by simp)
        · rw [if_neg c12] at H
          exact absurd H (by simp)

/-! ### bytes_Equal: function 27 -/
def bytes_Equal.f (l0 : List Int) (l1 : List Int) : Option (Bool) := some ((strOfNums l0).toList == (strOfNums l1).toList)
set_option maxHeartbeats 8000000 in
set_option maxRecDepth 100000 in
theorem bytes_Equal.calls (A0 : Option Addr) (c0 : Nat) (l0 : List Int) (A1 : Option Addr) (c1 : Nat) (l1 : List Int) (r : Bool) (w : World) (hr0 : Kd.C (Kd.int .u8) w A0 l0.length l0) (hc0 : l0.length ≤ c0) (hr1 : Kd.C (Kd.int .u8) w A1 l1.length l1) (hc1 : l1.length ≤ c1) (h : bytes_Equal.f l0 l1 = some r) :
    Calls Try.prog 27 #[.slice A0 l0.length c0, .slice A1 l1.length c1] w fun e w' => e = .returned (.bool r) ∧ Drawn0 w w' := by
  have HR0 := Aside0.mk hr0
  have HC0 := Aside0.mk hc0
  clear hr0 hc0
  have HR1 := Aside0.mk hr1
  have HC1 := Aside0.mk hc1
  clear hr1 hc1
  have H : (some ((strOfNums l0).toList == (strOfNums l1).toList)) = some r := h
  clear h
  obtain rfl := Option.some.inj H
  have hcv3 := Kd.C_string (P := Try.prog) (A := A0) (c := c0) Try.underlying22 Try.underlying5 Try.underlying9 HR0.out
  have hcv4 := Kd.C_string (P := Try.prog) (A := A1) (c := c1) Try.underlying22 Try.underlying5 Try.underlying9 HR1.out
  go_enter Try.func27, Try.ntmps27
  go_wp2
  go_ret
  exact ⟨by first | rfl | (simp; done) | (simp [*]; done), by repeat (first | exact Drawn0.refl _ | apply Drawn0.step)⟩

-- NOT PRINTED: function 49 (bytealg_IndexByte)

-- NOT PRINTED: function 45 (bytes_IndexByte)

-- NOT PRINTED: function 46 (bytealg_Index)

-- NOT PRINTED: function 47 (bytealg_Cutover)

-- NOT PRINTED: function 50 (bytealg_hashStr_byte)

-- NOT PRINTED: function 48 (bytealg_IndexRabinKarp_byte)

-- NOT PRINTED: function 43 (bytes_Index)

-- NOT PRINTED: function 39 (bytes_Cut)

/-! ### block_text: function 25 -/
def textB (a0 : List Int) (p n : Int) : ByteArray := strOfNums ((((a0.take (p + n).toNat).drop p.toNat).takeWhile Asc.nz))
def ustar_block_text.f (a0 : List Int) (a1 a2 : Int) : Option ByteArray := if 0 ≤ a1 ∧ 1 ≤ a2 ∧ a1 + a2 ≤ (a0.length : Int) ∧ (a0.length : Int) ≤ 512 then some (textB a0 a1 a2) else none
set_option maxHeartbeats 1000000 in
theorem ustar_block_text.calls (A0 : Option Addr) (c0 : Nat) (a0 : List Int) (a1 a2 : Int) (r : ByteArray) (w : World) (h_a0 : Kd.C (Kd.int .u8) w A0 a0.length a0) (l_a0 : a0.length ≤ c0) (h : ustar_block_text.f a0 a1 a2 = some r) :
    Calls Try.prog 25 #[.slice A0 a0.length c0, .int .i64 a1, .int .i64 a2] w fun e w' => e = .returned (.string r) ∧ Below w.heap.size w w' := by
  have hh : (0 ≤ a1 ∧ 1 ≤ a2 ∧ a1 + a2 ≤ (a0.length : Int) ∧ (a0.length : Int) ≤ 512) ∧ textB a0 a1 a2 = r := by
    unfold ustar_block_text.f at h
    by_cases hc : 0 ≤ a1 ∧ 1 ≤ a2 ∧ a1 + a2 ≤ (a0.length : Int) ∧ (a0.length : Int) ≤ 512
    · rw [if_pos hc] at h
      exact ⟨hc, Option.some.inj h⟩
    · rw [if_neg hc] at h; cases h
  obtain ⟨⟨h1, h2, h3, h5⟩, hr⟩ := hh
  clear h
  have hw : wrap64 (a1 + a2) = a1 + a2 := by unfold wrap64; omega
  obtain ⟨i07, hi07, _, hsz7, _⟩ := info_parts info5
  obtain ⟨A7, hcut7, hA7, hC7⟩ := print_mid_of (P := Try.prog) (Value.int .u8) 0 51 5 .i64 .i64 Try.underlying51 hi07 hsz7 A0 c0 a0 a1 (a1 + a2) h1 (by omega) h3 l_a0
  obtain ⟨L, hL⟩ : ∃ L, L = (a0.take (a1 + a2).toNat).drop a1.toNat := ⟨_, rfl⟩
  have hR : Kd.C (Kd.int .u8) w A7 L.length L := by rw [hL]; exact Kd.C_of_reads (h1 := fun _ => rfl) (hA7 _ (Kd.reads_of_C h_a0))
  rw [← hL] at hcut7 hC7
  have hLl : L.length = a2.toNat := by rw [hL, List.length_drop, List.length_take]; omega
  have hrd := Kd.reads_of_C (enc := Value.int .u8) (d := (0 : Int)) (h1 := fun _ => rfl) hR
  obtain ⟨ad, rfl, hc⟩ := hrd.2.2 (by omega)
  obtain ⟨cc, hcc⟩ : ∃ cc, cc = c0 - a1.toNat := ⟨_, rfl⟩
  rw [← hcc] at hcut7 hC7
  obtain ⟨n, hn⟩ : ∃ n, n = L.length := ⟨_, rfl⟩
  rw [← hn] at hcut7 hC7 hc hR hLl
  clear hA7 hi07 hsz7 hrd h_a0 hcc
  subst hLl
  obtain ⟨⟨i1, i2⟩, i3⟩ := Asc.idx_nz L
  obtain ⟨I, hI⟩ : ∃ I, Lib.indexByte (Lib.bytesOf L) 0 = I := ⟨_, rfl⟩
  rw [hI] at i1 i2 i3
  obtain ⟨W1, hW1⟩ : ∃ W1, W1 = w.alloc (Obj.cells #[Value.int IntKind.u8 0] 5) := ⟨_, rfl⟩
  have hb1 : Below w.heap.size w W1 := by rw [hW1]; exact below_alloc (Below.refl _ _) _
  have hR1 := Kd.C_below hR hb1
  have hc1 := (Kd.reads_of_C (enc := Value.int .u8) (d := (0 : Int)) (h1 := fun _ => rfl) hR1).2.2 (by omega)
  obtain ⟨ad', e', hc1⟩ := hc1
  injection e' with e'
  subst e'
  have hx1 : W1.cell? ⟨w.heap.size, 0, none⟩ = some (.int .u8 0) := by
    rw [hW1]
    exact (blk_cell (blk_new w (.cells #[Value.int IntKind.u8 0] 5 (0, 0))) 0).trans rfl
  have cI := Try.bytes_Index_one_at ad a2.toNat cc w.heap.size 0 1 L 0 W1 hn.symm hc1 hx1
  rw [show (0 : Int).toNat.toUInt8 = 0 from rfl, hI] at cI
  have cC := Try.bytes_Cut_of (some ad) (some ⟨w.heap.size, 0, none⟩) a2.toNat cc 1 1 I W1 (by omega) i1 (fun _ => by omega) (by omega) (cI.mono fun e w' h => ⟨h.1, 0, h.2⟩)
  obtain ⟨T, hT⟩ : ∃ T, T = L.takeWhile Asc.nz := ⟨_, rfl⟩
  have hr' : strOfNums T = r := by rw [hT, hL, ← hr]; rfl
  rw [← hT] at i3
  have hC : ∀ (M : Nat) (q : Nat), L.take M = T → M ≤ L.length → T.length = M ∧ Kd.C (Kd.int .u8) (W1.drewN q) (some ad) T.length T := by
    intro M q e hle
    refine ⟨by rw [← e, List.length_take]; omega, ?_⟩
    rw [← e]
    rw [hn] at hR1
    exact Kd.C_drewN (Kd.C_take hR1 hle) q
  have hbq : ∀ q, Below w.heap.size w (W1.drewN q) := fun q => pw_below_drewN hb1 q
  clear hc hc1 hx1 cI hR hR1 hL hT hr hI
  have HN := Aside0.mk hn
  clear hn
  subst hW1
  unfold Lib.cutV at cC
  by_cases h0 : 0 ≤ I
  · rw [if_pos h0] at cC i3
    have hle : I.toNat ≤ L.length := by omega
    go_enter Try.func25, Try.ntmps25
    go_wp2_with (go_at_call 39; refine cC.mono ?_; rintro e w' ⟨rfl, q, rfl⟩; obtain ⟨hl, hCT⟩ := hC I.toNat q i3 hle; have hcv := Kd.C_string (P := Try.prog) (A := some ad) (c := cc) Try.underlying22 Try.underlying5 Try.underlying9 hCT; rw [hl] at hcv)
    go_ret
    exact ⟨rfl, hbq _⟩
  · rw [if_neg h0] at cC i3
    go_enter Try.func25, Try.ntmps25
    go_wp2_with (go_at_call 39; refine cC.mono ?_; rintro e w' ⟨rfl, q, rfl⟩; obtain ⟨hl, hCT⟩ := hC L.length q i3 (Nat.le_refl _); have hcv := Kd.C_string (P := Try.prog) (A := some ad) (c := cc) Try.underlying22 Try.underlying5 Try.underlying9 hCT; rw [hl, ← HN.out] at hcv)
    go_ret
    exact ⟨rfl, hbq _⟩

/-! ### ustar_block_number: function 26 -/
def ustar_block_number.l0 : Nat → Int → List Int → Int → Int → Option (Int)
  | 0, _, _, _, _ => none
  | k + 1, x7, x15, x16, x17 => if x17 < x16 then (if 0 ≤ x17 then (if x17 < (x15.length : Int) then (ustar_block_number.l0 k (Go.bits .or .i64 (wrap64 (x7 * 8)) (wrap64 (Go.bits .and .u8 (rd x15 x17) 7))) x15 x16 (wrap64 (x17 + 1))) else (none)) else (none)) else (some x7)
def ustar_block_number.f (k : Nat) (l0 : List Int) (a1 : Int) (a2 : Int) : Option (Int) := if 0 ≤ a1 then (if a1 ≤ (wrap64 (a1 + a2)) then (if (wrap64 (a1 + a2)) ≤ (l0.length : Int) then (ustar_block_number.l0 k 0 ((l0.take ((wrap64 (a1 + a2)) : Int).toNat).drop (a1 : Int).toNat) (((l0.take ((wrap64 (a1 + a2)) : Int).toNat).drop (a1 : Int).toNat).length : Int) 0) else (none)) else (none)) else (none)
theorem ustar_block_number.mono_l : ∀ k, (∀ y0 y1 y2 y3, LeO (ustar_block_number.l0 k y0 y1 y2 y3) (ustar_block_number.l0 (k + 1) y0 y1 y2 y3))
  | 0 => fun _ _ _ _ r h => by simp [ustar_block_number.l0] at h
  | k + 1 => by
    have ih0 := ustar_block_number.mono_l k
    · intro y0 y1 y2 y3
      unfold ustar_block_number.l0
      repeat' first
      | (with_reducible exact ih0 _ _ _ _)
      | (with_reducible exact LeO.refl _)
      | (with_reducible exact LeO.none _)
      | (with_reducible refine LeO.ite ?_ ?_)
      | (with_reducible refine LeO.bind ?_ (fun _ => ?_))
      | exact ih0 _ _ _ _
      | exact LeO.none _
      | refine LeO.ite ?_ ?_
      | refine LeO.bind ?_ (fun _ => ?_)
theorem ustar_block_number.mono : ∀ a0 a1 a2 k, LeO (ustar_block_number.f k a0 a1 a2) (ustar_block_number.f (k + 1) a0 a1 a2) := by
  intro a0 a1 a2 k
  have ih0 := ustar_block_number.mono_l k
  unfold ustar_block_number.f
  repeat' first
      | (with_reducible exact ih0 _ _ _ _)
      | (with_reducible exact LeO.refl _)
      | (with_reducible exact LeO.none _)
      | (with_reducible refine LeO.ite ?_ ?_)
      | (with_reducible refine LeO.bind ?_ (fun _ => ?_))
      | exact ih0 _ _ _ _
      | exact LeO.none _
      | refine LeO.ite ?_ ?_
      | refine LeO.bind ?_ (fun _ => ?_)
set_option maxHeartbeats 8000000 in
set_option maxRecDepth 100000 in
theorem ustar_block_number.calls (k : Nat) (A0 : Option Addr) (c0 : Nat) (l0 : List Int) (a1 : Int) (a2 : Int) (r : Int) (w : World) (hr0 : Kd.C (Kd.int .u8) w A0 l0.length l0) (hc0 : l0.length ≤ c0) (h : ustar_block_number.f k l0 a1 a2 = some r) :
    Calls Try.prog 26 #[.slice A0 l0.length c0, .int .i64 a1, .int .i64 a2] w fun e w' => e = .returned (.int .i64 r) ∧ Drawn0 w w' := by
  have HR0 := Aside0.mk hr0
  have HC0 := Aside0.mk hc0
  clear hr0 hc0
  have H : (if 0 ≤ a1 then (if a1 ≤ (wrap64 (a1 + a2)) then (if (wrap64 (a1 + a2)) ≤ (l0.length : Int) then (ustar_block_number.l0 k 0 ((l0.take ((wrap64 (a1 + a2)) : Int).toNat).drop (a1 : Int).toNat) (((l0.take ((wrap64 (a1 + a2)) : Int).toNat).drop (a1 : Int).toNat).length : Int) 0) else (none)) else (none)) else (none)) = some r := h
  clear h
  by_cases c4 : 0 ≤ a1
  · rw [if_pos c4] at H
    have c4b0 := eq_true c4
    have c4b1 : decide (0 ≤ a1) = true := decide_eq_true c4
    clear c4
    by_cases c5 : a1 ≤ (wrap64 (a1 + a2))
    · rw [if_pos c5] at H
      have c5b0 := eq_true c5
      have c5b1 : decide (a1 ≤ (wrap64 (a1 + a2))) = true := decide_eq_true c5
      by_cases c6 : (wrap64 (a1 + a2)) ≤ (l0.length : Int)
      · rw [if_pos c6] at H
        have c6b0 := eq_true c6
        have c6b1 : decide ((wrap64 (a1 + a2)) ≤ (l0.length : Int)) = true := decide_eq_true c6
        have H' := Aside0.mk H
        clear H
        obtain ⟨i07, hi07, _, hsz7, _⟩ := info_parts info5
        obtain ⟨A7, hcut7, hA7, hC7⟩ := print_mid_of (P := Try.prog) (Value.int .u8) 0 51 5 .i64 .i64 Try.underlying51 hi07 hsz7 A0 c0 l0 a1 (wrap64 (a1 + a2)) (of_decide_eq_true (by first | (with_reducible assumption) | assumption)) (by first | omega | exact of_decide_eq_true (by first | (with_reducible assumption) | assumption)) (of_decide_eq_true (by first | (with_reducible assumption) | assumption)) HC0.out
        have HR148 := Aside0.mk (Kd.C_of_reads (h1 := fun _ => rfl) (hA7 _ (Kd.reads_of_C HR0.out)))
        have HC148 := Aside0.mk hC7
        have HL_ := Aside0.mk (show ((l0.take ((wrap64 (a1 + a2)) : Int).toNat).drop (a1 : Int).toNat).length = (wrap64 (a1 + a2)).toNat - a1.toNat from by
          have h1_ : (wrap64 (a1 + a2)) ≤ (l0.length : Int) := of_decide_eq_true (by first | (with_reducible assumption) | assumption)
          rw [List.length_drop, List.length_take]; omega)
        clear hA7 hC7 hi07 hsz7
        go_enter Try.func26, Try.ntmps26
        go_wp2
        go_loopg [7, 17] k (fun kq v7 v17 w' => ∃ (x7_1 : Int) (x17_1 : Int), v7 = .int .i64 x7_1 ∧ v17 = .int .i64 x17_1 ∧ Aside0 (ustar_block_number.l0 kq x7_1 ((l0.take ((wrap64 (a1 + a2)) : Int).toNat).drop (a1 : Int).toNat) (((l0.take ((wrap64 (a1 + a2)) : Int).toNat).drop (a1 : Int).toNat).length : Int) x17_1 = some r) ∧ Aside0 (kq ≤ k) ∧ Drawn0 w w')
        case atStart => exact ⟨(0), (0), (by first | rfl | (simp; done) | (simp [*]; done)), (by first | rfl | (simp; done) | (simp [*]; done)), H', ⟨Nat.le_refl _⟩, by repeat (first | exact Drawn0.refl _ | apply Drawn0.step)⟩
        case round =>
          clear H'
          try clear c2
          try clear p2
          try clear c4
          try clear c4b0
          try clear c4b1
          try clear c5
          try clear c5b0
          try clear c5b1
          try clear c6
          try clear c6b0
          try clear c6b1
          try clear p6
          obtain ⟨x7_1, x17_1, rfl, rfl, HA, HK1, ⟨m1, rfl⟩⟩ := hrel
          cases gk with
          | zero => exact absurd HA.out (by simp [ustar_block_number.l0])
          | succ k1 =>
            have H := HA.out
            clear HA
            simp only [ustar_block_number.l0] at H
            by_cases c8 : x17_1 < (((l0.take ((wrap64 (a1 + a2)) : Int).toNat).drop (a1 : Int).toNat).length : Int)
            · rw [if_pos c8] at H
              have c8b0 : decide (x17_1 < (((l0.take ((wrap64 (a1 + a2)) : Int).toNat).drop (a1 : Int).toNat).length : Int)) = true := decide_eq_true c8
              clear c8
              by_cases c9 : 0 ≤ x17_1
              · rw [if_pos c9] at H
                have c9b0 : decide (0 ≤ x17_1) = true := decide_eq_true c9
                clear c9
                by_cases c10 : x17_1 < (((l0.take ((wrap64 (a1 + a2)) : Int).toNat).drop (a1 : Int).toNat).length : Int)
                · rw [if_pos c10] at H
                  have c10b0 : decide (x17_1 < (((l0.take ((wrap64 (a1 + a2)) : Int).toNat).drop (a1 : Int).toNat).length : Int)) = true := decide_eq_true c10
                  clear c10
                  have H' := Aside0.mk H
                  clear H
                  have p149 : 0 ≤ (x17_1 : Int) := of_decide_eq_true (by first | (with_reducible assumption) | assumption)
                  have q149 : x17_1 < (((l0.take ((wrap64 (a1 + a2)) : Int).toNat).drop (a1 : Int).toNat).length : Int) := of_decide_eq_true (by first | (with_reducible assumption) | assumption)
                  obtain ⟨ad149, e149, hx149_0⟩ := Kd.at_int HR148.out x17_1 p149 q149
                  cases e149
                  rw [HL_.out] at c8b0 c10b0 q149
                  replace p149 := eq_true p149
                  replace q149 := eq_true q149
                  go_wp2
                  go_roundg k1
                  case measure => have := HK1.out; omega
                  case rel => exact ⟨(Go.bits .or .i64 (wrap64 (x7_1 * 8)) (wrap64 (Go.bits .and .u8 (rd ((l0.take ((wrap64 (a1 + a2)) : Int).toNat).drop (a1 : Int).toNat) x17_1) 7))), (wrap64 (x17_1 + 1)), (by first | rfl | (simp; done) | (simp [*]; done)), (by first | rfl | (simp; done) | (simp [*]; done)), H', ⟨by have := HK1.out; omega⟩, by repeat (first | exact Drawn0.refl _ | apply Drawn0.step)⟩
                · rw [if_neg c10] at H
                  exact absurd H (by simp)
              · rw [if_neg c9] at H
                exact absurd H (by simp)
            · rw [if_neg c8] at H
              have c8b0 : decide (x17_1 < (((l0.take ((wrap64 (a1 + a2)) : Int).toNat).drop (a1 : Int).toNat).length : Int)) = false := decide_eq_false c8
              clear c8
              obtain rfl := Option.some.inj H
              rw [HL_.out] at c8b0
              go_wp2
              go_ret
              exact ⟨by first | rfl | (simp; done) | (simp [*]; done), by repeat (first | exact Drawn0.refl _ | apply Drawn0.step)⟩
      · rw [if_neg c6] at H
        exact absurd H (by simp)
    · rw [if_neg c5] at H
      exact absurd H (by simp)
  · rw [if_neg c4] at H
    exact absurd H (by simp)

end Go.Proofs.Ytkdklgcjimnabaa.PUstar
