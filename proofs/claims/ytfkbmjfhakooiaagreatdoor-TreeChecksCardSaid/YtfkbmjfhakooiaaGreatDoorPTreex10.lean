/- Printed for this claim by a copy of the kit's print.py that takes functions walked by our own texts. Conditions: none. -/
import Derived.Test.YtfkbmjfhakooiaaGreatDoorPTreex0
import Derived.Test.YtfkbmjfhakooiaaGreatDoorPTreex6
import Derived.Test.YtfkbmjfhakooiaaGreatDoorPTreex9
namespace Go.Proofs.YtfkbmjfhakooiaaGreatDoor.PTree
open Go.RowKit Go.Proofs.YtfkbmjfhakooiaaGreatDoorW.PrintWords Go.Proofs.YtfkbmjfhakooiaaGreatDoorW.PrintLast Go.Proofs.YtfkbmjfhakooiaaGreatDoorW.PrintMore
attribute [local go_sem] max2_int min2_int max_two min_two max_three min_three max_four min_four   -- for this text's walks alone
set_option linter.unusedVariables false
set_option linter.unusedSimpArgs false

/-! ### amphoraref09_fields: function 39 -/
def amphoraref09_fields.j0 : Nat → Bool → ByteArray → Int → Int → Int → Int → Int → ByteArray → List Int → Option (Bool)
  | 0, _, _, _, _, _, _, _, _, _ => none
  | k + 1, x40, x266000, x266001, x266002, x266003, x266004, x266005, x266006, x266007 => if x40 = true then (some false) else (if x266001 = 2 then (if x266006.toList = ([] : List UInt8) then (some (decide ((x266007.length : Int) ≤ 65536))) else (some false)) else (if (x266007.length : Int) > 0 then (some false) else (if x266001 = 1 then (some (x266006.toList == ([] : List UInt8))) else (if x266001 = 3 then ((amphoraref08_Text.f k x266006 400).bind fun t266 => (some t266)) else (if x266001 = 4 then ((amphoraref08_Good.f k x266006).bind fun t267 => (if t267 = true then (if x266002 = 0 then (if x266003 = 0 then (if x266004 = 0 then (some (x266005 == 0)) else (some false)) else (some false)) else (some false)) else (some false))) else (some false))))))
def amphoraref09_fields.f (k : Nat) (a0_0 : ByteArray) (a0_1 : Int) (a0_2 : Int) (a0_3 : Int) (a0_4 : Int) (a0_5 : Int) (a0_6 : ByteArray) (l0_7 : List Int) : Option (Bool) := if a0_2 < 0 then (amphoraref09_fields.j0 k true a0_0 a0_1 a0_2 a0_3 a0_4 a0_5 a0_6 l0_7) else (if a0_2 > 4095 then (amphoraref09_fields.j0 k true a0_0 a0_1 a0_2 a0_3 a0_4 a0_5 a0_6 l0_7) else (if a0_3 < 0 then (amphoraref09_fields.j0 k true a0_0 a0_1 a0_2 a0_3 a0_4 a0_5 a0_6 l0_7) else (if a0_3 > 1099511627776 then (amphoraref09_fields.j0 k true a0_0 a0_1 a0_2 a0_3 a0_4 a0_5 a0_6 l0_7) else (if a0_4 < 0 then (amphoraref09_fields.j0 k true a0_0 a0_1 a0_2 a0_3 a0_4 a0_5 a0_6 l0_7) else (if a0_4 > 1099511627776 then (amphoraref09_fields.j0 k true a0_0 a0_1 a0_2 a0_3 a0_4 a0_5 a0_6 l0_7) else (if a0_5 < (-1099511627776) then (amphoraref09_fields.j0 k true a0_0 a0_1 a0_2 a0_3 a0_4 a0_5 a0_6 l0_7) else (amphoraref09_fields.j0 k (decide (a0_5 > 1099511627776)) a0_0 a0_1 a0_2 a0_3 a0_4 a0_5 a0_6 l0_7)))))))
theorem amphoraref09_fields.mono_l : ∀ k, (∀ y0 y1 y2 y3 y4 y5 y6 y7 y8, LeO (amphoraref09_fields.j0 k y0 y1 y2 y3 y4 y5 y6 y7 y8) (amphoraref09_fields.j0 (k + 1) y0 y1 y2 y3 y4 y5 y6 y7 y8))
  | 0 => fun _ _ _ _ _ _ _ _ _ r h => by simp [amphoraref09_fields.j0] at h
  | k + 1 => by
    have ih0 := amphoraref09_fields.mono_l k
    · intro y0 y1 y2 y3 y4 y5 y6 y7 y8
      unfold amphoraref09_fields.j0
      repeat' first
      | (with_reducible exact ih0 _ _ _ _ _ _ _ _ _)
      | (with_reducible exact amphoraref08_Good.mono _ _)
      | (with_reducible exact amphoraref08_Text.mono _ _ _)
      | (with_reducible exact LeO.refl _)
      | (with_reducible exact LeO.none _)
      | (with_reducible refine LeO.ite ?_ ?_)
      | (with_reducible refine LeO.bind ?_ (fun _ => ?_))
      | exact ih0 _ _ _ _ _ _ _ _ _
      | exact amphoraref08_Good.mono _ _
      | exact amphoraref08_Text.mono _ _ _
      | exact LeO.none _
      | refine LeO.ite ?_ ?_
      | refine LeO.bind ?_ (fun _ => ?_)
theorem amphoraref09_fields.mono : ∀ a0 a1 a2 a3 a4 a5 a6 a7 k, LeO (amphoraref09_fields.f k a0 a1 a2 a3 a4 a5 a6 a7) (amphoraref09_fields.f (k + 1) a0 a1 a2 a3 a4 a5 a6 a7) := by
  intro a0 a1 a2 a3 a4 a5 a6 a7 k
  have ih0 := amphoraref09_fields.mono_l k
  unfold amphoraref09_fields.f
  repeat' first
      | (with_reducible exact ih0 _ _ _ _ _ _ _ _ _)
      | (with_reducible exact amphoraref08_Good.mono _ _)
      | (with_reducible exact amphoraref08_Text.mono _ _ _)
      | (with_reducible exact LeO.refl _)
      | (with_reducible exact LeO.none _)
      | (with_reducible refine LeO.ite ?_ ?_)
      | (with_reducible refine LeO.bind ?_ (fun _ => ?_))
      | exact ih0 _ _ _ _ _ _ _ _ _
      | exact amphoraref08_Good.mono _ _
      | exact amphoraref08_Text.mono _ _ _
      | exact LeO.none _
      | refine LeO.ite ?_ ?_
      | refine LeO.bind ?_ (fun _ => ?_)
set_option maxHeartbeats 8000000 in
set_option maxRecDepth 100000 in
theorem amphoraref09_fields.calls (k : Nat) (a0_0 : ByteArray) (a0_1 : Int) (a0_2 : Int) (a0_3 : Int) (a0_4 : Int) (a0_5 : Int) (a0_6 : ByteArray) (A0_7 : Option Addr) (c0_7 : Nat) (l0_7 : List Int) (r : Bool) (w : World) (hr0_7 : Kd.C (Kd.int .u8) w A0_7 l0_7.length l0_7) (hc0_7 : l0_7.length ≤ c0_7) (hGl : Gl w) (h : amphoraref09_fields.f k a0_0 a0_1 a0_2 a0_3 a0_4 a0_5 a0_6 l0_7 = some r) :
    Calls Tryz.prog 39 #[.agg #[.string a0_0, .int .i64 a0_1, .int .i64 a0_2, .int .i64 a0_3, .int .i64 a0_4, .int .i64 a0_5, .string a0_6, .slice A0_7 l0_7.length c0_7]] w fun e w' => e = .returned (.bool r) ∧ Below w.heap.size w w' := by
  have hu28 := Tryz.underlying28
  have HR0_7 := Aside0.mk hr0_7
  have HC0_7 := Aside0.mk hc0_7
  clear hr0_7 hc0_7
  have HB := Aside0.mk (Below.refl w.heap.size w)
  have HGL := Aside0.mk hGl
  clear hGl
  have H : (if a0_2 < 0 then (amphoraref09_fields.j0 k true a0_0 a0_1 a0_2 a0_3 a0_4 a0_5 a0_6 l0_7) else (if a0_2 > 4095 then (amphoraref09_fields.j0 k true a0_0 a0_1 a0_2 a0_3 a0_4 a0_5 a0_6 l0_7) else (if a0_3 < 0 then (amphoraref09_fields.j0 k true a0_0 a0_1 a0_2 a0_3 a0_4 a0_5 a0_6 l0_7) else (if a0_3 > 1099511627776 then (amphoraref09_fields.j0 k true a0_0 a0_1 a0_2 a0_3 a0_4 a0_5 a0_6 l0_7) else (if a0_4 < 0 then (amphoraref09_fields.j0 k true a0_0 a0_1 a0_2 a0_3 a0_4 a0_5 a0_6 l0_7) else (if a0_4 > 1099511627776 then (amphoraref09_fields.j0 k true a0_0 a0_1 a0_2 a0_3 a0_4 a0_5 a0_6 l0_7) else (if a0_5 < (-1099511627776) then (amphoraref09_fields.j0 k true a0_0 a0_1 a0_2 a0_3 a0_4 a0_5 a0_6 l0_7) else (amphoraref09_fields.j0 k (decide (a0_5 > 1099511627776)) a0_0 a0_1 a0_2 a0_3 a0_4 a0_5 a0_6 l0_7)))))))) = some r := h
  clear h
  have HC2 := Aside0.mk H
  clear H
  go_enter Tryz.func39, Tryz.ntmps39
  go_upto_region 1 with (first | ((with_reducible refine gate_dst (N := 1) rfl ?_); (try (refine gate_guard (by rfl) ?_; dsimp only)); refine box_event ?hg (N := 1) ?hd (cs := #[.string a0_0, .int .i64 a0_1, .int .i64 a0_2, .int .i64 a0_3, .int .i64 a0_4, .int .i64 a0_5, .string a0_6, .slice A0_7 l0_7.length c0_7]) (t := 28) ?hr ?_; (case hd => rfl); (case hg => rfl); (case hr => first | (go_simp; done) | (go_simp; rfl)); intro gb265 hg w3 hbox hb; have n0_ := Aside0.mk (below_step (by repeat (first | (with_reducible first | exact HB.out | apply below_alloc | apply pw_below_drewN | apply below_drew1) | exact HB.out)) hb); have n1_ := Aside0.mk (hbox); have n2_ := Aside0.mk ((by rw [hg]; exact (below_size (by repeat (first | (with_reducible first | exact HB.out | apply below_alloc | apply pw_below_drewN | apply below_drew1) | exact HB.out))) : w.heap.size ≤ gb265)); have n3_ := Aside0.mk ((by rw [hg]; exact (below_size (by repeat (first | (with_reducible first | exact HB.out | apply below_alloc | apply pw_below_drewN | apply below_drew1) | exact HB.out))) : w.heap.size ≤ gb265)); clear HB; have HB := n0_; have BK265 := n1_; have GW265 := n2_; have GE265 := n3_; clear n0_ n1_ n2_ n3_; clear hb hbox hg))
  (try simp only [Act.put, List.setIfInBounds_toArray, List.set_cons_zero, List.set_cons_succ])
  go_cut [40] (fun v40 wc => ∃ (kq : Nat) (x40_1 : Bool), v40 = .bool x40_1 ∧ Aside0 (amphoraref09_fields.j0 kq x40_1 a0_0 a0_1 a0_2 a0_3 a0_4 a0_5 a0_6 l0_7 = some r) ∧ Aside0 (kq ≤ k) ∧ Aside0 (wc.heap[gb265]? = some (.cells #[.string a0_0, .int .i64 a0_1, .int .i64 a0_2, .int .i64 a0_3, .int .i64 a0_4, .int .i64 a0_5, .string a0_6, (.slice A0_7 l0_7.length c0_7)] 28 (0, 0))) ∧ Aside0 (Below w.heap.size w wc))
  case first =>
    have H := HC2.out
    clear HC2
    by_cases c4 : a0_2 < 0
    · rw [if_pos c4] at H
      have c4b0 : decide (a0_2 < 0) = true := decide_eq_true c4
      clear c4
      (first | rw [c4b0] | (simp only [i64_w, i32_w]; rw [c4b0]) | rw [c4b1] | skip)
      have H' := Aside0.mk H
      clear H
      have hcz5_0 : w3.cell? ⟨gb265, 0, none⟩ = some (.string a0_0) := (blk_cell BK265.out 0).trans rfl
      have hcz5_1 : w3.cell? ⟨gb265, 1, none⟩ = some (.int .i64 a0_1) := (blk_cell BK265.out 1).trans rfl
      have hcz5_2 : w3.cell? ⟨gb265, 2, none⟩ = some (.int .i64 a0_2) := (blk_cell BK265.out 2).trans rfl
      have hcz5_3 : w3.cell? ⟨gb265, 3, none⟩ = some (.int .i64 a0_3) := (blk_cell BK265.out 3).trans rfl
      have hcz5_4 : w3.cell? ⟨gb265, 4, none⟩ = some (.int .i64 a0_4) := (blk_cell BK265.out 4).trans rfl
      have hcz5_5 : w3.cell? ⟨gb265, 5, none⟩ = some (.int .i64 a0_5) := (blk_cell BK265.out 5).trans rfl
      have hcz5_6 : w3.cell? ⟨gb265, 6, none⟩ = some (.string a0_6) := (blk_cell BK265.out 6).trans rfl
      have hcz5_7 : w3.cell? ⟨gb265, 7, none⟩ = some (.slice A0_7 l0_7.length c0_7) := (blk_cell BK265.out 7).trans rfl
      have hfz5_0 := blk_frozen BK265.out 0
      have hfz5_1 := blk_frozen BK265.out 1
      have hfz5_2 := blk_frozen BK265.out 2
      have hfz5_3 := blk_frozen BK265.out 3
      have hfz5_4 := blk_frozen BK265.out 4
      have hfz5_5 := blk_frozen BK265.out 5
      have hfz5_6 := blk_frozen BK265.out 6
      have hfz5_7 := blk_frozen BK265.out 7
      go_wp2
      go_meet
      case rel => exact ⟨_, (true), (by first | rfl | (simp; done) | (simp [*]; done)), H', ⟨by first | omega | exact Nat.le_refl _⟩, ⟨by (with_reducible repeat (first | refine blk_drewN ?_ _ | refine blk_drew ?_ | refine blk_alloc ?_ _)); exact BK265.out⟩, ⟨by repeat (first | (with_reducible first | exact HB.out | apply below_alloc | apply pw_below_drewN | apply below_drew1 | refine below_set ?_ GE265.out) | exact HB.out)⟩⟩
    · rw [if_neg c4] at H
      have c4b0 : decide (a0_2 < 0) = false := decide_eq_false c4
      clear c4
      (first | rw [c4b0] | (simp only [i64_w, i32_w]; rw [c4b0]) | rw [c4b1] | skip)
      by_cases c6 : a0_2 > 4095
      · rw [if_pos c6] at H
        have c6b0 : decide (4095 < a0_2) = true := decide_eq_true c6
        clear c6
        have H' := Aside0.mk H
        clear H
        have hcz7_0 : w3.cell? ⟨gb265, 0, none⟩ = some (.string a0_0) := (blk_cell BK265.out 0).trans rfl
        have hcz7_1 : w3.cell? ⟨gb265, 1, none⟩ = some (.int .i64 a0_1) := (blk_cell BK265.out 1).trans rfl
        have hcz7_2 : w3.cell? ⟨gb265, 2, none⟩ = some (.int .i64 a0_2) := (blk_cell BK265.out 2).trans rfl
        have hcz7_3 : w3.cell? ⟨gb265, 3, none⟩ = some (.int .i64 a0_3) := (blk_cell BK265.out 3).trans rfl
        have hcz7_4 : w3.cell? ⟨gb265, 4, none⟩ = some (.int .i64 a0_4) := (blk_cell BK265.out 4).trans rfl
        have hcz7_5 : w3.cell? ⟨gb265, 5, none⟩ = some (.int .i64 a0_5) := (blk_cell BK265.out 5).trans rfl
        have hcz7_6 : w3.cell? ⟨gb265, 6, none⟩ = some (.string a0_6) := (blk_cell BK265.out 6).trans rfl
        have hcz7_7 : w3.cell? ⟨gb265, 7, none⟩ = some (.slice A0_7 l0_7.length c0_7) := (blk_cell BK265.out 7).trans rfl
        have hfz7_0 := blk_frozen BK265.out 0
        have hfz7_1 := blk_frozen BK265.out 1
        have hfz7_2 := blk_frozen BK265.out 2
        have hfz7_3 := blk_frozen BK265.out 3
        have hfz7_4 := blk_frozen BK265.out 4
        have hfz7_5 := blk_frozen BK265.out 5
        have hfz7_6 := blk_frozen BK265.out 6
        have hfz7_7 := blk_frozen BK265.out 7
        go_wp2
        go_meet
        case rel => exact ⟨_, (true), (by first | rfl | (simp; done) | (simp [*]; done)), H', ⟨by first | omega | exact Nat.le_refl _⟩, ⟨by (with_reducible repeat (first | refine blk_drewN ?_ _ | refine blk_drew ?_ | refine blk_alloc ?_ _)); exact BK265.out⟩, ⟨by repeat (first | (with_reducible first | exact HB.out | apply below_alloc | apply pw_below_drewN | apply below_drew1 | refine below_set ?_ GE265.out) | exact HB.out)⟩⟩
      · rw [if_neg c6] at H
        have c6b0 : decide (4095 < a0_2) = false := decide_eq_false c6
        clear c6
        by_cases c8 : a0_3 < 0
        · rw [if_pos c8] at H
          have c8b0 : decide (a0_3 < 0) = true := decide_eq_true c8
          clear c8
          have H' := Aside0.mk H
          clear H
          have hcz9_0 : w3.cell? ⟨gb265, 0, none⟩ = some (.string a0_0) := (blk_cell BK265.out 0).trans rfl
          have hcz9_1 : w3.cell? ⟨gb265, 1, none⟩ = some (.int .i64 a0_1) := (blk_cell BK265.out 1).trans rfl
          have hcz9_2 : w3.cell? ⟨gb265, 2, none⟩ = some (.int .i64 a0_2) := (blk_cell BK265.out 2).trans rfl
          have hcz9_3 : w3.cell? ⟨gb265, 3, none⟩ = some (.int .i64 a0_3) := (blk_cell BK265.out 3).trans rfl
          have hcz9_4 : w3.cell? ⟨gb265, 4, none⟩ = some (.int .i64 a0_4) := (blk_cell BK265.out 4).trans rfl
          have hcz9_5 : w3.cell? ⟨gb265, 5, none⟩ = some (.int .i64 a0_5) := (blk_cell BK265.out 5).trans rfl
          have hcz9_6 : w3.cell? ⟨gb265, 6, none⟩ = some (.string a0_6) := (blk_cell BK265.out 6).trans rfl
          have hcz9_7 : w3.cell? ⟨gb265, 7, none⟩ = some (.slice A0_7 l0_7.length c0_7) := (blk_cell BK265.out 7).trans rfl
          have hfz9_0 := blk_frozen BK265.out 0
          have hfz9_1 := blk_frozen BK265.out 1
          have hfz9_2 := blk_frozen BK265.out 2
          have hfz9_3 := blk_frozen BK265.out 3
          have hfz9_4 := blk_frozen BK265.out 4
          have hfz9_5 := blk_frozen BK265.out 5
          have hfz9_6 := blk_frozen BK265.out 6
          have hfz9_7 := blk_frozen BK265.out 7
          go_wp2
          go_meet
          case rel => exact ⟨_, (true), (by first | rfl | (simp; done) | (simp [*]; done)), H', ⟨by first | omega | exact Nat.le_refl _⟩, ⟨by (with_reducible repeat (first | refine blk_drewN ?_ _ | refine blk_drew ?_ | refine blk_alloc ?_ _)); exact BK265.out⟩, ⟨by repeat (first | (with_reducible first | exact HB.out | apply below_alloc | apply pw_below_drewN | apply below_drew1 | refine below_set ?_ GE265.out) | exact HB.out)⟩⟩
        · rw [if_neg c8] at H
          have c8b0 : decide (a0_3 < 0) = false := decide_eq_false c8
          clear c8
          by_cases c10 : a0_3 > 1099511627776
          · rw [if_pos c10] at H
            have c10b0 : decide (1099511627776 < a0_3) = true := decide_eq_true c10
            clear c10
            have H' := Aside0.mk H
            clear H
            have hcz11_0 : w3.cell? ⟨gb265, 0, none⟩ = some (.string a0_0) := (blk_cell BK265.out 0).trans rfl
            have hcz11_1 : w3.cell? ⟨gb265, 1, none⟩ = some (.int .i64 a0_1) := (blk_cell BK265.out 1).trans rfl
            have hcz11_2 : w3.cell? ⟨gb265, 2, none⟩ = some (.int .i64 a0_2) := (blk_cell BK265.out 2).trans rfl
            have hcz11_3 : w3.cell? ⟨gb265, 3, none⟩ = some (.int .i64 a0_3) := (blk_cell BK265.out 3).trans rfl
            have hcz11_4 : w3.cell? ⟨gb265, 4, none⟩ = some (.int .i64 a0_4) := (blk_cell BK265.out 4).trans rfl
            have hcz11_5 : w3.cell? ⟨gb265, 5, none⟩ = some (.int .i64 a0_5) := (blk_cell BK265.out 5).trans rfl
            have hcz11_6 : w3.cell? ⟨gb265, 6, none⟩ = some (.string a0_6) := (blk_cell BK265.out 6).trans rfl
            have hcz11_7 : w3.cell? ⟨gb265, 7, none⟩ = some (.slice A0_7 l0_7.length c0_7) := (blk_cell BK265.out 7).trans rfl
            have hfz11_0 := blk_frozen BK265.out 0
            have hfz11_1 := blk_frozen BK265.out 1
            have hfz11_2 := blk_frozen BK265.out 2
            have hfz11_3 := blk_frozen BK265.out 3
            have hfz11_4 := blk_frozen BK265.out 4
            have hfz11_5 := blk_frozen BK265.out 5
            have hfz11_6 := blk_frozen BK265.out 6
            have hfz11_7 := blk_frozen BK265.out 7
            go_wp2
            go_meet
            case rel => exact ⟨_, (true), (by first | rfl | (simp; done) | (simp [*]; done)), H', ⟨by first | omega | exact Nat.le_refl _⟩, ⟨by (with_reducible repeat (first | refine blk_drewN ?_ _ | refine blk_drew ?_ | refine blk_alloc ?_ _)); exact BK265.out⟩, ⟨by repeat (first | (with_reducible first | exact HB.out | apply below_alloc | apply pw_below_drewN | apply below_drew1 | refine below_set ?_ GE265.out) | exact HB.out)⟩⟩
          · rw [if_neg c10] at H
            have c10b0 : decide (1099511627776 < a0_3) = false := decide_eq_false c10
            clear c10
            by_cases c12 : a0_4 < 0
            · rw [if_pos c12] at H
              have c12b0 : decide (a0_4 < 0) = true := decide_eq_true c12
              clear c12
              have H' := Aside0.mk H
              clear H
              have hcz13_0 : w3.cell? ⟨gb265, 0, none⟩ = some (.string a0_0) := (blk_cell BK265.out 0).trans rfl
              have hcz13_1 : w3.cell? ⟨gb265, 1, none⟩ = some (.int .i64 a0_1) := (blk_cell BK265.out 1).trans rfl
              have hcz13_2 : w3.cell? ⟨gb265, 2, none⟩ = some (.int .i64 a0_2) := (blk_cell BK265.out 2).trans rfl
              have hcz13_3 : w3.cell? ⟨gb265, 3, none⟩ = some (.int .i64 a0_3) := (blk_cell BK265.out 3).trans rfl
              have hcz13_4 : w3.cell? ⟨gb265, 4, none⟩ = some (.int .i64 a0_4) := (blk_cell BK265.out 4).trans rfl
              have hcz13_5 : w3.cell? ⟨gb265, 5, none⟩ = some (.int .i64 a0_5) := (blk_cell BK265.out 5).trans rfl
              have hcz13_6 : w3.cell? ⟨gb265, 6, none⟩ = some (.string a0_6) := (blk_cell BK265.out 6).trans rfl
              have hcz13_7 : w3.cell? ⟨gb265, 7, none⟩ = some (.slice A0_7 l0_7.length c0_7) := (blk_cell BK265.out 7).trans rfl
              have hfz13_0 := blk_frozen BK265.out 0
              have hfz13_1 := blk_frozen BK265.out 1
              have hfz13_2 := blk_frozen BK265.out 2
              have hfz13_3 := blk_frozen BK265.out 3
              have hfz13_4 := blk_frozen BK265.out 4
              have hfz13_5 := blk_frozen BK265.out 5
              have hfz13_6 := blk_frozen BK265.out 6
              have hfz13_7 := blk_frozen BK265.out 7
              go_wp2
              go_meet
              case rel => exact ⟨_, (true), (by first | rfl | (simp; done) | (simp [*]; done)), H', ⟨by first | omega | exact Nat.le_refl _⟩, ⟨by (with_reducible repeat (first | refine blk_drewN ?_ _ | refine blk_drew ?_ | refine blk_alloc ?_ _)); exact BK265.out⟩, ⟨by repeat (first | (with_reducible first | exact HB.out | apply below_alloc | apply pw_below_drewN | apply below_drew1 | refine below_set ?_ GE265.out) | exact HB.out)⟩⟩
            · rw [if_neg c12] at H
              have c12b0 : decide (a0_4 < 0) = false := decide_eq_false c12
              clear c12
              by_cases c14 : a0_4 > 1099511627776
              · rw [if_pos c14] at H
                have c14b0 : decide (1099511627776 < a0_4) = true := decide_eq_true c14
                clear c14
                have H' := Aside0.mk H
                clear H
                have hcz15_0 : w3.cell? ⟨gb265, 0, none⟩ = some (.string a0_0) := (blk_cell BK265.out 0).trans rfl
                have hcz15_1 : w3.cell? ⟨gb265, 1, none⟩ = some (.int .i64 a0_1) := (blk_cell BK265.out 1).trans rfl
                have hcz15_2 : w3.cell? ⟨gb265, 2, none⟩ = some (.int .i64 a0_2) := (blk_cell BK265.out 2).trans rfl
                have hcz15_3 : w3.cell? ⟨gb265, 3, none⟩ = some (.int .i64 a0_3) := (blk_cell BK265.out 3).trans rfl
                have hcz15_4 : w3.cell? ⟨gb265, 4, none⟩ = some (.int .i64 a0_4) := (blk_cell BK265.out 4).trans rfl
                have hcz15_5 : w3.cell? ⟨gb265, 5, none⟩ = some (.int .i64 a0_5) := (blk_cell BK265.out 5).trans rfl
                have hcz15_6 : w3.cell? ⟨gb265, 6, none⟩ = some (.string a0_6) := (blk_cell BK265.out 6).trans rfl
                have hcz15_7 : w3.cell? ⟨gb265, 7, none⟩ = some (.slice A0_7 l0_7.length c0_7) := (blk_cell BK265.out 7).trans rfl
                have hfz15_0 := blk_frozen BK265.out 0
                have hfz15_1 := blk_frozen BK265.out 1
                have hfz15_2 := blk_frozen BK265.out 2
                have hfz15_3 := blk_frozen BK265.out 3
                have hfz15_4 := blk_frozen BK265.out 4
                have hfz15_5 := blk_frozen BK265.out 5
                have hfz15_6 := blk_frozen BK265.out 6
                have hfz15_7 := blk_frozen BK265.out 7
                go_wp2
                go_meet
                case rel => exact ⟨_, (true), (by first | rfl | (simp; done) | (simp [*]; done)), H', ⟨by first | omega | exact Nat.le_refl _⟩, ⟨by (with_reducible repeat (first | refine blk_drewN ?_ _ | refine blk_drew ?_ | refine blk_alloc ?_ _)); exact BK265.out⟩, ⟨by repeat (first | (with_reducible first | exact HB.out | apply below_alloc | apply pw_below_drewN | apply below_drew1 | refine below_set ?_ GE265.out) | exact HB.out)⟩⟩
              · rw [if_neg c14] at H
                have c14b0 : decide (1099511627776 < a0_4) = false := decide_eq_false c14
                clear c14
                by_cases c16 : a0_5 < (-1099511627776)
                · rw [if_pos c16] at H
                  have c16b0 : decide (a0_5 < (-1099511627776)) = true := decide_eq_true c16
                  clear c16
                  have H' := Aside0.mk H
                  clear H
                  have hcz17_0 : w3.cell? ⟨gb265, 0, none⟩ = some (.string a0_0) := (blk_cell BK265.out 0).trans rfl
                  have hcz17_1 : w3.cell? ⟨gb265, 1, none⟩ = some (.int .i64 a0_1) := (blk_cell BK265.out 1).trans rfl
                  have hcz17_2 : w3.cell? ⟨gb265, 2, none⟩ = some (.int .i64 a0_2) := (blk_cell BK265.out 2).trans rfl
                  have hcz17_3 : w3.cell? ⟨gb265, 3, none⟩ = some (.int .i64 a0_3) := (blk_cell BK265.out 3).trans rfl
                  have hcz17_4 : w3.cell? ⟨gb265, 4, none⟩ = some (.int .i64 a0_4) := (blk_cell BK265.out 4).trans rfl
                  have hcz17_5 : w3.cell? ⟨gb265, 5, none⟩ = some (.int .i64 a0_5) := (blk_cell BK265.out 5).trans rfl
                  have hcz17_6 : w3.cell? ⟨gb265, 6, none⟩ = some (.string a0_6) := (blk_cell BK265.out 6).trans rfl
                  have hcz17_7 : w3.cell? ⟨gb265, 7, none⟩ = some (.slice A0_7 l0_7.length c0_7) := (blk_cell BK265.out 7).trans rfl
                  have hfz17_0 := blk_frozen BK265.out 0
                  have hfz17_1 := blk_frozen BK265.out 1
                  have hfz17_2 := blk_frozen BK265.out 2
                  have hfz17_3 := blk_frozen BK265.out 3
                  have hfz17_4 := blk_frozen BK265.out 4
                  have hfz17_5 := blk_frozen BK265.out 5
                  have hfz17_6 := blk_frozen BK265.out 6
                  have hfz17_7 := blk_frozen BK265.out 7
                  go_wp2
                  go_meet
                  case rel => exact ⟨_, (true), (by first | rfl | (simp; done) | (simp [*]; done)), H', ⟨by first | omega | exact Nat.le_refl _⟩, ⟨by (with_reducible repeat (first | refine blk_drewN ?_ _ | refine blk_drew ?_ | refine blk_alloc ?_ _)); exact BK265.out⟩, ⟨by repeat (first | (with_reducible first | exact HB.out | apply below_alloc | apply pw_below_drewN | apply below_drew1 | refine below_set ?_ GE265.out) | exact HB.out)⟩⟩
                · rw [if_neg c16] at H
                  have c16b0 : decide (a0_5 < (-1099511627776)) = false := decide_eq_false c16
                  clear c16
                  have H' := Aside0.mk H
                  clear H
                  have hcz18_0 : w3.cell? ⟨gb265, 0, none⟩ = some (.string a0_0) := (blk_cell BK265.out 0).trans rfl
                  have hcz18_1 : w3.cell? ⟨gb265, 1, none⟩ = some (.int .i64 a0_1) := (blk_cell BK265.out 1).trans rfl
                  have hcz18_2 : w3.cell? ⟨gb265, 2, none⟩ = some (.int .i64 a0_2) := (blk_cell BK265.out 2).trans rfl
                  have hcz18_3 : w3.cell? ⟨gb265, 3, none⟩ = some (.int .i64 a0_3) := (blk_cell BK265.out 3).trans rfl
                  have hcz18_4 : w3.cell? ⟨gb265, 4, none⟩ = some (.int .i64 a0_4) := (blk_cell BK265.out 4).trans rfl
                  have hcz18_5 : w3.cell? ⟨gb265, 5, none⟩ = some (.int .i64 a0_5) := (blk_cell BK265.out 5).trans rfl
                  have hcz18_6 : w3.cell? ⟨gb265, 6, none⟩ = some (.string a0_6) := (blk_cell BK265.out 6).trans rfl
                  have hcz18_7 : w3.cell? ⟨gb265, 7, none⟩ = some (.slice A0_7 l0_7.length c0_7) := (blk_cell BK265.out 7).trans rfl
                  have hfz18_0 := blk_frozen BK265.out 0
                  have hfz18_1 := blk_frozen BK265.out 1
                  have hfz18_2 := blk_frozen BK265.out 2
                  have hfz18_3 := blk_frozen BK265.out 3
                  have hfz18_4 := blk_frozen BK265.out 4
                  have hfz18_5 := blk_frozen BK265.out 5
                  have hfz18_6 := blk_frozen BK265.out 6
                  have hfz18_7 := blk_frozen BK265.out 7
                  go_wp2
                  go_meet
                  case rel => exact ⟨_, (decide (a0_5 > 1099511627776)), (by first | rfl | (simp; done) | (simp [*]; done)), H', ⟨by first | omega | exact Nat.le_refl _⟩, ⟨by (with_reducible repeat (first | refine blk_drewN ?_ _ | refine blk_drew ?_ | refine blk_alloc ?_ _)); exact BK265.out⟩, ⟨by repeat (first | (with_reducible first | exact HB.out | apply below_alloc | apply pw_below_drewN | apply below_drew1 | refine below_set ?_ GE265.out) | exact HB.out)⟩⟩
  case rest =>
    clear HC2
    try clear c1
    try clear p2
    try clear c3
    try clear c4
    try clear c4b0
    try clear c6
    try clear c6b0
    try clear c8
    try clear c8b0
    try clear c10
    try clear c10b0
    try clear c12
    try clear c12b0
    try clear c14
    try clear c14b0
    try clear c16
    try clear c16b0
    try clear hcz11_0
    try clear hcz11_1
    try clear hcz11_2
    try clear hcz11_3
    try clear hcz11_4
    try clear hcz11_5
    try clear hcz11_6
    try clear hcz11_7
    try clear hcz13_0
    try clear hcz13_1
    try clear hcz13_2
    try clear hcz13_3
    try clear hcz13_4
    try clear hcz13_5
    try clear hcz13_6
    try clear hcz13_7
    try clear hcz15_0
    try clear hcz15_1
    try clear hcz15_2
    try clear hcz15_3
    try clear hcz15_4
    try clear hcz15_5
    try clear hcz15_6
    try clear hcz15_7
    try clear hcz17_0
    try clear hcz17_1
    try clear hcz17_2
    try clear hcz17_3
    try clear hcz17_4
    try clear hcz17_5
    try clear hcz17_6
    try clear hcz17_7
    try clear hcz18_0
    try clear hcz18_1
    try clear hcz18_2
    try clear hcz18_3
    try clear hcz18_4
    try clear hcz18_5
    try clear hcz18_6
    try clear hcz18_7
    try clear hcz5_0
    try clear hcz5_1
    try clear hcz5_2
    try clear hcz5_3
    try clear hcz5_4
    try clear hcz5_5
    try clear hcz5_6
    try clear hcz5_7
    try clear hcz7_0
    try clear hcz7_1
    try clear hcz7_2
    try clear hcz7_3
    try clear hcz7_4
    try clear hcz7_5
    try clear hcz7_6
    try clear hcz7_7
    try clear hcz9_0
    try clear hcz9_1
    try clear hcz9_2
    try clear hcz9_3
    try clear hcz9_4
    try clear hcz9_5
    try clear hcz9_6
    try clear hcz9_7
    try clear hfz11_0
    try clear hfz11_1
    try clear hfz11_2
    try clear hfz11_3
    try clear hfz11_4
    try clear hfz11_5
    try clear hfz11_6
    try clear hfz11_7
    try clear hfz13_0
    try clear hfz13_1
    try clear hfz13_2
    try clear hfz13_3
    try clear hfz13_4
    try clear hfz13_5
    try clear hfz13_6
    try clear hfz13_7
    try clear hfz15_0
    try clear hfz15_1
    try clear hfz15_2
    try clear hfz15_3
    try clear hfz15_4
    try clear hfz15_5
    try clear hfz15_6
    try clear hfz15_7
    try clear hfz17_0
    try clear hfz17_1
    try clear hfz17_2
    try clear hfz17_3
    try clear hfz17_4
    try clear hfz17_5
    try clear hfz17_6
    try clear hfz17_7
    try clear hfz18_0
    try clear hfz18_1
    try clear hfz18_2
    try clear hfz18_3
    try clear hfz18_4
    try clear hfz18_5
    try clear hfz18_6
    try clear hfz18_7
    try clear hfz5_0
    try clear hfz5_1
    try clear hfz5_2
    try clear hfz5_3
    try clear hfz5_4
    try clear hfz5_5
    try clear hfz5_6
    try clear hfz5_7
    try clear hfz7_0
    try clear hfz7_1
    try clear hfz7_2
    try clear hfz7_3
    try clear hfz7_4
    try clear hfz7_5
    try clear hfz7_6
    try clear hfz7_7
    try clear hfz9_0
    try clear hfz9_1
    try clear hfz9_2
    try clear hfz9_3
    try clear hfz9_4
    try clear hfz9_5
    try clear hfz9_6
    try clear hfz9_7
    obtain ⟨kq, x40_1, rfl, HA, HJ1, BK265, HB⟩ := hcut
    cases kq with
    | zero => exact absurd HA.out (by simp [amphoraref09_fields.j0])
    | succ kj1 =>
      have H := HA.out
      clear HA
      simp only [amphoraref09_fields.j0] at H
      by_cases c19 : x40_1 = true
      · subst c19
        have H1 : (some false) = some r := by rw [if_pos rfl] at H; exact H
        clear H
        have H := H1
        clear H1
        obtain rfl := Option.some.inj H
        go_wp2
        go_ret
        exact ⟨by first | rfl | (simp [errW_none, errW_some] <;> rfl) | (simp [*, errW_none, errW_some] <;> rfl), by repeat (first | (with_reducible first | exact HB.out | apply below_alloc | apply pw_below_drewN | apply below_drew1 | refine below_set ?_ GE265.out) | exact HB.out)⟩
      · replace c19 := Bool.eq_false_iff.mpr c19
        subst c19
        have H1 : (if a0_1 = 2 then (if a0_6.toList = ([] : List UInt8) then (some (decide ((l0_7.length : Int) ≤ 65536))) else (some false)) else (if (l0_7.length : Int) > 0 then (some false) else (if a0_1 = 1 then (some (a0_6.toList == ([] : List UInt8))) else (if a0_1 = 3 then ((amphoraref08_Text.f kj1 a0_6 400).bind fun t266 => (some t266)) else (if a0_1 = 4 then ((amphoraref08_Good.f kj1 a0_6).bind fun t267 => (if t267 = true then (if a0_2 = 0 then (if a0_3 = 0 then (if a0_4 = 0 then (some (a0_5 == 0)) else (some false)) else (some false)) else (some false)) else (some false))) else (some false)))))) = some r := by rw [if_neg (show ¬ (false = true) by decide)] at H; exact H
        clear H
        have H := H1
        clear H1
        by_cases c20 : a0_1 = 2
        · rw [if_pos c20] at H
          have c20b0 : (a0_1 == 2) = true := beq_iff_eq.mpr c20
          have c20b1 : (a0_1 != 2) = false := bne_eq_false_iff_eq.mpr c20
          clear c20
          by_cases c21 : a0_6.toList = ([] : List UInt8)
          · rw [if_pos c21] at H
            have c21b0 : (a0_6.toList == ([] : List UInt8)) = true := beq_iff_eq.mpr c21
            have c21b1 : (a0_6.toList != ([] : List UInt8)) = false := bne_eq_false_iff_eq.mpr c21
            have c21b2 : a0_6.toList.isEmpty = true := List.isEmpty_iff.2 c21
            clear c21
            (try rw [c21b2])
            (try simp only [Bool.not_true, Bool.not_false])
            obtain rfl := Option.some.inj H
            have hcz22_0 : wc.cell? ⟨gb265, 0, none⟩ = some (.string a0_0) := (blk_cell BK265.out 0).trans rfl
            have hcz22_1 : wc.cell? ⟨gb265, 1, none⟩ = some (.int .i64 a0_1) := (blk_cell BK265.out 1).trans rfl
            have hcz22_2 : wc.cell? ⟨gb265, 2, none⟩ = some (.int .i64 a0_2) := (blk_cell BK265.out 2).trans rfl
            have hcz22_3 : wc.cell? ⟨gb265, 3, none⟩ = some (.int .i64 a0_3) := (blk_cell BK265.out 3).trans rfl
            have hcz22_4 : wc.cell? ⟨gb265, 4, none⟩ = some (.int .i64 a0_4) := (blk_cell BK265.out 4).trans rfl
            have hcz22_5 : wc.cell? ⟨gb265, 5, none⟩ = some (.int .i64 a0_5) := (blk_cell BK265.out 5).trans rfl
            have hcz22_6 : wc.cell? ⟨gb265, 6, none⟩ = some (.string a0_6) := (blk_cell BK265.out 6).trans rfl
            have hcz22_7 : wc.cell? ⟨gb265, 7, none⟩ = some (.slice A0_7 l0_7.length c0_7) := (blk_cell BK265.out 7).trans rfl
            have hfz22_0 := blk_frozen BK265.out 0
            have hfz22_1 := blk_frozen BK265.out 1
            have hfz22_2 := blk_frozen BK265.out 2
            have hfz22_3 := blk_frozen BK265.out 3
            have hfz22_4 := blk_frozen BK265.out 4
            have hfz22_5 := blk_frozen BK265.out 5
            have hfz22_6 := blk_frozen BK265.out 6
            have hfz22_7 := blk_frozen BK265.out 7
            go_wp2
            go_ret
            exact ⟨by first | rfl | (simp [errW_none, errW_some] <;> rfl) | (simp [*, errW_none, errW_some] <;> rfl), by repeat (first | (with_reducible first | exact HB.out | apply below_alloc | apply pw_below_drewN | apply below_drew1 | refine below_set ?_ GE265.out) | exact HB.out)⟩
          · rw [if_neg c21] at H
            have c21b0 : (a0_6.toList == ([] : List UInt8)) = false := beq_eq_false_iff_ne.mpr c21
            have c21b1 : (a0_6.toList != ([] : List UInt8)) = true := bne_iff_ne.mpr c21
            have c21b2 : a0_6.toList.isEmpty = false := Bool.eq_false_iff.2 (fun h_ => c21 (List.isEmpty_iff.1 h_))
            (try rw [c21b2])
            (try simp only [Bool.not_true, Bool.not_false])
            obtain rfl := Option.some.inj H
            have hcz23_0 : wc.cell? ⟨gb265, 0, none⟩ = some (.string a0_0) := (blk_cell BK265.out 0).trans rfl
            have hcz23_1 : wc.cell? ⟨gb265, 1, none⟩ = some (.int .i64 a0_1) := (blk_cell BK265.out 1).trans rfl
            have hcz23_2 : wc.cell? ⟨gb265, 2, none⟩ = some (.int .i64 a0_2) := (blk_cell BK265.out 2).trans rfl
            have hcz23_3 : wc.cell? ⟨gb265, 3, none⟩ = some (.int .i64 a0_3) := (blk_cell BK265.out 3).trans rfl
            have hcz23_4 : wc.cell? ⟨gb265, 4, none⟩ = some (.int .i64 a0_4) := (blk_cell BK265.out 4).trans rfl
            have hcz23_5 : wc.cell? ⟨gb265, 5, none⟩ = some (.int .i64 a0_5) := (blk_cell BK265.out 5).trans rfl
            have hcz23_6 : wc.cell? ⟨gb265, 6, none⟩ = some (.string a0_6) := (blk_cell BK265.out 6).trans rfl
            have hcz23_7 : wc.cell? ⟨gb265, 7, none⟩ = some (.slice A0_7 l0_7.length c0_7) := (blk_cell BK265.out 7).trans rfl
            have hfz23_0 := blk_frozen BK265.out 0
            have hfz23_1 := blk_frozen BK265.out 1
            have hfz23_2 := blk_frozen BK265.out 2
            have hfz23_3 := blk_frozen BK265.out 3
            have hfz23_4 := blk_frozen BK265.out 4
            have hfz23_5 := blk_frozen BK265.out 5
            have hfz23_6 := blk_frozen BK265.out 6
            have hfz23_7 := blk_frozen BK265.out 7
            go_wp2
            go_ret
            exact ⟨by first | rfl | (simp [errW_none, errW_some] <;> rfl) | (simp [*, errW_none, errW_some] <;> rfl), by repeat (first | (with_reducible first | exact HB.out | apply below_alloc | apply pw_below_drewN | apply below_drew1 | refine below_set ?_ GE265.out) | exact HB.out)⟩
        · rw [if_neg c20] at H
          have c20b0 : (a0_1 == 2) = false := beq_eq_false_iff_ne.mpr c20
          have c20b1 : (a0_1 != 2) = true := bne_iff_ne.mpr c20
          by_cases c24 : (l0_7.length : Int) > 0
          · rw [if_pos c24] at H
            have c24b0 : decide (0 < (l0_7.length : Int)) = true := decide_eq_true c24
            have c24b1 : decide (0 < l0_7.length) = true := decide_eq_true (by omega)
            clear c24
            obtain rfl := Option.some.inj H
            have hcz25_0 : wc.cell? ⟨gb265, 0, none⟩ = some (.string a0_0) := (blk_cell BK265.out 0).trans rfl
            have hcz25_1 : wc.cell? ⟨gb265, 1, none⟩ = some (.int .i64 a0_1) := (blk_cell BK265.out 1).trans rfl
            have hcz25_2 : wc.cell? ⟨gb265, 2, none⟩ = some (.int .i64 a0_2) := (blk_cell BK265.out 2).trans rfl
            have hcz25_3 : wc.cell? ⟨gb265, 3, none⟩ = some (.int .i64 a0_3) := (blk_cell BK265.out 3).trans rfl
            have hcz25_4 : wc.cell? ⟨gb265, 4, none⟩ = some (.int .i64 a0_4) := (blk_cell BK265.out 4).trans rfl
            have hcz25_5 : wc.cell? ⟨gb265, 5, none⟩ = some (.int .i64 a0_5) := (blk_cell BK265.out 5).trans rfl
            have hcz25_6 : wc.cell? ⟨gb265, 6, none⟩ = some (.string a0_6) := (blk_cell BK265.out 6).trans rfl
            have hcz25_7 : wc.cell? ⟨gb265, 7, none⟩ = some (.slice A0_7 l0_7.length c0_7) := (blk_cell BK265.out 7).trans rfl
            have hfz25_0 := blk_frozen BK265.out 0
            have hfz25_1 := blk_frozen BK265.out 1
            have hfz25_2 := blk_frozen BK265.out 2
            have hfz25_3 := blk_frozen BK265.out 3
            have hfz25_4 := blk_frozen BK265.out 4
            have hfz25_5 := blk_frozen BK265.out 5
            have hfz25_6 := blk_frozen BK265.out 6
            have hfz25_7 := blk_frozen BK265.out 7
            go_wp2
            go_ret
            exact ⟨by first | rfl | (simp [errW_none, errW_some] <;> rfl) | (simp [*, errW_none, errW_some] <;> rfl), by repeat (first | (with_reducible first | exact HB.out | apply below_alloc | apply pw_below_drewN | apply below_drew1 | refine below_set ?_ GE265.out) | exact HB.out)⟩
          · rw [if_neg c24] at H
            have c24b0 : decide (0 < (l0_7.length : Int)) = false := decide_eq_false c24
            have c24b1 : decide (0 < l0_7.length) = false := decide_eq_false (by omega)
            clear c24
            by_cases c26 : a0_1 = 1
            · rw [if_pos c26] at H
              have c26b0 : (a0_1 == 1) = true := beq_iff_eq.mpr c26
              have c26b1 : (a0_1 != 1) = false := bne_eq_false_iff_eq.mpr c26
              clear c26
              obtain rfl := Option.some.inj H
              have hcz27_0 : wc.cell? ⟨gb265, 0, none⟩ = some (.string a0_0) := (blk_cell BK265.out 0).trans rfl
              have hcz27_1 : wc.cell? ⟨gb265, 1, none⟩ = some (.int .i64 a0_1) := (blk_cell BK265.out 1).trans rfl
              have hcz27_2 : wc.cell? ⟨gb265, 2, none⟩ = some (.int .i64 a0_2) := (blk_cell BK265.out 2).trans rfl
              have hcz27_3 : wc.cell? ⟨gb265, 3, none⟩ = some (.int .i64 a0_3) := (blk_cell BK265.out 3).trans rfl
              have hcz27_4 : wc.cell? ⟨gb265, 4, none⟩ = some (.int .i64 a0_4) := (blk_cell BK265.out 4).trans rfl
              have hcz27_5 : wc.cell? ⟨gb265, 5, none⟩ = some (.int .i64 a0_5) := (blk_cell BK265.out 5).trans rfl
              have hcz27_6 : wc.cell? ⟨gb265, 6, none⟩ = some (.string a0_6) := (blk_cell BK265.out 6).trans rfl
              have hcz27_7 : wc.cell? ⟨gb265, 7, none⟩ = some (.slice A0_7 l0_7.length c0_7) := (blk_cell BK265.out 7).trans rfl
              have hfz27_0 := blk_frozen BK265.out 0
              have hfz27_1 := blk_frozen BK265.out 1
              have hfz27_2 := blk_frozen BK265.out 2
              have hfz27_3 := blk_frozen BK265.out 3
              have hfz27_4 := blk_frozen BK265.out 4
              have hfz27_5 := blk_frozen BK265.out 5
              have hfz27_6 := blk_frozen BK265.out 6
              have hfz27_7 := blk_frozen BK265.out 7
              go_wp2
              go_ret
              exact ⟨by first | rfl | (simp [errW_none, errW_some] <;> rfl) | (simp [*, errW_none, errW_some] <;> rfl), by repeat (first | (with_reducible first | exact HB.out | apply below_alloc | apply pw_below_drewN | apply below_drew1 | refine below_set ?_ GE265.out) | exact HB.out)⟩
            · rw [if_neg c26] at H
              have c26b0 : (a0_1 == 1) = false := beq_eq_false_iff_ne.mpr c26
              have c26b1 : (a0_1 != 1) = true := bne_iff_ne.mpr c26
              by_cases c28 : a0_1 = 3
              · rw [if_pos c28] at H
                have c28b0 : (a0_1 == 3) = true := beq_iff_eq.mpr c28
                have c28b1 : (a0_1 != 3) = false := bne_eq_false_iff_eq.mpr c28
                clear c28
                replace H := Option.bind_eq_some_iff.mp H
                obtain ⟨t266, A290, H⟩ := H
                replace H : (some t266) = some r := H
                have A29 := Aside0.mk A290
                clear A290
                obtain rfl := Option.some.inj H
                have hcz30_0 : wc.cell? ⟨gb265, 0, none⟩ = some (.string a0_0) := (blk_cell BK265.out 0).trans rfl
                have hcz30_1 : wc.cell? ⟨gb265, 1, none⟩ = some (.int .i64 a0_1) := (blk_cell BK265.out 1).trans rfl
                have hcz30_2 : wc.cell? ⟨gb265, 2, none⟩ = some (.int .i64 a0_2) := (blk_cell BK265.out 2).trans rfl
                have hcz30_3 : wc.cell? ⟨gb265, 3, none⟩ = some (.int .i64 a0_3) := (blk_cell BK265.out 3).trans rfl
                have hcz30_4 : wc.cell? ⟨gb265, 4, none⟩ = some (.int .i64 a0_4) := (blk_cell BK265.out 4).trans rfl
                have hcz30_5 : wc.cell? ⟨gb265, 5, none⟩ = some (.int .i64 a0_5) := (blk_cell BK265.out 5).trans rfl
                have hcz30_6 : wc.cell? ⟨gb265, 6, none⟩ = some (.string a0_6) := (blk_cell BK265.out 6).trans rfl
                have hcz30_7 : wc.cell? ⟨gb265, 7, none⟩ = some (.slice A0_7 l0_7.length c0_7) := (blk_cell BK265.out 7).trans rfl
                have hfz30_0 := blk_frozen BK265.out 0
                have hfz30_1 := blk_frozen BK265.out 1
                have hfz30_2 := blk_frozen BK265.out 2
                have hfz30_3 := blk_frozen BK265.out 3
                have hfz30_4 := blk_frozen BK265.out 4
                have hfz30_5 := blk_frozen BK265.out 5
                have hfz30_6 := blk_frozen BK265.out 6
                have hfz30_7 := blk_frozen BK265.out 7
                go_wp2_with (first | ((with_reducible refine gate_callee (f := 55) rfl ?_); refine goesL_ (some 68) rfl rfl Tryz.func55 (by kernel_rfl) rfl #[.string a0_6, .int .i64 400] rfl (by (try simp only [List.map_toArray, List.map_cons, List.map_nil]); first | done | rfl | (simp only [List.length_drop, List.length_take]; rfl)) ?_; (with_reducible refine (amphoraref08_Text.calls kj1 a0_6 400 t266 _ ?side1 A29.out).mono ?_); (case side1 => first | exact HGL.out | exact Gl.drewN HGL.out _ | exact Gl.of HGL.out (by repeat (first | (with_reducible first | exact HB.out | apply below_alloc | apply pw_below_drewN | apply below_drew1 | refine below_set ?_ GE265.out) | exact HB.out))); rintro e w' ⟨rfl, ⟨nd, rfl⟩⟩; refine ⟨_, rfl, ?_⟩))
                go_ret
                exact ⟨by first | rfl | (simp [errW_none, errW_some] <;> rfl) | (simp [*, errW_none, errW_some] <;> rfl), by repeat (first | (with_reducible first | exact HB.out | apply below_alloc | apply pw_below_drewN | apply below_drew1 | refine below_set ?_ GE265.out) | exact HB.out)⟩
              · rw [if_neg c28] at H
                have c28b0 : (a0_1 == 3) = false := beq_eq_false_iff_ne.mpr c28
                have c28b1 : (a0_1 != 3) = true := bne_iff_ne.mpr c28
                by_cases c31 : a0_1 = 4
                · rw [if_pos c31] at H
                  have c31b0 : (a0_1 == 4) = true := beq_iff_eq.mpr c31
                  have c31b1 : (a0_1 != 4) = false := bne_eq_false_iff_eq.mpr c31
                  clear c31
                  replace H := Option.bind_eq_some_iff.mp H
                  obtain ⟨t267, A320, H⟩ := H
                  replace H : (if t267 = true then (if a0_2 = 0 then (if a0_3 = 0 then (if a0_4 = 0 then (some (a0_5 == 0)) else (some false)) else (some false)) else (some false)) else (some false)) = some r := H
                  have A32 := Aside0.mk A320
                  clear A320
                  by_cases c33 : t267 = true
                  · subst c33
                    have H1 : (if a0_2 = 0 then (if a0_3 = 0 then (if a0_4 = 0 then (some (a0_5 == 0)) else (some false)) else (some false)) else (some false)) = some r := by rw [if_pos rfl] at H; exact H
                    clear H
                    have H := H1
                    clear H1
                    by_cases c34 : a0_2 = 0
                    · rw [if_pos c34] at H
                      have c34b0 : (a0_2 == 0) = true := beq_iff_eq.mpr c34
                      have c34b1 : (a0_2 != 0) = false := bne_eq_false_iff_eq.mpr c34
                      clear c34
                      by_cases c35 : a0_3 = 0
                      · rw [if_pos c35] at H
                        have c35b0 : (a0_3 == 0) = true := beq_iff_eq.mpr c35
                        have c35b1 : (a0_3 != 0) = false := bne_eq_false_iff_eq.mpr c35
                        clear c35
                        by_cases c36 : a0_4 = 0
                        · rw [if_pos c36] at H
                          have c36b0 : (a0_4 == 0) = true := beq_iff_eq.mpr c36
                          have c36b1 : (a0_4 != 0) = false := bne_eq_false_iff_eq.mpr c36
                          clear c36
                          obtain rfl := Option.some.inj H
                          have hcz37_0 : wc.cell? ⟨gb265, 0, none⟩ = some (.string a0_0) := (blk_cell BK265.out 0).trans rfl
                          have hcz37_1 : wc.cell? ⟨gb265, 1, none⟩ = some (.int .i64 a0_1) := (blk_cell BK265.out 1).trans rfl
                          have hcz37_2 : wc.cell? ⟨gb265, 2, none⟩ = some (.int .i64 a0_2) := (blk_cell BK265.out 2).trans rfl
                          have hcz37_3 : wc.cell? ⟨gb265, 3, none⟩ = some (.int .i64 a0_3) := (blk_cell BK265.out 3).trans rfl
                          have hcz37_4 : wc.cell? ⟨gb265, 4, none⟩ = some (.int .i64 a0_4) := (blk_cell BK265.out 4).trans rfl
                          have hcz37_5 : wc.cell? ⟨gb265, 5, none⟩ = some (.int .i64 a0_5) := (blk_cell BK265.out 5).trans rfl
                          have hcz37_6 : wc.cell? ⟨gb265, 6, none⟩ = some (.string a0_6) := (blk_cell BK265.out 6).trans rfl
                          have hcz37_7 : wc.cell? ⟨gb265, 7, none⟩ = some (.slice A0_7 l0_7.length c0_7) := (blk_cell BK265.out 7).trans rfl
                          have hfz37_0 := blk_frozen BK265.out 0
                          have hfz37_1 := blk_frozen BK265.out 1
                          have hfz37_2 := blk_frozen BK265.out 2
                          have hfz37_3 := blk_frozen BK265.out 3
                          have hfz37_4 := blk_frozen BK265.out 4
                          have hfz37_5 := blk_frozen BK265.out 5
                          have hfz37_6 := blk_frozen BK265.out 6
                          have hfz37_7 := blk_frozen BK265.out 7
                          go_wp2_with (first | ((with_reducible refine gate_callee (f := 38) rfl ?_); refine goesL_ (some 73) rfl rfl Tryz.func38 (by kernel_rfl) rfl #[.string a0_6] rfl (by (try simp only [List.map_toArray, List.map_cons, List.map_nil]); first | done | rfl | (simp only [List.length_drop, List.length_take]; rfl)) ?_; (with_reducible refine (amphoraref08_Good.calls kj1 a0_6 true _ ?side1 A32.out).mono ?_); (case side1 => first | exact HGL.out | exact Gl.drewN HGL.out _ | exact Gl.of HGL.out (by repeat (first | (with_reducible first | exact HB.out | apply below_alloc | apply pw_below_drewN | apply below_drew1 | refine below_set ?_ GE265.out) | exact HB.out))); rintro e w38 ⟨rfl, hb⟩; refine ⟨_, rfl, ?_⟩; have n0_ := Aside0.mk (blk_below (g := gb265) (o := .cells #[.string a0_0, .int .i64 a0_1, .int .i64 a0_2, .int .i64 a0_3, .int .i64 a0_4, .int .i64 a0_5, .string a0_6, .slice A0_7 l0_7.length c0_7] 28 (0, 0)) (by (with_reducible repeat (first | refine blk_drewN ?_ _ | refine blk_drew ?_ | refine blk_alloc ?_ _)); exact BK265.out) hb); have n1_ := Aside0.mk (below_step (by repeat (first | (with_reducible first | exact HB.out | apply below_alloc | apply pw_below_drewN | apply below_drew1 | refine below_set ?_ GE265.out) | exact HB.out)) hb); clear BK265; clear HB; have BK265 := n0_; have HB := n1_; clear n0_ n1_; (try clear hb); (try clear hb2); (try clear hk); (try clear hi); have hcz39_0 : w38.cell? ⟨gb265, 0, none⟩ = some (.string a0_0) := (blk_cell BK265.out 0).trans rfl; have hcz39_1 : w38.cell? ⟨gb265, 1, none⟩ = some (.int .i64 a0_1) := (blk_cell BK265.out 1).trans rfl; have hcz39_2 : w38.cell? ⟨gb265, 2, none⟩ = some (.int .i64 a0_2) := (blk_cell BK265.out 2).trans rfl; have hcz39_3 : w38.cell? ⟨gb265, 3, none⟩ = some (.int .i64 a0_3) := (blk_cell BK265.out 3).trans rfl; have hcz39_4 : w38.cell? ⟨gb265, 4, none⟩ = some (.int .i64 a0_4) := (blk_cell BK265.out 4).trans rfl; have hcz39_5 : w38.cell? ⟨gb265, 5, none⟩ = some (.int .i64 a0_5) := (blk_cell BK265.out 5).trans rfl; have hcz39_6 : w38.cell? ⟨gb265, 6, none⟩ = some (.string a0_6) := (blk_cell BK265.out 6).trans rfl; have hcz39_7 : w38.cell? ⟨gb265, 7, none⟩ = some (.slice A0_7 l0_7.length c0_7) := (blk_cell BK265.out 7).trans rfl; have hfz39_0 := blk_frozen BK265.out 0; have hfz39_1 := blk_frozen BK265.out 1; have hfz39_2 := blk_frozen BK265.out 2; have hfz39_3 := blk_frozen BK265.out 3; have hfz39_4 := blk_frozen BK265.out 4; have hfz39_5 := blk_frozen BK265.out 5; have hfz39_6 := blk_frozen BK265.out 6; have hfz39_7 := blk_frozen BK265.out 7))
                          go_ret
                          exact ⟨by first | rfl | (simp [errW_none, errW_some] <;> rfl) | (simp [*, errW_none, errW_some] <;> rfl), by repeat (first | (with_reducible first | exact HB.out | apply below_alloc | apply pw_below_drewN | apply below_drew1 | refine below_set ?_ GE265.out) | exact HB.out)⟩
                        · rw [if_neg c36] at H
                          have c36b0 : (a0_4 == 0) = false := beq_eq_false_iff_ne.mpr c36
                          have c36b1 : (a0_4 != 0) = true := bne_iff_ne.mpr c36
                          obtain rfl := Option.some.inj H
                          have hcz40_0 : wc.cell? ⟨gb265, 0, none⟩ = some (.string a0_0) := (blk_cell BK265.out 0).trans rfl
                          have hcz40_1 : wc.cell? ⟨gb265, 1, none⟩ = some (.int .i64 a0_1) := (blk_cell BK265.out 1).trans rfl
                          have hcz40_2 : wc.cell? ⟨gb265, 2, none⟩ = some (.int .i64 a0_2) := (blk_cell BK265.out 2).trans rfl
                          have hcz40_3 : wc.cell? ⟨gb265, 3, none⟩ = some (.int .i64 a0_3) := (blk_cell BK265.out 3).trans rfl
                          have hcz40_4 : wc.cell? ⟨gb265, 4, none⟩ = some (.int .i64 a0_4) := (blk_cell BK265.out 4).trans rfl
                          have hcz40_5 : wc.cell? ⟨gb265, 5, none⟩ = some (.int .i64 a0_5) := (blk_cell BK265.out 5).trans rfl
                          have hcz40_6 : wc.cell? ⟨gb265, 6, none⟩ = some (.string a0_6) := (blk_cell BK265.out 6).trans rfl
                          have hcz40_7 : wc.cell? ⟨gb265, 7, none⟩ = some (.slice A0_7 l0_7.length c0_7) := (blk_cell BK265.out 7).trans rfl
                          have hfz40_0 := blk_frozen BK265.out 0
                          have hfz40_1 := blk_frozen BK265.out 1
                          have hfz40_2 := blk_frozen BK265.out 2
                          have hfz40_3 := blk_frozen BK265.out 3
                          have hfz40_4 := blk_frozen BK265.out 4
                          have hfz40_5 := blk_frozen BK265.out 5
                          have hfz40_6 := blk_frozen BK265.out 6
                          have hfz40_7 := blk_frozen BK265.out 7
                          go_wp2_with (first | ((with_reducible refine gate_callee (f := 38) rfl ?_); refine goesL_ (some 73) rfl rfl Tryz.func38 (by kernel_rfl) rfl #[.string a0_6] rfl (by (try simp only [List.map_toArray, List.map_cons, List.map_nil]); first | done | rfl | (simp only [List.length_drop, List.length_take]; rfl)) ?_; (with_reducible refine (amphoraref08_Good.calls kj1 a0_6 true _ ?side1 A32.out).mono ?_); (case side1 => first | exact HGL.out | exact Gl.drewN HGL.out _ | exact Gl.of HGL.out (by repeat (first | (with_reducible first | exact HB.out | apply below_alloc | apply pw_below_drewN | apply below_drew1 | refine below_set ?_ GE265.out) | exact HB.out))); rintro e w41 ⟨rfl, hb⟩; refine ⟨_, rfl, ?_⟩; have n0_ := Aside0.mk (blk_below (g := gb265) (o := .cells #[.string a0_0, .int .i64 a0_1, .int .i64 a0_2, .int .i64 a0_3, .int .i64 a0_4, .int .i64 a0_5, .string a0_6, .slice A0_7 l0_7.length c0_7] 28 (0, 0)) (by (with_reducible repeat (first | refine blk_drewN ?_ _ | refine blk_drew ?_ | refine blk_alloc ?_ _)); exact BK265.out) hb); have n1_ := Aside0.mk (below_step (by repeat (first | (with_reducible first | exact HB.out | apply below_alloc | apply pw_below_drewN | apply below_drew1 | refine below_set ?_ GE265.out) | exact HB.out)) hb); clear BK265; clear HB; have BK265 := n0_; have HB := n1_; clear n0_ n1_; (try clear hb); (try clear hb2); (try clear hk); (try clear hi); have hcz42_0 : w41.cell? ⟨gb265, 0, none⟩ = some (.string a0_0) := (blk_cell BK265.out 0).trans rfl; have hcz42_1 : w41.cell? ⟨gb265, 1, none⟩ = some (.int .i64 a0_1) := (blk_cell BK265.out 1).trans rfl; have hcz42_2 : w41.cell? ⟨gb265, 2, none⟩ = some (.int .i64 a0_2) := (blk_cell BK265.out 2).trans rfl; have hcz42_3 : w41.cell? ⟨gb265, 3, none⟩ = some (.int .i64 a0_3) := (blk_cell BK265.out 3).trans rfl; have hcz42_4 : w41.cell? ⟨gb265, 4, none⟩ = some (.int .i64 a0_4) := (blk_cell BK265.out 4).trans rfl; have hcz42_5 : w41.cell? ⟨gb265, 5, none⟩ = some (.int .i64 a0_5) := (blk_cell BK265.out 5).trans rfl; have hcz42_6 : w41.cell? ⟨gb265, 6, none⟩ = some (.string a0_6) := (blk_cell BK265.out 6).trans rfl; have hcz42_7 : w41.cell? ⟨gb265, 7, none⟩ = some (.slice A0_7 l0_7.length c0_7) := (blk_cell BK265.out 7).trans rfl; have hfz42_0 := blk_frozen BK265.out 0; have hfz42_1 := blk_frozen BK265.out 1; have hfz42_2 := blk_frozen BK265.out 2; have hfz42_3 := blk_frozen BK265.out 3; have hfz42_4 := blk_frozen BK265.out 4; have hfz42_5 := blk_frozen BK265.out 5; have hfz42_6 := blk_frozen BK265.out 6; have hfz42_7 := blk_frozen BK265.out 7))
                          go_ret
                          exact ⟨by first | rfl | (simp [errW_none, errW_some] <;> rfl) | (simp [*, errW_none, errW_some] <;> rfl), by repeat (first | (with_reducible first | exact HB.out | apply below_alloc | apply pw_below_drewN | apply below_drew1 | refine below_set ?_ GE265.out) | exact HB.out)⟩
                      · rw [if_neg c35] at H
                        have c35b0 : (a0_3 == 0) = false := beq_eq_false_iff_ne.mpr c35
                        have c35b1 : (a0_3 != 0) = true := bne_iff_ne.mpr c35
                        obtain rfl := Option.some.inj H
                        have hcz43_0 : wc.cell? ⟨gb265, 0, none⟩ = some (.string a0_0) := (blk_cell BK265.out 0).trans rfl
                        have hcz43_1 : wc.cell? ⟨gb265, 1, none⟩ = some (.int .i64 a0_1) := (blk_cell BK265.out 1).trans rfl
                        have hcz43_2 : wc.cell? ⟨gb265, 2, none⟩ = some (.int .i64 a0_2) := (blk_cell BK265.out 2).trans rfl
                        have hcz43_3 : wc.cell? ⟨gb265, 3, none⟩ = some (.int .i64 a0_3) := (blk_cell BK265.out 3).trans rfl
                        have hcz43_4 : wc.cell? ⟨gb265, 4, none⟩ = some (.int .i64 a0_4) := (blk_cell BK265.out 4).trans rfl
                        have hcz43_5 : wc.cell? ⟨gb265, 5, none⟩ = some (.int .i64 a0_5) := (blk_cell BK265.out 5).trans rfl
                        have hcz43_6 : wc.cell? ⟨gb265, 6, none⟩ = some (.string a0_6) := (blk_cell BK265.out 6).trans rfl
                        have hcz43_7 : wc.cell? ⟨gb265, 7, none⟩ = some (.slice A0_7 l0_7.length c0_7) := (blk_cell BK265.out 7).trans rfl
                        have hfz43_0 := blk_frozen BK265.out 0
                        have hfz43_1 := blk_frozen BK265.out 1
                        have hfz43_2 := blk_frozen BK265.out 2
                        have hfz43_3 := blk_frozen BK265.out 3
                        have hfz43_4 := blk_frozen BK265.out 4
                        have hfz43_5 := blk_frozen BK265.out 5
                        have hfz43_6 := blk_frozen BK265.out 6
                        have hfz43_7 := blk_frozen BK265.out 7
                        go_wp2_with (first | ((with_reducible refine gate_callee (f := 38) rfl ?_); refine goesL_ (some 73) rfl rfl Tryz.func38 (by kernel_rfl) rfl #[.string a0_6] rfl (by (try simp only [List.map_toArray, List.map_cons, List.map_nil]); first | done | rfl | (simp only [List.length_drop, List.length_take]; rfl)) ?_; (with_reducible refine (amphoraref08_Good.calls kj1 a0_6 true _ ?side1 A32.out).mono ?_); (case side1 => first | exact HGL.out | exact Gl.drewN HGL.out _ | exact Gl.of HGL.out (by repeat (first | (with_reducible first | exact HB.out | apply below_alloc | apply pw_below_drewN | apply below_drew1 | refine below_set ?_ GE265.out) | exact HB.out))); rintro e w44 ⟨rfl, hb⟩; refine ⟨_, rfl, ?_⟩; have n0_ := Aside0.mk (blk_below (g := gb265) (o := .cells #[.string a0_0, .int .i64 a0_1, .int .i64 a0_2, .int .i64 a0_3, .int .i64 a0_4, .int .i64 a0_5, .string a0_6, .slice A0_7 l0_7.length c0_7] 28 (0, 0)) (by (with_reducible repeat (first | refine blk_drewN ?_ _ | refine blk_drew ?_ | refine blk_alloc ?_ _)); exact BK265.out) hb); have n1_ := Aside0.mk (below_step (by repeat (first | (with_reducible first | exact HB.out | apply below_alloc | apply pw_below_drewN | apply below_drew1 | refine below_set ?_ GE265.out) | exact HB.out)) hb); clear BK265; clear HB; have BK265 := n0_; have HB := n1_; clear n0_ n1_; (try clear hb); (try clear hb2); (try clear hk); (try clear hi); have hcz45_0 : w44.cell? ⟨gb265, 0, none⟩ = some (.string a0_0) := (blk_cell BK265.out 0).trans rfl; have hcz45_1 : w44.cell? ⟨gb265, 1, none⟩ = some (.int .i64 a0_1) := (blk_cell BK265.out 1).trans rfl; have hcz45_2 : w44.cell? ⟨gb265, 2, none⟩ = some (.int .i64 a0_2) := (blk_cell BK265.out 2).trans rfl; have hcz45_3 : w44.cell? ⟨gb265, 3, none⟩ = some (.int .i64 a0_3) := (blk_cell BK265.out 3).trans rfl; have hcz45_4 : w44.cell? ⟨gb265, 4, none⟩ = some (.int .i64 a0_4) := (blk_cell BK265.out 4).trans rfl; have hcz45_5 : w44.cell? ⟨gb265, 5, none⟩ = some (.int .i64 a0_5) := (blk_cell BK265.out 5).trans rfl; have hcz45_6 : w44.cell? ⟨gb265, 6, none⟩ = some (.string a0_6) := (blk_cell BK265.out 6).trans rfl; have hcz45_7 : w44.cell? ⟨gb265, 7, none⟩ = some (.slice A0_7 l0_7.length c0_7) := (blk_cell BK265.out 7).trans rfl; have hfz45_0 := blk_frozen BK265.out 0; have hfz45_1 := blk_frozen BK265.out 1; have hfz45_2 := blk_frozen BK265.out 2; have hfz45_3 := blk_frozen BK265.out 3; have hfz45_4 := blk_frozen BK265.out 4; have hfz45_5 := blk_frozen BK265.out 5; have hfz45_6 := blk_frozen BK265.out 6; have hfz45_7 := blk_frozen BK265.out 7))
                        go_ret
                        exact ⟨by first | rfl | (simp [errW_none, errW_some] <;> rfl) | (simp [*, errW_none, errW_some] <;> rfl), by repeat (first | (with_reducible first | exact HB.out | apply below_alloc | apply pw_below_drewN | apply below_drew1 | refine below_set ?_ GE265.out) | exact HB.out)⟩
                    · rw [if_neg c34] at H
                      have c34b0 : (a0_2 == 0) = false := beq_eq_false_iff_ne.mpr c34
                      have c34b1 : (a0_2 != 0) = true := bne_iff_ne.mpr c34
                      obtain rfl := Option.some.inj H
                      have hcz46_0 : wc.cell? ⟨gb265, 0, none⟩ = some (.string a0_0) := (blk_cell BK265.out 0).trans rfl
                      have hcz46_1 : wc.cell? ⟨gb265, 1, none⟩ = some (.int .i64 a0_1) := (blk_cell BK265.out 1).trans rfl
                      have hcz46_2 : wc.cell? ⟨gb265, 2, none⟩ = some (.int .i64 a0_2) := (blk_cell BK265.out 2).trans rfl
                      have hcz46_3 : wc.cell? ⟨gb265, 3, none⟩ = some (.int .i64 a0_3) := (blk_cell BK265.out 3).trans rfl
                      have hcz46_4 : wc.cell? ⟨gb265, 4, none⟩ = some (.int .i64 a0_4) := (blk_cell BK265.out 4).trans rfl
                      have hcz46_5 : wc.cell? ⟨gb265, 5, none⟩ = some (.int .i64 a0_5) := (blk_cell BK265.out 5).trans rfl
                      have hcz46_6 : wc.cell? ⟨gb265, 6, none⟩ = some (.string a0_6) := (blk_cell BK265.out 6).trans rfl
                      have hcz46_7 : wc.cell? ⟨gb265, 7, none⟩ = some (.slice A0_7 l0_7.length c0_7) := (blk_cell BK265.out 7).trans rfl
                      have hfz46_0 := blk_frozen BK265.out 0
                      have hfz46_1 := blk_frozen BK265.out 1
                      have hfz46_2 := blk_frozen BK265.out 2
                      have hfz46_3 := blk_frozen BK265.out 3
                      have hfz46_4 := blk_frozen BK265.out 4
                      have hfz46_5 := blk_frozen BK265.out 5
                      have hfz46_6 := blk_frozen BK265.out 6
                      have hfz46_7 := blk_frozen BK265.out 7
                      go_wp2_with (first | ((with_reducible refine gate_callee (f := 38) rfl ?_); refine goesL_ (some 73) rfl rfl Tryz.func38 (by kernel_rfl) rfl #[.string a0_6] rfl (by (try simp only [List.map_toArray, List.map_cons, List.map_nil]); first | done | rfl | (simp only [List.length_drop, List.length_take]; rfl)) ?_; (with_reducible refine (amphoraref08_Good.calls kj1 a0_6 true _ ?side1 A32.out).mono ?_); (case side1 => first | exact HGL.out | exact Gl.drewN HGL.out _ | exact Gl.of HGL.out (by repeat (first | (with_reducible first | exact HB.out | apply below_alloc | apply pw_below_drewN | apply below_drew1 | refine below_set ?_ GE265.out) | exact HB.out))); rintro e w47 ⟨rfl, hb⟩; refine ⟨_, rfl, ?_⟩; have n0_ := Aside0.mk (blk_below (g := gb265) (o := .cells #[.string a0_0, .int .i64 a0_1, .int .i64 a0_2, .int .i64 a0_3, .int .i64 a0_4, .int .i64 a0_5, .string a0_6, .slice A0_7 l0_7.length c0_7] 28 (0, 0)) (by (with_reducible repeat (first | refine blk_drewN ?_ _ | refine blk_drew ?_ | refine blk_alloc ?_ _)); exact BK265.out) hb); have n1_ := Aside0.mk (below_step (by repeat (first | (with_reducible first | exact HB.out | apply below_alloc | apply pw_below_drewN | apply below_drew1 | refine below_set ?_ GE265.out) | exact HB.out)) hb); clear BK265; clear HB; have BK265 := n0_; have HB := n1_; clear n0_ n1_; (try clear hb); (try clear hb2); (try clear hk); (try clear hi); have hcz48_0 : w47.cell? ⟨gb265, 0, none⟩ = some (.string a0_0) := (blk_cell BK265.out 0).trans rfl; have hcz48_1 : w47.cell? ⟨gb265, 1, none⟩ = some (.int .i64 a0_1) := (blk_cell BK265.out 1).trans rfl; have hcz48_2 : w47.cell? ⟨gb265, 2, none⟩ = some (.int .i64 a0_2) := (blk_cell BK265.out 2).trans rfl; have hcz48_3 : w47.cell? ⟨gb265, 3, none⟩ = some (.int .i64 a0_3) := (blk_cell BK265.out 3).trans rfl; have hcz48_4 : w47.cell? ⟨gb265, 4, none⟩ = some (.int .i64 a0_4) := (blk_cell BK265.out 4).trans rfl; have hcz48_5 : w47.cell? ⟨gb265, 5, none⟩ = some (.int .i64 a0_5) := (blk_cell BK265.out 5).trans rfl; have hcz48_6 : w47.cell? ⟨gb265, 6, none⟩ = some (.string a0_6) := (blk_cell BK265.out 6).trans rfl; have hcz48_7 : w47.cell? ⟨gb265, 7, none⟩ = some (.slice A0_7 l0_7.length c0_7) := (blk_cell BK265.out 7).trans rfl; have hfz48_0 := blk_frozen BK265.out 0; have hfz48_1 := blk_frozen BK265.out 1; have hfz48_2 := blk_frozen BK265.out 2; have hfz48_3 := blk_frozen BK265.out 3; have hfz48_4 := blk_frozen BK265.out 4; have hfz48_5 := blk_frozen BK265.out 5; have hfz48_6 := blk_frozen BK265.out 6; have hfz48_7 := blk_frozen BK265.out 7))
                      go_ret
                      exact ⟨by first | rfl | (simp [errW_none, errW_some] <;> rfl) | (simp [*, errW_none, errW_some] <;> rfl), by repeat (first | (with_reducible first | exact HB.out | apply below_alloc | apply pw_below_drewN | apply below_drew1 | refine below_set ?_ GE265.out) | exact HB.out)⟩
                  · replace c33 := Bool.eq_false_iff.mpr c33
                    subst c33
                    have H1 : (some false) = some r := by rw [if_neg (show ¬ (false = true) by decide)] at H; exact H
                    clear H
                    have H := H1
                    clear H1
                    obtain rfl := Option.some.inj H
                    have hcz49_0 : wc.cell? ⟨gb265, 0, none⟩ = some (.string a0_0) := (blk_cell BK265.out 0).trans rfl
                    have hcz49_1 : wc.cell? ⟨gb265, 1, none⟩ = some (.int .i64 a0_1) := (blk_cell BK265.out 1).trans rfl
                    have hcz49_2 : wc.cell? ⟨gb265, 2, none⟩ = some (.int .i64 a0_2) := (blk_cell BK265.out 2).trans rfl
                    have hcz49_3 : wc.cell? ⟨gb265, 3, none⟩ = some (.int .i64 a0_3) := (blk_cell BK265.out 3).trans rfl
                    have hcz49_4 : wc.cell? ⟨gb265, 4, none⟩ = some (.int .i64 a0_4) := (blk_cell BK265.out 4).trans rfl
                    have hcz49_5 : wc.cell? ⟨gb265, 5, none⟩ = some (.int .i64 a0_5) := (blk_cell BK265.out 5).trans rfl
                    have hcz49_6 : wc.cell? ⟨gb265, 6, none⟩ = some (.string a0_6) := (blk_cell BK265.out 6).trans rfl
                    have hcz49_7 : wc.cell? ⟨gb265, 7, none⟩ = some (.slice A0_7 l0_7.length c0_7) := (blk_cell BK265.out 7).trans rfl
                    have hfz49_0 := blk_frozen BK265.out 0
                    have hfz49_1 := blk_frozen BK265.out 1
                    have hfz49_2 := blk_frozen BK265.out 2
                    have hfz49_3 := blk_frozen BK265.out 3
                    have hfz49_4 := blk_frozen BK265.out 4
                    have hfz49_5 := blk_frozen BK265.out 5
                    have hfz49_6 := blk_frozen BK265.out 6
                    have hfz49_7 := blk_frozen BK265.out 7
                    go_wp2_with (first | ((with_reducible refine gate_callee (f := 38) rfl ?_); refine goesL_ (some 73) rfl rfl Tryz.func38 (by kernel_rfl) rfl #[.string a0_6] rfl (by (try simp only [List.map_toArray, List.map_cons, List.map_nil]); first | done | rfl | (simp only [List.length_drop, List.length_take]; rfl)) ?_; (with_reducible refine (amphoraref08_Good.calls kj1 a0_6 false _ ?side1 A32.out).mono ?_); (case side1 => first | exact HGL.out | exact Gl.drewN HGL.out _ | exact Gl.of HGL.out (by repeat (first | (with_reducible first | exact HB.out | apply below_alloc | apply pw_below_drewN | apply below_drew1 | refine below_set ?_ GE265.out) | exact HB.out))); rintro e w50 ⟨rfl, hb⟩; refine ⟨_, rfl, ?_⟩; have n0_ := Aside0.mk (blk_below (g := gb265) (o := .cells #[.string a0_0, .int .i64 a0_1, .int .i64 a0_2, .int .i64 a0_3, .int .i64 a0_4, .int .i64 a0_5, .string a0_6, .slice A0_7 l0_7.length c0_7] 28 (0, 0)) (by (with_reducible repeat (first | refine blk_drewN ?_ _ | refine blk_drew ?_ | refine blk_alloc ?_ _)); exact BK265.out) hb); have n1_ := Aside0.mk (below_step (by repeat (first | (with_reducible first | exact HB.out | apply below_alloc | apply pw_below_drewN | apply below_drew1 | refine below_set ?_ GE265.out) | exact HB.out)) hb); clear BK265; clear HB; have BK265 := n0_; have HB := n1_; clear n0_ n1_; (try clear hb); (try clear hb2); (try clear hk); (try clear hi)))
                    go_ret
                    exact ⟨by first | rfl | (simp [errW_none, errW_some] <;> rfl) | (simp [*, errW_none, errW_some] <;> rfl), by repeat (first | (with_reducible first | exact HB.out | apply below_alloc | apply pw_below_drewN | apply below_drew1 | refine below_set ?_ GE265.out) | exact HB.out)⟩
                · rw [if_neg c31] at H
                  have c31b0 : (a0_1 == 4) = false := beq_eq_false_iff_ne.mpr c31
                  have c31b1 : (a0_1 != 4) = true := bne_iff_ne.mpr c31
                  obtain rfl := Option.some.inj H
                  have hcz51_0 : wc.cell? ⟨gb265, 0, none⟩ = some (.string a0_0) := (blk_cell BK265.out 0).trans rfl
                  have hcz51_1 : wc.cell? ⟨gb265, 1, none⟩ = some (.int .i64 a0_1) := (blk_cell BK265.out 1).trans rfl
                  have hcz51_2 : wc.cell? ⟨gb265, 2, none⟩ = some (.int .i64 a0_2) := (blk_cell BK265.out 2).trans rfl
                  have hcz51_3 : wc.cell? ⟨gb265, 3, none⟩ = some (.int .i64 a0_3) := (blk_cell BK265.out 3).trans rfl
                  have hcz51_4 : wc.cell? ⟨gb265, 4, none⟩ = some (.int .i64 a0_4) := (blk_cell BK265.out 4).trans rfl
                  have hcz51_5 : wc.cell? ⟨gb265, 5, none⟩ = some (.int .i64 a0_5) := (blk_cell BK265.out 5).trans rfl
                  have hcz51_6 : wc.cell? ⟨gb265, 6, none⟩ = some (.string a0_6) := (blk_cell BK265.out 6).trans rfl
                  have hcz51_7 : wc.cell? ⟨gb265, 7, none⟩ = some (.slice A0_7 l0_7.length c0_7) := (blk_cell BK265.out 7).trans rfl
                  have hfz51_0 := blk_frozen BK265.out 0
                  have hfz51_1 := blk_frozen BK265.out 1
                  have hfz51_2 := blk_frozen BK265.out 2
                  have hfz51_3 := blk_frozen BK265.out 3
                  have hfz51_4 := blk_frozen BK265.out 4
                  have hfz51_5 := blk_frozen BK265.out 5
                  have hfz51_6 := blk_frozen BK265.out 6
                  have hfz51_7 := blk_frozen BK265.out 7
                  go_wp2
                  go_ret
                  exact ⟨by first | rfl | (simp [errW_none, errW_some] <;> rfl) | (simp [*, errW_none, errW_some] <;> rfl), by repeat (first | (with_reducible first | exact HB.out | apply below_alloc | apply pw_below_drewN | apply below_drew1 | refine below_set ?_ GE265.out) | exact HB.out)⟩

end Go.Proofs.YtfkbmjfhakooiaaGreatDoor.PTree
