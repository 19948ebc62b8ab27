/- Printed for this claim by a copy of the kit's print.py that takes functions walked by our own texts. Conditions: none. -/
import Derived.Test.YtfkbmjfhakooiaaDoorPTreex0
namespace Go.Proofs.YtfkbmjfhakooiaaDoor.PTree
open Go.RowKit Go.Proofs.YtfkbmjfhakooiaaDoorW.PrintWords Go.Proofs.YtfkbmjfhakooiaaDoorW.PrintLast Go.Proofs.YtfkbmjfhakooiaaDoorW.PrintMore
attribute [local go_sem] max2_int min2_int max_two min_two max_three min_three max_four min_four   -- for this text's walks alone
set_option linter.unusedVariables false
set_option linter.unusedSimpArgs false

/-! ### amphoraref09_SameEntry: function 36 -/
def amphoraref09_SameEntry.f (a0_0 : ByteArray) (a0_1 : Int) (a0_2 : Int) (a0_3 : Int) (a0_4 : Int) (a0_5 : Int) (a0_6 : ByteArray) (l0_7 : List Int) (a1_0 : ByteArray) (a1_1 : Int) (a1_2 : Int) (a1_3 : Int) (a1_4 : Int) (a1_5 : Int) (a1_6 : ByteArray) (l1_7 : List Int) : Option (Bool) := if a0_0.toList = a1_0.toList then (if a0_1 = a1_1 then (if a0_2 = a1_2 then (if a0_3 = a1_3 then (if a0_4 = a1_4 then (if a0_5 = a1_5 then (if a0_6.toList = a1_6.toList then (some ((strOfNums l0_7).toList == (strOfNums l1_7).toList)) else (some false)) else (some false)) else (some false)) else (some false)) else (some false)) else (some false)) else (some false)
set_option maxHeartbeats 8000000 in
set_option maxRecDepth 100000 in
theorem amphoraref09_SameEntry.calls (a0_0 : ByteArray) (a0_1 : Int) (a0_2 : Int) (a0_3 : Int) (a0_4 : Int) (a0_5 : Int) (a0_6 : ByteArray) (A0_7 : Option Addr) (c0_7 : Nat) (l0_7 : List Int) (a1_0 : ByteArray) (a1_1 : Int) (a1_2 : Int) (a1_3 : Int) (a1_4 : Int) (a1_5 : Int) (a1_6 : ByteArray) (A1_7 : Option Addr) (c1_7 : Nat) (l1_7 : List Int) (r : Bool) (w : World) (hr0_7 : Kd.C (Kd.int .u8) w A0_7 l0_7.length l0_7) (hc0_7 : l0_7.length ≤ c0_7) (hr1_7 : Kd.C (Kd.int .u8) w A1_7 l1_7.length l1_7) (hc1_7 : l1_7.length ≤ c1_7) (hGl : Gl w) (h : amphoraref09_SameEntry.f a0_0 a0_1 a0_2 a0_3 a0_4 a0_5 a0_6 l0_7 a1_0 a1_1 a1_2 a1_3 a1_4 a1_5 a1_6 l1_7 = some r) :
    Calls Tryd.prog 36 #[.agg #[.string a0_0, .int .i64 a0_1, .int .i64 a0_2, .int .i64 a0_3, .int .i64 a0_4, .int .i64 a0_5, .string a0_6, .slice A0_7 l0_7.length c0_7], .agg #[.string a1_0, .int .i64 a1_1, .int .i64 a1_2, .int .i64 a1_3, .int .i64 a1_4, .int .i64 a1_5, .string a1_6, .slice A1_7 l1_7.length c1_7]] w fun e w' => e = .returned (.bool r) ∧ Below w.heap.size w w' := by
  have hu31 := Tryd.underlying31
  have HR0_7 := Aside0.mk hr0_7
  have HC0_7 := Aside0.mk hc0_7
  clear hr0_7 hc0_7
  have HR1_7 := Aside0.mk hr1_7
  have HC1_7 := Aside0.mk hc1_7
  clear hr1_7 hc1_7
  have HB := Aside0.mk (Below.refl w.heap.size w)
  have HGL := Aside0.mk hGl
  clear hGl
  have H : (if a0_0.toList = a1_0.toList then (if a0_1 = a1_1 then (if a0_2 = a1_2 then (if a0_3 = a1_3 then (if a0_4 = a1_4 then (if a0_5 = a1_5 then (if a0_6.toList = a1_6.toList then (some ((strOfNums l0_7).toList == (strOfNums l1_7).toList)) else (some false)) else (some false)) else (some false)) else (some false)) else (some false)) else (some false)) else (some false)) = some r := h
  clear h
  by_cases c3 : a0_0.toList = a1_0.toList
  · rw [if_pos c3] at H
    have c3b0 : (a0_0.toList == a1_0.toList) = true := beq_iff_eq.mpr c3
    have c3b1 : (a0_0.toList != a1_0.toList) = false := bne_eq_false_iff_eq.mpr c3
    clear c3
    by_cases c4 : a0_1 = a1_1
    · rw [if_pos c4] at H
      have c4b0 : (a0_1 == a1_1) = true := beq_iff_eq.mpr c4
      have c4b1 : (a0_1 != a1_1) = false := bne_eq_false_iff_eq.mpr c4
      clear c4
      by_cases c5 : a0_2 = a1_2
      · rw [if_pos c5] at H
        have c5b0 : (a0_2 == a1_2) = true := beq_iff_eq.mpr c5
        have c5b1 : (a0_2 != a1_2) = false := bne_eq_false_iff_eq.mpr c5
        clear c5
        by_cases c6 : a0_3 = a1_3
        · rw [if_pos c6] at H
          have c6b0 : (a0_3 == a1_3) = true := beq_iff_eq.mpr c6
          have c6b1 : (a0_3 != a1_3) = false := bne_eq_false_iff_eq.mpr c6
          clear c6
          by_cases c7 : a0_4 = a1_4
          · rw [if_pos c7] at H
            have c7b0 : (a0_4 == a1_4) = true := beq_iff_eq.mpr c7
            have c7b1 : (a0_4 != a1_4) = false := bne_eq_false_iff_eq.mpr c7
            clear c7
            by_cases c8 : a0_5 = a1_5
            · rw [if_pos c8] at H
              have c8b0 : (a0_5 == a1_5) = true := beq_iff_eq.mpr c8
              have c8b1 : (a0_5 != a1_5) = false := bne_eq_false_iff_eq.mpr c8
              clear c8
              by_cases c9 : a0_6.toList = a1_6.toList
              · rw [if_pos c9] at H
                have c9b0 : (a0_6.toList == a1_6.toList) = true := beq_iff_eq.mpr c9
                have c9b1 : (a0_6.toList != a1_6.toList) = false := bne_eq_false_iff_eq.mpr c9
                clear c9
                obtain rfl := Option.some.inj H
                go_enter Tryd.func36, Tryd.ntmps36
                go_wp2_with (first | ((with_reducible refine gate_dst (N := 2) rfl ?_); refine box_event ?hg (N := 2) ?hd (cs := #[.string a0_0, .int .i64 a0_1, .int .i64 a0_2, .int .i64 a0_3, .int .i64 a0_4, .int .i64 a0_5, .string a0_6, .slice A0_7 l0_7.length c0_7]) (t := 31) ?hr ?_; (case hd => rfl); (case hg => rfl); (case hr => first | (go_simp; done) | (go_simp; rfl)); intro gb214 hg w10 hbox hb; have n0_ := Aside0.mk (below_step (by repeat (first | (with_reducible first | exact HB.out | apply below_alloc | apply pw_below_drewN | apply below_drew1) | exact HB.out)) hb); have n1_ := Aside0.mk (hbox); have n2_ := Aside0.mk ((by rw [hg]; exact (below_size (by repeat (first | (with_reducible first | exact HB.out | apply below_alloc | apply pw_below_drewN | apply below_drew1) | exact HB.out))) : w.heap.size ≤ gb214)); have n3_ := Aside0.mk ((by rw [hg]; exact (below_size (by repeat (first | (with_reducible first | exact HB.out | apply below_alloc | apply pw_below_drewN | apply below_drew1) | exact HB.out))) : w.heap.size ≤ gb214)); clear HB; have HB := n0_; have BK214 := n1_; have GW214 := n2_; have GE214 := n3_; clear n0_ n1_ n2_ n3_; clear hb hbox hg) | ((with_reducible refine gate_dst (N := 3) rfl ?_); refine box_event ?hg (N := 3) ?hd (cs := #[.string a1_0, .int .i64 a1_1, .int .i64 a1_2, .int .i64 a1_3, .int .i64 a1_4, .int .i64 a1_5, .string a1_6, .slice A1_7 l1_7.length c1_7]) (t := 31) ?hr ?_; (case hd => rfl); (case hg => rfl); (case hr => first | (go_simp; done) | (go_simp; rfl)); intro gb215 hg w11 hbox hb; have n0_ := Aside0.mk (blk_below (g := gb214) (o := .cells #[.string a0_0, .int .i64 a0_1, .int .i64 a0_2, .int .i64 a0_3, .int .i64 a0_4, .int .i64 a0_5, .string a0_6, .slice A0_7 l0_7.length c0_7] 31 (0, 0)) (by (with_reducible repeat (first | refine blk_drewN ?_ _ | refine blk_drew ?_ | refine blk_alloc ?_ _)); exact BK214.out) hb); have n1_ := Aside0.mk (below_step (by repeat (first | (with_reducible first | exact HB.out | apply below_alloc | apply pw_below_drewN | apply below_drew1 | refine below_set ?_ GE214.out) | exact HB.out)) hb); have n2_ := Aside0.mk (hbox); have n3_ := Aside0.mk ((by rw [hg]; exact (below_size (by repeat (first | (with_reducible first | exact HB.out | apply below_alloc | apply pw_below_drewN | apply below_drew1 | refine below_set ?_ GE214.out) | exact HB.out))) : w.heap.size ≤ gb215)); have n4_ := Aside0.mk ((by rw [hg]; exact (below_size (by repeat (first | (with_reducible first | exact HB.out | apply below_alloc | apply pw_below_drewN | apply below_drew1 | refine below_set ?_ GE214.out) | exact HB.out))) : w.heap.size ≤ gb215)); have n5_ := Aside0.mk ((by rw [hg]; exact Nat.ne_of_lt (blk_lt (g := gb214) (o := .cells #[.string a0_0, .int .i64 a0_1, .int .i64 a0_2, .int .i64 a0_3, .int .i64 a0_4, .int .i64 a0_5, .string a0_6, .slice A0_7 l0_7.length c0_7] 31 (0, 0)) (by (with_reducible repeat (first | refine blk_drewN ?_ _ | refine blk_drew ?_ | refine blk_alloc ?_ _)); exact BK214.out)) : gb214 ≠ gb215)); have n6_ := Aside0.mk ((by rw [hg]; exact Nat.ne_of_gt (blk_lt (g := gb214) (o := .cells #[.string a0_0, .int .i64 a0_1, .int .i64 a0_2, .int .i64 a0_3, .int .i64 a0_4, .int .i64 a0_5, .string a0_6, .slice A0_7 l0_7.length c0_7] 31 (0, 0)) (by (with_reducible repeat (first | refine blk_drewN ?_ _ | refine blk_drew ?_ | refine blk_alloc ?_ _)); exact BK214.out)) : gb215 ≠ gb214)); clear BK214; clear HB; have BK214 := n0_; have HB := n1_; have BK215 := n2_; have GW215 := n3_; have GE215 := n4_; have NB214_215 := n5_; have NB215_214 := n6_; clear n0_ n1_ n2_ n3_ n4_ n5_ n6_; clear hb hbox hg; have hnb12 := NB214_215.out; have hnc12 := NB215_214.out; have hcz13_0 : w11.cell? ⟨gb214, 0, none⟩ = some (.string a0_0) := (blk_cell BK214.out 0).trans rfl; have hcz13_1 : w11.cell? ⟨gb214, 1, none⟩ = some (.int .i64 a0_1) := (blk_cell BK214.out 1).trans rfl; have hcz13_2 : w11.cell? ⟨gb214, 2, none⟩ = some (.int .i64 a0_2) := (blk_cell BK214.out 2).trans rfl; have hcz13_3 : w11.cell? ⟨gb214, 3, none⟩ = some (.int .i64 a0_3) := (blk_cell BK214.out 3).trans rfl; have hcz13_4 : w11.cell? ⟨gb214, 4, none⟩ = some (.int .i64 a0_4) := (blk_cell BK214.out 4).trans rfl; have hcz13_5 : w11.cell? ⟨gb214, 5, none⟩ = some (.int .i64 a0_5) := (blk_cell BK214.out 5).trans rfl; have hcz13_6 : w11.cell? ⟨gb214, 6, none⟩ = some (.string a0_6) := (blk_cell BK214.out 6).trans rfl; have hcz13_7 : w11.cell? ⟨gb214, 7, none⟩ = some (.slice A0_7 l0_7.length c0_7) := (blk_cell BK214.out 7).trans rfl; have hfz13_0 := blk_frozen BK214.out 0; have hfz13_1 := blk_frozen BK214.out 1; have hfz13_2 := blk_frozen BK214.out 2; have hfz13_3 := blk_frozen BK214.out 3; have hfz13_4 := blk_frozen BK214.out 4; have hfz13_5 := blk_frozen BK214.out 5; have hfz13_6 := blk_frozen BK214.out 6; have hfz13_7 := blk_frozen BK214.out 7; have hcz14_0 : w11.cell? ⟨gb215, 0, none⟩ = some (.string a1_0) := (blk_cell BK215.out 0).trans rfl; have hcz14_1 : w11.cell? ⟨gb215, 1, none⟩ = some (.int .i64 a1_1) := (blk_cell BK215.out 1).trans rfl; have hcz14_2 : w11.cell? ⟨gb215, 2, none⟩ = some (.int .i64 a1_2) := (blk_cell BK215.out 2).trans rfl; have hcz14_3 : w11.cell? ⟨gb215, 3, none⟩ = some (.int .i64 a1_3) := (blk_cell BK215.out 3).trans rfl; have hcz14_4 : w11.cell? ⟨gb215, 4, none⟩ = some (.int .i64 a1_4) := (blk_cell BK215.out 4).trans rfl; have hcz14_5 : w11.cell? ⟨gb215, 5, none⟩ = some (.int .i64 a1_5) := (blk_cell BK215.out 5).trans rfl; have hcz14_6 : w11.cell? ⟨gb215, 6, none⟩ = some (.string a1_6) := (blk_cell BK215.out 6).trans rfl; have hcz14_7 : w11.cell? ⟨gb215, 7, none⟩ = some (.slice A1_7 l1_7.length c1_7) := (blk_cell BK215.out 7).trans rfl; have hfz14_0 := blk_frozen BK215.out 0; have hfz14_1 := blk_frozen BK215.out 1; have hfz14_2 := blk_frozen BK215.out 2; have hfz14_3 := blk_frozen BK215.out 3; have hfz14_4 := blk_frozen BK215.out 4; have hfz14_5 := blk_frozen BK215.out 5; have hfz14_6 := blk_frozen BK215.out 6; have hfz14_7 := blk_frozen BK215.out 7; have hcv15 := Kd.C_string (P := Tryd.prog) (A := A0_7) (c := c0_7) Tryd.underlying29 Tryd.underlying5 Tryd.underlying9 (Kd.C_below HR0_7.out HB.out); have hcv16 := Kd.C_string (P := Tryd.prog) (A := A1_7) (c := c1_7) Tryd.underlying29 Tryd.underlying5 Tryd.underlying9 (Kd.C_below HR1_7.out HB.out)))
                go_ret
                exact ⟨by first | rfl | (simp [errW_none, errW_some] <;> rfl) | (simp [*, errW_none, errW_some] <;> rfl), by repeat (first | (with_reducible first | exact HB.out | apply below_alloc | apply pw_below_drewN | apply below_drew1 | refine below_set ?_ GE214.out | refine below_set ?_ GE215.out) | exact HB.out)⟩
              · rw [if_neg c9] at H
                have c9b0 : (a0_6.toList == a1_6.toList) = false := beq_eq_false_iff_ne.mpr c9
                have c9b1 : (a0_6.toList != a1_6.toList) = true := bne_iff_ne.mpr c9
                obtain rfl := Option.some.inj H
                go_enter Tryd.func36, Tryd.ntmps36
                go_wp2_with (first | ((with_reducible refine gate_dst (N := 2) rfl ?_); refine box_event ?hg (N := 2) ?hd (cs := #[.string a0_0, .int .i64 a0_1, .int .i64 a0_2, .int .i64 a0_3, .int .i64 a0_4, .int .i64 a0_5, .string a0_6, .slice A0_7 l0_7.length c0_7]) (t := 31) ?hr ?_; (case hd => rfl); (case hg => rfl); (case hr => first | (go_simp; done) | (go_simp; rfl)); intro gb214 hg w17 hbox hb; have n0_ := Aside0.mk (below_step (by repeat (first | (with_reducible first | exact HB.out | apply below_alloc | apply pw_below_drewN | apply below_drew1) | exact HB.out)) hb); have n1_ := Aside0.mk (hbox); have n2_ := Aside0.mk ((by rw [hg]; exact (below_size (by repeat (first | (with_reducible first | exact HB.out | apply below_alloc | apply pw_below_drewN | apply below_drew1) | exact HB.out))) : w.heap.size ≤ gb214)); have n3_ := Aside0.mk ((by rw [hg]; exact (below_size (by repeat (first | (with_reducible first | exact HB.out | apply below_alloc | apply pw_below_drewN | apply below_drew1) | exact HB.out))) : w.heap.size ≤ gb214)); clear HB; have HB := n0_; have BK214 := n1_; have GW214 := n2_; have GE214 := n3_; clear n0_ n1_ n2_ n3_; clear hb hbox hg) | ((with_reducible refine gate_dst (N := 3) rfl ?_); refine box_event ?hg (N := 3) ?hd (cs := #[.string a1_0, .int .i64 a1_1, .int .i64 a1_2, .int .i64 a1_3, .int .i64 a1_4, .int .i64 a1_5, .string a1_6, .slice A1_7 l1_7.length c1_7]) (t := 31) ?hr ?_; (case hd => rfl); (case hg => rfl); (case hr => first | (go_simp; done) | (go_simp; rfl)); intro gb215 hg w18 hbox hb; have n0_ := Aside0.mk (blk_below (g := gb214) (o := .cells #[.string a0_0, .int .i64 a0_1, .int .i64 a0_2, .int .i64 a0_3, .int .i64 a0_4, .int .i64 a0_5, .string a0_6, .slice A0_7 l0_7.length c0_7] 31 (0, 0)) (by (with_reducible repeat (first | refine blk_drewN ?_ _ | refine blk_drew ?_ | refine blk_alloc ?_ _)); exact BK214.out) hb); have n1_ := Aside0.mk (below_step (by repeat (first | (with_reducible first | exact HB.out | apply below_alloc | apply pw_below_drewN | apply below_drew1 | refine below_set ?_ GE214.out) | exact HB.out)) hb); have n2_ := Aside0.mk (hbox); have n3_ := Aside0.mk ((by rw [hg]; exact (below_size (by repeat (first | (with_reducible first | exact HB.out | apply below_alloc | apply pw_below_drewN | apply below_drew1 | refine below_set ?_ GE214.out) | exact HB.out))) : w.heap.size ≤ gb215)); have n4_ := Aside0.mk ((by rw [hg]; exact (below_size (by repeat (first | (with_reducible first | exact HB.out | apply below_alloc | apply pw_below_drewN | apply below_drew1 | refine below_set ?_ GE214.out) | exact HB.out))) : w.heap.size ≤ gb215)); have n5_ := Aside0.mk ((by rw [hg]; exact Nat.ne_of_lt (blk_lt (g := gb214) (o := .cells #[.string a0_0, .int .i64 a0_1, .int .i64 a0_2, .int .i64 a0_3, .int .i64 a0_4, .int .i64 a0_5, .string a0_6, .slice A0_7 l0_7.length c0_7] 31 (0, 0)) (by (with_reducible repeat (first | refine blk_drewN ?_ _ | refine blk_drew ?_ | refine blk_alloc ?_ _)); exact BK214.out)) : gb214 ≠ gb215)); have n6_ := Aside0.mk ((by rw [hg]; exact Nat.ne_of_gt (blk_lt (g := gb214) (o := .cells #[.string a0_0, .int .i64 a0_1, .int .i64 a0_2, .int .i64 a0_3, .int .i64 a0_4, .int .i64 a0_5, .string a0_6, .slice A0_7 l0_7.length c0_7] 31 (0, 0)) (by (with_reducible repeat (first | refine blk_drewN ?_ _ | refine blk_drew ?_ | refine blk_alloc ?_ _)); exact BK214.out)) : gb215 ≠ gb214)); clear BK214; clear HB; have BK214 := n0_; have HB := n1_; have BK215 := n2_; have GW215 := n3_; have GE215 := n4_; have NB214_215 := n5_; have NB215_214 := n6_; clear n0_ n1_ n2_ n3_ n4_ n5_ n6_; clear hb hbox hg; have hnb19 := NB214_215.out; have hnc19 := NB215_214.out; have hcz20_0 : w18.cell? ⟨gb214, 0, none⟩ = some (.string a0_0) := (blk_cell BK214.out 0).trans rfl; have hcz20_1 : w18.cell? ⟨gb214, 1, none⟩ = some (.int .i64 a0_1) := (blk_cell BK214.out 1).trans rfl; have hcz20_2 : w18.cell? ⟨gb214, 2, none⟩ = some (.int .i64 a0_2) := (blk_cell BK214.out 2).trans rfl; have hcz20_3 : w18.cell? ⟨gb214, 3, none⟩ = some (.int .i64 a0_3) := (blk_cell BK214.out 3).trans rfl; have hcz20_4 : w18.cell? ⟨gb214, 4, none⟩ = some (.int .i64 a0_4) := (blk_cell BK214.out 4).trans rfl; have hcz20_5 : w18.cell? ⟨gb214, 5, none⟩ = some (.int .i64 a0_5) := (blk_cell BK214.out 5).trans rfl; have hcz20_6 : w18.cell? ⟨gb214, 6, none⟩ = some (.string a0_6) := (blk_cell BK214.out 6).trans rfl; have hcz20_7 : w18.cell? ⟨gb214, 7, none⟩ = some (.slice A0_7 l0_7.length c0_7) := (blk_cell BK214.out 7).trans rfl; have hfz20_0 := blk_frozen BK214.out 0; have hfz20_1 := blk_frozen BK214.out 1; have hfz20_2 := blk_frozen BK214.out 2; have hfz20_3 := blk_frozen BK214.out 3; have hfz20_4 := blk_frozen BK214.out 4; have hfz20_5 := blk_frozen BK214.out 5; have hfz20_6 := blk_frozen BK214.out 6; have hfz20_7 := blk_frozen BK214.out 7; have hcz21_0 : w18.cell? ⟨gb215, 0, none⟩ = some (.string a1_0) := (blk_cell BK215.out 0).trans rfl; have hcz21_1 : w18.cell? ⟨gb215, 1, none⟩ = some (.int .i64 a1_1) := (blk_cell BK215.out 1).trans rfl; have hcz21_2 : w18.cell? ⟨gb215, 2, none⟩ = some (.int .i64 a1_2) := (blk_cell BK215.out 2).trans rfl; have hcz21_3 : w18.cell? ⟨gb215, 3, none⟩ = some (.int .i64 a1_3) := (blk_cell BK215.out 3).trans rfl; have hcz21_4 : w18.cell? ⟨gb215, 4, none⟩ = some (.int .i64 a1_4) := (blk_cell BK215.out 4).trans rfl; have hcz21_5 : w18.cell? ⟨gb215, 5, none⟩ = some (.int .i64 a1_5) := (blk_cell BK215.out 5).trans rfl; have hcz21_6 : w18.cell? ⟨gb215, 6, none⟩ = some (.string a1_6) := (blk_cell BK215.out 6).trans rfl; have hcz21_7 : w18.cell? ⟨gb215, 7, none⟩ = some (.slice A1_7 l1_7.length c1_7) := (blk_cell BK215.out 7).trans rfl; have hfz21_0 := blk_frozen BK215.out 0; have hfz21_1 := blk_frozen BK215.out 1; have hfz21_2 := blk_frozen BK215.out 2; have hfz21_3 := blk_frozen BK215.out 3; have hfz21_4 := blk_frozen BK215.out 4; have hfz21_5 := blk_frozen BK215.out 5; have hfz21_6 := blk_frozen BK215.out 6; have hfz21_7 := blk_frozen BK215.out 7))
                go_ret
                exact ⟨by first | rfl | (simp [errW_none, errW_some] <;> rfl) | (simp [*, errW_none, errW_some] <;> rfl), by repeat (first | (with_reducible first | exact HB.out | apply below_alloc | apply pw_below_drewN | apply below_drew1 | refine below_set ?_ GE214.out | refine below_set ?_ GE215.out) | exact HB.out)⟩
            · rw [if_neg c8] at H
              have c8b0 : (a0_5 == a1_5) = false := beq_eq_false_iff_ne.mpr c8
              have c8b1 : (a0_5 != a1_5) = true := bne_iff_ne.mpr c8
              obtain rfl := Option.some.inj H
              go_enter Tryd.func36, Tryd.ntmps36
              go_wp2_with (first | ((with_reducible refine gate_dst (N := 2) rfl ?_); refine box_event ?hg (N := 2) ?hd (cs := #[.string a0_0, .int .i64 a0_1, .int .i64 a0_2, .int .i64 a0_3, .int .i64 a0_4, .int .i64 a0_5, .string a0_6, .slice A0_7 l0_7.length c0_7]) (t := 31) ?hr ?_; (case hd => rfl); (case hg => rfl); (case hr => first | (go_simp; done) | (go_simp; rfl)); intro gb214 hg w22 hbox hb; have n0_ := Aside0.mk (below_step (by repeat (first | (with_reducible first | exact HB.out | apply below_alloc | apply pw_below_drewN | apply below_drew1) | exact HB.out)) hb); have n1_ := Aside0.mk (hbox); have n2_ := Aside0.mk ((by rw [hg]; exact (below_size (by repeat (first | (with_reducible first | exact HB.out | apply below_alloc | apply pw_below_drewN | apply below_drew1) | exact HB.out))) : w.heap.size ≤ gb214)); have n3_ := Aside0.mk ((by rw [hg]; exact (below_size (by repeat (first | (with_reducible first | exact HB.out | apply below_alloc | apply pw_below_drewN | apply below_drew1) | exact HB.out))) : w.heap.size ≤ gb214)); clear HB; have HB := n0_; have BK214 := n1_; have GW214 := n2_; have GE214 := n3_; clear n0_ n1_ n2_ n3_; clear hb hbox hg) | ((with_reducible refine gate_dst (N := 3) rfl ?_); refine box_event ?hg (N := 3) ?hd (cs := #[.string a1_0, .int .i64 a1_1, .int .i64 a1_2, .int .i64 a1_3, .int .i64 a1_4, .int .i64 a1_5, .string a1_6, .slice A1_7 l1_7.length c1_7]) (t := 31) ?hr ?_; (case hd => rfl); (case hg => rfl); (case hr => first | (go_simp; done) | (go_simp; rfl)); intro gb215 hg w23 hbox hb; have n0_ := Aside0.mk (blk_below (g := gb214) (o := .cells #[.string a0_0, .int .i64 a0_1, .int .i64 a0_2, .int .i64 a0_3, .int .i64 a0_4, .int .i64 a0_5, .string a0_6, .slice A0_7 l0_7.length c0_7] 31 (0, 0)) (by (with_reducible repeat (first | refine blk_drewN ?_ _ | refine blk_drew ?_ | refine blk_alloc ?_ _)); exact BK214.out) hb); have n1_ := Aside0.mk (below_step (by repeat (first | (with_reducible first | exact HB.out | apply below_alloc | apply pw_below_drewN | apply below_drew1 | refine below_set ?_ GE214.out) | exact HB.out)) hb); have n2_ := Aside0.mk (hbox); have n3_ := Aside0.mk ((by rw [hg]; exact (below_size (by repeat (first | (with_reducible first | exact HB.out | apply below_alloc | apply pw_below_drewN | apply below_drew1 | refine below_set ?_ GE214.out) | exact HB.out))) : w.heap.size ≤ gb215)); have n4_ := Aside0.mk ((by rw [hg]; exact (below_size (by repeat (first | (with_reducible first | exact HB.out | apply below_alloc | apply pw_below_drewN | apply below_drew1 | refine below_set ?_ GE214.out) | exact HB.out))) : w.heap.size ≤ gb215)); have n5_ := Aside0.mk ((by rw [hg]; exact Nat.ne_of_lt (blk_lt (g := gb214) (o := .cells #[.string a0_0, .int .i64 a0_1, .int .i64 a0_2, .int .i64 a0_3, .int .i64 a0_4, .int .i64 a0_5, .string a0_6, .slice A0_7 l0_7.length c0_7] 31 (0, 0)) (by (with_reducible repeat (first | refine blk_drewN ?_ _ | refine blk_drew ?_ | refine blk_alloc ?_ _)); exact BK214.out)) : gb214 ≠ gb215)); have n6_ := Aside0.mk ((by rw [hg]; exact Nat.ne_of_gt (blk_lt (g := gb214) (o := .cells #[.string a0_0, .int .i64 a0_1, .int .i64 a0_2, .int .i64 a0_3, .int .i64 a0_4, .int .i64 a0_5, .string a0_6, .slice A0_7 l0_7.length c0_7] 31 (0, 0)) (by (with_reducible repeat (first | refine blk_drewN ?_ _ | refine blk_drew ?_ | refine blk_alloc ?_ _)); exact BK214.out)) : gb215 ≠ gb214)); clear BK214; clear HB; have BK214 := n0_; have HB := n1_; have BK215 := n2_; have GW215 := n3_; have GE215 := n4_; have NB214_215 := n5_; have NB215_214 := n6_; clear n0_ n1_ n2_ n3_ n4_ n5_ n6_; clear hb hbox hg; have hnb24 := NB214_215.out; have hnc24 := NB215_214.out; have hcz25_0 : w23.cell? ⟨gb214, 0, none⟩ = some (.string a0_0) := (blk_cell BK214.out 0).trans rfl; have hcz25_1 : w23.cell? ⟨gb214, 1, none⟩ = some (.int .i64 a0_1) := (blk_cell BK214.out 1).trans rfl; have hcz25_2 : w23.cell? ⟨gb214, 2, none⟩ = some (.int .i64 a0_2) := (blk_cell BK214.out 2).trans rfl; have hcz25_3 : w23.cell? ⟨gb214, 3, none⟩ = some (.int .i64 a0_3) := (blk_cell BK214.out 3).trans rfl; have hcz25_4 : w23.cell? ⟨gb214, 4, none⟩ = some (.int .i64 a0_4) := (blk_cell BK214.out 4).trans rfl; have hcz25_5 : w23.cell? ⟨gb214, 5, none⟩ = some (.int .i64 a0_5) := (blk_cell BK214.out 5).trans rfl; have hcz25_6 : w23.cell? ⟨gb214, 6, none⟩ = some (.string a0_6) := (blk_cell BK214.out 6).trans rfl; have hcz25_7 : w23.cell? ⟨gb214, 7, none⟩ = some (.slice A0_7 l0_7.length c0_7) := (blk_cell BK214.out 7).trans rfl; have hfz25_0 := blk_frozen BK214.out 0; have hfz25_1 := blk_frozen BK214.out 1; have hfz25_2 := blk_frozen BK214.out 2; have hfz25_3 := blk_frozen BK214.out 3; have hfz25_4 := blk_frozen BK214.out 4; have hfz25_5 := blk_frozen BK214.out 5; have hfz25_6 := blk_frozen BK214.out 6; have hfz25_7 := blk_frozen BK214.out 7; have hcz26_0 : w23.cell? ⟨gb215, 0, none⟩ = some (.string a1_0) := (blk_cell BK215.out 0).trans rfl; have hcz26_1 : w23.cell? ⟨gb215, 1, none⟩ = some (.int .i64 a1_1) := (blk_cell BK215.out 1).trans rfl; have hcz26_2 : w23.cell? ⟨gb215, 2, none⟩ = some (.int .i64 a1_2) := (blk_cell BK215.out 2).trans rfl; have hcz26_3 : w23.cell? ⟨gb215, 3, none⟩ = some (.int .i64 a1_3) := (blk_cell BK215.out 3).trans rfl; have hcz26_4 : w23.cell? ⟨gb215, 4, none⟩ = some (.int .i64 a1_4) := (blk_cell BK215.out 4).trans rfl; have hcz26_5 : w23.cell? ⟨gb215, 5, none⟩ = some (.int .i64 a1_5) := (blk_cell BK215.out 5).trans rfl; have hcz26_6 : w23.cell? ⟨gb215, 6, none⟩ = some (.string a1_6) := (blk_cell BK215.out 6).trans rfl; have hcz26_7 : w23.cell? ⟨gb215, 7, none⟩ = some (.slice A1_7 l1_7.length c1_7) := (blk_cell BK215.out 7).trans rfl; have hfz26_0 := blk_frozen BK215.out 0; have hfz26_1 := blk_frozen BK215.out 1; have hfz26_2 := blk_frozen BK215.out 2; have hfz26_3 := blk_frozen BK215.out 3; have hfz26_4 := blk_frozen BK215.out 4; have hfz26_5 := blk_frozen BK215.out 5; have hfz26_6 := blk_frozen BK215.out 6; have hfz26_7 := blk_frozen BK215.out 7))
              go_ret
              exact ⟨by first | rfl | (simp [errW_none, errW_some] <;> rfl) | (simp [*, errW_none, errW_some] <;> rfl), by repeat (first | (with_reducible first | exact HB.out | apply below_alloc | apply pw_below_drewN | apply below_drew1 | refine below_set ?_ GE214.out | refine below_set ?_ GE215.out) | exact HB.out)⟩
          · rw [if_neg c7] at H
            have c7b0 : (a0_4 == a1_4) = false := beq_eq_false_iff_ne.mpr c7
            have c7b1 : (a0_4 != a1_4) = true := bne_iff_ne.mpr c7
            obtain rfl := Option.some.inj H
            go_enter Tryd.func36, Tryd.ntmps36
            go_wp2_with (first | ((with_reducible refine gate_dst (N := 2) rfl ?_); refine box_event ?hg (N := 2) ?hd (cs := #[.string a0_0, .int .i64 a0_1, .int .i64 a0_2, .int .i64 a0_3, .int .i64 a0_4, .int .i64 a0_5, .string a0_6, .slice A0_7 l0_7.length c0_7]) (t := 31) ?hr ?_; (case hd => rfl); (case hg => rfl); (case hr => first | (go_simp; done) | (go_simp; rfl)); intro gb214 hg w27 hbox hb; have n0_ := Aside0.mk (below_step (by repeat (first | (with_reducible first | exact HB.out | apply below_alloc | apply pw_below_drewN | apply below_drew1) | exact HB.out)) hb); have n1_ := Aside0.mk (hbox); have n2_ := Aside0.mk ((by rw [hg]; exact (below_size (by repeat (first | (with_reducible first | exact HB.out | apply below_alloc | apply pw_below_drewN | apply below_drew1) | exact HB.out))) : w.heap.size ≤ gb214)); have n3_ := Aside0.mk ((by rw [hg]; exact (below_size (by repeat (first | (with_reducible first | exact HB.out | apply below_alloc | apply pw_below_drewN | apply below_drew1) | exact HB.out))) : w.heap.size ≤ gb214)); clear HB; have HB := n0_; have BK214 := n1_; have GW214 := n2_; have GE214 := n3_; clear n0_ n1_ n2_ n3_; clear hb hbox hg) | ((with_reducible refine gate_dst (N := 3) rfl ?_); refine box_event ?hg (N := 3) ?hd (cs := #[.string a1_0, .int .i64 a1_1, .int .i64 a1_2, .int .i64 a1_3, .int .i64 a1_4, .int .i64 a1_5, .string a1_6, .slice A1_7 l1_7.length c1_7]) (t := 31) ?hr ?_; (case hd => rfl); (case hg => rfl); (case hr => first | (go_simp; done) | (go_simp; rfl)); intro gb215 hg w28 hbox hb; have n0_ := Aside0.mk (blk_below (g := gb214) (o := .cells #[.string a0_0, .int .i64 a0_1, .int .i64 a0_2, .int .i64 a0_3, .int .i64 a0_4, .int .i64 a0_5, .string a0_6, .slice A0_7 l0_7.length c0_7] 31 (0, 0)) (by (with_reducible repeat (first | refine blk_drewN ?_ _ | refine blk_drew ?_ | refine blk_alloc ?_ _)); exact BK214.out) hb); have n1_ := Aside0.mk (below_step (by repeat (first | (with_reducible first | exact HB.out | apply below_alloc | apply pw_below_drewN | apply below_drew1 | refine below_set ?_ GE214.out) | exact HB.out)) hb); have n2_ := Aside0.mk (hbox); have n3_ := Aside0.mk ((by rw [hg]; exact (below_size (by repeat (first | (with_reducible first | exact HB.out | apply below_alloc | apply pw_below_drewN | apply below_drew1 | refine below_set ?_ GE214.out) | exact HB.out))) : w.heap.size ≤ gb215)); have n4_ := Aside0.mk ((by rw [hg]; exact (below_size (by repeat (first | (with_reducible first | exact HB.out | apply below_alloc | apply pw_below_drewN | apply below_drew1 | refine below_set ?_ GE214.out) | exact HB.out))) : w.heap.size ≤ gb215)); have n5_ := Aside0.mk ((by rw [hg]; exact Nat.ne_of_lt (blk_lt (g := gb214) (o := .cells #[.string a0_0, .int .i64 a0_1, .int .i64 a0_2, .int .i64 a0_3, .int .i64 a0_4, .int .i64 a0_5, .string a0_6, .slice A0_7 l0_7.length c0_7] 31 (0, 0)) (by (with_reducible repeat (first | refine blk_drewN ?_ _ | refine blk_drew ?_ | refine blk_alloc ?_ _)); exact BK214.out)) : gb214 ≠ gb215)); have n6_ := Aside0.mk ((by rw [hg]; exact Nat.ne_of_gt (blk_lt (g := gb214) (o := .cells #[.string a0_0, .int .i64 a0_1, .int .i64 a0_2, .int .i64 a0_3, .int .i64 a0_4, .int .i64 a0_5, .string a0_6, .slice A0_7 l0_7.length c0_7] 31 (0, 0)) (by (with_reducible repeat (first | refine blk_drewN ?_ _ | refine blk_drew ?_ | refine blk_alloc ?_ _)); exact BK214.out)) : gb215 ≠ gb214)); clear BK214; clear HB; have BK214 := n0_; have HB := n1_; have BK215 := n2_; have GW215 := n3_; have GE215 := n4_; have NB214_215 := n5_; have NB215_214 := n6_; clear n0_ n1_ n2_ n3_ n4_ n5_ n6_; clear hb hbox hg; have hnb29 := NB214_215.out; have hnc29 := NB215_214.out; have hcz30_0 : w28.cell? ⟨gb214, 0, none⟩ = some (.string a0_0) := (blk_cell BK214.out 0).trans rfl; have hcz30_1 : w28.cell? ⟨gb214, 1, none⟩ = some (.int .i64 a0_1) := (blk_cell BK214.out 1).trans rfl; have hcz30_2 : w28.cell? ⟨gb214, 2, none⟩ = some (.int .i64 a0_2) := (blk_cell BK214.out 2).trans rfl; have hcz30_3 : w28.cell? ⟨gb214, 3, none⟩ = some (.int .i64 a0_3) := (blk_cell BK214.out 3).trans rfl; have hcz30_4 : w28.cell? ⟨gb214, 4, none⟩ = some (.int .i64 a0_4) := (blk_cell BK214.out 4).trans rfl; have hcz30_5 : w28.cell? ⟨gb214, 5, none⟩ = some (.int .i64 a0_5) := (blk_cell BK214.out 5).trans rfl; have hcz30_6 : w28.cell? ⟨gb214, 6, none⟩ = some (.string a0_6) := (blk_cell BK214.out 6).trans rfl; have hcz30_7 : w28.cell? ⟨gb214, 7, none⟩ = some (.slice A0_7 l0_7.length c0_7) := (blk_cell BK214.out 7).trans rfl; have hfz30_0 := blk_frozen BK214.out 0; have hfz30_1 := blk_frozen BK214.out 1; have hfz30_2 := blk_frozen BK214.out 2; have hfz30_3 := blk_frozen BK214.out 3; have hfz30_4 := blk_frozen BK214.out 4; have hfz30_5 := blk_frozen BK214.out 5; have hfz30_6 := blk_frozen BK214.out 6; have hfz30_7 := blk_frozen BK214.out 7; have hcz31_0 : w28.cell? ⟨gb215, 0, none⟩ = some (.string a1_0) := (blk_cell BK215.out 0).trans rfl; have hcz31_1 : w28.cell? ⟨gb215, 1, none⟩ = some (.int .i64 a1_1) := (blk_cell BK215.out 1).trans rfl; have hcz31_2 : w28.cell? ⟨gb215, 2, none⟩ = some (.int .i64 a1_2) := (blk_cell BK215.out 2).trans rfl; have hcz31_3 : w28.cell? ⟨gb215, 3, none⟩ = some (.int .i64 a1_3) := (blk_cell BK215.out 3).trans rfl; have hcz31_4 : w28.cell? ⟨gb215, 4, none⟩ = some (.int .i64 a1_4) := (blk_cell BK215.out 4).trans rfl; have hcz31_5 : w28.cell? ⟨gb215, 5, none⟩ = some (.int .i64 a1_5) := (blk_cell BK215.out 5).trans rfl; have hcz31_6 : w28.cell? ⟨gb215, 6, none⟩ = some (.string a1_6) := (blk_cell BK215.out 6).trans rfl; have hcz31_7 : w28.cell? ⟨gb215, 7, none⟩ = some (.slice A1_7 l1_7.length c1_7) := (blk_cell BK215.out 7).trans rfl; have hfz31_0 := blk_frozen BK215.out 0; have hfz31_1 := blk_frozen BK215.out 1; have hfz31_2 := blk_frozen BK215.out 2; have hfz31_3 := blk_frozen BK215.out 3; have hfz31_4 := blk_frozen BK215.out 4; have hfz31_5 := blk_frozen BK215.out 5; have hfz31_6 := blk_frozen BK215.out 6; have hfz31_7 := blk_frozen BK215.out 7))
            go_ret
            exact ⟨by first | rfl | (simp [errW_none, errW_some] <;> rfl) | (simp [*, errW_none, errW_some] <;> rfl), by repeat (first | (with_reducible first | exact HB.out | apply below_alloc | apply pw_below_drewN | apply below_drew1 | refine below_set ?_ GE214.out | refine below_set ?_ GE215.out) | exact HB.out)⟩
        · rw [if_neg c6] at H
          have c6b0 : (a0_3 == a1_3) = false := beq_eq_false_iff_ne.mpr c6
          have c6b1 : (a0_3 != a1_3) = true := bne_iff_ne.mpr c6
          obtain rfl := Option.some.inj H
          go_enter Tryd.func36, Tryd.ntmps36
          go_wp2_with (first | ((with_reducible refine gate_dst (N := 2) rfl ?_); refine box_event ?hg (N := 2) ?hd (cs := #[.string a0_0, .int .i64 a0_1, .int .i64 a0_2, .int .i64 a0_3, .int .i64 a0_4, .int .i64 a0_5, .string a0_6, .slice A0_7 l0_7.length c0_7]) (t := 31) ?hr ?_; (case hd => rfl); (case hg => rfl); (case hr => first | (go_simp; done) | (go_simp; rfl)); intro gb214 hg w32 hbox hb; have n0_ := Aside0.mk (below_step (by repeat (first | (with_reducible first | exact HB.out | apply below_alloc | apply pw_below_drewN | apply below_drew1) | exact HB.out)) hb); have n1_ := Aside0.mk (hbox); have n2_ := Aside0.mk ((by rw [hg]; exact (below_size (by repeat (first | (with_reducible first | exact HB.out | apply below_alloc | apply pw_below_drewN | apply below_drew1) | exact HB.out))) : w.heap.size ≤ gb214)); have n3_ := Aside0.mk ((by rw [hg]; exact (below_size (by repeat (first | (with_reducible first | exact HB.out | apply below_alloc | apply pw_below_drewN | apply below_drew1) | exact HB.out))) : w.heap.size ≤ gb214)); clear HB; have HB := n0_; have BK214 := n1_; have GW214 := n2_; have GE214 := n3_; clear n0_ n1_ n2_ n3_; clear hb hbox hg) | ((with_reducible refine gate_dst (N := 3) rfl ?_); refine box_event ?hg (N := 3) ?hd (cs := #[.string a1_0, .int .i64 a1_1, .int .i64 a1_2, .int .i64 a1_3, .int .i64 a1_4, .int .i64 a1_5, .string a1_6, .slice A1_7 l1_7.length c1_7]) (t := 31) ?hr ?_; (case hd => rfl); (case hg => rfl); (case hr => first | (go_simp; done) | (go_simp; rfl)); intro gb215 hg w33 hbox hb; have n0_ := Aside0.mk (blk_below (g := gb214) (o := .cells #[.string a0_0, .int .i64 a0_1, .int .i64 a0_2, .int .i64 a0_3, .int .i64 a0_4, .int .i64 a0_5, .string a0_6, .slice A0_7 l0_7.length c0_7] 31 (0, 0)) (by (with_reducible repeat (first | refine blk_drewN ?_ _ | refine blk_drew ?_ | refine blk_alloc ?_ _)); exact BK214.out) hb); have n1_ := Aside0.mk (below_step (by repeat (first | (with_reducible first | exact HB.out | apply below_alloc | apply pw_below_drewN | apply below_drew1 | refine below_set ?_ GE214.out) | exact HB.out)) hb); have n2_ := Aside0.mk (hbox); have n3_ := Aside0.mk ((by rw [hg]; exact (below_size (by repeat (first | (with_reducible first | exact HB.out | apply below_alloc | apply pw_below_drewN | apply below_drew1 | refine below_set ?_ GE214.out) | exact HB.out))) : w.heap.size ≤ gb215)); have n4_ := Aside0.mk ((by rw [hg]; exact (below_size (by repeat (first | (with_reducible first | exact HB.out | apply below_alloc | apply pw_below_drewN | apply below_drew1 | refine below_set ?_ GE214.out) | exact HB.out))) : w.heap.size ≤ gb215)); have n5_ := Aside0.mk ((by rw [hg]; exact Nat.ne_of_lt (blk_lt (g := gb214) (o := .cells #[.string a0_0, .int .i64 a0_1, .int .i64 a0_2, .int .i64 a0_3, .int .i64 a0_4, .int .i64 a0_5, .string a0_6, .slice A0_7 l0_7.length c0_7] 31 (0, 0)) (by (with_reducible repeat (first | refine blk_drewN ?_ _ | refine blk_drew ?_ | refine blk_alloc ?_ _)); exact BK214.out)) : gb214 ≠ gb215)); have n6_ := Aside0.mk ((by rw [hg]; exact Nat.ne_of_gt (blk_lt (g := gb214) (o := .cells #[.string a0_0, .int .i64 a0_1, .int .i64 a0_2, .int .i64 a0_3, .int .i64 a0_4, .int .i64 a0_5, .string a0_6, .slice A0_7 l0_7.length c0_7] 31 (0, 0)) (by (with_reducible repeat (first | refine blk_drewN ?_ _ | refine blk_drew ?_ | refine blk_alloc ?_ _)); exact BK214.out)) : gb215 ≠ gb214)); clear BK214; clear HB; have BK214 := n0_; have HB := n1_; have BK215 := n2_; have GW215 := n3_; have GE215 := n4_; have NB214_215 := n5_; have NB215_214 := n6_; clear n0_ n1_ n2_ n3_ n4_ n5_ n6_; clear hb hbox hg; have hnb34 := NB214_215.out; have hnc34 := NB215_214.out; have hcz35_0 : w33.cell? ⟨gb214, 0, none⟩ = some (.string a0_0) := (blk_cell BK214.out 0).trans rfl; have hcz35_1 : w33.cell? ⟨gb214, 1, none⟩ = some (.int .i64 a0_1) := (blk_cell BK214.out 1).trans rfl; have hcz35_2 : w33.cell? ⟨gb214, 2, none⟩ = some (.int .i64 a0_2) := (blk_cell BK214.out 2).trans rfl; have hcz35_3 : w33.cell? ⟨gb214, 3, none⟩ = some (.int .i64 a0_3) := (blk_cell BK214.out 3).trans rfl; have hcz35_4 : w33.cell? ⟨gb214, 4, none⟩ = some (.int .i64 a0_4) := (blk_cell BK214.out 4).trans rfl; have hcz35_5 : w33.cell? ⟨gb214, 5, none⟩ = some (.int .i64 a0_5) := (blk_cell BK214.out 5).trans rfl; have hcz35_6 : w33.cell? ⟨gb214, 6, none⟩ = some (.string a0_6) := (blk_cell BK214.out 6).trans rfl; have hcz35_7 : w33.cell? ⟨gb214, 7, none⟩ = some (.slice A0_7 l0_7.length c0_7) := (blk_cell BK214.out 7).trans rfl; have hfz35_0 := blk_frozen BK214.out 0; have hfz35_1 := blk_frozen BK214.out 1; have hfz35_2 := blk_frozen BK214.out 2; have hfz35_3 := blk_frozen BK214.out 3; have hfz35_4 := blk_frozen BK214.out 4; have hfz35_5 := blk_frozen BK214.out 5; have hfz35_6 := blk_frozen BK214.out 6; have hfz35_7 := blk_frozen BK214.out 7; have hcz36_0 : w33.cell? ⟨gb215, 0, none⟩ = some (.string a1_0) := (blk_cell BK215.out 0).trans rfl; have hcz36_1 : w33.cell? ⟨gb215, 1, none⟩ = some (.int .i64 a1_1) := (blk_cell BK215.out 1).trans rfl; have hcz36_2 : w33.cell? ⟨gb215, 2, none⟩ = some (.int .i64 a1_2) := (blk_cell BK215.out 2).trans rfl; have hcz36_3 : w33.cell? ⟨gb215, 3, none⟩ = some (.int .i64 a1_3) := (blk_cell BK215.out 3).trans rfl; have hcz36_4 : w33.cell? ⟨gb215, 4, none⟩ = some (.int .i64 a1_4) := (blk_cell BK215.out 4).trans rfl; have hcz36_5 : w33.cell? ⟨gb215, 5, none⟩ = some (.int .i64 a1_5) := (blk_cell BK215.out 5).trans rfl; have hcz36_6 : w33.cell? ⟨gb215, 6, none⟩ = some (.string a1_6) := (blk_cell BK215.out 6).trans rfl; have hcz36_7 : w33.cell? ⟨gb215, 7, none⟩ = some (.slice A1_7 l1_7.length c1_7) := (blk_cell BK215.out 7).trans rfl; have hfz36_0 := blk_frozen BK215.out 0; have hfz36_1 := blk_frozen BK215.out 1; have hfz36_2 := blk_frozen BK215.out 2; have hfz36_3 := blk_frozen BK215.out 3; have hfz36_4 := blk_frozen BK215.out 4; have hfz36_5 := blk_frozen BK215.out 5; have hfz36_6 := blk_frozen BK215.out 6; have hfz36_7 := blk_frozen BK215.out 7))
          go_ret
          exact ⟨by first | rfl | (simp [errW_none, errW_some] <;> rfl) | (simp [*, errW_none, errW_some] <;> rfl), by repeat (first | (with_reducible first | exact HB.out | apply below_alloc | apply pw_below_drewN | apply below_drew1 | refine below_set ?_ GE214.out | refine below_set ?_ GE215.out) | exact HB.out)⟩
      · rw [if_neg c5] at H
        have c5b0 : (a0_2 == a1_2) = false := beq_eq_false_iff_ne.mpr c5
        have c5b1 : (a0_2 != a1_2) = true := bne_iff_ne.mpr c5
        obtain rfl := Option.some.inj H
        go_enter Tryd.func36, Tryd.ntmps36
        go_wp2_with (first | ((with_reducible refine gate_dst (N := 2) rfl ?_); refine box_event ?hg (N := 2) ?hd (cs := #[.string a0_0, .int .i64 a0_1, .int .i64 a0_2, .int .i64 a0_3, .int .i64 a0_4, .int .i64 a0_5, .string a0_6, .slice A0_7 l0_7.length c0_7]) (t := 31) ?hr ?_; (case hd => rfl); (case hg => rfl); (case hr => first | (go_simp; done) | (go_simp; rfl)); intro gb214 hg w37 hbox hb; have n0_ := Aside0.mk (below_step (by repeat (first | (with_reducible first | exact HB.out | apply below_alloc | apply pw_below_drewN | apply below_drew1) | exact HB.out)) hb); have n1_ := Aside0.mk (hbox); have n2_ := Aside0.mk ((by rw [hg]; exact (below_size (by repeat (first | (with_reducible first | exact HB.out | apply below_alloc | apply pw_below_drewN | apply below_drew1) | exact HB.out))) : w.heap.size ≤ gb214)); have n3_ := Aside0.mk ((by rw [hg]; exact (below_size (by repeat (first | (with_reducible first | exact HB.out | apply below_alloc | apply pw_below_drewN | apply below_drew1) | exact HB.out))) : w.heap.size ≤ gb214)); clear HB; have HB := n0_; have BK214 := n1_; have GW214 := n2_; have GE214 := n3_; clear n0_ n1_ n2_ n3_; clear hb hbox hg) | ((with_reducible refine gate_dst (N := 3) rfl ?_); refine box_event ?hg (N := 3) ?hd (cs := #[.string a1_0, .int .i64 a1_1, .int .i64 a1_2, .int .i64 a1_3, .int .i64 a1_4, .int .i64 a1_5, .string a1_6, .slice A1_7 l1_7.length c1_7]) (t := 31) ?hr ?_; (case hd => rfl); (case hg => rfl); (case hr => first | (go_simp; done) | (go_simp; rfl)); intro gb215 hg w38 hbox hb; have n0_ := Aside0.mk (blk_below (g := gb214) (o := .cells #[.string a0_0, .int .i64 a0_1, .int .i64 a0_2, .int .i64 a0_3, .int .i64 a0_4, .int .i64 a0_5, .string a0_6, .slice A0_7 l0_7.length c0_7] 31 (0, 0)) (by (with_reducible repeat (first | refine blk_drewN ?_ _ | refine blk_drew ?_ | refine blk_alloc ?_ _)); exact BK214.out) hb); have n1_ := Aside0.mk (below_step (by repeat (first | (with_reducible first | exact HB.out | apply below_alloc | apply pw_below_drewN | apply below_drew1 | refine below_set ?_ GE214.out) | exact HB.out)) hb); have n2_ := Aside0.mk (hbox); have n3_ := Aside0.mk ((by rw [hg]; exact (below_size (by repeat (first | (with_reducible first | exact HB.out | apply below_alloc | apply pw_below_drewN | apply below_drew1 | refine below_set ?_ GE214.out) | exact HB.out))) : w.heap.size ≤ gb215)); have n4_ := Aside0.mk ((by rw [hg]; exact (below_size (by repeat (first | (with_reducible first | exact HB.out | apply below_alloc | apply pw_below_drewN | apply below_drew1 | refine below_set ?_ GE214.out) | exact HB.out))) : w.heap.size ≤ gb215)); have n5_ := Aside0.mk ((by rw [hg]; exact Nat.ne_of_lt (blk_lt (g := gb214) (o := .cells #[.string a0_0, .int .i64 a0_1, .int .i64 a0_2, .int .i64 a0_3, .int .i64 a0_4, .int .i64 a0_5, .string a0_6, .slice A0_7 l0_7.length c0_7] 31 (0, 0)) (by (with_reducible repeat (first | refine blk_drewN ?_ _ | refine blk_drew ?_ | refine blk_alloc ?_ _)); exact BK214.out)) : gb214 ≠ gb215)); have n6_ := Aside0.mk ((by rw [hg]; exact Nat.ne_of_gt (blk_lt (g := gb214) (o := .cells #[.string a0_0, .int .i64 a0_1, .int .i64 a0_2, .int .i64 a0_3, .int .i64 a0_4, .int .i64 a0_5, .string a0_6, .slice A0_7 l0_7.length c0_7] 31 (0, 0)) (by (with_reducible repeat (first | refine blk_drewN ?_ _ | refine blk_drew ?_ | refine blk_alloc ?_ _)); exact BK214.out)) : gb215 ≠ gb214)); clear BK214; clear HB; have BK214 := n0_; have HB := n1_; have BK215 := n2_; have GW215 := n3_; have GE215 := n4_; have NB214_215 := n5_; have NB215_214 := n6_; clear n0_ n1_ n2_ n3_ n4_ n5_ n6_; clear hb hbox hg; have hnb39 := NB214_215.out; have hnc39 := NB215_214.out; have hcz40_0 : w38.cell? ⟨gb214, 0, none⟩ = some (.string a0_0) := (blk_cell BK214.out 0).trans rfl; have hcz40_1 : w38.cell? ⟨gb214, 1, none⟩ = some (.int .i64 a0_1) := (blk_cell BK214.out 1).trans rfl; have hcz40_2 : w38.cell? ⟨gb214, 2, none⟩ = some (.int .i64 a0_2) := (blk_cell BK214.out 2).trans rfl; have hcz40_3 : w38.cell? ⟨gb214, 3, none⟩ = some (.int .i64 a0_3) := (blk_cell BK214.out 3).trans rfl; have hcz40_4 : w38.cell? ⟨gb214, 4, none⟩ = some (.int .i64 a0_4) := (blk_cell BK214.out 4).trans rfl; have hcz40_5 : w38.cell? ⟨gb214, 5, none⟩ = some (.int .i64 a0_5) := (blk_cell BK214.out 5).trans rfl; have hcz40_6 : w38.cell? ⟨gb214, 6, none⟩ = some (.string a0_6) := (blk_cell BK214.out 6).trans rfl; have hcz40_7 : w38.cell? ⟨gb214, 7, none⟩ = some (.slice A0_7 l0_7.length c0_7) := (blk_cell BK214.out 7).trans rfl; have hfz40_0 := blk_frozen BK214.out 0; have hfz40_1 := blk_frozen BK214.out 1; have hfz40_2 := blk_frozen BK214.out 2; have hfz40_3 := blk_frozen BK214.out 3; have hfz40_4 := blk_frozen BK214.out 4; have hfz40_5 := blk_frozen BK214.out 5; have hfz40_6 := blk_frozen BK214.out 6; have hfz40_7 := blk_frozen BK214.out 7; have hcz41_0 : w38.cell? ⟨gb215, 0, none⟩ = some (.string a1_0) := (blk_cell BK215.out 0).trans rfl; have hcz41_1 : w38.cell? ⟨gb215, 1, none⟩ = some (.int .i64 a1_1) := (blk_cell BK215.out 1).trans rfl; have hcz41_2 : w38.cell? ⟨gb215, 2, none⟩ = some (.int .i64 a1_2) := (blk_cell BK215.out 2).trans rfl; have hcz41_3 : w38.cell? ⟨gb215, 3, none⟩ = some (.int .i64 a1_3) := (blk_cell BK215.out 3).trans rfl; have hcz41_4 : w38.cell? ⟨gb215, 4, none⟩ = some (.int .i64 a1_4) := (blk_cell BK215.out 4).trans rfl; have hcz41_5 : w38.cell? ⟨gb215, 5, none⟩ = some (.int .i64 a1_5) := (blk_cell BK215.out 5).trans rfl; have hcz41_6 : w38.cell? ⟨gb215, 6, none⟩ = some (.string a1_6) := (blk_cell BK215.out 6).trans rfl; have hcz41_7 : w38.cell? ⟨gb215, 7, none⟩ = some (.slice A1_7 l1_7.length c1_7) := (blk_cell BK215.out 7).trans rfl; have hfz41_0 := blk_frozen BK215.out 0; have hfz41_1 := blk_frozen BK215.out 1; have hfz41_2 := blk_frozen BK215.out 2; have hfz41_3 := blk_frozen BK215.out 3; have hfz41_4 := blk_frozen BK215.out 4; have hfz41_5 := blk_frozen BK215.out 5; have hfz41_6 := blk_frozen BK215.out 6; have hfz41_7 := blk_frozen BK215.out 7))
        go_ret
        exact ⟨by first | rfl | (simp [errW_none, errW_some] <;> rfl) | (simp [*, errW_none, errW_some] <;> rfl), by repeat (first | (with_reducible first | exact HB.out | apply below_alloc | apply pw_below_drewN | apply below_drew1 | refine below_set ?_ GE214.out | refine below_set ?_ GE215.out) | exact HB.out)⟩
    · rw [if_neg c4] at H
      have c4b0 : (a0_1 == a1_1) = false := beq_eq_false_iff_ne.mpr c4
      have c4b1 : (a0_1 != a1_1) = true := bne_iff_ne.mpr c4
      obtain rfl := Option.some.inj H
      go_enter Tryd.func36, Tryd.ntmps36
      go_wp2_with (first | ((with_reducible refine gate_dst (N := 2) rfl ?_); refine box_event ?hg (N := 2) ?hd (cs := #[.string a0_0, .int .i64 a0_1, .int .i64 a0_2, .int .i64 a0_3, .int .i64 a0_4, .int .i64 a0_5, .string a0_6, .slice A0_7 l0_7.length c0_7]) (t := 31) ?hr ?_; (case hd => rfl); (case hg => rfl); (case hr => first | (go_simp; done) | (go_simp; rfl)); intro gb214 hg w42 hbox hb; have n0_ := Aside0.mk (below_step (by repeat (first | (with_reducible first | exact HB.out | apply below_alloc | apply pw_below_drewN | apply below_drew1) | exact HB.out)) hb); have n1_ := Aside0.mk (hbox); have n2_ := Aside0.mk ((by rw [hg]; exact (below_size (by repeat (first | (with_reducible first | exact HB.out | apply below_alloc | apply pw_below_drewN | apply below_drew1) | exact HB.out))) : w.heap.size ≤ gb214)); have n3_ := Aside0.mk ((by rw [hg]; exact (below_size (by repeat (first | (with_reducible first | exact HB.out | apply below_alloc | apply pw_below_drewN | apply below_drew1) | exact HB.out))) : w.heap.size ≤ gb214)); clear HB; have HB := n0_; have BK214 := n1_; have GW214 := n2_; have GE214 := n3_; clear n0_ n1_ n2_ n3_; clear hb hbox hg) | ((with_reducible refine gate_dst (N := 3) rfl ?_); refine box_event ?hg (N := 3) ?hd (cs := #[.string a1_0, .int .i64 a1_1, .int .i64 a1_2, .int .i64 a1_3, .int .i64 a1_4, .int .i64 a1_5, .string a1_6, .slice A1_7 l1_7.length c1_7]) (t := 31) ?hr ?_; (case hd => rfl); (case hg => rfl); (case hr => first | (go_simp; done) | (go_simp; rfl)); intro gb215 hg w43 hbox hb; have n0_ := Aside0.mk (blk_below (g := gb214) (o := .cells #[.string a0_0, .int .i64 a0_1, .int .i64 a0_2, .int .i64 a0_3, .int .i64 a0_4, .int .i64 a0_5, .string a0_6, .slice A0_7 l0_7.length c0_7] 31 (0, 0)) (by (with_reducible repeat (first | refine blk_drewN ?_ _ | refine blk_drew ?_ | refine blk_alloc ?_ _)); exact BK214.out) hb); have n1_ := Aside0.mk (below_step (by repeat (first | (with_reducible first | exact HB.out | apply below_alloc | apply pw_below_drewN | apply below_drew1 | refine below_set ?_ GE214.out) | exact HB.out)) hb); have n2_ := Aside0.mk (hbox); have n3_ := Aside0.mk ((by rw [hg]; exact (below_size (by repeat (first | (with_reducible first | exact HB.out | apply below_alloc | apply pw_below_drewN | apply below_drew1 | refine below_set ?_ GE214.out) | exact HB.out))) : w.heap.size ≤ gb215)); have n4_ := Aside0.mk ((by rw [hg]; exact (below_size (by repeat (first | (with_reducible first | exact HB.out | apply below_alloc | apply pw_below_drewN | apply below_drew1 | refine below_set ?_ GE214.out) | exact HB.out))) : w.heap.size ≤ gb215)); have n5_ := Aside0.mk ((by rw [hg]; exact Nat.ne_of_lt (blk_lt (g := gb214) (o := .cells #[.string a0_0, .int .i64 a0_1, .int .i64 a0_2, .int .i64 a0_3, .int .i64 a0_4, .int .i64 a0_5, .string a0_6, .slice A0_7 l0_7.length c0_7] 31 (0, 0)) (by (with_reducible repeat (first | refine blk_drewN ?_ _ | refine blk_drew ?_ | refine blk_alloc ?_ _)); exact BK214.out)) : gb214 ≠ gb215)); have n6_ := Aside0.mk ((by rw [hg]; exact Nat.ne_of_gt (blk_lt (g := gb214) (o := .cells #[.string a0_0, .int .i64 a0_1, .int .i64 a0_2, .int .i64 a0_3, .int .i64 a0_4, .int .i64 a0_5, .string a0_6, .slice A0_7 l0_7.length c0_7] 31 (0, 0)) (by (with_reducible repeat (first | refine blk_drewN ?_ _ | refine blk_drew ?_ | refine blk_alloc ?_ _)); exact BK214.out)) : gb215 ≠ gb214)); clear BK214; clear HB; have BK214 := n0_; have HB := n1_; have BK215 := n2_; have GW215 := n3_; have GE215 := n4_; have NB214_215 := n5_; have NB215_214 := n6_; clear n0_ n1_ n2_ n3_ n4_ n5_ n6_; clear hb hbox hg; have hnb44 := NB214_215.out; have hnc44 := NB215_214.out; have hcz45_0 : w43.cell? ⟨gb214, 0, none⟩ = some (.string a0_0) := (blk_cell BK214.out 0).trans rfl; have hcz45_1 : w43.cell? ⟨gb214, 1, none⟩ = some (.int .i64 a0_1) := (blk_cell BK214.out 1).trans rfl; have hcz45_2 : w43.cell? ⟨gb214, 2, none⟩ = some (.int .i64 a0_2) := (blk_cell BK214.out 2).trans rfl; have hcz45_3 : w43.cell? ⟨gb214, 3, none⟩ = some (.int .i64 a0_3) := (blk_cell BK214.out 3).trans rfl; have hcz45_4 : w43.cell? ⟨gb214, 4, none⟩ = some (.int .i64 a0_4) := (blk_cell BK214.out 4).trans rfl; have hcz45_5 : w43.cell? ⟨gb214, 5, none⟩ = some (.int .i64 a0_5) := (blk_cell BK214.out 5).trans rfl; have hcz45_6 : w43.cell? ⟨gb214, 6, none⟩ = some (.string a0_6) := (blk_cell BK214.out 6).trans rfl; have hcz45_7 : w43.cell? ⟨gb214, 7, none⟩ = some (.slice A0_7 l0_7.length c0_7) := (blk_cell BK214.out 7).trans rfl; have hfz45_0 := blk_frozen BK214.out 0; have hfz45_1 := blk_frozen BK214.out 1; have hfz45_2 := blk_frozen BK214.out 2; have hfz45_3 := blk_frozen BK214.out 3; have hfz45_4 := blk_frozen BK214.out 4; have hfz45_5 := blk_frozen BK214.out 5; have hfz45_6 := blk_frozen BK214.out 6; have hfz45_7 := blk_frozen BK214.out 7; have hcz46_0 : w43.cell? ⟨gb215, 0, none⟩ = some (.string a1_0) := (blk_cell BK215.out 0).trans rfl; have hcz46_1 : w43.cell? ⟨gb215, 1, none⟩ = some (.int .i64 a1_1) := (blk_cell BK215.out 1).trans rfl; have hcz46_2 : w43.cell? ⟨gb215, 2, none⟩ = some (.int .i64 a1_2) := (blk_cell BK215.out 2).trans rfl; have hcz46_3 : w43.cell? ⟨gb215, 3, none⟩ = some (.int .i64 a1_3) := (blk_cell BK215.out 3).trans rfl; have hcz46_4 : w43.cell? ⟨gb215, 4, none⟩ = some (.int .i64 a1_4) := (blk_cell BK215.out 4).trans rfl; have hcz46_5 : w43.cell? ⟨gb215, 5, none⟩ = some (.int .i64 a1_5) := (blk_cell BK215.out 5).trans rfl; have hcz46_6 : w43.cell? ⟨gb215, 6, none⟩ = some (.string a1_6) := (blk_cell BK215.out 6).trans rfl; have hcz46_7 : w43.cell? ⟨gb215, 7, none⟩ = some (.slice A1_7 l1_7.length c1_7) := (blk_cell BK215.out 7).trans rfl; have hfz46_0 := blk_frozen BK215.out 0; have hfz46_1 := blk_frozen BK215.out 1; have hfz46_2 := blk_frozen BK215.out 2; have hfz46_3 := blk_frozen BK215.out 3; have hfz46_4 := blk_frozen BK215.out 4; have hfz46_5 := blk_frozen BK215.out 5; have hfz46_6 := blk_frozen BK215.out 6; have hfz46_7 := blk_frozen BK215.out 7))
      go_ret
      exact ⟨by first | rfl | (simp [errW_none, errW_some] <;> rfl) | (simp [*, errW_none, errW_some] <;> rfl), by repeat (first | (with_reducible first | exact HB.out | apply below_alloc | apply pw_below_drewN | apply below_drew1 | refine below_set ?_ GE214.out | refine below_set ?_ GE215.out) | exact HB.out)⟩
  · rw [if_neg c3] at H
    have c3b0 : (a0_0.toList == a1_0.toList) = false := beq_eq_false_iff_ne.mpr c3
    have c3b1 : (a0_0.toList != a1_0.toList) = true := bne_iff_ne.mpr c3
    obtain rfl := Option.some.inj H
    go_enter Tryd.func36, Tryd.ntmps36
    go_wp2_with (first | ((with_reducible refine gate_dst (N := 2) rfl ?_); refine box_event ?hg (N := 2) ?hd (cs := #[.string a0_0, .int .i64 a0_1, .int .i64 a0_2, .int .i64 a0_3, .int .i64 a0_4, .int .i64 a0_5, .string a0_6, .slice A0_7 l0_7.length c0_7]) (t := 31) ?hr ?_; (case hd => rfl); (case hg => rfl); (case hr => first | (go_simp; done) | (go_simp; rfl)); intro gb214 hg w47 hbox hb; have n0_ := Aside0.mk (below_step (by repeat (first | (with_reducible first | exact HB.out | apply below_alloc | apply pw_below_drewN | apply below_drew1) | exact HB.out)) hb); have n1_ := Aside0.mk (hbox); have n2_ := Aside0.mk ((by rw [hg]; exact (below_size (by repeat (first | (with_reducible first | exact HB.out | apply below_alloc | apply pw_below_drewN | apply below_drew1) | exact HB.out))) : w.heap.size ≤ gb214)); have n3_ := Aside0.mk ((by rw [hg]; exact (below_size (by repeat (first | (with_reducible first | exact HB.out | apply below_alloc | apply pw_below_drewN | apply below_drew1) | exact HB.out))) : w.heap.size ≤ gb214)); clear HB; have HB := n0_; have BK214 := n1_; have GW214 := n2_; have GE214 := n3_; clear n0_ n1_ n2_ n3_; clear hb hbox hg) | ((with_reducible refine gate_dst (N := 3) rfl ?_); refine box_event ?hg (N := 3) ?hd (cs := #[.string a1_0, .int .i64 a1_1, .int .i64 a1_2, .int .i64 a1_3, .int .i64 a1_4, .int .i64 a1_5, .string a1_6, .slice A1_7 l1_7.length c1_7]) (t := 31) ?hr ?_; (case hd => rfl); (case hg => rfl); (case hr => first | (go_simp; done) | (go_simp; rfl)); intro gb215 hg w48 hbox hb; have n0_ := Aside0.mk (blk_below (g := gb214) (o := .cells #[.string a0_0, .int .i64 a0_1, .int .i64 a0_2, .int .i64 a0_3, .int .i64 a0_4, .int .i64 a0_5, .string a0_6, .slice A0_7 l0_7.length c0_7] 31 (0, 0)) (by (with_reducible repeat (first | refine blk_drewN ?_ _ | refine blk_drew ?_ | refine blk_alloc ?_ _)); exact BK214.out) hb); have n1_ := Aside0.mk (below_step (by repeat (first | (with_reducible first | exact HB.out | apply below_alloc | apply pw_below_drewN | apply below_drew1 | refine below_set ?_ GE214.out) | exact HB.out)) hb); have n2_ := Aside0.mk (hbox); have n3_ := Aside0.mk ((by rw [hg]; exact (below_size (by repeat (first | (with_reducible first | exact HB.out | apply below_alloc | apply pw_below_drewN | apply below_drew1 | refine below_set ?_ GE214.out) | exact HB.out))) : w.heap.size ≤ gb215)); have n4_ := Aside0.mk ((by rw [hg]; exact (below_size (by repeat (first | (with_reducible first | exact HB.out | apply below_alloc | apply pw_below_drewN | apply below_drew1 | refine below_set ?_ GE214.out) | exact HB.out))) : w.heap.size ≤ gb215)); have n5_ := Aside0.mk ((by rw [hg]; exact Nat.ne_of_lt (blk_lt (g := gb214) (o := .cells #[.string a0_0, .int .i64 a0_1, .int .i64 a0_2, .int .i64 a0_3, .int .i64 a0_4, .int .i64 a0_5, .string a0_6, .slice A0_7 l0_7.length c0_7] 31 (0, 0)) (by (with_reducible repeat (first | refine blk_drewN ?_ _ | refine blk_drew ?_ | refine blk_alloc ?_ _)); exact BK214.out)) : gb214 ≠ gb215)); have n6_ := Aside0.mk ((by rw [hg]; exact Nat.ne_of_gt (blk_lt (g := gb214) (o := .cells #[.string a0_0, .int .i64 a0_1, .int .i64 a0_2, .int .i64 a0_3, .int .i64 a0_4, .int .i64 a0_5, .string a0_6, .slice A0_7 l0_7.length c0_7] 31 (0, 0)) (by (with_reducible repeat (first | refine blk_drewN ?_ _ | refine blk_drew ?_ | refine blk_alloc ?_ _)); exact BK214.out)) : gb215 ≠ gb214)); clear BK214; clear HB; have BK214 := n0_; have HB := n1_; have BK215 := n2_; have GW215 := n3_; have GE215 := n4_; have NB214_215 := n5_; have NB215_214 := n6_; clear n0_ n1_ n2_ n3_ n4_ n5_ n6_; clear hb hbox hg; have hnb49 := NB214_215.out; have hnc49 := NB215_214.out; have hcz50_0 : w48.cell? ⟨gb214, 0, none⟩ = some (.string a0_0) := (blk_cell BK214.out 0).trans rfl; have hcz50_1 : w48.cell? ⟨gb214, 1, none⟩ = some (.int .i64 a0_1) := (blk_cell BK214.out 1).trans rfl; have hcz50_2 : w48.cell? ⟨gb214, 2, none⟩ = some (.int .i64 a0_2) := (blk_cell BK214.out 2).trans rfl; have hcz50_3 : w48.cell? ⟨gb214, 3, none⟩ = some (.int .i64 a0_3) := (blk_cell BK214.out 3).trans rfl; have hcz50_4 : w48.cell? ⟨gb214, 4, none⟩ = some (.int .i64 a0_4) := (blk_cell BK214.out 4).trans rfl; have hcz50_5 : w48.cell? ⟨gb214, 5, none⟩ = some (.int .i64 a0_5) := (blk_cell BK214.out 5).trans rfl; have hcz50_6 : w48.cell? ⟨gb214, 6, none⟩ = some (.string a0_6) := (blk_cell BK214.out 6).trans rfl; have hcz50_7 : w48.cell? ⟨gb214, 7, none⟩ = some (.slice A0_7 l0_7.length c0_7) := (blk_cell BK214.out 7).trans rfl; have hfz50_0 := blk_frozen BK214.out 0; have hfz50_1 := blk_frozen BK214.out 1; have hfz50_2 := blk_frozen BK214.out 2; have hfz50_3 := blk_frozen BK214.out 3; have hfz50_4 := blk_frozen BK214.out 4; have hfz50_5 := blk_frozen BK214.out 5; have hfz50_6 := blk_frozen BK214.out 6; have hfz50_7 := blk_frozen BK214.out 7; have hcz51_0 : w48.cell? ⟨gb215, 0, none⟩ = some (.string a1_0) := (blk_cell BK215.out 0).trans rfl; have hcz51_1 : w48.cell? ⟨gb215, 1, none⟩ = some (.int .i64 a1_1) := (blk_cell BK215.out 1).trans rfl; have hcz51_2 : w48.cell? ⟨gb215, 2, none⟩ = some (.int .i64 a1_2) := (blk_cell BK215.out 2).trans rfl; have hcz51_3 : w48.cell? ⟨gb215, 3, none⟩ = some (.int .i64 a1_3) := (blk_cell BK215.out 3).trans rfl; have hcz51_4 : w48.cell? ⟨gb215, 4, none⟩ = some (.int .i64 a1_4) := (blk_cell BK215.out 4).trans rfl; have hcz51_5 : w48.cell? ⟨gb215, 5, none⟩ = some (.int .i64 a1_5) := (blk_cell BK215.out 5).trans rfl; have hcz51_6 : w48.cell? ⟨gb215, 6, none⟩ = some (.string a1_6) := (blk_cell BK215.out 6).trans rfl; have hcz51_7 : w48.cell? ⟨gb215, 7, none⟩ = some (.slice A1_7 l1_7.length c1_7) := (blk_cell BK215.out 7).trans rfl; have hfz51_0 := blk_frozen BK215.out 0; have hfz51_1 := blk_frozen BK215.out 1; have hfz51_2 := blk_frozen BK215.out 2; have hfz51_3 := blk_frozen BK215.out 3; have hfz51_4 := blk_frozen BK215.out 4; have hfz51_5 := blk_frozen BK215.out 5; have hfz51_6 := blk_frozen BK215.out 6; have hfz51_7 := blk_frozen BK215.out 7))
    go_ret
    exact ⟨by first | rfl | (simp [errW_none, errW_some] <;> rfl) | (simp [*, errW_none, errW_some] <;> rfl), by repeat (first | (with_reducible first | exact HB.out | apply below_alloc | apply pw_below_drewN | apply below_drew1 | refine below_set ?_ GE214.out | refine below_set ?_ GE215.out) | exact HB.out)⟩

/-! ### amphoraref09_Same: function 16 -/
def amphoraref09_Same.l0 : Nat → List (S31) → List (S31) → Int → Option (Bool)
  | 0, _, _, _ => none
  | k + 1, x0, x1, x5 => if x5 < (x0.length : Int) then (if 0 ≤ x5 then (if x5 < (x1.length : Int) then ((amphoraref09_SameEntry.f ((rd_T31 x0 x5).f0) ((rd_T31 x0 x5).f1) ((rd_T31 x0 x5).f2) ((rd_T31 x0 x5).f3) ((rd_T31 x0 x5).f4) ((rd_T31 x0 x5).f5) ((rd_T31 x0 x5).f6) ((rd_T31 x0 x5).f7) ((rd_T31 x1 x5).f0) ((rd_T31 x1 x5).f1) ((rd_T31 x1 x5).f2) ((rd_T31 x1 x5).f3) ((rd_T31 x1 x5).f4) ((rd_T31 x1 x5).f5) ((rd_T31 x1 x5).f6) ((rd_T31 x1 x5).f7)).bind fun t218 => (if t218 = true then (amphoraref09_Same.l0 k x0 x1 (wrap64 (x5 + 1))) else (some false))) else (none)) else (none)) else (some true)
def amphoraref09_Same.f (k : Nat) (l0 : List (S31)) (l1 : List (S31)) : Option (Bool) := if (l0.length : Int) = (l1.length : Int) then (amphoraref09_Same.l0 k l0 l1 0) else (some false)
theorem amphoraref09_Same.mono_l : ∀ k, (∀ y0 y1 y2, LeO (amphoraref09_Same.l0 k y0 y1 y2) (amphoraref09_Same.l0 (k + 1) y0 y1 y2))
  | 0 => fun _ _ _ r h => by simp [amphoraref09_Same.l0] at h
  | k + 1 => by
    have ih0 := amphoraref09_Same.mono_l k
    · intro y0 y1 y2
      unfold amphoraref09_Same.l0
      repeat' first
      | (with_reducible exact ih0 _ _ _)
      | (with_reducible exact LeO.refl _)
      | (with_reducible exact LeO.none _)
      | (with_reducible refine LeO.ite ?_ ?_)
      | (with_reducible refine LeO.bind ?_ (fun _ => ?_))
      | exact ih0 _ _ _
      | exact LeO.none _
      | refine LeO.ite ?_ ?_
      | refine LeO.bind ?_ (fun _ => ?_)
theorem amphoraref09_Same.mono : ∀ a0 a1 k, LeO (amphoraref09_Same.f k a0 a1) (amphoraref09_Same.f (k + 1) a0 a1) := by
  intro a0 a1 k
  have ih0 := amphoraref09_Same.mono_l k
  unfold amphoraref09_Same.f
  repeat' first
      | (with_reducible exact ih0 _ _ _)
      | (with_reducible exact LeO.refl _)
      | (with_reducible exact LeO.none _)
      | (with_reducible refine LeO.ite ?_ ?_)
      | (with_reducible refine LeO.bind ?_ (fun _ => ?_))
      | exact ih0 _ _ _
      | exact LeO.none _
      | refine LeO.ite ?_ ?_
      | refine LeO.bind ?_ (fun _ => ?_)
def amphoraref09_Same.T6 : Bool × List (List Nat × List Nat) := (true, [([], []), ([], []), ([0, 1], [0, 1]), ([2], [2]), ([], []), ([], []), ([4, 5], [4, 5]), ([6], [6]), ([3, 7], [3, 7]), ([8], [8])])
def amphoraref09_Same.B6 : List Nat := [0, 0, 3, 7, 0, 0, 48, 112, 255, 511]
theorem amphoraref09_Same.tab6 : rtab .any (opsOf Tryd.f16 6) = amphoraref09_Same.T6 := by kernel_rfl
theorem amphoraref09_Same.bits6 : waitsOk amphoraref09_Same.T6.2 amphoraref09_Same.B6 = true := by kernel_rfl
set_option maxHeartbeats 8000000 in
set_option maxRecDepth 100000 in
theorem amphoraref09_Same.calls (k : Nat) (A0 : Option Addr) (c0 : Nat) (l0 : List (S31)) (A1 : Option Addr) (c1 : Nat) (l1 : List (S31)) (r : Bool) (w : World) (hr0 : Kd.C k31 w A0 l0.length l0) (hc0 : l0.length ≤ c0) (hr1 : Kd.C k31 w A1 l1.length l1) (hc1 : l1.length ≤ c1) (hGl : Gl w) (h : amphoraref09_Same.f k l0 l1 = some r) :
    Calls Tryd.prog 16 #[.slice A0 l0.length c0, .slice A1 l1.length c1] w fun e w' => e = .returned (.bool r) ∧ Below w.heap.size w w' := by
  have hu31 := Tryd.underlying31
  have HR0 := Aside0.mk hr0
  have HC0 := Aside0.mk hc0
  clear hr0 hc0
  have HR1 := Aside0.mk hr1
  have HC1 := Aside0.mk hc1
  clear hr1 hc1
  have HB := Aside0.mk (Below.refl w.heap.size w)
  have HGL := Aside0.mk hGl
  clear hGl
  have H : (if (l0.length : Int) = (l1.length : Int) then (amphoraref09_Same.l0 k l0 l1 0) else (some false)) = some r := h
  clear h
  by_cases c3 : (l0.length : Int) = (l1.length : Int)
  · rw [if_pos c3] at H
    have c3b0 : ((l0.length : Int) == (l1.length : Int)) = true := beq_iff_eq.mpr c3
    have c3b1 : ((l0.length : Int) != (l1.length : Int)) = false := bne_eq_false_iff_eq.mpr c3
    have c3b2 : (l0.length == l1.length) = true := by first | simpa using c3 | (simp at c3 ⊢; omega)
    clear c3
    have H' := Aside0.mk H
    clear H
    go_enter Tryd.func16, Tryd.ntmps16
    go_wp2
    go_loopg [5] k (fun kq v5 w' => ∃ (x5_1 : Int), v5 = .int .i64 x5_1 ∧ Aside0 (amphoraref09_Same.l0 kq l0 l1 x5_1 = some r) ∧ Aside0 (kq ≤ k) ∧ Aside0 (Below w.heap.size w w'))
    case atStart => exact ⟨(0), (by first | rfl | (simp; done) | (simp [*]; done)), H', ⟨Nat.le_refl _⟩, ⟨by repeat (first | (with_reducible first | exact HB.out | apply below_alloc | apply pw_below_drewN | apply below_drew1) | exact HB.out)⟩⟩
    case round =>
      clear H'
      try clear c1
      try clear p2
      try clear c3
      try clear c3b0
      try clear c3b1
      try clear c3b2
      obtain ⟨x5_1, rfl, HA, HK1, HB⟩ := hrel
      cases gk with
      | zero => exact absurd HA.out (by simp [amphoraref09_Same.l0])
      | succ k1 =>
        have H := HA.out
        clear HA
        simp only [amphoraref09_Same.l0] at H
        by_cases c4 : x5_1 < (l0.length : Int)
        · rw [if_pos c4] at H
          have c4b0 : decide (x5_1 < (l0.length : Int)) = true := decide_eq_true c4
          clear c4
          by_cases c5 : 0 ≤ x5_1
          · rw [if_pos c5] at H
            have c5b0 : decide (0 ≤ x5_1) = true := decide_eq_true c5
            clear c5
            by_cases c6 : x5_1 < (l1.length : Int)
            · rw [if_pos c6] at H
              have c6b0 : decide (x5_1 < (l1.length : Int)) = true := decide_eq_true c6
              clear c6
              replace H := Option.bind_eq_some_iff.mp H
              obtain ⟨t218, A70, H⟩ := H
              replace H : (if t218 = true then (amphoraref09_Same.l0 k1 l0 l1 (wrap64 (x5_1 + 1))) else (some false)) = some r := H
              have A7 := Aside0.mk A70
              clear A70
              by_cases c8 : t218 = true
              · subst c8
                have H1 : (amphoraref09_Same.l0 k1 l0 l1 (wrap64 (x5_1 + 1))) = some r := by rw [if_pos rfl] at H; exact H
                clear H
                have H := H1
                clear H1
                have H' := Aside0.mk H
                clear H
                try go_wp2
                have n0_ := Aside0.mk (below_drew1 HB.out)
                clear HB
                have HB := n0_
                clear n0_
                have p216 : 0 ≤ (x5_1 : Int) := of_decide_eq_true (by first | (with_reducible assumption) | assumption)
                have q216 : x5_1 < (l0.length : Int) := of_decide_eq_true (by first | (with_reducible assumption) | assumption)
                obtain ⟨ad216, A216_7, c216_7, e216, hx216_0, hx216_1, hx216_2, hx216_3, hx216_4, hx216_5, hx216_6, hx216_7, hl216_7, hi216_7⟩ := at_T31 HR0.out x5_1 p216 q216
                have hw216_7 := hx216_7
                have hw216_6 := hx216_6
                have hw216_5 := hx216_5
                have hw216_4 := hx216_4
                have hw216_3 := hx216_3
                have hw216_2 := hx216_2
                have hw216_1 := hx216_1
                have hw216_0 := hx216_0
                cases e216
                replace hx216_0 := (HB.out.cell (World.block_lt_of_cell? w _ hx216_0)).trans hx216_0
                replace hx216_1 := (HB.out.cell (World.block_lt_of_cell? w _ hx216_1)).trans hx216_1
                replace hx216_2 := (HB.out.cell (World.block_lt_of_cell? w _ hx216_2)).trans hx216_2
                replace hx216_3 := (HB.out.cell (World.block_lt_of_cell? w _ hx216_3)).trans hx216_3
                replace hx216_4 := (HB.out.cell (World.block_lt_of_cell? w _ hx216_4)).trans hx216_4
                replace hx216_5 := (HB.out.cell (World.block_lt_of_cell? w _ hx216_5)).trans hx216_5
                replace hx216_6 := (HB.out.cell (World.block_lt_of_cell? w _ hx216_6)).trans hx216_6
                replace hx216_7 := (HB.out.cell (World.block_lt_of_cell? w _ hx216_7)).trans hx216_7
                have HR216_7 := Aside0.mk hi216_7
                have HC216_7 := Aside0.mk hl216_7
                clear hi216_7 hl216_7
                replace p216 := eq_true p216
                replace q216 := eq_true q216
                have p217 : 0 ≤ (x5_1 : Int) := of_decide_eq_true (by first | (with_reducible assumption) | assumption)
                have q217 : x5_1 < (l1.length : Int) := of_decide_eq_true (by first | (with_reducible assumption) | assumption)
                obtain ⟨ad217, A217_7, c217_7, e217, hx217_0, hx217_1, hx217_2, hx217_3, hx217_4, hx217_5, hx217_6, hx217_7, hl217_7, hi217_7⟩ := at_T31 HR1.out x5_1 p217 q217
                have hw217_7 := hx217_7
                have hw217_6 := hx217_6
                have hw217_5 := hx217_5
                have hw217_4 := hx217_4
                have hw217_3 := hx217_3
                have hw217_2 := hx217_2
                have hw217_1 := hx217_1
                have hw217_0 := hx217_0
                cases e217
                replace hx217_0 := (HB.out.cell (World.block_lt_of_cell? w _ hx217_0)).trans hx217_0
                replace hx217_1 := (HB.out.cell (World.block_lt_of_cell? w _ hx217_1)).trans hx217_1
                replace hx217_2 := (HB.out.cell (World.block_lt_of_cell? w _ hx217_2)).trans hx217_2
                replace hx217_3 := (HB.out.cell (World.block_lt_of_cell? w _ hx217_3)).trans hx217_3
                replace hx217_4 := (HB.out.cell (World.block_lt_of_cell? w _ hx217_4)).trans hx217_4
                replace hx217_5 := (HB.out.cell (World.block_lt_of_cell? w _ hx217_5)).trans hx217_5
                replace hx217_6 := (HB.out.cell (World.block_lt_of_cell? w _ hx217_6)).trans hx217_6
                replace hx217_7 := (HB.out.cell (World.block_lt_of_cell? w _ hx217_7)).trans hx217_7
                have HR217_7 := Aside0.mk hi217_7
                have HC217_7 := Aside0.mk hl217_7
                clear hi217_7 hl217_7
                replace p217 := eq_true p217
                replace q217 := eq_true q217
                refine start_ (n := 10) (S := fun w' => w'.cell? (ad216.add ((x5_1).toNat * 8)) = some (.string ((rd_T31 l0 x5_1).f0)) ∧ w'.cell? ⟨(ad216.add ((x5_1).toNat * 8)).block, (ad216.add ((x5_1).toNat * 8)).off + 1, none⟩ = some (.int .i64 ((rd_T31 l0 x5_1).f1)) ∧ w'.cell? ⟨(ad216.add ((x5_1).toNat * 8)).block, (ad216.add ((x5_1).toNat * 8)).off + 2, none⟩ = some (.int .i64 ((rd_T31 l0 x5_1).f2)) ∧ w'.cell? ⟨(ad216.add ((x5_1).toNat * 8)).block, (ad216.add ((x5_1).toNat * 8)).off + 3, none⟩ = some (.int .i64 ((rd_T31 l0 x5_1).f3)) ∧ w'.cell? ⟨(ad216.add ((x5_1).toNat * 8)).block, (ad216.add ((x5_1).toNat * 8)).off + 4, none⟩ = some (.int .i64 ((rd_T31 l0 x5_1).f4)) ∧ w'.cell? ⟨(ad216.add ((x5_1).toNat * 8)).block, (ad216.add ((x5_1).toNat * 8)).off + 5, none⟩ = some (.int .i64 ((rd_T31 l0 x5_1).f5)) ∧ w'.cell? ⟨(ad216.add ((x5_1).toNat * 8)).block, (ad216.add ((x5_1).toNat * 8)).off + 6, none⟩ = some (.string ((rd_T31 l0 x5_1).f6)) ∧ w'.cell? ⟨(ad216.add ((x5_1).toNat * 8)).block, (ad216.add ((x5_1).toNat * 8)).off + 7, none⟩ = some (.slice A216_7 ((rd_T31 l0 x5_1).f7).length c216_7) ∧ w'.cell? (ad217.add ((x5_1).toNat * 8)) = some (.string ((rd_T31 l1 x5_1).f0)) ∧ w'.cell? ⟨(ad217.add ((x5_1).toNat * 8)).block, (ad217.add ((x5_1).toNat * 8)).off + 1, none⟩ = some (.int .i64 ((rd_T31 l1 x5_1).f1)) ∧ w'.cell? ⟨(ad217.add ((x5_1).toNat * 8)).block, (ad217.add ((x5_1).toNat * 8)).off + 2, none⟩ = some (.int .i64 ((rd_T31 l1 x5_1).f2)) ∧ w'.cell? ⟨(ad217.add ((x5_1).toNat * 8)).block, (ad217.add ((x5_1).toNat * 8)).off + 3, none⟩ = some (.int .i64 ((rd_T31 l1 x5_1).f3)) ∧ w'.cell? ⟨(ad217.add ((x5_1).toNat * 8)).block, (ad217.add ((x5_1).toNat * 8)).off + 4, none⟩ = some (.int .i64 ((rd_T31 l1 x5_1).f4)) ∧ w'.cell? ⟨(ad217.add ((x5_1).toNat * 8)).block, (ad217.add ((x5_1).toNat * 8)).off + 5, none⟩ = some (.int .i64 ((rd_T31 l1 x5_1).f5)) ∧ w'.cell? ⟨(ad217.add ((x5_1).toNat * 8)).block, (ad217.add ((x5_1).toNat * 8)).off + 6, none⟩ = some (.string ((rd_T31 l1 x5_1).f6)) ∧ w'.cell? ⟨(ad217.add ((x5_1).toNat * 8)).block, (ad217.add ((x5_1).toNat * 8)).off + 7, none⟩ = some (.slice A217_7 ((rd_T31 l1 x5_1).f7).length c217_7)) (ds := []) #[false, false, false, false, false, false, false, false, false, false] (by kernel_rfl) rfl rfl ⟨((HB.out.cell (World.block_lt_of_cell? w _ hw216_0)).trans hw216_0), ((HB.out.cell (World.block_lt_of_cell? w _ hw216_1)).trans hw216_1), ((HB.out.cell (World.block_lt_of_cell? w _ hw216_2)).trans hw216_2), ((HB.out.cell (World.block_lt_of_cell? w _ hw216_3)).trans hw216_3), ((HB.out.cell (World.block_lt_of_cell? w _ hw216_4)).trans hw216_4), ((HB.out.cell (World.block_lt_of_cell? w _ hw216_5)).trans hw216_5), ((HB.out.cell (World.block_lt_of_cell? w _ hw216_6)).trans hw216_6), ((HB.out.cell (World.block_lt_of_cell? w _ hw216_7)).trans hw216_7), ((HB.out.cell (World.block_lt_of_cell? w _ hw217_0)).trans hw217_0), ((HB.out.cell (World.block_lt_of_cell? w _ hw217_1)).trans hw217_1), ((HB.out.cell (World.block_lt_of_cell? w _ hw217_2)).trans hw217_2), ((HB.out.cell (World.block_lt_of_cell? w _ hw217_3)).trans hw217_3), ((HB.out.cell (World.block_lt_of_cell? w _ hw217_4)).trans hw217_4), ((HB.out.cell (World.block_lt_of_cell? w _ hw217_5)).trans hw217_5), ((HB.out.cell (World.block_lt_of_cell? w _ hw217_6)).trans hw217_6), ((HB.out.cell (World.block_lt_of_cell? w _ hw217_7)).trans hw217_7)⟩ (fun hHeld => ?_); refine with_tabW amphoraref09_Same.tab6 amphoraref09_Same.bits6 (fun HT_ HW_ => ?_)
                generalize wr.drew = w9 at HB HR216_7 HR217_7 hx216_0 hx216_1 hx216_2 hx216_3 hx216_4 hx216_5 hx216_6 hx216_7 hx217_0 hx217_1 hx217_2 hx217_3 hx217_4 hx217_5 hx217_6 hx217_7 hHeld ⊢
                refine pure_ (i := 0) (N := some 17) (v := ?_) (a' := ?_) #[true, false, false, false, false, false, false, false, false, false] rfl rfl (any_of HT_.out (by kernel_rfl)) (fun _ _ _ h => h) (Or.inl ⟨by rfl, ?_⟩) ?_ ?_
                rotate_left
                · intro w'
                  go_simp
                  with_reducible rfl
                rotate_left
                · simp only [Act.put, List.setIfInBounds_toArray, List.set_cons_zero, List.set_cons_succ, i64_w, i32_w]
                  rfl
                refine pure_ (i := 1) (N := some 18) (v := ?_) (a' := ?_) #[true, true, false, false, false, false, false, false, false, false] rfl rfl (any_of HT_.out (by kernel_rfl)) (fun _ _ _ h => h) (Or.inl ⟨by rfl, ?_⟩) ?_ ?_
                rotate_left
                · intro w'
                  go_simp
                  with_reducible rfl
                rotate_left
                · simp only [Act.put, List.setIfInBounds_toArray, List.set_cons_zero, List.set_cons_succ, i64_w, i32_w]
                  rfl
                refine pure_ (i := 2) (N := some 19) (v := ?_) (a' := ?_) #[true, true, true, false, false, false, false, false, false, false] rfl rfl (any_of HT_.out (by kernel_rfl)) (fun _ _ _ h => h) (Or.inl ⟨by rfl, ?_⟩) ?_ ?_
                rotate_left
                · intro w'
                  go_simp
                  with_reducible rfl
                rotate_left
                · simp only [Act.put, List.setIfInBounds_toArray, List.set_cons_zero, List.set_cons_succ, i64_w, i32_w]
                  rfl
                refine pure_ (i := 4) (N := some 21) (v := ?_) (a' := ?_) #[true, true, true, false, true, false, false, false, false, false] rfl rfl (any_of HT_.out (by kernel_rfl)) (fun _ _ _ h => h) (Or.inl ⟨by rfl, ?_⟩) ?_ ?_
                rotate_left
                · intro w'
                  go_simp
                  with_reducible rfl
                rotate_left
                · simp only [Act.put, List.setIfInBounds_toArray, List.set_cons_zero, List.set_cons_succ, i64_w, i32_w]
                  rfl
                refine pure_ (i := 5) (N := some 22) (v := ?_) (a' := ?_) #[true, true, true, false, true, true, false, false, false, false] rfl rfl (any_of HT_.out (by kernel_rfl)) (fun _ _ _ h => h) (Or.inl ⟨by rfl, ?_⟩) ?_ ?_
                rotate_left
                · intro w'
                  go_simp
                  with_reducible rfl
                rotate_left
                · simp only [Act.put, List.setIfInBounds_toArray, List.set_cons_zero, List.set_cons_succ, i64_w, i32_w]
                  rfl
                refine pure_ (i := 6) (N := some 23) (v := ?_) (a' := ?_) #[true, true, true, false, true, true, true, false, false, false] rfl rfl (any_of HT_.out (by kernel_rfl)) (fun _ _ _ h => h) (Or.inl ⟨by rfl, ?_⟩) ?_ ?_
                rotate_left
                · intro w'
                  go_simp
                  with_reducible rfl
                rotate_left
                · simp only [Act.put, List.setIfInBounds_toArray, List.set_cons_zero, List.set_cons_succ, i64_w, i32_w]
                  rfl
                refine take_ (i := 3) (N := some 20) (v := ?_) (a' := ?_) #[true, true, true, true, true, true, true, false, false, false] rfl rfl (take_ofW HT_.out HW_.out (by kernel_rfl)) (fun _ _ _ h => h) (Or.inl ⟨by rfl, ?_⟩) hHeld ?_ ?_
                rotate_left
                · rintro w' ⟨s0, s1, s2, s3, s4, s5, s6, s7, s8, s9, s10, s11, s12, s13, s14, s15⟩
                  go_simp
                  with_reducible rfl
                rotate_left
                · simp only [Act.put, List.setIfInBounds_toArray, List.set_cons_zero, List.set_cons_succ, i64_w, i32_w]
                  rfl
                refine take_ (i := 7) (N := some 24) (v := ?_) (a' := ?_) #[true, true, true, true, true, true, true, true, false, false] rfl rfl (take_ofW HT_.out HW_.out (by kernel_rfl)) (fun _ _ _ h => h) (Or.inl ⟨by rfl, ?_⟩) hHeld ?_ ?_
                rotate_left
                · rintro w' ⟨s0, s1, s2, s3, s4, s5, s6, s7, s8, s9, s10, s11, s12, s13, s14, s15⟩
                  go_simp
                  with_reducible rfl
                rotate_left
                · simp only [Act.put, List.setIfInBounds_toArray, List.set_cons_zero, List.set_cons_succ, i64_w, i32_w]
                  rfl
                refine one_ (i := 8) (N := some 25) #[true, true, true, true, true, true, true, true, true, false] rfl rfl (one_of HT_.out (by kernel_rfl)) (by decide) (fun K hK => ?_)
                refine goes_ Tryd.func36 (by kernel_rfl) rfl #[.agg #[.string ((rd_T31 l0 x5_1).f0), .int .i64 ((rd_T31 l0 x5_1).f1), .int .i64 ((rd_T31 l0 x5_1).f2), .int .i64 ((rd_T31 l0 x5_1).f3), .int .i64 ((rd_T31 l0 x5_1).f4), .int .i64 ((rd_T31 l0 x5_1).f5), .string ((rd_T31 l0 x5_1).f6), .slice A216_7 ((rd_T31 l0 x5_1).f7).length c216_7], .agg #[.string ((rd_T31 l1 x5_1).f0), .int .i64 ((rd_T31 l1 x5_1).f1), .int .i64 ((rd_T31 l1 x5_1).f2), .int .i64 ((rd_T31 l1 x5_1).f3), .int .i64 ((rd_T31 l1 x5_1).f4), .int .i64 ((rd_T31 l1 x5_1).f5), .string ((rd_T31 l1 x5_1).f6), .slice A217_7 ((rd_T31 l1 x5_1).f7).length c217_7]] (by rfl) rfl rfl (by (try simp only [List.map_toArray, List.map_cons, List.map_nil]); first | done | rfl | (simp only [List.length_drop, List.length_take]; rfl)) ?_
                with_reducible refine (amphoraref09_SameEntry.calls ((rd_T31 l0 x5_1).f0) ((rd_T31 l0 x5_1).f1) ((rd_T31 l0 x5_1).f2) ((rd_T31 l0 x5_1).f3) ((rd_T31 l0 x5_1).f4) ((rd_T31 l0 x5_1).f5) ((rd_T31 l0 x5_1).f6) _ _ ((rd_T31 l0 x5_1).f7) ((rd_T31 l1 x5_1).f0) ((rd_T31 l1 x5_1).f1) ((rd_T31 l1 x5_1).f2) ((rd_T31 l1 x5_1).f3) ((rd_T31 l1 x5_1).f4) ((rd_T31 l1 x5_1).f5) ((rd_T31 l1 x5_1).f6) _ _ ((rd_T31 l1 x5_1).f7) true _ ?side1 ?side2 ?side3 ?side4 ?side5 A7.out).mono ?_
                (case side1 => repeat (first | exact (Kd.C_below HR216_7.out HB.out) | (with_reducible refine Kd.C_alloc ?_ _) | (with_reducible refine Kd.C_drewN ?_ _) | (with_reducible refine Kd.C_drew ?_)))
                (case side2 => exact HC216_7.out)
                (case side3 => repeat (first | exact (Kd.C_below HR217_7.out HB.out) | (with_reducible refine Kd.C_alloc ?_ _) | (with_reducible refine Kd.C_drewN ?_ _) | (with_reducible refine Kd.C_drew ?_)))
                (case side4 => exact HC217_7.out)
                (case side5 => first | exact HGL.out | exact Gl.drewN HGL.out _ | exact Gl.of HGL.out (by repeat (first | (with_reducible first | exact HB.out | apply below_alloc | apply pw_below_drewN | apply below_drew1) | exact HB.out)))
                rintro e w10 ⟨rfl, hb⟩
                refine ⟨_, rfl, ?_⟩
                have n0_ := Aside0.mk (below_step (by repeat (first | (with_reducible first | exact HB.out | apply below_alloc | apply pw_below_drewN | apply below_drew1) | exact HB.out)) hb)
                clear HB
                have HB := n0_
                clear n0_
                (try clear hb)
                (try clear hb2)
                (try clear hk)
                (try clear hi)
                refine hK.out _ _ ⟨((HB.out.cell (World.block_lt_of_cell? w _ hw216_0)).trans hw216_0), ((HB.out.cell (World.block_lt_of_cell? w _ hw216_1)).trans hw216_1), ((HB.out.cell (World.block_lt_of_cell? w _ hw216_2)).trans hw216_2), ((HB.out.cell (World.block_lt_of_cell? w _ hw216_3)).trans hw216_3), ((HB.out.cell (World.block_lt_of_cell? w _ hw216_4)).trans hw216_4), ((HB.out.cell (World.block_lt_of_cell? w _ hw216_5)).trans hw216_5), ((HB.out.cell (World.block_lt_of_cell? w _ hw216_6)).trans hw216_6), ((HB.out.cell (World.block_lt_of_cell? w _ hw216_7)).trans hw216_7), ((HB.out.cell (World.block_lt_of_cell? w _ hw217_0)).trans hw217_0), ((HB.out.cell (World.block_lt_of_cell? w _ hw217_1)).trans hw217_1), ((HB.out.cell (World.block_lt_of_cell? w _ hw217_2)).trans hw217_2), ((HB.out.cell (World.block_lt_of_cell? w _ hw217_3)).trans hw217_3), ((HB.out.cell (World.block_lt_of_cell? w _ hw217_4)).trans hw217_4), ((HB.out.cell (World.block_lt_of_cell? w _ hw217_5)).trans hw217_5), ((HB.out.cell (World.block_lt_of_cell? w _ hw217_6)).trans hw217_6), ((HB.out.cell (World.block_lt_of_cell? w _ hw217_7)).trans hw217_7)⟩ (fun hHeld => ?_)
                clear hK K
                refine norm_ (a' := ?_) ?_ ?_
                rotate_left
                · show Act.put _ (some 25) _ = _
                  simp only [Act.put, List.setIfInBounds_toArray, List.set_cons_zero, List.set_cons_succ, i64_w, i32_w]
                  rfl
                refine pure_ (i := 9) (N := some 26) (v := ?_) (a' := ?_) #[true, true, true, true, true, true, true, true, true, true] rfl rfl (any_of HT_.out (by kernel_rfl)) (fun _ _ _ h => h) (Or.inl ⟨by rfl, ?_⟩) ?_ ?_
                rotate_left
                · intro w'
                  go_simp
                  with_reducible rfl
                rotate_left
                · simp only [Act.put, List.setIfInBounds_toArray, List.set_cons_zero, List.set_cons_succ, i64_w, i32_w]
                  rfl
                refine done_ (done_of HT_.out (by kernel_rfl)) ?_
                try go_wp2
                go_roundg k1
                case measure => have := HK1.out; omega
                case rel => exact ⟨(wrap64 (x5_1 + 1)), (by first | rfl | (simp; done) | (simp [*]; done)), H', ⟨by have := HK1.out; omega⟩, ⟨by repeat (first | (with_reducible first | exact HB.out | apply below_alloc | apply pw_below_drewN | apply below_drew1) | exact HB.out)⟩⟩
              · replace c8 := Bool.eq_false_iff.mpr c8
                subst c8
                have H1 : (some false) = some r := by rw [if_neg (show ¬ (false = true) by decide)] at H; exact H
                clear H
                have H := H1
                clear H1
                obtain rfl := Option.some.inj H
                try go_wp2
                have n0_ := Aside0.mk (below_drew1 HB.out)
                clear HB
                have HB := n0_
                clear n0_
                have p216 : 0 ≤ (x5_1 : Int) := of_decide_eq_true (by first | (with_reducible assumption) | assumption)
                have q216 : x5_1 < (l0.length : Int) := of_decide_eq_true (by first | (with_reducible assumption) | assumption)
                obtain ⟨ad216, A216_7, c216_7, e216, hx216_0, hx216_1, hx216_2, hx216_3, hx216_4, hx216_5, hx216_6, hx216_7, hl216_7, hi216_7⟩ := at_T31 HR0.out x5_1 p216 q216
                have hw216_7 := hx216_7
                have hw216_6 := hx216_6
                have hw216_5 := hx216_5
                have hw216_4 := hx216_4
                have hw216_3 := hx216_3
                have hw216_2 := hx216_2
                have hw216_1 := hx216_1
                have hw216_0 := hx216_0
                cases e216
                replace hx216_0 := (HB.out.cell (World.block_lt_of_cell? w _ hx216_0)).trans hx216_0
                replace hx216_1 := (HB.out.cell (World.block_lt_of_cell? w _ hx216_1)).trans hx216_1
                replace hx216_2 := (HB.out.cell (World.block_lt_of_cell? w _ hx216_2)).trans hx216_2
                replace hx216_3 := (HB.out.cell (World.block_lt_of_cell? w _ hx216_3)).trans hx216_3
                replace hx216_4 := (HB.out.cell (World.block_lt_of_cell? w _ hx216_4)).trans hx216_4
                replace hx216_5 := (HB.out.cell (World.block_lt_of_cell? w _ hx216_5)).trans hx216_5
                replace hx216_6 := (HB.out.cell (World.block_lt_of_cell? w _ hx216_6)).trans hx216_6
                replace hx216_7 := (HB.out.cell (World.block_lt_of_cell? w _ hx216_7)).trans hx216_7
                have HR216_7 := Aside0.mk hi216_7
                have HC216_7 := Aside0.mk hl216_7
                clear hi216_7 hl216_7
                replace p216 := eq_true p216
                replace q216 := eq_true q216
                have p217 : 0 ≤ (x5_1 : Int) := of_decide_eq_true (by first | (with_reducible assumption) | assumption)
                have q217 : x5_1 < (l1.length : Int) := of_decide_eq_true (by first | (with_reducible assumption) | assumption)
                obtain ⟨ad217, A217_7, c217_7, e217, hx217_0, hx217_1, hx217_2, hx217_3, hx217_4, hx217_5, hx217_6, hx217_7, hl217_7, hi217_7⟩ := at_T31 HR1.out x5_1 p217 q217
                have hw217_7 := hx217_7
                have hw217_6 := hx217_6
                have hw217_5 := hx217_5
                have hw217_4 := hx217_4
                have hw217_3 := hx217_3
                have hw217_2 := hx217_2
                have hw217_1 := hx217_1
                have hw217_0 := hx217_0
                cases e217
                replace hx217_0 := (HB.out.cell (World.block_lt_of_cell? w _ hx217_0)).trans hx217_0
                replace hx217_1 := (HB.out.cell (World.block_lt_of_cell? w _ hx217_1)).trans hx217_1
                replace hx217_2 := (HB.out.cell (World.block_lt_of_cell? w _ hx217_2)).trans hx217_2
                replace hx217_3 := (HB.out.cell (World.block_lt_of_cell? w _ hx217_3)).trans hx217_3
                replace hx217_4 := (HB.out.cell (World.block_lt_of_cell? w _ hx217_4)).trans hx217_4
                replace hx217_5 := (HB.out.cell (World.block_lt_of_cell? w _ hx217_5)).trans hx217_5
                replace hx217_6 := (HB.out.cell (World.block_lt_of_cell? w _ hx217_6)).trans hx217_6
                replace hx217_7 := (HB.out.cell (World.block_lt_of_cell? w _ hx217_7)).trans hx217_7
                have HR217_7 := Aside0.mk hi217_7
                have HC217_7 := Aside0.mk hl217_7
                clear hi217_7 hl217_7
                replace p217 := eq_true p217
                replace q217 := eq_true q217
                refine start_ (n := 10) (S := fun w' => w'.cell? (ad216.add ((x5_1).toNat * 8)) = some (.string ((rd_T31 l0 x5_1).f0)) ∧ w'.cell? ⟨(ad216.add ((x5_1).toNat * 8)).block, (ad216.add ((x5_1).toNat * 8)).off + 1, none⟩ = some (.int .i64 ((rd_T31 l0 x5_1).f1)) ∧ w'.cell? ⟨(ad216.add ((x5_1).toNat * 8)).block, (ad216.add ((x5_1).toNat * 8)).off + 2, none⟩ = some (.int .i64 ((rd_T31 l0 x5_1).f2)) ∧ w'.cell? ⟨(ad216.add ((x5_1).toNat * 8)).block, (ad216.add ((x5_1).toNat * 8)).off + 3, none⟩ = some (.int .i64 ((rd_T31 l0 x5_1).f3)) ∧ w'.cell? ⟨(ad216.add ((x5_1).toNat * 8)).block, (ad216.add ((x5_1).toNat * 8)).off + 4, none⟩ = some (.int .i64 ((rd_T31 l0 x5_1).f4)) ∧ w'.cell? ⟨(ad216.add ((x5_1).toNat * 8)).block, (ad216.add ((x5_1).toNat * 8)).off + 5, none⟩ = some (.int .i64 ((rd_T31 l0 x5_1).f5)) ∧ w'.cell? ⟨(ad216.add ((x5_1).toNat * 8)).block, (ad216.add ((x5_1).toNat * 8)).off + 6, none⟩ = some (.string ((rd_T31 l0 x5_1).f6)) ∧ w'.cell? ⟨(ad216.add ((x5_1).toNat * 8)).block, (ad216.add ((x5_1).toNat * 8)).off + 7, none⟩ = some (.slice A216_7 ((rd_T31 l0 x5_1).f7).length c216_7) ∧ w'.cell? (ad217.add ((x5_1).toNat * 8)) = some (.string ((rd_T31 l1 x5_1).f0)) ∧ w'.cell? ⟨(ad217.add ((x5_1).toNat * 8)).block, (ad217.add ((x5_1).toNat * 8)).off + 1, none⟩ = some (.int .i64 ((rd_T31 l1 x5_1).f1)) ∧ w'.cell? ⟨(ad217.add ((x5_1).toNat * 8)).block, (ad217.add ((x5_1).toNat * 8)).off + 2, none⟩ = some (.int .i64 ((rd_T31 l1 x5_1).f2)) ∧ w'.cell? ⟨(ad217.add ((x5_1).toNat * 8)).block, (ad217.add ((x5_1).toNat * 8)).off + 3, none⟩ = some (.int .i64 ((rd_T31 l1 x5_1).f3)) ∧ w'.cell? ⟨(ad217.add ((x5_1).toNat * 8)).block, (ad217.add ((x5_1).toNat * 8)).off + 4, none⟩ = some (.int .i64 ((rd_T31 l1 x5_1).f4)) ∧ w'.cell? ⟨(ad217.add ((x5_1).toNat * 8)).block, (ad217.add ((x5_1).toNat * 8)).off + 5, none⟩ = some (.int .i64 ((rd_T31 l1 x5_1).f5)) ∧ w'.cell? ⟨(ad217.add ((x5_1).toNat * 8)).block, (ad217.add ((x5_1).toNat * 8)).off + 6, none⟩ = some (.string ((rd_T31 l1 x5_1).f6)) ∧ w'.cell? ⟨(ad217.add ((x5_1).toNat * 8)).block, (ad217.add ((x5_1).toNat * 8)).off + 7, none⟩ = some (.slice A217_7 ((rd_T31 l1 x5_1).f7).length c217_7)) (ds := []) #[false, false, false, false, false, false, false, false, false, false] (by kernel_rfl) rfl rfl ⟨((HB.out.cell (World.block_lt_of_cell? w _ hw216_0)).trans hw216_0), ((HB.out.cell (World.block_lt_of_cell? w _ hw216_1)).trans hw216_1), ((HB.out.cell (World.block_lt_of_cell? w _ hw216_2)).trans hw216_2), ((HB.out.cell (World.block_lt_of_cell? w _ hw216_3)).trans hw216_3), ((HB.out.cell (World.block_lt_of_cell? w _ hw216_4)).trans hw216_4), ((HB.out.cell (World.block_lt_of_cell? w _ hw216_5)).trans hw216_5), ((HB.out.cell (World.block_lt_of_cell? w _ hw216_6)).trans hw216_6), ((HB.out.cell (World.block_lt_of_cell? w _ hw216_7)).trans hw216_7), ((HB.out.cell (World.block_lt_of_cell? w _ hw217_0)).trans hw217_0), ((HB.out.cell (World.block_lt_of_cell? w _ hw217_1)).trans hw217_1), ((HB.out.cell (World.block_lt_of_cell? w _ hw217_2)).trans hw217_2), ((HB.out.cell (World.block_lt_of_cell? w _ hw217_3)).trans hw217_3), ((HB.out.cell (World.block_lt_of_cell? w _ hw217_4)).trans hw217_4), ((HB.out.cell (World.block_lt_of_cell? w _ hw217_5)).trans hw217_5), ((HB.out.cell (World.block_lt_of_cell? w _ hw217_6)).trans hw217_6), ((HB.out.cell (World.block_lt_of_cell? w _ hw217_7)).trans hw217_7)⟩ (fun hHeld => ?_); refine with_tabW amphoraref09_Same.tab6 amphoraref09_Same.bits6 (fun HT_ HW_ => ?_)
                generalize wr.drew = w11 at HB HR216_7 HR217_7 hx216_0 hx216_1 hx216_2 hx216_3 hx216_4 hx216_5 hx216_6 hx216_7 hx217_0 hx217_1 hx217_2 hx217_3 hx217_4 hx217_5 hx217_6 hx217_7 hHeld ⊢
                refine pure_ (i := 0) (N := some 17) (v := ?_) (a' := ?_) #[true, false, false, false, false, false, false, false, false, false] rfl rfl (any_of HT_.out (by kernel_rfl)) (fun _ _ _ h => h) (Or.inl ⟨by rfl, ?_⟩) ?_ ?_
                rotate_left
                · intro w'
                  go_simp
                  with_reducible rfl
                rotate_left
                · simp only [Act.put, List.setIfInBounds_toArray, List.set_cons_zero, List.set_cons_succ, i64_w, i32_w]
                  rfl
                refine pure_ (i := 1) (N := some 18) (v := ?_) (a' := ?_) #[true, true, false, false, false, false, false, false, false, false] rfl rfl (any_of HT_.out (by kernel_rfl)) (fun _ _ _ h => h) (Or.inl ⟨by rfl, ?_⟩) ?_ ?_
                rotate_left
                · intro w'
                  go_simp
                  with_reducible rfl
                rotate_left
                · simp only [Act.put, List.setIfInBounds_toArray, List.set_cons_zero, List.set_cons_succ, i64_w, i32_w]
                  rfl
                refine pure_ (i := 2) (N := some 19) (v := ?_) (a' := ?_) #[true, true, true, false, false, false, false, false, false, false] rfl rfl (any_of HT_.out (by kernel_rfl)) (fun _ _ _ h => h) (Or.inl ⟨by rfl, ?_⟩) ?_ ?_
                rotate_left
                · intro w'
                  go_simp
                  with_reducible rfl
                rotate_left
                · simp only [Act.put, List.setIfInBounds_toArray, List.set_cons_zero, List.set_cons_succ, i64_w, i32_w]
                  rfl
                refine pure_ (i := 4) (N := some 21) (v := ?_) (a' := ?_) #[true, true, true, false, true, false, false, false, false, false] rfl rfl (any_of HT_.out (by kernel_rfl)) (fun _ _ _ h => h) (Or.inl ⟨by rfl, ?_⟩) ?_ ?_
                rotate_left
                · intro w'
                  go_simp
                  with_reducible rfl
                rotate_left
                · simp only [Act.put, List.setIfInBounds_toArray, List.set_cons_zero, List.set_cons_succ, i64_w, i32_w]
                  rfl
                refine pure_ (i := 5) (N := some 22) (v := ?_) (a' := ?_) #[true, true, true, false, true, true, false, false, false, false] rfl rfl (any_of HT_.out (by kernel_rfl)) (fun _ _ _ h => h) (Or.inl ⟨by rfl, ?_⟩) ?_ ?_
                rotate_left
                · intro w'
                  go_simp
                  with_reducible rfl
                rotate_left
                · simp only [Act.put, List.setIfInBounds_toArray, List.set_cons_zero, List.set_cons_succ, i64_w, i32_w]
                  rfl
                refine pure_ (i := 6) (N := some 23) (v := ?_) (a' := ?_) #[true, true, true, false, true, true, true, false, false, false] rfl rfl (any_of HT_.out (by kernel_rfl)) (fun _ _ _ h => h) (Or.inl ⟨by rfl, ?_⟩) ?_ ?_
                rotate_left
                · intro w'
                  go_simp
                  with_reducible rfl
                rotate_left
                · simp only [Act.put, List.setIfInBounds_toArray, List.set_cons_zero, List.set_cons_succ, i64_w, i32_w]
                  rfl
                refine take_ (i := 3) (N := some 20) (v := ?_) (a' := ?_) #[true, true, true, true, true, true, true, false, false, false] rfl rfl (take_ofW HT_.out HW_.out (by kernel_rfl)) (fun _ _ _ h => h) (Or.inl ⟨by rfl, ?_⟩) hHeld ?_ ?_
                rotate_left
                · rintro w' ⟨s0, s1, s2, s3, s4, s5, s6, s7, s8, s9, s10, s11, s12, s13, s14, s15⟩
                  go_simp
                  with_reducible rfl
                rotate_left
                · simp only [Act.put, List.setIfInBounds_toArray, List.set_cons_zero, List.set_cons_succ, i64_w, i32_w]
                  rfl
                refine take_ (i := 7) (N := some 24) (v := ?_) (a' := ?_) #[true, true, true, true, true, true, true, true, false, false] rfl rfl (take_ofW HT_.out HW_.out (by kernel_rfl)) (fun _ _ _ h => h) (Or.inl ⟨by rfl, ?_⟩) hHeld ?_ ?_
                rotate_left
                · rintro w' ⟨s0, s1, s2, s3, s4, s5, s6, s7, s8, s9, s10, s11, s12, s13, s14, s15⟩
                  go_simp
                  with_reducible rfl
                rotate_left
                · simp only [Act.put, List.setIfInBounds_toArray, List.set_cons_zero, List.set_cons_succ, i64_w, i32_w]
                  rfl
                refine one_ (i := 8) (N := some 25) #[true, true, true, true, true, true, true, true, true, false] rfl rfl (one_of HT_.out (by kernel_rfl)) (by decide) (fun K hK => ?_)
                refine goes_ Tryd.func36 (by kernel_rfl) rfl #[.agg #[.string ((rd_T31 l0 x5_1).f0), .int .i64 ((rd_T31 l0 x5_1).f1), .int .i64 ((rd_T31 l0 x5_1).f2), .int .i64 ((rd_T31 l0 x5_1).f3), .int .i64 ((rd_T31 l0 x5_1).f4), .int .i64 ((rd_T31 l0 x5_1).f5), .string ((rd_T31 l0 x5_1).f6), .slice A216_7 ((rd_T31 l0 x5_1).f7).length c216_7], .agg #[.string ((rd_T31 l1 x5_1).f0), .int .i64 ((rd_T31 l1 x5_1).f1), .int .i64 ((rd_T31 l1 x5_1).f2), .int .i64 ((rd_T31 l1 x5_1).f3), .int .i64 ((rd_T31 l1 x5_1).f4), .int .i64 ((rd_T31 l1 x5_1).f5), .string ((rd_T31 l1 x5_1).f6), .slice A217_7 ((rd_T31 l1 x5_1).f7).length c217_7]] (by rfl) rfl rfl (by (try simp only [List.map_toArray, List.map_cons, List.map_nil]); first | done | rfl | (simp only [List.length_drop, List.length_take]; rfl)) ?_
                with_reducible refine (amphoraref09_SameEntry.calls ((rd_T31 l0 x5_1).f0) ((rd_T31 l0 x5_1).f1) ((rd_T31 l0 x5_1).f2) ((rd_T31 l0 x5_1).f3) ((rd_T31 l0 x5_1).f4) ((rd_T31 l0 x5_1).f5) ((rd_T31 l0 x5_1).f6) _ _ ((rd_T31 l0 x5_1).f7) ((rd_T31 l1 x5_1).f0) ((rd_T31 l1 x5_1).f1) ((rd_T31 l1 x5_1).f2) ((rd_T31 l1 x5_1).f3) ((rd_T31 l1 x5_1).f4) ((rd_T31 l1 x5_1).f5) ((rd_T31 l1 x5_1).f6) _ _ ((rd_T31 l1 x5_1).f7) false _ ?side1 ?side2 ?side3 ?side4 ?side5 A7.out).mono ?_
                (case side1 => repeat (first | exact (Kd.C_below HR216_7.out HB.out) | (with_reducible refine Kd.C_alloc ?_ _) | (with_reducible refine Kd.C_drewN ?_ _) | (with_reducible refine Kd.C_drew ?_)))
                (case side2 => exact HC216_7.out)
                (case side3 => repeat (first | exact (Kd.C_below HR217_7.out HB.out) | (with_reducible refine Kd.C_alloc ?_ _) | (with_reducible refine Kd.C_drewN ?_ _) | (with_reducible refine Kd.C_drew ?_)))
                (case side4 => exact HC217_7.out)
                (case side5 => first | exact HGL.out | exact Gl.drewN HGL.out _ | exact Gl.of HGL.out (by repeat (first | (with_reducible first | exact HB.out | apply below_alloc | apply pw_below_drewN | apply below_drew1) | exact HB.out)))
                rintro e w12 ⟨rfl, hb⟩
                refine ⟨_, rfl, ?_⟩
                have n0_ := Aside0.mk (below_step (by repeat (first | (with_reducible first | exact HB.out | apply below_alloc | apply pw_below_drewN | apply below_drew1) | exact HB.out)) hb)
                clear HB
                have HB := n0_
                clear n0_
                (try clear hb)
                (try clear hb2)
                (try clear hk)
                (try clear hi)
                refine hK.out _ _ ⟨((HB.out.cell (World.block_lt_of_cell? w _ hw216_0)).trans hw216_0), ((HB.out.cell (World.block_lt_of_cell? w _ hw216_1)).trans hw216_1), ((HB.out.cell (World.block_lt_of_cell? w _ hw216_2)).trans hw216_2), ((HB.out.cell (World.block_lt_of_cell? w _ hw216_3)).trans hw216_3), ((HB.out.cell (World.block_lt_of_cell? w _ hw216_4)).trans hw216_4), ((HB.out.cell (World.block_lt_of_cell? w _ hw216_5)).trans hw216_5), ((HB.out.cell (World.block_lt_of_cell? w _ hw216_6)).trans hw216_6), ((HB.out.cell (World.block_lt_of_cell? w _ hw216_7)).trans hw216_7), ((HB.out.cell (World.block_lt_of_cell? w _ hw217_0)).trans hw217_0), ((HB.out.cell (World.block_lt_of_cell? w _ hw217_1)).trans hw217_1), ((HB.out.cell (World.block_lt_of_cell? w _ hw217_2)).trans hw217_2), ((HB.out.cell (World.block_lt_of_cell? w _ hw217_3)).trans hw217_3), ((HB.out.cell (World.block_lt_of_cell? w _ hw217_4)).trans hw217_4), ((HB.out.cell (World.block_lt_of_cell? w _ hw217_5)).trans hw217_5), ((HB.out.cell (World.block_lt_of_cell? w _ hw217_6)).trans hw217_6), ((HB.out.cell (World.block_lt_of_cell? w _ hw217_7)).trans hw217_7)⟩ (fun hHeld => ?_)
                clear hK K
                refine norm_ (a' := ?_) ?_ ?_
                rotate_left
                · show Act.put _ (some 25) _ = _
                  simp only [Act.put, List.setIfInBounds_toArray, List.set_cons_zero, List.set_cons_succ, i64_w, i32_w]
                  rfl
                refine pure_ (i := 9) (N := some 26) (v := ?_) (a' := ?_) #[true, true, true, true, true, true, true, true, true, true] rfl rfl (any_of HT_.out (by kernel_rfl)) (fun _ _ _ h => h) (Or.inl ⟨by rfl, ?_⟩) ?_ ?_
                rotate_left
                · intro w'
                  go_simp
                  with_reducible rfl
                rotate_left
                · simp only [Act.put, List.setIfInBounds_toArray, List.set_cons_zero, List.set_cons_succ, i64_w, i32_w]
                  rfl
                refine done_ (done_of HT_.out (by kernel_rfl)) ?_
                try go_wp2
                go_ret
                exact ⟨by first | rfl | (simp [errW_none, errW_some] <;> rfl) | (simp [*, errW_none, errW_some] <;> rfl), by repeat (first | (with_reducible first | exact HB.out | apply below_alloc | apply pw_below_drewN | apply below_drew1) | exact HB.out)⟩
            · rw [if_neg c6] at H
              exact absurd H (by simp)
          · rw [if_neg c5] at H
            exact absurd H (by simp)
        · rw [if_neg c4] at H
          have c4b0 : decide (x5_1 < (l0.length : Int)) = false := decide_eq_false c4
          clear c4
          obtain rfl := Option.some.inj H
          go_wp2
          go_ret
          exact ⟨by first | rfl | (simp [errW_none, errW_some] <;> rfl) | (simp [*, errW_none, errW_some] <;> rfl), by repeat (first | (with_reducible first | exact HB.out | apply below_alloc | apply pw_below_drewN | apply below_drew1) | exact HB.out)⟩
  · rw [if_neg c3] at H
    have c3b0 : ((l0.length : Int) == (l1.length : Int)) = false := beq_eq_false_iff_ne.mpr c3
    have c3b1 : ((l0.length : Int) != (l1.length : Int)) = true := bne_iff_ne.mpr c3
    have c3b2 : (l0.length == l1.length) = false := by first | simpa using c3 | (simp at c3 ⊢; omega)
    obtain rfl := Option.some.inj H
    go_enter Tryd.func16, Tryd.ntmps16
    go_wp2
    go_ret
    exact ⟨by first | rfl | (simp [errW_none, errW_some] <;> rfl) | (simp [*, errW_none, errW_some] <;> rfl), by repeat (first | (with_reducible first | exact HB.out | apply below_alloc | apply pw_below_drewN | apply below_drew1) | exact HB.out)⟩

/-! ### amphoraref09_Copy: function 17 -/
def amphoraref09_Copy.l0 : Nat → List (S31) → List (S31) → Int → Option ((List (S31)))
  | 0, _, _, _ => none
  | k + 1, x0, x3, x4 => if x4 < (x0.length : Int) then (if 0 ≤ x4 then ((some (([] : List Int) : List Int)).bind fun y221 => (if y221.length + ((rd_T31 x0 x4).f7).length < 140737488355328 then (if x3.length < 1466015503701 then (amphoraref09_Copy.l0 k x0 (x3 ++ [(⟨(rd_T31 x0 x4).f0, (rd_T31 x0 x4).f1, (rd_T31 x0 x4).f2, (rd_T31 x0 x4).f3, (rd_T31 x0 x4).f4, (rd_T31 x0 x4).f5, (rd_T31 x0 x4).f6, (y221 ++ ((rd_T31 x0 x4).f7))⟩ : S31)]) (wrap64 (x4 + 1))) else (none)) else (none))) else (none)) else (some x3)
def amphoraref09_Copy.f (k : Nat) (l0 : List (S31)) : Option ((List (S31))) := amphoraref09_Copy.l0 k l0 ([] : List (S31)) 0
theorem amphoraref09_Copy.mono_l : ∀ k, (∀ y0 y1 y2, LeO (amphoraref09_Copy.l0 k y0 y1 y2) (amphoraref09_Copy.l0 (k + 1) y0 y1 y2))
  | 0 => fun _ _ _ r h => by simp [amphoraref09_Copy.l0] at h
  | k + 1 => by
    have ih0 := amphoraref09_Copy.mono_l k
    · intro y0 y1 y2
      unfold amphoraref09_Copy.l0
      repeat' first
      | (with_reducible exact ih0 _ _ _)
      | (with_reducible exact LeO.refl _)
      | (with_reducible exact LeO.none _)
      | (with_reducible refine LeO.ite ?_ ?_)
      | (with_reducible refine LeO.bind ?_ (fun _ => ?_))
      | exact ih0 _ _ _
      | exact LeO.none _
      | refine LeO.ite ?_ ?_
      | refine LeO.bind ?_ (fun _ => ?_)
theorem amphoraref09_Copy.mono : ∀ a0 k, LeO (amphoraref09_Copy.f k a0) (amphoraref09_Copy.f (k + 1) a0) := by
  intro a0 k
  have ih0 := amphoraref09_Copy.mono_l k
  unfold amphoraref09_Copy.f
  repeat' first
      | (with_reducible exact ih0 _ _ _)
      | (with_reducible exact LeO.refl _)
      | (with_reducible exact LeO.none _)
      | (with_reducible refine LeO.ite ?_ ?_)
      | (with_reducible refine LeO.bind ?_ (fun _ => ?_))
      | exact ih0 _ _ _
      | exact LeO.none _
      | refine LeO.ite ?_ ?_
      | refine LeO.bind ?_ (fun _ => ?_)
set_option maxHeartbeats 8000000 in
set_option maxRecDepth 100000 in
theorem amphoraref09_Copy.calls (k : Nat) (A0 : Option Addr) (c0 : Nat) (l0 : List (S31)) (r : List (S31)) (w : World) (hr0 : Kd.C k31 w A0 l0.length l0) (hc0 : l0.length ≤ c0) (hGl : Gl w) (h : amphoraref09_Copy.f k l0 = some r) :
    Calls Tryd.prog 17 #[.slice A0 l0.length c0] w fun e w' => ∃ v0_ : Value, e = .returned (v0_) ∧ Kd.S k31 31 w' w.heap.size (fun _ => True) v0_ r ∧ Below w.heap.size w w' := by
  have hu31 := Tryd.underlying31
  have HR0 := Aside0.mk hr0
  have HC0 := Aside0.mk hc0
  clear hr0 hc0
  have HB := Aside0.mk (Below.refl w.heap.size w)
  have HGL := Aside0.mk hGl
  clear hGl
  have H : (amphoraref09_Copy.l0 k l0 ([] : List (S31)) 0) = some r := h
  clear h
  have H' := Aside0.mk H
  clear H
  go_enter Tryd.func17, Tryd.ntmps17
  go_wp2
  go_loopg [3, 4] k (fun kq v3 v4 w' => ∃ (x3_1 : List (S31)) (x4_1 : Int), v4 = .int .i64 x4_1 ∧ Aside0 (amphoraref09_Copy.l0 kq l0 x3_1 x4_1 = some r) ∧ Aside0 (kq ≤ k) ∧ Aside0 (Kd.S k31 31 w' w.heap.size (fun _ => True) v3 x3_1) ∧ Aside0 (Below w.heap.size w w'))
  case atStart => exact ⟨(([] : List (S31))), (0), (by first | rfl | (simp; done) | (simp [*]; done)), H', ⟨Nat.le_refl _⟩, ⟨by first | exact Kd.S_nil _ _ _ _ _ | exact Kd.N_nil _ _ _ _ _ | exact Kd.V_nil _ _ _ _ _ | exact Kd.Q_nil _ _ _ _ _ | exact Kd.R_nil _ _ _ _ _⟩, ⟨by repeat (first | (with_reducible first | exact HB.out | apply below_alloc | apply pw_below_drewN | apply below_drew1) | exact HB.out)⟩⟩
  case round =>
    clear H'
    try clear c1
    obtain ⟨x3_1, x4_1, rfl, HA, HK1, HO_3, HB⟩ := hrel
    cases gk with
    | zero => exact absurd HA.out (by simp [amphoraref09_Copy.l0])
    | succ k1 =>
      have H := HA.out
      clear HA
      simp only [amphoraref09_Copy.l0] at H
      by_cases c2 : x4_1 < (l0.length : Int)
      · rw [if_pos c2] at H
        have c2b0 : decide (x4_1 < (l0.length : Int)) = true := decide_eq_true c2
        clear c2
        by_cases c3 : 0 ≤ x4_1
        · rw [if_pos c3] at H
          have c3b0 : decide (0 ≤ x4_1) = true := decide_eq_true c3
          clear c3
          obtain ⟨y221, hy221⟩ : ∃ y_ : List Int, y_ = (([] : List Int)) := ⟨_, rfl⟩
          replace H : (if y221.length + ((rd_T31 l0 x4_1).f7).length < 140737488355328 then (if x3_1.length < 1466015503701 then (amphoraref09_Copy.l0 k1 l0 (x3_1 ++ [(⟨(rd_T31 l0 x4_1).f0, (rd_T31 l0 x4_1).f1, (rd_T31 l0 x4_1).f2, (rd_T31 l0 x4_1).f3, (rd_T31 l0 x4_1).f4, (rd_T31 l0 x4_1).f5, (rd_T31 l0 x4_1).f6, (y221 ++ ((rd_T31 l0 x4_1).f7))⟩ : S31)]) (wrap64 (x4_1 + 1))) else (none)) else (none)) = some r := by first | (rw [hy221]; with_reducible exact H) | (have H2_ := (Option.bind_some _ _).symm.trans H; rw [hy221]; with_reducible exact H2_) | (have H2_ := (Option.bind_some _ _).symm.trans H; with_reducible exact H2_) | with_reducible exact H | (rw [hy221]; exact H) | exact H
          have Ny221 := Aside0.mk hy221
          clear hy221
          by_cases c4 : y221.length + ((rd_T31 l0 x4_1).f7).length < 140737488355328
          · rw [if_pos c4] at H
            have LMc4 := Aside0.mk c4
            clear c4
            obtain ⟨y224, hy224⟩ : ∃ y_ : List Int, y_ = (y221 ++ ((rd_T31 l0 x4_1).f7)) := ⟨_, rfl⟩
            replace H : (if x3_1.length < 1466015503701 then (amphoraref09_Copy.l0 k1 l0 (x3_1 ++ [(⟨(rd_T31 l0 x4_1).f0, (rd_T31 l0 x4_1).f1, (rd_T31 l0 x4_1).f2, (rd_T31 l0 x4_1).f3, (rd_T31 l0 x4_1).f4, (rd_T31 l0 x4_1).f5, (rd_T31 l0 x4_1).f6, y224⟩ : S31)]) (wrap64 (x4_1 + 1))) else (none)) = some r := by first | (rw [hy224]; with_reducible exact H) | (have H2_ := (Option.bind_some _ _).symm.trans H; rw [hy224]; with_reducible exact H2_) | (have H2_ := (Option.bind_some _ _).symm.trans H; with_reducible exact H2_) | with_reducible exact H | (rw [hy224]; exact H) | exact H
            have Ny224 := Aside0.mk hy224
            clear hy224
            by_cases c5 : x3_1.length < 1466015503701
            · rw [if_pos c5] at H
              have LMc5 := Aside0.mk c5
              clear c5
              obtain ⟨y227, hy227⟩ : ∃ y_ : List (S31), y_ = (x3_1 ++ [(⟨(rd_T31 l0 x4_1).f0, (rd_T31 l0 x4_1).f1, (rd_T31 l0 x4_1).f2, (rd_T31 l0 x4_1).f3, (rd_T31 l0 x4_1).f4, (rd_T31 l0 x4_1).f5, (rd_T31 l0 x4_1).f6, y224⟩ : S31)]) := ⟨_, rfl⟩
              replace H : (amphoraref09_Copy.l0 k1 l0 y227 (wrap64 (x4_1 + 1))) = some r := by first | (rw [hy227]; with_reducible exact H) | (have H2_ := (Option.bind_some _ _).symm.trans H; rw [hy227]; with_reducible exact H2_) | (have H2_ := (Option.bind_some _ _).symm.trans H; with_reducible exact H2_) | with_reducible exact H | (rw [hy227]; exact H) | exact H
              have Ny227 := Aside0.mk hy227
              clear hy227
              have H' := Aside0.mk H
              clear H
              have p219 : 0 ≤ (x4_1 : Int) := of_decide_eq_true (by first | (with_reducible assumption) | assumption)
              have q219 : x4_1 < (l0.length : Int) := of_decide_eq_true (by first | (with_reducible assumption) | assumption)
              obtain ⟨ad219, A219_7, c219_7, e219, hx219_0, hx219_1, hx219_2, hx219_3, hx219_4, hx219_5, hx219_6, hx219_7, hl219_7, hi219_7⟩ := at_T31 HR0.out x4_1 p219 q219
              cases e219
              replace hx219_0 := (HB.out.cell (World.block_lt_of_cell? w _ hx219_0)).trans hx219_0
              replace hx219_1 := (HB.out.cell (World.block_lt_of_cell? w _ hx219_1)).trans hx219_1
              replace hx219_2 := (HB.out.cell (World.block_lt_of_cell? w _ hx219_2)).trans hx219_2
              replace hx219_3 := (HB.out.cell (World.block_lt_of_cell? w _ hx219_3)).trans hx219_3
              replace hx219_4 := (HB.out.cell (World.block_lt_of_cell? w _ hx219_4)).trans hx219_4
              replace hx219_5 := (HB.out.cell (World.block_lt_of_cell? w _ hx219_5)).trans hx219_5
              replace hx219_6 := (HB.out.cell (World.block_lt_of_cell? w _ hx219_6)).trans hx219_6
              replace hx219_7 := (HB.out.cell (World.block_lt_of_cell? w _ hx219_7)).trans hx219_7
              have HR219_7 := Aside0.mk hi219_7
              have HC219_7 := Aside0.mk hl219_7
              clear hi219_7 hl219_7
              replace p219 := eq_true p219
              replace q219 := eq_true q219
              go_wp2_with (first | ((with_reducible refine gate_dst (N := 5) rfl ?_); refine box_event ?hg (N := 5) ?hd (cs := #[.string (⟨#[]⟩ : ByteArray), .int .i64 0, .int .i64 0, .int .i64 0, .int .i64 0, .int .i64 0, .string (⟨#[]⟩ : ByteArray), .slice none 0 0]) (t := 31) ?hr ?_; (case hd => rfl); (case hg => rfl); (case hr => first | (go_simp; done) | (go_simp; rfl)); intro gb220 hg w6 hbox hb; have n0_ := Aside0.mk (Kd.S_below (Kd.S_elderB (by (with_reducible repeat (first | apply Kd.S_alloc | apply Kd.S_drewN | apply Kd.S_drew)); exact HO_3.out) gb220 (Nat.le_of_eq hg.symm)) hb); have n1_ := Aside0.mk (below_step (by repeat (first | (with_reducible first | exact HB.out | apply below_alloc | apply pw_below_drewN | apply below_drew1) | exact HB.out)) hb); have n2_ := Aside0.mk (hbox); have n3_ := Aside0.mk ((by rw [hg]; exact (below_size (by repeat (first | (with_reducible first | exact HB.out | apply below_alloc | apply pw_below_drewN | apply below_drew1) | exact HB.out))) : w.heap.size ≤ gb220)); have n4_ := Aside0.mk ((by rw [hg]; exact (below_size (by repeat (first | (with_reducible first | exact HB.out | apply below_alloc | apply pw_below_drewN | apply below_drew1) | exact HB.out))) : w.heap.size ≤ gb220)); clear HO_3; clear HB; have HO_3 := n0_; have HB := n1_; have BK220 := n2_; have GW220 := n3_; have GE220 := n4_; clear n0_ n1_ n2_ n3_ n4_; clear hb hbox hg; have hcz7_0 : w6.cell? ⟨gb220, 0, none⟩ = some (.string (⟨#[]⟩ : ByteArray)) := (blk_cell BK220.out 0).trans rfl; have hcz7_1 : w6.cell? ⟨gb220, 1, none⟩ = some (.int .i64 0) := (blk_cell BK220.out 1).trans rfl; have hcz7_2 : w6.cell? ⟨gb220, 2, none⟩ = some (.int .i64 0) := (blk_cell BK220.out 2).trans rfl; have hcz7_3 : w6.cell? ⟨gb220, 3, none⟩ = some (.int .i64 0) := (blk_cell BK220.out 3).trans rfl; have hcz7_4 : w6.cell? ⟨gb220, 4, none⟩ = some (.int .i64 0) := (blk_cell BK220.out 4).trans rfl; have hcz7_5 : w6.cell? ⟨gb220, 5, none⟩ = some (.int .i64 0) := (blk_cell BK220.out 5).trans rfl; have hcz7_6 : w6.cell? ⟨gb220, 6, none⟩ = some (.string (⟨#[]⟩ : ByteArray)) := (blk_cell BK220.out 6).trans rfl; have hcz7_7 : w6.cell? ⟨gb220, 7, none⟩ = some (.slice none 0 0) := (blk_cell BK220.out 7).trans rfl; have hfz7_0 := blk_frozen BK220.out 0; have hfz7_1 := blk_frozen BK220.out 1; have hfz7_2 := blk_frozen BK220.out 2; have hfz7_3 := blk_frozen BK220.out 3; have hfz7_4 := blk_frozen BK220.out 4; have hfz7_5 := blk_frozen BK220.out 5; have hfz7_6 := blk_frozen BK220.out 6; have hfz7_7 := blk_frozen BK220.out 7) | ((with_reducible refine gate_dst (N := 16) rfl ?_); refine Kd.R_lit (Kd.int .u8) _ 5 ?hg (N := 16) ?hd (xs := ([] : List Int)) (inner := []) (ok := fun _ => True) (okp := fun _ => True) ?hr ?hp (fun _ hk => hk) trivial (Below.refl _ _) (Nat.le_refl _) (by simp) ?_; (case hd => rfl); (case hg => rfl); (case hr => first | (go_simp; done) | (go_simp; rfl)); (case hp => exact (Reps.none _ _)); intro v222 w8 ho9 hb hg_ hnew_; clear hg_ hnew_; (first | rw [← Ny221.out] at ho9 | (simp only [Int.reduceToNat] at ho9; rw [← Ny221.out] at ho9)); have n0_ := Aside0.mk (Kd.S_elder' (by (with_reducible repeat (first | apply Kd.S_alloc | apply Kd.S_drewN | apply Kd.S_drew)); exact (Kd.S_mono (Kd.S_far (p := ⟨gb220, 7, none⟩) (Kd.S_far (p := ⟨gb220, 6, none⟩) (Kd.S_far (p := ⟨gb220, 5, none⟩) (Kd.S_far (p := ⟨gb220, 4, none⟩) (Kd.S_far (p := ⟨gb220, 3, none⟩) (Kd.S_far (p := ⟨gb220, 2, none⟩) (Kd.S_far (p := ⟨gb220, 1, none⟩) (Kd.S_far (p := ⟨gb220, 0, none⟩) (Kd.S_mono HO_3.out (fun k_ hk => (⟨hk, hk.2⟩ : _ ∧ k_ ≠ gb220))) (fun _ hk => hk.2) (.string ((rd_T31 l0 x4_1).f0))) (fun _ hk => hk.2) (.int .i64 ((rd_T31 l0 x4_1).f1))) (fun _ hk => hk.2) (.int .i64 ((rd_T31 l0 x4_1).f2))) (fun _ hk => hk.2) (.int .i64 ((rd_T31 l0 x4_1).f3))) (fun _ hk => hk.2) (.int .i64 ((rd_T31 l0 x4_1).f4))) (fun _ hk => hk.2) (.int .i64 ((rd_T31 l0 x4_1).f5))) (fun _ hk => hk.2) (.string ((rd_T31 l0 x4_1).f6))) (fun _ hk => hk.2) (.slice A219_7 ((rd_T31 l0 x4_1).f7).length c219_7)) (fun _ h_ => h_.1))) (Kd.R_base ho9) hb); have n1_ := Aside0.mk (Kd.R_lower ho9 (below_size (by repeat (first | (with_reducible first | exact HB.out | apply below_alloc | apply pw_below_drewN | apply below_drew1 | refine below_set ?_ GE220.out) | exact HB.out)))); have n2_ := Aside0.mk (blk_below (g := gb220) (o := .cells #[.string ((rd_T31 l0 x4_1).f0), .int .i64 ((rd_T31 l0 x4_1).f1), .int .i64 ((rd_T31 l0 x4_1).f2), .int .i64 ((rd_T31 l0 x4_1).f3), .int .i64 ((rd_T31 l0 x4_1).f4), .int .i64 ((rd_T31 l0 x4_1).f5), .string ((rd_T31 l0 x4_1).f6), .slice A219_7 ((rd_T31 l0 x4_1).f7).length c219_7] 31 (0, 0)) (by (with_reducible repeat (first | refine blk_drewN ?_ _ | refine blk_drew ?_ | refine blk_alloc ?_ _)); refine blk_put (cs := #[.string ((rd_T31 l0 x4_1).f0), .int .i64 ((rd_T31 l0 x4_1).f1), .int .i64 ((rd_T31 l0 x4_1).f2), .int .i64 ((rd_T31 l0 x4_1).f3), .int .i64 ((rd_T31 l0 x4_1).f4), .int .i64 ((rd_T31 l0 x4_1).f5), .string ((rd_T31 l0 x4_1).f6), .slice none 0 0]) ?_ 7 _ rfl; (with_reducible repeat (first | refine blk_drewN ?_ _ | refine blk_drew ?_ | refine blk_alloc ?_ _)); refine blk_put (cs := #[.string ((rd_T31 l0 x4_1).f0), .int .i64 ((rd_T31 l0 x4_1).f1), .int .i64 ((rd_T31 l0 x4_1).f2), .int .i64 ((rd_T31 l0 x4_1).f3), .int .i64 ((rd_T31 l0 x4_1).f4), .int .i64 ((rd_T31 l0 x4_1).f5), .string (⟨#[]⟩ : ByteArray), .slice none 0 0]) ?_ 6 _ rfl; (with_reducible repeat (first | refine blk_drewN ?_ _ | refine blk_drew ?_ | refine blk_alloc ?_ _)); refine blk_put (cs := #[.string ((rd_T31 l0 x4_1).f0), .int .i64 ((rd_T31 l0 x4_1).f1), .int .i64 ((rd_T31 l0 x4_1).f2), .int .i64 ((rd_T31 l0 x4_1).f3), .int .i64 ((rd_T31 l0 x4_1).f4), .int .i64 0, .string (⟨#[]⟩ : ByteArray), .slice none 0 0]) ?_ 5 _ rfl; (with_reducible repeat (first | refine blk_drewN ?_ _ | refine blk_drew ?_ | refine blk_alloc ?_ _)); refine blk_put (cs := #[.string ((rd_T31 l0 x4_1).f0), .int .i64 ((rd_T31 l0 x4_1).f1), .int .i64 ((rd_T31 l0 x4_1).f2), .int .i64 ((rd_T31 l0 x4_1).f3), .int .i64 0, .int .i64 0, .string (⟨#[]⟩ : ByteArray), .slice none 0 0]) ?_ 4 _ rfl; (with_reducible repeat (first | refine blk_drewN ?_ _ | refine blk_drew ?_ | refine blk_alloc ?_ _)); refine blk_put (cs := #[.string ((rd_T31 l0 x4_1).f0), .int .i64 ((rd_T31 l0 x4_1).f1), .int .i64 ((rd_T31 l0 x4_1).f2), .int .i64 0, .int .i64 0, .int .i64 0, .string (⟨#[]⟩ : ByteArray), .slice none 0 0]) ?_ 3 _ rfl; (with_reducible repeat (first | refine blk_drewN ?_ _ | refine blk_drew ?_ | refine blk_alloc ?_ _)); refine blk_put (cs := #[.string ((rd_T31 l0 x4_1).f0), .int .i64 ((rd_T31 l0 x4_1).f1), .int .i64 0, .int .i64 0, .int .i64 0, .int .i64 0, .string (⟨#[]⟩ : ByteArray), .slice none 0 0]) ?_ 2 _ rfl; (with_reducible repeat (first | refine blk_drewN ?_ _ | refine blk_drew ?_ | refine blk_alloc ?_ _)); refine blk_put (cs := #[.string ((rd_T31 l0 x4_1).f0), .int .i64 0, .int .i64 0, .int .i64 0, .int .i64 0, .int .i64 0, .string (⟨#[]⟩ : ByteArray), .slice none 0 0]) ?_ 1 _ rfl; (with_reducible repeat (first | refine blk_drewN ?_ _ | refine blk_drew ?_ | refine blk_alloc ?_ _)); refine blk_put (cs := #[.string (⟨#[]⟩ : ByteArray), .int .i64 0, .int .i64 0, .int .i64 0, .int .i64 0, .int .i64 0, .string (⟨#[]⟩ : ByteArray), .slice none 0 0]) ?_ 0 _ rfl; (with_reducible repeat (first | refine blk_drewN ?_ _ | refine blk_drew ?_ | refine blk_alloc ?_ _)); exact BK220.out) hb); have n3_ := Aside0.mk (below_step (by repeat (first | (with_reducible first | exact HB.out | apply below_alloc | apply pw_below_drewN | apply below_drew1 | refine below_set ?_ GE220.out) | exact HB.out)) hb); clear HO_3; clear BK220; clear HB; have HO_3 := n0_; have HO223 := n1_; have BK220 := n2_; have HB := n3_; clear n0_ n1_ n2_ n3_; clear hb ho9; have hcz10_0 : w8.cell? ⟨gb220, 0, none⟩ = some (.string ((rd_T31 l0 x4_1).f0)) := (blk_cell BK220.out 0).trans rfl; have hcz10_1 : w8.cell? ⟨gb220, 1, none⟩ = some (.int .i64 ((rd_T31 l0 x4_1).f1)) := (blk_cell BK220.out 1).trans rfl; have hcz10_2 : w8.cell? ⟨gb220, 2, none⟩ = some (.int .i64 ((rd_T31 l0 x4_1).f2)) := (blk_cell BK220.out 2).trans rfl; have hcz10_3 : w8.cell? ⟨gb220, 3, none⟩ = some (.int .i64 ((rd_T31 l0 x4_1).f3)) := (blk_cell BK220.out 3).trans rfl; have hcz10_4 : w8.cell? ⟨gb220, 4, none⟩ = some (.int .i64 ((rd_T31 l0 x4_1).f4)) := (blk_cell BK220.out 4).trans rfl; have hcz10_5 : w8.cell? ⟨gb220, 5, none⟩ = some (.int .i64 ((rd_T31 l0 x4_1).f5)) := (blk_cell BK220.out 5).trans rfl; have hcz10_6 : w8.cell? ⟨gb220, 6, none⟩ = some (.string ((rd_T31 l0 x4_1).f6)) := (blk_cell BK220.out 6).trans rfl; have hcz10_7 : w8.cell? ⟨gb220, 7, none⟩ = some (.slice A219_7 ((rd_T31 l0 x4_1).f7).length c219_7) := (blk_cell BK220.out 7).trans rfl; have hfz10_0 := blk_frozen BK220.out 0; have hfz10_1 := blk_frozen BK220.out 1; have hfz10_2 := blk_frozen BK220.out 2; have hfz10_3 := blk_frozen BK220.out 3; have hfz10_4 := blk_frozen BK220.out 4; have hfz10_5 := blk_frozen BK220.out 5; have hfz10_6 := blk_frozen BK220.out 6; have hfz10_7 := blk_frozen BK220.out 7) | ((with_reducible refine gate_builtin (b := .append) (xs := #[.tmp 16, .tmp 18]) rfl ?_); at_builtin; refine Kd.R_append_rows (Kd.int .u8) (w0 := w) w.heap.size rfl (.tmp 16) (.tmp 18) 29 5 (.int .u8 0) 1 rfl Tryd.underlying29 info5 rfl (by decide) (by omega) v222 y221 ((rd_T31 l0 x4_1).f7) _ _ _ (fun _ => True) (fun _ => False) rfl rfl ?aO ?aR (fun _ _ h => h) (fun _ h => h.elim) ?aF ?aB ?aS ?aL ?_; (case aR => repeat (first | exact (Kd.C_below HR219_7.out HB.out) | (with_reducible refine Kd.C_alloc ?_ _) | (with_reducible refine Kd.C_drewN ?_ _) | (with_reducible refine Kd.C_drew ?_))); (case aB => exact (by repeat (first | (with_reducible first | exact HB.out | apply below_alloc | apply pw_below_drewN | apply below_drew1 | refine below_set ?_ GE220.out) | exact HB.out))); (case aF => exact (fun _ _ => trivial)); (case aO => exact (by (with_reducible repeat (first | apply Kd.R_alloc | apply Kd.R_drewN | apply Kd.R_drew)); exact HO223.out)); (case aS => exact (below_size (by repeat (first | (with_reducible first | exact HB.out | apply below_alloc | apply pw_below_drewN | apply below_drew1 | refine below_set ?_ GE220.out) | exact HB.out)))); (case aL => have := LMc4.out; omega); intro v225 w11 ho hb hg hat; rw [← Ny224.out] at ho; have n0_ := Aside0.mk (Kd.S_after (ok := (fun k_ => k_ ≠ gb220)) (by (with_reducible repeat (first | apply Kd.S_alloc | apply Kd.S_drewN | apply Kd.S_drew)); exact Kd.S_mono HO_3.out (fun _ hk => ⟨hk.1.2, hk.2⟩)) hg hat); have n1_ := Aside0.mk (blk_grown (g := gb220) (o := .cells #[.string ((rd_T31 l0 x4_1).f0), .int .i64 ((rd_T31 l0 x4_1).f1), .int .i64 ((rd_T31 l0 x4_1).f2), .int .i64 ((rd_T31 l0 x4_1).f3), .int .i64 ((rd_T31 l0 x4_1).f4), .int .i64 ((rd_T31 l0 x4_1).f5), .string ((rd_T31 l0 x4_1).f6), .slice A219_7 ((rd_T31 l0 x4_1).f7).length c219_7] 31 (0, 0)) (by (with_reducible repeat (first | refine blk_drewN ?_ _ | refine blk_drew ?_ | refine blk_alloc ?_ _)); exact BK220.out) hg (Kd.R_ne HO223.out BK220.out (by decide))); have n2_ := Aside0.mk (hb); have n3_ := Aside0.mk (ho); clear HO_3; clear BK220; clear HB; clear HO223; have HO_3 := n0_; have BK220 := n1_; have HB := n2_; have HO226 := n3_; clear n0_ n1_ n2_ n3_; clear ho hb hg hat; obtain ⟨Ao12, co12, eo12⟩ := Kd.R_slice HO226.out; subst eo12; have hcz13_0 : w11.cell? ⟨gb220, 0, none⟩ = some (.string ((rd_T31 l0 x4_1).f0)) := (blk_cell BK220.out 0).trans rfl; have hcz13_1 : w11.cell? ⟨gb220, 1, none⟩ = some (.int .i64 ((rd_T31 l0 x4_1).f1)) := (blk_cell BK220.out 1).trans rfl; have hcz13_2 : w11.cell? ⟨gb220, 2, none⟩ = some (.int .i64 ((rd_T31 l0 x4_1).f2)) := (blk_cell BK220.out 2).trans rfl; have hcz13_3 : w11.cell? ⟨gb220, 3, none⟩ = some (.int .i64 ((rd_T31 l0 x4_1).f3)) := (blk_cell BK220.out 3).trans rfl; have hcz13_4 : w11.cell? ⟨gb220, 4, none⟩ = some (.int .i64 ((rd_T31 l0 x4_1).f4)) := (blk_cell BK220.out 4).trans rfl; have hcz13_5 : w11.cell? ⟨gb220, 5, none⟩ = some (.int .i64 ((rd_T31 l0 x4_1).f5)) := (blk_cell BK220.out 5).trans rfl; have hcz13_6 : w11.cell? ⟨gb220, 6, none⟩ = some (.string ((rd_T31 l0 x4_1).f6)) := (blk_cell BK220.out 6).trans rfl; have hcz13_7 : w11.cell? ⟨gb220, 7, none⟩ = some (.slice A219_7 ((rd_T31 l0 x4_1).f7).length c219_7) := (blk_cell BK220.out 7).trans rfl; have hfz13_0 := blk_frozen BK220.out 0; have hfz13_1 := blk_frozen BK220.out 1; have hfz13_2 := blk_frozen BK220.out 2; have hfz13_3 := blk_frozen BK220.out 3; have hfz13_4 := blk_frozen BK220.out 4; have hfz13_5 := blk_frozen BK220.out 5; have hfz13_6 := blk_frozen BK220.out 6; have hfz13_7 := blk_frozen BK220.out 7) | ((with_reducible refine gate_store (t := 29) (p := 20) rfl ?_); refine store_event (t := 29) (p := 20) (v := ?vo_w14) (w1 := (w11.setCell ⟨gb220, 7, none⟩ (.slice Ao12 y224.length co12))) ?hg ?ho ?hn ?hr ?_; (case ho => rfl); (case hg => rfl); (case hn => rfl); (case hr => first | (go_simp; done) | (go_simp; rfl)); intro w14 hw; have n0_ : Aside0 (Kd.S k31 31 w14 w.heap.size (fun k_ => some k_ ≠ (.slice Ao12 y224.length co12 : Value).ownBlock ∧ k_ ≠ gb220) u3 x3_1) := ⟨(by rw [hw]; exact (by (with_reducible repeat (first | apply Kd.S_alloc | apply Kd.S_drewN | apply Kd.S_drew)); exact Kd.S_mono (Kd.S_far (p := ⟨gb220, 7, none⟩) (Kd.S_mono HO_3.out (fun k_ hk => (⟨hk, hk.1⟩ : _ ∧ k_ ≠ gb220))) (fun _ hk => hk.2) (.slice Ao12 y224.length co12)) (fun _ hk => ⟨hk.1.2, hk.1.1⟩)))⟩; have n1_ : Aside0 (Kd.R (Kd.int .u8) 5 w14 w.heap.size (fun _ => True) (.slice Ao12 y224.length co12) y224) := ⟨(by rw [hw]; exact (by (with_reducible repeat (first | apply Kd.R_alloc | apply Kd.R_drewN | apply Kd.R_drew)); exact Kd.R_mono (Kd.R_far (p := ⟨gb220, 7, none⟩) (Kd.R_types HO226.out BK220.out (by decide)) (fun _ hk => hk.2) (.slice Ao12 y224.length co12)) (fun _ hk => trivial)))⟩; have n2_ : Aside0 (w14.heap[gb220]? = some (.cells #[.string ((rd_T31 l0 x4_1).f0), .int .i64 ((rd_T31 l0 x4_1).f1), .int .i64 ((rd_T31 l0 x4_1).f2), .int .i64 ((rd_T31 l0 x4_1).f3), .int .i64 ((rd_T31 l0 x4_1).f4), .int .i64 ((rd_T31 l0 x4_1).f5), .string ((rd_T31 l0 x4_1).f6), .slice Ao12 y224.length co12] 31 (0, 0))) := ⟨(by rw [hw]; exact (by (with_reducible repeat (first | refine blk_drewN ?_ _ | refine blk_drew ?_ | refine blk_alloc ?_ _)); refine blk_put (cs := #[.string ((rd_T31 l0 x4_1).f0), .int .i64 ((rd_T31 l0 x4_1).f1), .int .i64 ((rd_T31 l0 x4_1).f2), .int .i64 ((rd_T31 l0 x4_1).f3), .int .i64 ((rd_T31 l0 x4_1).f4), .int .i64 ((rd_T31 l0 x4_1).f5), .string ((rd_T31 l0 x4_1).f6), .slice A219_7 ((rd_T31 l0 x4_1).f7).length c219_7]) ?_ 7 _ rfl; (with_reducible repeat (first | refine blk_drewN ?_ _ | refine blk_drew ?_ | refine blk_alloc ?_ _)); exact BK220.out))⟩; have n3_ : Aside0 (Below w.heap.size w w14) := ⟨(by rw [hw]; exact (by repeat (first | (with_reducible first | exact HB.out | apply below_alloc | apply pw_below_drewN | apply below_drew1 | refine below_set ?_ GE220.out) | exact HB.out)))⟩; clear hw; clear HO_3; clear HO226; clear BK220; clear HB; have HO_3 := n0_; have HO226 := n1_; have BK220 := n2_; have HB := n3_; clear n0_ n1_ n2_ n3_; have hcz15_0 : w14.cell? ⟨gb220, 0, none⟩ = some (.string ((rd_T31 l0 x4_1).f0)) := (blk_cell BK220.out 0).trans rfl; have hcz15_1 : w14.cell? ⟨gb220, 1, none⟩ = some (.int .i64 ((rd_T31 l0 x4_1).f1)) := (blk_cell BK220.out 1).trans rfl; have hcz15_2 : w14.cell? ⟨gb220, 2, none⟩ = some (.int .i64 ((rd_T31 l0 x4_1).f2)) := (blk_cell BK220.out 2).trans rfl; have hcz15_3 : w14.cell? ⟨gb220, 3, none⟩ = some (.int .i64 ((rd_T31 l0 x4_1).f3)) := (blk_cell BK220.out 3).trans rfl; have hcz15_4 : w14.cell? ⟨gb220, 4, none⟩ = some (.int .i64 ((rd_T31 l0 x4_1).f4)) := (blk_cell BK220.out 4).trans rfl; have hcz15_5 : w14.cell? ⟨gb220, 5, none⟩ = some (.int .i64 ((rd_T31 l0 x4_1).f5)) := (blk_cell BK220.out 5).trans rfl; have hcz15_6 : w14.cell? ⟨gb220, 6, none⟩ = some (.string ((rd_T31 l0 x4_1).f6)) := (blk_cell BK220.out 6).trans rfl; have hcz15_7 : w14.cell? ⟨gb220, 7, none⟩ = some (.slice Ao12 y224.length co12) := (blk_cell BK220.out 7).trans rfl; have hfz15_0 := blk_frozen BK220.out 0; have hfz15_1 := blk_frozen BK220.out 1; have hfz15_2 := blk_frozen BK220.out 2; have hfz15_3 := blk_frozen BK220.out 3; have hfz15_4 := blk_frozen BK220.out 4; have hfz15_5 := blk_frozen BK220.out 5; have hfz15_6 := blk_frozen BK220.out 6; have hfz15_7 := blk_frozen BK220.out 7) | ((with_reducible refine gate_builtin (b := .append) (xs := #[.tmp 21, .tmp 23]) rfl ?_); at_builtin; refine Kd.S_append k31 (w0 := w) w.heap.size rfl (.tmp 21) (.tmp 23) 22 31 (.agg #[(.string ⟨#[]⟩), (.int .i64 0), (.int .i64 0), (.int .i64 0), (.int .i64 0), (.int .i64 0), (.string ⟨#[]⟩), (.slice none 0 0)]) 96 rfl Tryd.underlying22 info31 rfl (by decide) (by omega) u3 x3_1 (⟨(rd_T31 l0 x4_1).f0, (rd_T31 l0 x4_1).f1, (rd_T31 l0 x4_1).f2, (rd_T31 l0 x4_1).f3, (rd_T31 l0 x4_1).f4, (rd_T31 l0 x4_1).f5, (rd_T31 l0 x4_1).f6, y224⟩ : S31) [.string ((rd_T31 l0 x4_1).f0), .int .i64 ((rd_T31 l0 x4_1).f1), .int .i64 ((rd_T31 l0 x4_1).f2), .int .i64 ((rd_T31 l0 x4_1).f3), .int .i64 ((rd_T31 l0 x4_1).f4), .int .i64 ((rd_T31 l0 x4_1).f5), .string ((rd_T31 l0 x4_1).f6), .slice Ao12 y224.length co12] (fun k_ => k_ ≠ gb220) (fun k_ => some k_ = (.slice Ao12 y224.length co12 : Value).ownBlock) rfl rfl ?aP (fun k_ hk_ => ((Kd.R_mono (ok' := fun k_ => ((fun k_ => k_ ≠ gb220)) k_ ∧ some k_ ≠ (u3 : Value).ownBlock) (Kd.R_types (Kd.R_apart' (HO226.out) (Kd.S_typed HO_3.out) (by decide)) BK220.out (by decide)) (fun k_ hk => ⟨hk.2, hk.1.2⟩))).1 k_ hk_.symm) ?aF ?aO ?aB ?aS ?aL ?_; (case aP => exact k31_mkM _ _ _ (⟨(rd_T31 l0 x4_1).f0, (rd_T31 l0 x4_1).f1, (rd_T31 l0 x4_1).f2, (rd_T31 l0 x4_1).f3, (rd_T31 l0 x4_1).f4, (rd_T31 l0 x4_1).f5, (rd_T31 l0 x4_1).f6, y224⟩ : S31) (Kd.R_mono (Kd.R_tight rfl (Kd.R_mono (ok' := fun k_ => ((fun k_ => k_ ≠ gb220)) k_ ∧ some k_ ≠ (u3 : Value).ownBlock) (Kd.R_types (Kd.R_apart' (HO226.out) (Kd.S_typed HO_3.out) (by decide)) BK220.out (by decide)) (fun k_ hk => ⟨hk.2, hk.1.2⟩))) (fun _ h_ => h_))); (case aB => exact (by repeat (first | (with_reducible first | exact HB.out | apply below_alloc | apply pw_below_drewN | apply below_drew1 | refine below_set ?_ GE220.out) | exact HB.out))); (case aF => exact (fun k_ hk => Kd.freshB (g := gb220) (o := .cells #[.string ((rd_T31 l0 x4_1).f0), .int .i64 ((rd_T31 l0 x4_1).f1), .int .i64 ((rd_T31 l0 x4_1).f2), .int .i64 ((rd_T31 l0 x4_1).f3), .int .i64 ((rd_T31 l0 x4_1).f4), .int .i64 ((rd_T31 l0 x4_1).f5), .string ((rd_T31 l0 x4_1).f6), .slice Ao12 y224.length co12] 31 (0, 0)) (by (with_reducible repeat (first | refine blk_drewN ?_ _ | refine blk_drew ?_ | refine blk_alloc ?_ _)); exact BK220.out) k_ hk)); (case aO => exact (by (with_reducible repeat (first | apply Kd.S_alloc | apply Kd.S_drewN | apply Kd.S_drew)); exact Kd.S_mono HO_3.out (fun k_ hk => ⟨hk.2, fun e_ => hk.1 e_⟩))); (case aS => exact (below_size (by repeat (first | (with_reducible first | exact HB.out | apply below_alloc | apply pw_below_drewN | apply below_drew1 | refine below_set ?_ GE220.out) | exact HB.out)))); (case aL => have := LMc5.out; omega); intro v228 w16 ho hb hg hat; rw [← Ny227.out] at ho; have n0_ := Aside0.mk (blk_grown (g := gb220) (o := .cells #[.string ((rd_T31 l0 x4_1).f0), .int .i64 ((rd_T31 l0 x4_1).f1), .int .i64 ((rd_T31 l0 x4_1).f2), .int .i64 ((rd_T31 l0 x4_1).f3), .int .i64 ((rd_T31 l0 x4_1).f4), .int .i64 ((rd_T31 l0 x4_1).f5), .string ((rd_T31 l0 x4_1).f6), .slice Ao12 y224.length co12] 31 (0, 0)) (by (with_reducible repeat (first | refine blk_drewN ?_ _ | refine blk_drew ?_ | refine blk_alloc ?_ _)); exact BK220.out) hg (Kd.S_away HO_3.out (fun _ hk => hk.2))); have n1_ := Aside0.mk (hb); have n2_ := Aside0.mk (ho); clear BK220; clear HB; clear HO_3; clear HO226; have BK220 := n0_; have HB := n1_; have HO229 := n2_; clear n0_ n1_ n2_; clear ho hb hg hat))
              go_roundg k1
              case measure => have := HK1.out; omega
              case rel => exact ⟨(y227), (wrap64 (x4_1 + 1)), (by first | rfl | (simp; done) | (simp [*]; done)), H', ⟨by have := HK1.out; omega⟩, ⟨by (with_reducible repeat (first | apply Kd.S_alloc | apply Kd.S_drewN | apply Kd.S_drew)); exact Kd.S_mono HO229.out (fun _ hk => trivial)⟩, ⟨by repeat (first | (with_reducible first | exact HB.out | apply below_alloc | apply pw_below_drewN | apply below_drew1 | refine below_set ?_ GE220.out) | exact HB.out)⟩⟩
            · rw [if_neg c5] at H
              exact absurd H (by simp)
          · rw [if_neg c4] at H
            exact absurd H (by simp)
        · rw [if_neg c3] at H
          exact absurd H (by simp)
      · rw [if_neg c2] at H
        have c2b0 : decide (x4_1 < (l0.length : Int)) = false := decide_eq_false c2
        clear c2
        obtain rfl := Option.some.inj H
        go_wp2
        go_ret
        exact ⟨_, by first | rfl | (simp [errW_none, errW_some] <;> rfl) | (simp [*, errW_none, errW_some] <;> rfl), by (with_reducible repeat (first | apply Kd.S_alloc | apply Kd.S_drewN | apply Kd.S_drew)); exact HO_3.out, by repeat (first | (with_reducible first | exact HB.out | apply below_alloc | apply pw_below_drewN | apply below_drew1) | exact HB.out)⟩

-- NOT PRINTED: function 18 (amphoranum_Apart)

-- NOT PRINTED: function 4 (amphoralaw09_TreeSames)

-- NOT PRINTED: function 40 (api_Entry_40)

-- NOT PRINTED: function 21 (tree_Find)

-- NOT PRINTED: function 5 (amphoralaw09_TreeRebuilds)

end Go.Proofs.YtfkbmjfhakooiaaDoor.PTree
