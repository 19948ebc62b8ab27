import Derived.Test.YtlgjojhenohjnaaPCivilDatesx4
namespace Go.Proofs.Ytlgjojhenohjnaa.OCivilBack
open Go.RowKit Go.Proofs.YtlgjojhenohjnaaW.PrintWords Go.Proofs.YtlgjojhenohjnaaW.PrintLast Go.Proofs.YtlgjojhenohjnaaW.PrintMore Go.Proofs.Ytlgjojhenohjnaa.PCivilDates
attribute [local go_sem] max2_int min2_int max_two min_two max_three min_three max_four min_four
set_option linter.unusedVariables false
set_option linter.unusedSimpArgs false

/-! ### amphoralaw19_CivilBack: function 4 -/
mutual
def amphoralaw19_CivilBack.j0 : Nat → Int → Bool → Option (Bool)
  | 0, _, _ => none
  | k + 1, x0, x17 => if x17 = true then (some true) else ((civil_Date.f x0).bind fun bt129 => ((civil_Date.f (wrap64 (x0 + 1))).bind fun bt134 => ((civil_Days.f k bt129.1 bt129.2.1 bt129.2.2.1).bind fun bt139 => (if bt129.2.2.2.isNone = true then (if bt134.2.2.2.isNone = true then (if bt139.2.isNone = true then (amphoralaw19_CivilBack.j1 k (bt139.1 != x0) bt129.1 bt129.2.1 bt129.2.2.1 bt134.1 bt134.2.1 bt134.2.2.1) else (amphoralaw19_CivilBack.j1 k true bt129.1 bt129.2.1 bt129.2.2.1 bt134.1 bt134.2.1 bt134.2.2.1)) else (amphoralaw19_CivilBack.j1 k true bt129.1 bt129.2.1 bt129.2.2.1 bt134.1 bt134.2.1 bt134.2.2.1)) else (amphoralaw19_CivilBack.j1 k true bt129.1 bt129.2.1 bt129.2.2.1 bt134.1 bt134.2.1 bt134.2.2.1)))))
def amphoralaw19_CivilBack.j1 : Nat → Bool → Int → Int → Int → Int → Int → Int → Option (Bool)
  | 0, _, _, _, _, _, _, _ => none
  | k + 1, x48, x134000, x134001, x134002, x139000, x139001, x139002 => if x48 = true then (some false) else ((civil_Length.f k x134000 x134001).bind fun t145 => (if (wrap64 (x134002 + 1)) > t145 then (if (wrap64 (x134001 + 1)) > 12 then (some (x139000 == (wrap64 (x134000 + 1)) && (x139001 == 1 && (x139002 == 1)))) else (some (x139000 == x134000 && (x139001 == (wrap64 (x134001 + 1)) && (x139002 == 1))))) else (if x134001 > 12 then (some (x139000 == (wrap64 (x134000 + 1)) && (x139001 == 1 && (x139002 == (wrap64 (x134002 + 1)))))) else (some (x139000 == x134000 && (x139001 == x134001 && (x139002 == (wrap64 (x134002 + 1)))))))))
end
def amphoralaw19_CivilBack.f (k : Nat) (a0 : Int) : Option (Bool) := (amphoralaw19_alive.f k).bind fun t128 => (if t128 = true then (if a0 < (-14000000) then (amphoralaw19_CivilBack.j0 k a0 true) else (amphoralaw19_CivilBack.j0 k a0 (decide (a0 > 13000000)))) else (some false))
theorem amphoralaw19_CivilBack.mono_l : ∀ k, (∀ y0 y1, LeO (amphoralaw19_CivilBack.j0 k y0 y1) (amphoralaw19_CivilBack.j0 (k + 1) y0 y1)) ∧ (∀ y0 y1 y2 y3 y4 y5 y6, LeO (amphoralaw19_CivilBack.j1 k y0 y1 y2 y3 y4 y5 y6) (amphoralaw19_CivilBack.j1 (k + 1) y0 y1 y2 y3 y4 y5 y6))
  | 0 => ⟨fun _ _ r h => by simp [amphoralaw19_CivilBack.j0] at h, fun _ _ _ _ _ _ _ r h => by simp [amphoralaw19_CivilBack.j1] at h⟩
  | k + 1 => by
    obtain ⟨ih0, ih1⟩ := amphoralaw19_CivilBack.mono_l k
    refine ⟨?_, ?_⟩
    · intro y0 y1
      unfold amphoralaw19_CivilBack.j0
      repeat' first
      | (with_reducible exact ih0 _ _)
      | (with_reducible exact ih1 _ _ _ _ _ _ _)
      | (with_reducible exact amphoralaw19_alive.mono _)
      | (with_reducible exact civil_Days.mono _ _ _ _)
      | (with_reducible exact civil_Length.mono _ _ _)
      | (with_reducible exact LeO.refl _)
      | (with_reducible exact LeO.none _)
      | (with_reducible refine LeO.ite ?_ ?_)
      | (with_reducible refine LeO.bind ?_ (fun _ => ?_))
      | exact ih0 _ _
      | exact ih1 _ _ _ _ _ _ _
      | exact amphoralaw19_alive.mono _
      | exact civil_Days.mono _ _ _ _
      | exact civil_Length.mono _ _ _
      | exact LeO.none _
      | refine LeO.ite ?_ ?_
      | refine LeO.bind ?_ (fun _ => ?_)
    · intro y0 y1 y2 y3 y4 y5 y6
      unfold amphoralaw19_CivilBack.j1
      repeat' first
      | (with_reducible exact ih0 _ _)
      | (with_reducible exact ih1 _ _ _ _ _ _ _)
      | (with_reducible exact amphoralaw19_alive.mono _)
      | (with_reducible exact civil_Days.mono _ _ _ _)
      | (with_reducible exact civil_Length.mono _ _ _)
      | (with_reducible exact LeO.refl _)
      | (with_reducible exact LeO.none _)
      | (with_reducible refine LeO.ite ?_ ?_)
      | (with_reducible refine LeO.bind ?_ (fun _ => ?_))
      | exact ih0 _ _
      | exact ih1 _ _ _ _ _ _ _
      | exact amphoralaw19_alive.mono _
      | exact civil_Days.mono _ _ _ _
      | exact civil_Length.mono _ _ _
      | exact LeO.none _
      | refine LeO.ite ?_ ?_
      | refine LeO.bind ?_ (fun _ => ?_)
theorem amphoralaw19_CivilBack.mono : ∀ a0 k, LeO (amphoralaw19_CivilBack.f k a0) (amphoralaw19_CivilBack.f (k + 1) a0) := by
  intro a0 k
  obtain ⟨ih0, ih1⟩ := amphoralaw19_CivilBack.mono_l k
  unfold amphoralaw19_CivilBack.f
  repeat' first
      | (with_reducible exact ih0 _ _)
      | (with_reducible exact ih1 _ _ _ _ _ _ _)
      | (with_reducible exact amphoralaw19_alive.mono _)
      | (with_reducible exact civil_Days.mono _ _ _ _)
      | (with_reducible exact civil_Length.mono _ _ _)
      | (with_reducible exact LeO.refl _)
      | (with_reducible exact LeO.none _)
      | (with_reducible refine LeO.ite ?_ ?_)
      | (with_reducible refine LeO.bind ?_ (fun _ => ?_))
      | exact ih0 _ _
      | exact ih1 _ _ _ _ _ _ _
      | exact amphoralaw19_alive.mono _
      | exact civil_Days.mono _ _ _ _
      | exact civil_Length.mono _ _ _
      | exact LeO.none _
      | refine LeO.ite ?_ ?_
      | refine LeO.bind ?_ (fun _ => ?_)
set_option maxHeartbeats 8000000 in
set_option maxRecDepth 100000 in
theorem amphoralaw19_CivilBack.calls_true (k : Nat) (a0 : Int) (r : Bool) (w : World) (hr : r = true) (h : amphoralaw19_CivilBack.f k a0 = some r) :
    Calls Try.prog 4 #[.int .i64 a0] w fun e w' => e = .returned (.bool r) ∧ Below w.heap.size w w' := by
  have HR := Aside0.mk hr
  clear hr
  have hu23 := Try.underlying23
  have hu26 := Try.underlying26
  have hu49 := Try.underlying49
  have HB := Aside0.mk (Below.refl w.heap.size w)
  have H : ((amphoralaw19_alive.f k).bind fun t128 => (if t128 = true then (if a0 < (-14000000) then (amphoralaw19_CivilBack.j0 k a0 true) else (amphoralaw19_CivilBack.j0 k a0 (decide (a0 > 13000000)))) else (some false))) = some r := h
  clear h
  replace H := Option.bind_eq_some_iff.mp H
  obtain ⟨t128, A20, H⟩ := H
  replace H : (if t128 = true then (if a0 < (-14000000) then (amphoralaw19_CivilBack.j0 k a0 true) else (amphoralaw19_CivilBack.j0 k a0 (decide (a0 > 13000000)))) else (some false)) = some r := H
  have A2 := Aside0.mk A20
  clear A20
  by_cases c3 : t128 = true
  · subst c3
    have H1 : (if a0 < (-14000000) then (amphoralaw19_CivilBack.j0 k a0 true) else (amphoralaw19_CivilBack.j0 k a0 (decide (a0 > 13000000)))) = some r := by rw [if_pos rfl] at H; exact H
    clear H
    have H := H1
    clear H1
    have HC4 := Aside0.mk H
    clear H
    go_enter Try.func4, Try.ntmps4
    go_upto_region 3 with (first | (go_at_call 10; (with_reducible refine (amphoralaw19_alive.calls k  true _ A2.out).mono ?_); rintro e w5 ⟨rfl, hb⟩; have n0_ := Aside0.mk (below_step (by repeat (first | (with_reducible first | exact HB.out | apply below_alloc | apply pw_below_drewN | apply below_drew1) | exact HB.out)) hb); clear HB; have HB := n0_; clear n0_; (try clear hb); (try clear hb2); (try clear hk); (try clear hi)))
    repeat (go_quiet (first | (go_at_call 10; (with_reducible refine (amphoralaw19_alive.calls k  true _ A2.out).mono ?_); rintro e w5 ⟨rfl, hb⟩; have n0_ := Aside0.mk (below_step (by repeat (first | (with_reducible first | exact HB.out | apply below_alloc | apply pw_below_drewN | apply below_drew1) | exact HB.out)) hb); clear HB; have HB := n0_; clear n0_; (try clear hb); (try clear hb2); (try clear hk); (try clear hi))); go_upto_region 3 with (first | (go_at_call 10; (with_reducible refine (amphoralaw19_alive.calls k  true _ A2.out).mono ?_); rintro e w5 ⟨rfl, hb⟩; have n0_ := Aside0.mk (below_step (by repeat (first | (with_reducible first | exact HB.out | apply below_alloc | apply pw_below_drewN | apply below_drew1) | exact HB.out)) hb); clear HB; have HB := n0_; clear n0_; (try clear hb); (try clear hb2); (try clear hk); (try clear hi))))
    (try simp only [Act.put, List.setIfInBounds_toArray, List.set_cons_zero, List.set_cons_succ])
    go_cut [17] (fun v17 wc => ∃ (kq : Nat) (x17_3 : Bool), v17 = .bool x17_3 ∧ Aside0 (amphoralaw19_CivilBack.j0 kq a0 x17_3 = some r) ∧ Aside0 (kq ≤ k) ∧ Aside0 (Below w.heap.size w wc))
    case first =>
      have H := HC4.out
      clear HC4
      by_cases c6 : a0 < (-14000000)
      · rw [if_pos c6] at H
        have c6b0 : decide (a0 < (-14000000)) = true := decide_eq_true c6
        clear c6
        (first | rw [c6b0] | (simp only [i64_w, i32_w]; rw [c6b0]) | skip)
        have H' := Aside0.mk H
        clear H
        go_wp2
        repeat (go_quiet (fail); try go_wp2)
        go_meet
        case rel => exact ⟨_, (true), (by first | rfl | (simp; done) | (simp [*]; done)), H', ⟨by first | omega | exact Nat.le_refl _⟩, ⟨by repeat (first | (with_reducible first | exact HB.out | apply below_alloc | apply pw_below_drewN | apply below_drew1) | exact HB.out)⟩⟩
      · rw [if_neg c6] at H
        have c6b0 : decide (a0 < (-14000000)) = false := decide_eq_false c6
        clear c6
        (first | rw [c6b0] | (simp only [i64_w, i32_w]; rw [c6b0]) | skip)
        have H' := Aside0.mk H
        clear H
        go_wp2
        repeat (go_quiet (fail); try go_wp2)
        go_meet
        case rel => exact ⟨_, (decide (a0 > 13000000)), (by first | rfl | (simp; done) | (simp [*]; done)), H', ⟨by first | omega | exact Nat.le_refl _⟩, ⟨by repeat (first | (with_reducible first | exact HB.out | apply below_alloc | apply pw_below_drewN | apply below_drew1) | exact HB.out)⟩⟩
    case rest =>
      clear HC4
      try clear p2
      try clear c3
      try clear c4
      try clear c6
      try clear c6b0
      obtain ⟨kq, x17_3, rfl, HA, HJ3, HB⟩ := hcut
      cases kq with
      | zero => exact absurd HA.out (by simp [amphoralaw19_CivilBack.j0])
      | succ kj3 =>
        have H := HA.out
        clear HA
        simp only [amphoralaw19_CivilBack.j0] at H
        by_cases c7 : x17_3 = true
        · subst c7
          have H1 : (some true) = some r := by rw [if_pos rfl] at H; exact H
          clear H
          have H := H1
          clear H1
          obtain rfl := Option.some.inj H
          go_wp2
          repeat (go_quiet (fail); try go_wp2)
          go_ret
          exact ⟨by first | rfl | (simp [errW_none, errW_some] <;> rfl) | (simp [*, errW_none, errW_some] <;> rfl), by repeat (first | (with_reducible first | exact HB.out | apply below_alloc | apply pw_below_drewN | apply below_drew1) | exact HB.out)⟩
        · replace c7 := Bool.eq_false_iff.mpr c7
          subst c7
          have H1 : ((civil_Date.f a0).bind fun bt129 => ((civil_Date.f (wrap64 (a0 + 1))).bind fun bt134 => ((civil_Days.f kj3 bt129.1 bt129.2.1 bt129.2.2.1).bind fun bt139 => (if bt129.2.2.2.isNone = true then (if bt134.2.2.2.isNone = true then (if bt139.2.isNone = true then (amphoralaw19_CivilBack.j1 kj3 (bt139.1 != a0) bt129.1 bt129.2.1 bt129.2.2.1 bt134.1 bt134.2.1 bt134.2.2.1) else (amphoralaw19_CivilBack.j1 kj3 true bt129.1 bt129.2.1 bt129.2.2.1 bt134.1 bt134.2.1 bt134.2.2.1)) else (amphoralaw19_CivilBack.j1 kj3 true bt129.1 bt129.2.1 bt129.2.2.1 bt134.1 bt134.2.1 bt134.2.2.1)) else (amphoralaw19_CivilBack.j1 kj3 true bt129.1 bt129.2.1 bt129.2.2.1 bt134.1 bt134.2.1 bt134.2.2.1))))) = some r := by rw [if_neg (show ¬ (false = true) by decide)] at H; exact H
          clear H
          have H := H1
          clear H1
          replace H := Option.bind_eq_some_iff.mp H
          obtain ⟨⟨t129, t130, t131, t132⟩, A80, H⟩ := H
          replace H : ((civil_Date.f (wrap64 (a0 + 1))).bind fun bt134 => ((civil_Days.f kj3 t129 t130 t131).bind fun bt139 => (if t132.isNone = true then (if bt134.2.2.2.isNone = true then (if bt139.2.isNone = true then (amphoralaw19_CivilBack.j1 kj3 (bt139.1 != a0) t129 t130 t131 bt134.1 bt134.2.1 bt134.2.2.1) else (amphoralaw19_CivilBack.j1 kj3 true t129 t130 t131 bt134.1 bt134.2.1 bt134.2.2.1)) else (amphoralaw19_CivilBack.j1 kj3 true t129 t130 t131 bt134.1 bt134.2.1 bt134.2.2.1)) else (amphoralaw19_CivilBack.j1 kj3 true t129 t130 t131 bt134.1 bt134.2.1 bt134.2.2.1)))) = some r := H
          have A8 := Aside0.mk A80
          clear A80
          replace H := Option.bind_eq_some_iff.mp H
          obtain ⟨⟨t134, t135, t136, t137⟩, A90, H⟩ := H
          replace H : ((civil_Days.f kj3 t129 t130 t131).bind fun bt139 => (if t132.isNone = true then (if t137.isNone = true then (if bt139.2.isNone = true then (amphoralaw19_CivilBack.j1 kj3 (bt139.1 != a0) t129 t130 t131 t134 t135 t136) else (amphoralaw19_CivilBack.j1 kj3 true t129 t130 t131 t134 t135 t136)) else (amphoralaw19_CivilBack.j1 kj3 true t129 t130 t131 t134 t135 t136)) else (amphoralaw19_CivilBack.j1 kj3 true t129 t130 t131 t134 t135 t136))) = some r := H
          have A9 := Aside0.mk A90
          clear A90
          replace H := Option.bind_eq_some_iff.mp H
          obtain ⟨⟨t139, t140⟩, A100, H⟩ := H
          replace H : (if t132.isNone = true then (if t137.isNone = true then (if t140.isNone = true then (amphoralaw19_CivilBack.j1 kj3 (t139 != a0) t129 t130 t131 t134 t135 t136) else (amphoralaw19_CivilBack.j1 kj3 true t129 t130 t131 t134 t135 t136)) else (amphoralaw19_CivilBack.j1 kj3 true t129 t130 t131 t134 t135 t136)) else (amphoralaw19_CivilBack.j1 kj3 true t129 t130 t131 t134 t135 t136)) = some r := H
          have A10 := Aside0.mk A100
          clear A100
          have HC11 := Aside0.mk H
          clear H
          go_upto_region 8 with (first | (go_at_call 13; (with_reducible refine (civil_Date.calls a0 t129 t130 t131 t132 _ A8.out).mono ?_); rintro e w12 ⟨rfl, hb⟩; have n0_ := Aside0.mk (below_step (by repeat (first | (with_reducible first | exact HB.out | apply below_alloc | apply pw_below_drewN | apply below_drew1) | exact HB.out)) hb); clear HB; have HB := n0_; clear n0_; (try clear hb); (try clear hb2); (try clear hk); (try clear hi); (try simp only [errW_none, errW_some])) | ((with_reducible refine gate_dst (N := 3) rfl ?_); refine box_event ?hg (N := 3) ?hd (cs := #[.int .i64 0, .int .i64 0, .int .i64 0]) (t := 23) ?hr ?_; (case hd => rfl); (case hg => rfl); (case hr => first | (go_simp; done) | (go_simp; rfl)); intro gb133 hg w13 hbox hb; have n0_ := Aside0.mk (below_step (by repeat (first | (with_reducible first | exact HB.out | apply below_alloc | apply pw_below_drewN | apply below_drew1) | exact HB.out)) hb); have n1_ := Aside0.mk (hbox); have n2_ := Aside0.mk ((by rw [hg]; exact (below_size (by repeat (first | (with_reducible first | exact HB.out | apply below_alloc | apply pw_below_drewN | apply below_drew1) | exact HB.out))) : w.heap.size ≤ gb133)); have n3_ := Aside0.mk ((by rw [hg]; exact (below_size (by repeat (first | (with_reducible first | exact HB.out | apply below_alloc | apply pw_below_drewN | apply below_drew1) | exact HB.out))) : w.heap.size ≤ gb133)); clear HB; have HB := n0_; have BK133 := n1_; have GW133 := n2_; have GE133 := n3_; clear n0_ n1_ n2_ n3_; clear hb hbox hg; have hcz14_0 : w13.cell? ⟨gb133, 0, none⟩ = some (.int .i64 0) := (blk_cell BK133.out 0).trans rfl; have hcz14_1 : w13.cell? ⟨gb133, 1, none⟩ = some (.int .i64 0) := (blk_cell BK133.out 1).trans rfl; have hcz14_2 : w13.cell? ⟨gb133, 2, none⟩ = some (.int .i64 0) := (blk_cell BK133.out 2).trans rfl; have hfz14_0 := blk_frozen BK133.out 0; have hfz14_1 := blk_frozen BK133.out 1; have hfz14_2 := blk_frozen BK133.out 2) | (go_at_call 13; (with_reducible refine (civil_Date.calls (wrap64 (a0 + 1)) t134 t135 t136 t137 _ A9.out).mono ?_); rintro e w15 ⟨rfl, hb⟩; have n0_ := Aside0.mk (blk_below (g := gb133) (o := .cells #[.int .i64 t129, .int .i64 t130, .int .i64 t131] 23 (0, 0)) (by (with_reducible repeat (first | refine blk_drewN ?_ _ | refine blk_drew ?_ | refine blk_alloc ?_ _)); refine blk_put (cs := #[.int .i64 t129, .int .i64 t130, .int .i64 0]) ?_ 2 _ rfl; (with_reducible repeat (first | refine blk_drewN ?_ _ | refine blk_drew ?_ | refine blk_alloc ?_ _)); refine blk_put (cs := #[.int .i64 t129, .int .i64 0, .int .i64 0]) ?_ 1 _ rfl; (with_reducible repeat (first | refine blk_drewN ?_ _ | refine blk_drew ?_ | refine blk_alloc ?_ _)); refine blk_put (cs := #[.int .i64 0, .int .i64 0, .int .i64 0]) ?_ 0 _ rfl; (with_reducible repeat (first | refine blk_drewN ?_ _ | refine blk_drew ?_ | refine blk_alloc ?_ _)); exact BK133.out) hb); have n1_ := Aside0.mk (below_step (by repeat (first | (with_reducible first | exact HB.out | apply below_alloc | apply pw_below_drewN | apply below_drew1 | refine below_set ?_ GE133.out) | exact HB.out)) hb); clear BK133; clear HB; have BK133 := n0_; have HB := n1_; clear n0_ n1_; (try clear hb); (try clear hb2); (try clear hk); (try clear hi); (try simp only [errW_none, errW_some])) | ((with_reducible refine gate_dst (N := 5) rfl ?_); refine box_event ?hg (N := 5) ?hd (cs := #[.int .i64 0, .int .i64 0, .int .i64 0]) (t := 23) ?hr ?_; (case hd => rfl); (case hg => rfl); (case hr => first | (go_simp; done) | (go_simp; rfl)); intro gb138 hg w16 hbox hb; have n0_ := Aside0.mk (blk_below (g := gb133) (o := .cells #[.int .i64 t129, .int .i64 t130, .int .i64 t131] 23 (0, 0)) (by (with_reducible repeat (first | refine blk_drewN ?_ _ | refine blk_drew ?_ | refine blk_alloc ?_ _)); exact BK133.out) hb); have n1_ := Aside0.mk (below_step (by repeat (first | (with_reducible first | exact HB.out | apply below_alloc | apply pw_below_drewN | apply below_drew1 | refine below_set ?_ GE133.out) | exact HB.out)) hb); have n2_ := Aside0.mk (hbox); have n3_ := Aside0.mk ((by rw [hg]; exact (below_size (by repeat (first | (with_reducible first | exact HB.out | apply below_alloc | apply pw_below_drewN | apply below_drew1 | refine below_set ?_ GE133.out) | exact HB.out))) : w.heap.size ≤ gb138)); have n4_ := Aside0.mk ((by rw [hg]; exact (below_size (by repeat (first | (with_reducible first | exact HB.out | apply below_alloc | apply pw_below_drewN | apply below_drew1 | refine below_set ?_ GE133.out) | exact HB.out))) : w.heap.size ≤ gb138)); have n5_ := Aside0.mk ((by rw [hg]; exact Nat.ne_of_lt (blk_lt (g := gb133) (o := .cells #[.int .i64 t129, .int .i64 t130, .int .i64 t131] 23 (0, 0)) (by (with_reducible repeat (first | refine blk_drewN ?_ _ | refine blk_drew ?_ | refine blk_alloc ?_ _)); exact BK133.out)) : gb133 ≠ gb138)); have n6_ := Aside0.mk ((by rw [hg]; exact Nat.ne_of_gt (blk_lt (g := gb133) (o := .cells #[.int .i64 t129, .int .i64 t130, .int .i64 t131] 23 (0, 0)) (by (with_reducible repeat (first | refine blk_drewN ?_ _ | refine blk_drew ?_ | refine blk_alloc ?_ _)); exact BK133.out)) : gb138 ≠ gb133)); clear BK133; clear HB; have BK133 := n0_; have HB := n1_; have BK138 := n2_; have GW138 := n3_; have GE138 := n4_; have NB133_138 := n5_; have NB138_133 := n6_; clear n0_ n1_ n2_ n3_ n4_ n5_ n6_; clear hb hbox hg; have hnb17 := NB138_133.out; have hnc17 := NB133_138.out; have hcz18_0 : w16.cell? ⟨gb138, 0, none⟩ = some (.int .i64 0) := (blk_cell BK138.out 0).trans rfl; have hcz18_1 : w16.cell? ⟨gb138, 1, none⟩ = some (.int .i64 0) := (blk_cell BK138.out 1).trans rfl; have hcz18_2 : w16.cell? ⟨gb138, 2, none⟩ = some (.int .i64 0) := (blk_cell BK138.out 2).trans rfl; have hfz18_0 := blk_frozen BK138.out 0; have hfz18_1 := blk_frozen BK138.out 1; have hfz18_2 := blk_frozen BK138.out 2; have hcz19_0 : w16.cell? ⟨gb133, 0, none⟩ = some (.int .i64 t129) := (blk_cell BK133.out 0).trans rfl; have hcz19_1 : w16.cell? ⟨gb133, 1, none⟩ = some (.int .i64 t130) := (blk_cell BK133.out 1).trans rfl; have hcz19_2 : w16.cell? ⟨gb133, 2, none⟩ = some (.int .i64 t131) := (blk_cell BK133.out 2).trans rfl; have hfz19_0 := blk_frozen BK133.out 0; have hfz19_1 := blk_frozen BK133.out 1; have hfz19_2 := blk_frozen BK133.out 2) | (go_at_call 11; (with_reducible refine (civil_Days.calls kj3 t129 t130 t131 t139 t140 _ A10.out).mono ?_); rintro e w20 ⟨rfl, hb⟩; have n0_ := Aside0.mk (blk_below (g := gb133) (o := .cells #[.int .i64 t129, .int .i64 t130, .int .i64 t131] 23 (0, 0)) (by (with_reducible repeat (first | refine blk_drewN ?_ _ | refine blk_drew ?_ | refine blk_alloc ?_ _)); refine blk_far ?_ NB133_138.out _; (with_reducible repeat (first | refine blk_drewN ?_ _ | refine blk_drew ?_ | refine blk_alloc ?_ _)); refine blk_far ?_ NB133_138.out _; (with_reducible repeat (first | refine blk_drewN ?_ _ | refine blk_drew ?_ | refine blk_alloc ?_ _)); refine blk_far ?_ NB133_138.out _; (with_reducible repeat (first | refine blk_drewN ?_ _ | refine blk_drew ?_ | refine blk_alloc ?_ _)); exact BK133.out) hb); have n1_ := Aside0.mk (blk_below (g := gb138) (o := .cells #[.int .i64 t134, .int .i64 t135, .int .i64 t136] 23 (0, 0)) (by (with_reducible repeat (first | refine blk_drewN ?_ _ | refine blk_drew ?_ | refine blk_alloc ?_ _)); refine blk_put (cs := #[.int .i64 t134, .int .i64 t135, .int .i64 0]) ?_ 2 _ rfl; (with_reducible repeat (first | refine blk_drewN ?_ _ | refine blk_drew ?_ | refine blk_alloc ?_ _)); refine blk_put (cs := #[.int .i64 t134, .int .i64 0, .int .i64 0]) ?_ 1 _ rfl; (with_reducible repeat (first | refine blk_drewN ?_ _ | refine blk_drew ?_ | refine blk_alloc ?_ _)); refine blk_put (cs := #[.int .i64 0, .int .i64 0, .int .i64 0]) ?_ 0 _ rfl; (with_reducible repeat (first | refine blk_drewN ?_ _ | refine blk_drew ?_ | refine blk_alloc ?_ _)); exact BK138.out) hb); have n2_ := Aside0.mk (below_step (by repeat (first | (with_reducible first | exact HB.out | apply below_alloc | apply pw_below_drewN | apply below_drew1 | refine below_set ?_ GE133.out | refine below_set ?_ GE138.out) | exact HB.out)) hb); clear BK133; clear BK138; clear HB; have BK133 := n0_; have BK138 := n1_; have HB := n2_; clear n0_ n1_ n2_; (try clear hb); (try clear hb2); (try clear hk); (try clear hi); (try simp only [errW_none, errW_some])))
          repeat (go_quiet (first | (go_at_call 13; (with_reducible refine (civil_Date.calls a0 t129 t130 t131 t132 _ A8.out).mono ?_); rintro e w12 ⟨rfl, hb⟩; have n0_ := Aside0.mk (below_step (by repeat (first | (with_reducible first | exact HB.out | apply below_alloc | apply pw_below_drewN | apply below_drew1) | exact HB.out)) hb); clear HB; have HB := n0_; clear n0_; (try clear hb); (try clear hb2); (try clear hk); (try clear hi); (try simp only [errW_none, errW_some])) | ((with_reducible refine gate_dst (N := 3) rfl ?_); refine box_event ?hg (N := 3) ?hd (cs := #[.int .i64 0, .int .i64 0, .int .i64 0]) (t := 23) ?hr ?_; (case hd => rfl); (case hg => rfl); (case hr => first | (go_simp; done) | (go_simp; rfl)); intro gb133 hg w13 hbox hb; have n0_ := Aside0.mk (below_step (by repeat (first | (with_reducible first | exact HB.out | apply below_alloc | apply pw_below_drewN | apply below_drew1) | exact HB.out)) hb); have n1_ := Aside0.mk (hbox); have n2_ := Aside0.mk ((by rw [hg]; exact (below_size (by repeat (first | (with_reducible first | exact HB.out | apply below_alloc | apply pw_below_drewN | apply below_drew1) | exact HB.out))) : w.heap.size ≤ gb133)); have n3_ := Aside0.mk ((by rw [hg]; exact (below_size (by repeat (first | (with_reducible first | exact HB.out | apply below_alloc | apply pw_below_drewN | apply below_drew1) | exact HB.out))) : w.heap.size ≤ gb133)); clear HB; have HB := n0_; have BK133 := n1_; have GW133 := n2_; have GE133 := n3_; clear n0_ n1_ n2_ n3_; clear hb hbox hg; have hcz14_0 : w13.cell? ⟨gb133, 0, none⟩ = some (.int .i64 0) := (blk_cell BK133.out 0).trans rfl; have hcz14_1 : w13.cell? ⟨gb133, 1, none⟩ = some (.int .i64 0) := (blk_cell BK133.out 1).trans rfl; have hcz14_2 : w13.cell? ⟨gb133, 2, none⟩ = some (.int .i64 0) := (blk_cell BK133.out 2).trans rfl; have hfz14_0 := blk_frozen BK133.out 0; have hfz14_1 := blk_frozen BK133.out 1; have hfz14_2 := blk_frozen BK133.out 2) | (go_at_call 13; (with_reducible refine (civil_Date.calls (wrap64 (a0 + 1)) t134 t135 t136 t137 _ A9.out).mono ?_); rintro e w15 ⟨rfl, hb⟩; have n0_ := Aside0.mk (blk_below (g := gb133) (o := .cells #[.int .i64 t129, .int .i64 t130, .int .i64 t131] 23 (0, 0)) (by (with_reducible repeat (first | refine blk_drewN ?_ _ | refine blk_drew ?_ | refine blk_alloc ?_ _)); refine blk_put (cs := #[.int .i64 t129, .int .i64 t130, .int .i64 0]) ?_ 2 _ rfl; (with_reducible repeat (first | refine blk_drewN ?_ _ | refine blk_drew ?_ | refine blk_alloc ?_ _)); refine blk_put (cs := #[.int .i64 t129, .int .i64 0, .int .i64 0]) ?_ 1 _ rfl; (with_reducible repeat (first | refine blk_drewN ?_ _ | refine blk_drew ?_ | refine blk_alloc ?_ _)); refine blk_put (cs := #[.int .i64 0, .int .i64 0, .int .i64 0]) ?_ 0 _ rfl; (with_reducible repeat (first | refine blk_drewN ?_ _ | refine blk_drew ?_ | refine blk_alloc ?_ _)); exact BK133.out) hb); have n1_ := Aside0.mk (below_step (by repeat (first | (with_reducible first | exact HB.out | apply below_alloc | apply pw_below_drewN | apply below_drew1 | refine below_set ?_ GE133.out) | exact HB.out)) hb); clear BK133; clear HB; have BK133 := n0_; have HB := n1_; clear n0_ n1_; (try clear hb); (try clear hb2); (try clear hk); (try clear hi); (try simp only [errW_none, errW_some])) | ((with_reducible refine gate_dst (N := 5) rfl ?_); refine box_event ?hg (N := 5) ?hd (cs := #[.int .i64 0, .int .i64 0, .int .i64 0]) (t := 23) ?hr ?_; (case hd => rfl); (case hg => rfl); (case hr => first | (go_simp; done) | (go_simp; rfl)); intro gb138 hg w16 hbox hb; have n0_ := Aside0.mk (blk_below (g := gb133) (o := .cells #[.int .i64 t129, .int .i64 t130, .int .i64 t131] 23 (0, 0)) (by (with_reducible repeat (first | refine blk_drewN ?_ _ | refine blk_drew ?_ | refine blk_alloc ?_ _)); exact BK133.out) hb); have n1_ := Aside0.mk (below_step (by repeat (first | (with_reducible first | exact HB.out | apply below_alloc | apply pw_below_drewN | apply below_drew1 | refine below_set ?_ GE133.out) | exact HB.out)) hb); have n2_ := Aside0.mk (hbox); have n3_ := Aside0.mk ((by rw [hg]; exact (below_size (by repeat (first | (with_reducible first | exact HB.out | apply below_alloc | apply pw_below_drewN | apply below_drew1 | refine below_set ?_ GE133.out) | exact HB.out))) : w.heap.size ≤ gb138)); have n4_ := Aside0.mk ((by rw [hg]; exact (below_size (by repeat (first | (with_reducible first | exact HB.out | apply below_alloc | apply pw_below_drewN | apply below_drew1 | refine below_set ?_ GE133.out) | exact HB.out))) : w.heap.size ≤ gb138)); have n5_ := Aside0.mk ((by rw [hg]; exact Nat.ne_of_lt (blk_lt (g := gb133) (o := .cells #[.int .i64 t129, .int .i64 t130, .int .i64 t131] 23 (0, 0)) (by (with_reducible repeat (first | refine blk_drewN ?_ _ | refine blk_drew ?_ | refine blk_alloc ?_ _)); exact BK133.out)) : gb133 ≠ gb138)); have n6_ := Aside0.mk ((by rw [hg]; exact Nat.ne_of_gt (blk_lt (g := gb133) (o := .cells #[.int .i64 t129, .int .i64 t130, .int .i64 t131] 23 (0, 0)) (by (with_reducible repeat (first | refine blk_drewN ?_ _ | refine blk_drew ?_ | refine blk_alloc ?_ _)); exact BK133.out)) : gb138 ≠ gb133)); clear BK133; clear HB; have BK133 := n0_; have HB := n1_; have BK138 := n2_; have GW138 := n3_; have GE138 := n4_; have NB133_138 := n5_; have NB138_133 := n6_; clear n0_ n1_ n2_ n3_ n4_ n5_ n6_; clear hb hbox hg; have hnb17 := NB138_133.out; have hnc17 := NB133_138.out; have hcz18_0 : w16.cell? ⟨gb138, 0, none⟩ = some (.int .i64 0) := (blk_cell BK138.out 0).trans rfl; have hcz18_1 : w16.cell? ⟨gb138, 1, none⟩ = some (.int .i64 0) := (blk_cell BK138.out 1).trans rfl; have hcz18_2 : w16.cell? ⟨gb138, 2, none⟩ = some (.int .i64 0) := (blk_cell BK138.out 2).trans rfl; have hfz18_0 := blk_frozen BK138.out 0; have hfz18_1 := blk_frozen BK138.out 1; have hfz18_2 := blk_frozen BK138.out 2; have hcz19_0 : w16.cell? ⟨gb133, 0, none⟩ = some (.int .i64 t129) := (blk_cell BK133.out 0).trans rfl; have hcz19_1 : w16.cell? ⟨gb133, 1, none⟩ = some (.int .i64 t130) := (blk_cell BK133.out 1).trans rfl; have hcz19_2 : w16.cell? ⟨gb133, 2, none⟩ = some (.int .i64 t131) := (blk_cell BK133.out 2).trans rfl; have hfz19_0 := blk_frozen BK133.out 0; have hfz19_1 := blk_frozen BK133.out 1; have hfz19_2 := blk_frozen BK133.out 2) | (go_at_call 11; (with_reducible refine (civil_Days.calls kj3 t129 t130 t131 t139 t140 _ A10.out).mono ?_); rintro e w20 ⟨rfl, hb⟩; have n0_ := Aside0.mk (blk_below (g := gb133) (o := .cells #[.int .i64 t129, .int .i64 t130, .int .i64 t131] 23 (0, 0)) (by (with_reducible repeat (first | refine blk_drewN ?_ _ | refine blk_drew ?_ | refine blk_alloc ?_ _)); refine blk_far ?_ NB133_138.out _; (with_reducible repeat (first | refine blk_drewN ?_ _ | refine blk_drew ?_ | refine blk_alloc ?_ _)); refine blk_far ?_ NB133_138.out _; (with_reducible repeat (first | refine blk_drewN ?_ _ | refine blk_drew ?_ | refine blk_alloc ?_ _)); refine blk_far ?_ NB133_138.out _; (with_reducible repeat (first | refine blk_drewN ?_ _ | refine blk_drew ?_ | refine blk_alloc ?_ _)); exact BK133.out) hb); have n1_ := Aside0.mk (blk_below (g := gb138) (o := .cells #[.int .i64 t134, .int .i64 t135, .int .i64 t136] 23 (0, 0)) (by (with_reducible repeat (first | refine blk_drewN ?_ _ | refine blk_drew ?_ | refine blk_alloc ?_ _)); refine blk_put (cs := #[.int .i64 t134, .int .i64 t135, .int .i64 0]) ?_ 2 _ rfl; (with_reducible repeat (first | refine blk_drewN ?_ _ | refine blk_drew ?_ | refine blk_alloc ?_ _)); refine blk_put (cs := #[.int .i64 t134, .int .i64 0, .int .i64 0]) ?_ 1 _ rfl; (with_reducible repeat (first | refine blk_drewN ?_ _ | refine blk_drew ?_ | refine blk_alloc ?_ _)); refine blk_put (cs := #[.int .i64 0, .int .i64 0, .int .i64 0]) ?_ 0 _ rfl; (with_reducible repeat (first | refine blk_drewN ?_ _ | refine blk_drew ?_ | refine blk_alloc ?_ _)); exact BK138.out) hb); have n2_ := Aside0.mk (below_step (by repeat (first | (with_reducible first | exact HB.out | apply below_alloc | apply pw_below_drewN | apply below_drew1 | refine below_set ?_ GE133.out | refine below_set ?_ GE138.out) | exact HB.out)) hb); clear BK133; clear BK138; clear HB; have BK133 := n0_; have BK138 := n1_; have HB := n2_; clear n0_ n1_ n2_; (try clear hb); (try clear hb2); (try clear hk); (try clear hi); (try simp only [errW_none, errW_some]))); go_upto_region 8 with (first | (go_at_call 13; (with_reducible refine (civil_Date.calls a0 t129 t130 t131 t132 _ A8.out).mono ?_); rintro e w12 ⟨rfl, hb⟩; have n0_ := Aside0.mk (below_step (by repeat (first | (with_reducible first | exact HB.out | apply below_alloc | apply pw_below_drewN | apply below_drew1) | exact HB.out)) hb); clear HB; have HB := n0_; clear n0_; (try clear hb); (try clear hb2); (try clear hk); (try clear hi); (try simp only [errW_none, errW_some])) | ((with_reducible refine gate_dst (N := 3) rfl ?_); refine box_event ?hg (N := 3) ?hd (cs := #[.int .i64 0, .int .i64 0, .int .i64 0]) (t := 23) ?hr ?_; (case hd => rfl); (case hg => rfl); (case hr => first | (go_simp; done) | (go_simp; rfl)); intro gb133 hg w13 hbox hb; have n0_ := Aside0.mk (below_step (by repeat (first | (with_reducible first | exact HB.out | apply below_alloc | apply pw_below_drewN | apply below_drew1) | exact HB.out)) hb); have n1_ := Aside0.mk (hbox); have n2_ := Aside0.mk ((by rw [hg]; exact (below_size (by repeat (first | (with_reducible first | exact HB.out | apply below_alloc | apply pw_below_drewN | apply below_drew1) | exact HB.out))) : w.heap.size ≤ gb133)); have n3_ := Aside0.mk ((by rw [hg]; exact (below_size (by repeat (first | (with_reducible first | exact HB.out | apply below_alloc | apply pw_below_drewN | apply below_drew1) | exact HB.out))) : w.heap.size ≤ gb133)); clear HB; have HB := n0_; have BK133 := n1_; have GW133 := n2_; have GE133 := n3_; clear n0_ n1_ n2_ n3_; clear hb hbox hg; have hcz14_0 : w13.cell? ⟨gb133, 0, none⟩ = some (.int .i64 0) := (blk_cell BK133.out 0).trans rfl; have hcz14_1 : w13.cell? ⟨gb133, 1, none⟩ = some (.int .i64 0) := (blk_cell BK133.out 1).trans rfl; have hcz14_2 : w13.cell? ⟨gb133, 2, none⟩ = some (.int .i64 0) := (blk_cell BK133.out 2).trans rfl; have hfz14_0 := blk_frozen BK133.out 0; have hfz14_1 := blk_frozen BK133.out 1; have hfz14_2 := blk_frozen BK133.out 2) | (go_at_call 13; (with_reducible refine (civil_Date.calls (wrap64 (a0 + 1)) t134 t135 t136 t137 _ A9.out).mono ?_); rintro e w15 ⟨rfl, hb⟩; have n0_ := Aside0.mk (blk_below (g := gb133) (o := .cells #[.int .i64 t129, .int .i64 t130, .int .i64 t131] 23 (0, 0)) (by (with_reducible repeat (first | refine blk_drewN ?_ _ | refine blk_drew ?_ | refine blk_alloc ?_ _)); refine blk_put (cs := #[.int .i64 t129, .int .i64 t130, .int .i64 0]) ?_ 2 _ rfl; (with_reducible repeat (first | refine blk_drewN ?_ _ | refine blk_drew ?_ | refine blk_alloc ?_ _)); refine blk_put (cs := #[.int .i64 t129, .int .i64 0, .int .i64 0]) ?_ 1 _ rfl; (with_reducible repeat (first | refine blk_drewN ?_ _ | refine blk_drew ?_ | refine blk_alloc ?_ _)); refine blk_put (cs := #[.int .i64 0, .int .i64 0, .int .i64 0]) ?_ 0 _ rfl; (with_reducible repeat (first | refine blk_drewN ?_ _ | refine blk_drew ?_ | refine blk_alloc ?_ _)); exact BK133.out) hb); have n1_ := Aside0.mk (below_step (by repeat (first | (with_reducible first | exact HB.out | apply below_alloc | apply pw_below_drewN | apply below_drew1 | refine below_set ?_ GE133.out) | exact HB.out)) hb); clear BK133; clear HB; have BK133 := n0_; have HB := n1_; clear n0_ n1_; (try clear hb); (try clear hb2); (try clear hk); (try clear hi); (try simp only [errW_none, errW_some])) | ((with_reducible refine gate_dst (N := 5) rfl ?_); refine box_event ?hg (N := 5) ?hd (cs := #[.int .i64 0, .int .i64 0, .int .i64 0]) (t := 23) ?hr ?_; (case hd => rfl); (case hg => rfl); (case hr => first | (go_simp; done) | (go_simp; rfl)); intro gb138 hg w16 hbox hb; have n0_ := Aside0.mk (blk_below (g := gb133) (o := .cells #[.int .i64 t129, .int .i64 t130, .int .i64 t131] 23 (0, 0)) (by (with_reducible repeat (first | refine blk_drewN ?_ _ | refine blk_drew ?_ | refine blk_alloc ?_ _)); exact BK133.out) hb); have n1_ := Aside0.mk (below_step (by repeat (first | (with_reducible first | exact HB.out | apply below_alloc | apply pw_below_drewN | apply below_drew1 | refine below_set ?_ GE133.out) | exact HB.out)) hb); have n2_ := Aside0.mk (hbox); have n3_ := Aside0.mk ((by rw [hg]; exact (below_size (by repeat (first | (with_reducible first | exact HB.out | apply below_alloc | apply pw_below_drewN | apply below_drew1 | refine below_set ?_ GE133.out) | exact HB.out))) : w.heap.size ≤ gb138)); have n4_ := Aside0.mk ((by rw [hg]; exact (below_size (by repeat (first | (with_reducible first | exact HB.out | apply below_alloc | apply pw_below_drewN | apply below_drew1 | refine below_set ?_ GE133.out) | exact HB.out))) : w.heap.size ≤ gb138)); have n5_ := Aside0.mk ((by rw [hg]; exact Nat.ne_of_lt (blk_lt (g := gb133) (o := .cells #[.int .i64 t129, .int .i64 t130, .int .i64 t131] 23 (0, 0)) (by (with_reducible repeat (first | refine blk_drewN ?_ _ | refine blk_drew ?_ | refine blk_alloc ?_ _)); exact BK133.out)) : gb133 ≠ gb138)); have n6_ := Aside0.mk ((by rw [hg]; exact Nat.ne_of_gt (blk_lt (g := gb133) (o := .cells #[.int .i64 t129, .int .i64 t130, .int .i64 t131] 23 (0, 0)) (by (with_reducible repeat (first | refine blk_drewN ?_ _ | refine blk_drew ?_ | refine blk_alloc ?_ _)); exact BK133.out)) : gb138 ≠ gb133)); clear BK133; clear HB; have BK133 := n0_; have HB := n1_; have BK138 := n2_; have GW138 := n3_; have GE138 := n4_; have NB133_138 := n5_; have NB138_133 := n6_; clear n0_ n1_ n2_ n3_ n4_ n5_ n6_; clear hb hbox hg; have hnb17 := NB138_133.out; have hnc17 := NB133_138.out; have hcz18_0 : w16.cell? ⟨gb138, 0, none⟩ = some (.int .i64 0) := (blk_cell BK138.out 0).trans rfl; have hcz18_1 : w16.cell? ⟨gb138, 1, none⟩ = some (.int .i64 0) := (blk_cell BK138.out 1).trans rfl; have hcz18_2 : w16.cell? ⟨gb138, 2, none⟩ = some (.int .i64 0) := (blk_cell BK138.out 2).trans rfl; have hfz18_0 := blk_frozen BK138.out 0; have hfz18_1 := blk_frozen BK138.out 1; have hfz18_2 := blk_frozen BK138.out 2; have hcz19_0 : w16.cell? ⟨gb133, 0, none⟩ = some (.int .i64 t129) := (blk_cell BK133.out 0).trans rfl; have hcz19_1 : w16.cell? ⟨gb133, 1, none⟩ = some (.int .i64 t130) := (blk_cell BK133.out 1).trans rfl; have hcz19_2 : w16.cell? ⟨gb133, 2, none⟩ = some (.int .i64 t131) := (blk_cell BK133.out 2).trans rfl; have hfz19_0 := blk_frozen BK133.out 0; have hfz19_1 := blk_frozen BK133.out 1; have hfz19_2 := blk_frozen BK133.out 2) | (go_at_call 11; (with_reducible refine (civil_Days.calls kj3 t129 t130 t131 t139 t140 _ A10.out).mono ?_); rintro e w20 ⟨rfl, hb⟩; have n0_ := Aside0.mk (blk_below (g := gb133) (o := .cells #[.int .i64 t129, .int .i64 t130, .int .i64 t131] 23 (0, 0)) (by (with_reducible repeat (first | refine blk_drewN ?_ _ | refine blk_drew ?_ | refine blk_alloc ?_ _)); refine blk_far ?_ NB133_138.out _; (with_reducible repeat (first | refine blk_drewN ?_ _ | refine blk_drew ?_ | refine blk_alloc ?_ _)); refine blk_far ?_ NB133_138.out _; (with_reducible repeat (first | refine blk_drewN ?_ _ | refine blk_drew ?_ | refine blk_alloc ?_ _)); refine blk_far ?_ NB133_138.out _; (with_reducible repeat (first | refine blk_drewN ?_ _ | refine blk_drew ?_ | refine blk_alloc ?_ _)); exact BK133.out) hb); have n1_ := Aside0.mk (blk_below (g := gb138) (o := .cells #[.int .i64 t134, .int .i64 t135, .int .i64 t136] 23 (0, 0)) (by (with_reducible repeat (first | refine blk_drewN ?_ _ | refine blk_drew ?_ | refine blk_alloc ?_ _)); refine blk_put (cs := #[.int .i64 t134, .int .i64 t135, .int .i64 0]) ?_ 2 _ rfl; (with_reducible repeat (first | refine blk_drewN ?_ _ | refine blk_drew ?_ | refine blk_alloc ?_ _)); refine blk_put (cs := #[.int .i64 t134, .int .i64 0, .int .i64 0]) ?_ 1 _ rfl; (with_reducible repeat (first | refine blk_drewN ?_ _ | refine blk_drew ?_ | refine blk_alloc ?_ _)); refine blk_put (cs := #[.int .i64 0, .int .i64 0, .int .i64 0]) ?_ 0 _ rfl; (with_reducible repeat (first | refine blk_drewN ?_ _ | refine blk_drew ?_ | refine blk_alloc ?_ _)); exact BK138.out) hb); have n2_ := Aside0.mk (below_step (by repeat (first | (with_reducible first | exact HB.out | apply below_alloc | apply pw_below_drewN | apply below_drew1 | refine below_set ?_ GE133.out | refine below_set ?_ GE138.out) | exact HB.out)) hb); clear BK133; clear BK138; clear HB; have BK133 := n0_; have BK138 := n1_; have HB := n2_; clear n0_ n1_ n2_; (try clear hb); (try clear hb2); (try clear hk); (try clear hi); (try simp only [errW_none, errW_some]))))
          (try simp only [Act.put, List.setIfInBounds_toArray, List.set_cons_zero, List.set_cons_succ])
          go_cut [48] (fun v48 wc => ∃ (kq : Nat) (x48_10 : Bool), v48 = .bool x48_10 ∧ Aside0 (amphoralaw19_CivilBack.j1 kq x48_10 t129 t130 t131 t134 t135 t136 = some r) ∧ Aside0 (kq ≤ kj3) ∧ Aside0 (wc.heap[gb133]? = some (.cells #[.int .i64 t129, .int .i64 t130, .int .i64 t131] 23 (0, 0))) ∧ Aside0 (wc.heap[gb138]? = some (.cells #[.int .i64 t134, .int .i64 t135, .int .i64 t136] 23 (0, 0))) ∧ Aside0 (Below w.heap.size w wc))
          case first =>
            have H := HC11.out
            clear HC11
            rcases t132 with _ | q141
            · have H1 : (if t137.isNone = true then (if t140.isNone = true then (amphoralaw19_CivilBack.j1 kj3 (t139 != a0) t129 t130 t131 t134 t135 t136) else (amphoralaw19_CivilBack.j1 kj3 true t129 t130 t131 t134 t135 t136)) else (amphoralaw19_CivilBack.j1 kj3 true t129 t130 t131 t134 t135 t136)) = some r := by rw [if_pos (show (none : Option Int).isNone = true by rfl)] at H; exact H
              clear H
              have H := H1
              clear H1
              try simp only [errW_none, errW_some]
              rcases t137 with _ | q142
              · have H1 : (if t140.isNone = true then (amphoralaw19_CivilBack.j1 kj3 (t139 != a0) t129 t130 t131 t134 t135 t136) else (amphoralaw19_CivilBack.j1 kj3 true t129 t130 t131 t134 t135 t136)) = some r := by rw [if_pos (show (none : Option Int).isNone = true by rfl)] at H; exact H
                clear H
                have H := H1
                clear H1
                try simp only [errW_none, errW_some]
                rcases t140 with _ | q143
                · have H1 : (amphoralaw19_CivilBack.j1 kj3 (t139 != a0) t129 t130 t131 t134 t135 t136) = some r := by rw [if_pos (show (none : Option Int).isNone = true by rfl)] at H; exact H
                  clear H
                  have H := H1
                  clear H1
                  try simp only [errW_none, errW_some]
                  have H' := Aside0.mk H
                  clear H
                  go_wp2
                  repeat (go_quiet (fail); try go_wp2)
                  go_meet
                  case rel => exact ⟨_, ((t139 != a0)), (by first | rfl | (simp; done) | (simp [*]; done)), H', ⟨by have := HJ3.out; first | omega | exact Nat.le_refl _⟩, ⟨by (with_reducible repeat (first | refine blk_drewN ?_ _ | refine blk_drew ?_ | refine blk_alloc ?_ _)); exact BK133.out⟩, ⟨by (with_reducible repeat (first | refine blk_drewN ?_ _ | refine blk_drew ?_ | refine blk_alloc ?_ _)); exact BK138.out⟩, ⟨by repeat (first | (with_reducible first | exact HB.out | apply below_alloc | apply pw_below_drewN | apply below_drew1 | refine below_set ?_ GE133.out | refine below_set ?_ GE138.out) | exact HB.out)⟩⟩
                · have H1 : (amphoralaw19_CivilBack.j1 kj3 true t129 t130 t131 t134 t135 t136) = some r := by rw [if_neg (show ¬ (some q143).isNone = true by simp)] at H; exact H
                  clear H
                  have H := H1
                  clear H1
                  try simp only [errW_none, errW_some]
                  have H' := Aside0.mk H
                  clear H
                  go_wp2
                  repeat (go_quiet (fail); try go_wp2)
                  go_meet
                  case rel => exact ⟨_, (true), (by first | rfl | (simp; done) | (simp [*]; done)), H', ⟨by have := HJ3.out; first | omega | exact Nat.le_refl _⟩, ⟨by (with_reducible repeat (first | refine blk_drewN ?_ _ | refine blk_drew ?_ | refine blk_alloc ?_ _)); exact BK133.out⟩, ⟨by (with_reducible repeat (first | refine blk_drewN ?_ _ | refine blk_drew ?_ | refine blk_alloc ?_ _)); exact BK138.out⟩, ⟨by repeat (first | (with_reducible first | exact HB.out | apply below_alloc | apply pw_below_drewN | apply below_drew1 | refine below_set ?_ GE133.out | refine below_set ?_ GE138.out) | exact HB.out)⟩⟩
              · have H1 : (amphoralaw19_CivilBack.j1 kj3 true t129 t130 t131 t134 t135 t136) = some r := by rw [if_neg (show ¬ (some q142).isNone = true by simp)] at H; exact H
                clear H
                have H := H1
                clear H1
                try simp only [errW_none, errW_some]
                have H' := Aside0.mk H
                clear H
                go_wp2
                repeat (go_quiet (fail); try go_wp2)
                go_meet
                case rel => exact ⟨_, (true), (by first | rfl | (simp; done) | (simp [*]; done)), H', ⟨by have := HJ3.out; first | omega | exact Nat.le_refl _⟩, ⟨by (with_reducible repeat (first | refine blk_drewN ?_ _ | refine blk_drew ?_ | refine blk_alloc ?_ _)); exact BK133.out⟩, ⟨by (with_reducible repeat (first | refine blk_drewN ?_ _ | refine blk_drew ?_ | refine blk_alloc ?_ _)); exact BK138.out⟩, ⟨by repeat (first | (with_reducible first | exact HB.out | apply below_alloc | apply pw_below_drewN | apply below_drew1 | refine below_set ?_ GE133.out | refine below_set ?_ GE138.out) | exact HB.out)⟩⟩
            · have H1 : (amphoralaw19_CivilBack.j1 kj3 true t129 t130 t131 t134 t135 t136) = some r := by rw [if_neg (show ¬ (some q141).isNone = true by simp)] at H; exact H
              clear H
              have H := H1
              clear H1
              try simp only [errW_none, errW_some]
              have H' := Aside0.mk H
              clear H
              go_wp2
              repeat (go_quiet (fail); try go_wp2)
              go_meet
              case rel => exact ⟨_, (true), (by first | rfl | (simp; done) | (simp [*]; done)), H', ⟨by have := HJ3.out; first | omega | exact Nat.le_refl _⟩, ⟨by (with_reducible repeat (first | refine blk_drewN ?_ _ | refine blk_drew ?_ | refine blk_alloc ?_ _)); exact BK133.out⟩, ⟨by (with_reducible repeat (first | refine blk_drewN ?_ _ | refine blk_drew ?_ | refine blk_alloc ?_ _)); exact BK138.out⟩, ⟨by repeat (first | (with_reducible first | exact HB.out | apply below_alloc | apply pw_below_drewN | apply below_drew1 | refine below_set ?_ GE133.out | refine below_set ?_ GE138.out) | exact HB.out)⟩⟩
          case rest =>
            clear HC11
            try clear c1
            try clear q1
            try clear p2
            try clear c3
            try clear c4
            try clear c6
            try clear c6b0
            try clear p6
            try clear c7
            try clear q14
            try clear c17
            try clear hcz14_0
            try clear hcz14_1
            try clear hcz14_2
            try clear hcz18_0
            try clear hcz18_1
            try clear hcz18_2
            try clear hcz19_0
            try clear hcz19_1
            try clear hcz19_2
            try clear hfz14_0
            try clear hfz14_1
            try clear hfz14_2
            try clear hfz18_0
            try clear hfz18_1
            try clear hfz18_2
            try clear hfz19_0
            try clear hfz19_1
            try clear hfz19_2
            try clear p2
            try clear q141
            try clear q142
            try clear q143
            obtain ⟨kq, x48_10, rfl, HA, HJ10, BK133, BK138, HB⟩ := hcut
            cases kq with
            | zero => exact absurd HA.out (by simp [amphoralaw19_CivilBack.j1])
            | succ kj10 =>
              have H := HA.out
              clear HA
              simp only [amphoralaw19_CivilBack.j1] at H
              by_cases c21 : x48_10 = true
              · subst c21
                have H1 : (some false) = some r := by rw [if_pos rfl] at H; exact H
                clear H
                have H := H1
                clear H1
                exact absurd ((Option.some.inj H).trans HR.out) (by decide)
              · replace c21 := Bool.eq_false_iff.mpr c21
                subst c21
                have H1 : ((civil_Length.f kj10 t129 t130).bind fun t145 => (if (wrap64 (t131 + 1)) > t145 then (if (wrap64 (t130 + 1)) > 12 then (some (t134 == (wrap64 (t129 + 1)) && (t135 == 1 && (t136 == 1)))) else (some (t134 == t129 && (t135 == (wrap64 (t130 + 1)) && (t136 == 1))))) else (if t130 > 12 then (some (t134 == (wrap64 (t129 + 1)) && (t135 == 1 && (t136 == (wrap64 (t131 + 1)))))) else (some (t134 == t129 && (t135 == t130 && (t136 == (wrap64 (t131 + 1))))))))) = some r := by rw [if_neg (show ¬ (false = true) by decide)] at H; exact H
                clear H
                have H := H1
                clear H1
                replace H := Option.bind_eq_some_iff.mp H
                obtain ⟨t145, A220, H⟩ := H
                replace H : (if (wrap64 (t131 + 1)) > t145 then (if (wrap64 (t130 + 1)) > 12 then (some (t134 == (wrap64 (t129 + 1)) && (t135 == 1 && (t136 == 1)))) else (some (t134 == t129 && (t135 == (wrap64 (t130 + 1)) && (t136 == 1))))) else (if t130 > 12 then (some (t134 == (wrap64 (t129 + 1)) && (t135 == 1 && (t136 == (wrap64 (t131 + 1)))))) else (some (t134 == t129 && (t135 == t130 && (t136 == (wrap64 (t131 + 1)))))))) = some r := H
                have A22 := Aside0.mk A220
                clear A220
                by_cases c23 : (wrap64 (t131 + 1)) > t145
                · rw [if_pos c23] at H
                  have c23b0 : decide (t145 < (wrap64 (t131 + 1))) = true := decide_eq_true c23
                  clear c23
                  by_cases c24 : (wrap64 (t130 + 1)) > 12
                  · rw [if_pos c24] at H
                    have c24b0 : decide (12 < (wrap64 (t130 + 1))) = true := decide_eq_true c24
                    clear c24
                    obtain rfl := Option.some.inj H
                    have hnb25 := NB133_138.out
                    have hnc25 := NB138_133.out
                    have hcz26_0 : wc.cell? ⟨gb133, 0, none⟩ = some (.int .i64 t129) := (blk_cell BK133.out 0).trans rfl
                    have hcz26_1 : wc.cell? ⟨gb133, 1, none⟩ = some (.int .i64 t130) := (blk_cell BK133.out 1).trans rfl
                    have hcz26_2 : wc.cell? ⟨gb133, 2, none⟩ = some (.int .i64 t131) := (blk_cell BK133.out 2).trans rfl
                    have hfz26_0 := blk_frozen BK133.out 0
                    have hfz26_1 := blk_frozen BK133.out 1
                    have hfz26_2 := blk_frozen BK133.out 2
                    go_wp2_with (first | ((with_reducible refine gate_dst (N := 9) rfl ?_); refine box_event ?hg (N := 9) ?hd (cs := #[.int .i64 0, .int .i64 0, .int .i64 0]) (t := 23) ?hr ?_; (case hd => rfl); (case hg => rfl); (case hr => first | (go_simp; done) | (go_simp; rfl)); intro gb144 hg w27 hbox hb; have n0_ := Aside0.mk (blk_below (g := gb133) (o := .cells #[.int .i64 t129, .int .i64 t130, .int .i64 t131] 23 (0, 0)) (by (with_reducible repeat (first | refine blk_drewN ?_ _ | refine blk_drew ?_ | refine blk_alloc ?_ _)); exact BK133.out) hb); have n1_ := Aside0.mk (blk_below (g := gb138) (o := .cells #[.int .i64 t134, .int .i64 t135, .int .i64 t136] 23 (0, 0)) (by (with_reducible repeat (first | refine blk_drewN ?_ _ | refine blk_drew ?_ | refine blk_alloc ?_ _)); exact BK138.out) hb); have n2_ := Aside0.mk (below_step (by repeat (first | (with_reducible first | exact HB.out | apply below_alloc | apply pw_below_drewN | apply below_drew1 | refine below_set ?_ GE133.out | refine below_set ?_ GE138.out) | exact HB.out)) hb); have n3_ := Aside0.mk (hbox); have n4_ := Aside0.mk ((by rw [hg]; exact (below_size (by repeat (first | (with_reducible first | exact HB.out | apply below_alloc | apply pw_below_drewN | apply below_drew1 | refine below_set ?_ GE133.out | refine below_set ?_ GE138.out) | exact HB.out))) : w.heap.size ≤ gb144)); have n5_ := Aside0.mk ((by rw [hg]; exact (below_size (by repeat (first | (with_reducible first | exact HB.out | apply below_alloc | apply pw_below_drewN | apply below_drew1 | refine below_set ?_ GE133.out | refine below_set ?_ GE138.out) | exact HB.out))) : w.heap.size ≤ gb144)); have n6_ := Aside0.mk ((by rw [hg]; exact Nat.ne_of_lt (blk_lt (g := gb133) (o := .cells #[.int .i64 t129, .int .i64 t130, .int .i64 t131] 23 (0, 0)) (by (with_reducible repeat (first | refine blk_drewN ?_ _ | refine blk_drew ?_ | refine blk_alloc ?_ _)); exact BK133.out)) : gb133 ≠ gb144)); have n7_ := Aside0.mk ((by rw [hg]; exact Nat.ne_of_gt (blk_lt (g := gb133) (o := .cells #[.int .i64 t129, .int .i64 t130, .int .i64 t131] 23 (0, 0)) (by (with_reducible repeat (first | refine blk_drewN ?_ _ | refine blk_drew ?_ | refine blk_alloc ?_ _)); exact BK133.out)) : gb144 ≠ gb133)); have n8_ := Aside0.mk ((by rw [hg]; exact Nat.ne_of_lt (blk_lt (g := gb138) (o := .cells #[.int .i64 t134, .int .i64 t135, .int .i64 t136] 23 (0, 0)) (by (with_reducible repeat (first | refine blk_drewN ?_ _ | refine blk_drew ?_ | refine blk_alloc ?_ _)); exact BK138.out)) : gb138 ≠ gb144)); have n9_ := Aside0.mk ((by rw [hg]; exact Nat.ne_of_gt (blk_lt (g := gb138) (o := .cells #[.int .i64 t134, .int .i64 t135, .int .i64 t136] 23 (0, 0)) (by (with_reducible repeat (first | refine blk_drewN ?_ _ | refine blk_drew ?_ | refine blk_alloc ?_ _)); exact BK138.out)) : gb144 ≠ gb138)); clear BK133; clear BK138; clear HB; have BK133 := n0_; have BK138 := n1_; have HB := n2_; have BK144 := n3_; have GW144 := n4_; have GE144 := n5_; have NB133_144 := n6_; have NB144_133 := n7_; have NB138_144 := n8_; have NB144_138 := n9_; clear n0_ n1_ n2_ n3_ n4_ n5_ n6_ n7_ n8_ n9_; clear hb hbox hg; have hnb28 := NB144_133.out; have hnc28 := NB133_144.out; have hnb29 := NB144_138.out; have hnc29 := NB138_144.out; have hcz30_0 : w27.cell? ⟨gb144, 0, none⟩ = some (.int .i64 0) := (blk_cell BK144.out 0).trans rfl; have hcz30_1 : w27.cell? ⟨gb144, 1, none⟩ = some (.int .i64 0) := (blk_cell BK144.out 1).trans rfl; have hcz30_2 : w27.cell? ⟨gb144, 2, none⟩ = some (.int .i64 0) := (blk_cell BK144.out 2).trans rfl; have hfz30_0 := blk_frozen BK144.out 0; have hfz30_1 := blk_frozen BK144.out 1; have hfz30_2 := blk_frozen BK144.out 2; have hcz31_0 : w27.cell? ⟨gb133, 0, none⟩ = some (.int .i64 t129) := (blk_cell BK133.out 0).trans rfl; have hcz31_1 : w27.cell? ⟨gb133, 1, none⟩ = some (.int .i64 t130) := (blk_cell BK133.out 1).trans rfl; have hcz31_2 : w27.cell? ⟨gb133, 2, none⟩ = some (.int .i64 t131) := (blk_cell BK133.out 2).trans rfl; have hfz31_0 := blk_frozen BK133.out 0; have hfz31_1 := blk_frozen BK133.out 1; have hfz31_2 := blk_frozen BK133.out 2) | (go_at_call 18; (with_reducible refine (civil_Length.calls kj10 t129 t130 t145 _ A22.out).mono ?_); rintro e w' ⟨rfl, ⟨nd, rfl⟩⟩; (try first | exact ⟨rfl, _, World.drewN_drewN _ _ _⟩ | exact ⟨rfl, _, Eq.trans (World.drewN_drewN _ _ _) (congrArg (World.drewN _) (Nat.add_assoc _ _ _))⟩); have hcz32_0 : w27.cell? ⟨gb138, 0, none⟩ = some (.int .i64 t134) := (blk_cell BK138.out 0).trans rfl; have hcz32_1 : w27.cell? ⟨gb138, 1, none⟩ = some (.int .i64 t135) := (blk_cell BK138.out 1).trans rfl; have hcz32_2 : w27.cell? ⟨gb138, 2, none⟩ = some (.int .i64 t136) := (blk_cell BK138.out 2).trans rfl; have hfz32_0 := blk_frozen BK138.out 0; have hfz32_1 := blk_frozen BK138.out 1; have hfz32_2 := blk_frozen BK138.out 2))
                    generalize hW : ((w27.setCell ⟨gb144, 0, none⟩ (.int .i64 t129)).setCell ⟨gb144, 1, none⟩ (.int .i64 t130)).setCell ⟨gb144, 2, none⟩ (.int .i64 (wrap64 (t131 + 1))) = W
                    have m144 : W.heap[gb144]? = some (.cells #[.int .i64 t129, .int .i64 t130, .int .i64 (wrap64 (t131 + 1))] 23 (0, 0)) := by
                      rw [← hW]; exact blk_put (cs := #[.int .i64 t129, .int .i64 t130, .int .i64 0]) (blk_put (cs := #[.int .i64 t129, .int .i64 0, .int .i64 0]) (blk_put (cs := #[.int .i64 0, .int .i64 0, .int .i64 0]) BK144.out 0 _ rfl) 1 _ rfl) 2 _ rfl
                    have m133 : W.heap[gb133]? = some (.cells #[.int .i64 t129, .int .i64 t130, .int .i64 t131] 23 (0, 0)) := by
                      rw [← hW]; exact blk_far (blk_far (blk_far BK133.out NB133_144.out _) NB133_144.out _) NB133_144.out _
                    have m138 : W.heap[gb138]? = some (.cells #[.int .i64 t134, .int .i64 t135, .int .i64 t136] 23 (0, 0)) := by
                      rw [← hW]; exact blk_far (blk_far (blk_far BK138.out NB138_144.out _) NB138_144.out _) NB138_144.out _
                    have mHB : Below w.heap.size w W := by
                      rw [← hW]; exact below_set (below_set (below_set HB.out GE144.out) GE144.out) GE144.out
                    clear hW BK133 BK138 BK144 HB hcz26_0 hcz26_1 hcz26_2 hfz26_0 hfz26_1 hfz26_2 hcz30_0 hcz30_1 hcz30_2 hfz30_0 hfz30_1 hfz30_2 hcz31_0 hcz31_1 hcz31_2 hfz31_0 hfz31_1 hfz31_2
                    have kz144_0 : W.cell? ⟨gb144, 0, none⟩ = some (.int .i64 (t129)) := (blk_cell m144 0).trans rfl
                    have kz144_1 : W.cell? ⟨gb144, 1, none⟩ = some (.int .i64 (t130)) := (blk_cell m144 1).trans rfl
                    have kz144_2 : W.cell? ⟨gb144, 2, none⟩ = some (.int .i64 (wrap64 (t131 + 1))) := (blk_cell m144 2).trans rfl
                    have kz133_0 : W.cell? ⟨gb133, 0, none⟩ = some (.int .i64 (t129)) := (blk_cell m133 0).trans rfl
                    have kz133_1 : W.cell? ⟨gb133, 1, none⟩ = some (.int .i64 (t130)) := (blk_cell m133 1).trans rfl
                    have kz133_2 : W.cell? ⟨gb133, 2, none⟩ = some (.int .i64 (t131)) := (blk_cell m133 2).trans rfl
                    have kz138_0 : W.cell? ⟨gb138, 0, none⟩ = some (.int .i64 (t134)) := (blk_cell m138 0).trans rfl
                    have kz138_1 : W.cell? ⟨gb138, 1, none⟩ = some (.int .i64 (t135)) := (blk_cell m138 1).trans rfl
                    have kz138_2 : W.cell? ⟨gb138, 2, none⟩ = some (.int .i64 (t136)) := (blk_cell m138 2).trans rfl
                    have kf144_0 := blk_frozen m144 0
                    have kf144_1 := blk_frozen m144 1
                    have kf144_2 := blk_frozen m144 2
                    have kf133_0 := blk_frozen m133 0
                    have kf133_1 := blk_frozen m133 1
                    have kf133_2 := blk_frozen m133 2
                    have kf138_0 := blk_frozen m138 0
                    have kf138_1 := blk_frozen m138 1
                    have kf138_2 := blk_frozen m138 2
                    have M144 := Aside0.mk m144
                    have M133 := Aside0.mk m133
                    have M138 := Aside0.mk m138
                    have HB := Aside0.mk mHB
                    clear m144 m133 m138 mHB
                    go_quiet ((go_at_call 18; (with_reducible refine (civil_Length.calls kj10 t129 t130 t145 _ A22.out).mono ?_); rintro e w' ⟨rfl, ⟨nd, rfl⟩⟩; (first | exact ⟨rfl, _, World.drewN_drewN _ _ _⟩ | exact ⟨rfl, _, Eq.trans (World.drewN_drewN _ _ _) (congrArg (World.drewN _) (Nat.add_assoc _ _ _))⟩)))
                    generalize hV : W.drewN nq = V
                    have m144 : V.heap[gb144]? = some (.cells #[.int .i64 t129, .int .i64 t130, .int .i64 (wrap64 (t131 + 1))] 23 (0, 0)) := by rw [← hV]; exact blk_drewN M144.out _
                    have m133 : V.heap[gb133]? = some (.cells #[.int .i64 t129, .int .i64 t130, .int .i64 t131] 23 (0, 0)) := by rw [← hV]; exact blk_drewN M133.out _
                    have m138 : V.heap[gb138]? = some (.cells #[.int .i64 t134, .int .i64 t135, .int .i64 t136] 23 (0, 0)) := by rw [← hV]; exact blk_drewN M138.out _
                    have mHB : Below w.heap.size w V := by rw [← hV]; exact pw_below_drewN HB.out _
                    clear hV HB M144 M133 M138 kz144_0 kf144_0 kz144_1 kf144_1 kz144_2 kf144_2 kz133_0 kf133_0 kz133_1 kf133_1 kz133_2 kf133_2 kz138_0 kf138_0 kz138_1 kf138_1 kz138_2 kf138_2
                    have kz144_0 : V.cell? ⟨gb144, 0, none⟩ = some (.int .i64 (t129)) := (blk_cell m144 0).trans rfl
                    have kz144_1 : V.cell? ⟨gb144, 1, none⟩ = some (.int .i64 (t130)) := (blk_cell m144 1).trans rfl
                    have kz144_2 : V.cell? ⟨gb144, 2, none⟩ = some (.int .i64 (wrap64 (t131 + 1))) := (blk_cell m144 2).trans rfl
                    have kz133_0 : V.cell? ⟨gb133, 0, none⟩ = some (.int .i64 (t129)) := (blk_cell m133 0).trans rfl
                    have kz133_1 : V.cell? ⟨gb133, 1, none⟩ = some (.int .i64 (t130)) := (blk_cell m133 1).trans rfl
                    have kz133_2 : V.cell? ⟨gb133, 2, none⟩ = some (.int .i64 (t131)) := (blk_cell m133 2).trans rfl
                    have kz138_0 : V.cell? ⟨gb138, 0, none⟩ = some (.int .i64 (t134)) := (blk_cell m138 0).trans rfl
                    have kz138_1 : V.cell? ⟨gb138, 1, none⟩ = some (.int .i64 (t135)) := (blk_cell m138 1).trans rfl
                    have kz138_2 : V.cell? ⟨gb138, 2, none⟩ = some (.int .i64 (t136)) := (blk_cell m138 2).trans rfl
                    have kf144_0 := blk_frozen m144 0
                    have kf144_1 := blk_frozen m144 1
                    have kf144_2 := blk_frozen m144 2
                    have kf133_0 := blk_frozen m133 0
                    have kf133_1 := blk_frozen m133 1
                    have kf133_2 := blk_frozen m133 2
                    have kf138_0 := blk_frozen m138 0
                    have kf138_1 := blk_frozen m138 1
                    have kf138_2 := blk_frozen m138 2
                    have M144 := Aside0.mk m144
                    have M133 := Aside0.mk m133
                    have M138 := Aside0.mk m138
                    have HB := Aside0.mk mHB
                    clear m144 m133 m138 mHB
                    go_upto_region 17 with (fail)
                    generalize hX : ((((V.setCell ⟨gb144, 2, none⟩ (.int .i64 1)).setCell ⟨gb144, 1, none⟩ (.int .i64 (wrap64 (t130 + 1)))).setCell ⟨gb144, 1, none⟩ (.int .i64 1)).setCell ⟨gb144, 0, none⟩ (.int .i64 (wrap64 (t129 + 1)))) = X
                    have m144 : X.heap[gb144]? = some (.cells #[.int .i64 (wrap64 (t129 + 1)), .int .i64 1, .int .i64 1] 23 (0, 0)) := by rw [← hX]; exact (blk_put (cs := #[.int .i64 t129, .int .i64 1, .int .i64 1]) (blk_put (cs := #[.int .i64 t129, .int .i64 (wrap64 (t130 + 1)), .int .i64 1]) (blk_put (cs := #[.int .i64 t129, .int .i64 t130, .int .i64 1]) (blk_put (cs := #[.int .i64 t129, .int .i64 t130, .int .i64 (wrap64 (t131 + 1))]) M144.out 2 _ rfl) 1 _ rfl) 1 _ rfl) 0 _ rfl)
                    have m138 : X.heap[gb138]? = some (.cells #[.int .i64 t134, .int .i64 t135, .int .i64 t136] 23 (0, 0)) := by rw [← hX]; exact (blk_far (blk_far (blk_far (blk_far M138.out NB138_144.out _) NB138_144.out _) NB138_144.out _) NB138_144.out _)
                    have mHB : Below w.heap.size w X := by rw [← hX]; exact (below_set (below_set (below_set (below_set HB.out GE144.out) GE144.out) GE144.out) GE144.out)
                    clear hX HB M144 M133 M138 kz144_0 kf144_0 kz144_1 kf144_1 kz144_2 kf144_2 kz133_0 kf133_0 kz133_1 kf133_1 kz133_2 kf133_2 kz138_0 kf138_0 kz138_1 kf138_1 kz138_2 kf138_2
                    have kz144_0 : X.cell? ⟨gb144, 0, none⟩ = some (.int .i64 (wrap64 (t129 + 1))) := (blk_cell m144 0).trans rfl
                    have kz144_1 : X.cell? ⟨gb144, 1, none⟩ = some (.int .i64 1) := (blk_cell m144 1).trans rfl
                    have kz144_2 : X.cell? ⟨gb144, 2, none⟩ = some (.int .i64 1) := (blk_cell m144 2).trans rfl
                    have kf144_0 := blk_frozen m144 0
                    have kf144_1 := blk_frozen m144 1
                    have kf144_2 := blk_frozen m144 2
                    have kz138_0 : X.cell? ⟨gb138, 0, none⟩ = some (.int .i64 t134) := (blk_cell m138 0).trans rfl
                    have kz138_1 : X.cell? ⟨gb138, 1, none⟩ = some (.int .i64 t135) := (blk_cell m138 1).trans rfl
                    have kz138_2 : X.cell? ⟨gb138, 2, none⟩ = some (.int .i64 t136) := (blk_cell m138 2).trans rfl
                    have kf138_0 := blk_frozen m138 0
                    have kf138_1 := blk_frozen m138 1
                    have kf138_2 := blk_frozen m138 2
                    have M144 := Aside0.mk m144
                    have M138 := Aside0.mk m138
                    have HB := Aside0.mk mHB
                    clear m144 m138 mHB
                    go_wp2
                    all_goals first | (exfalso; have hr := HR.out; simp_all; done) | (go_ret; exact ⟨by rw [HR.out]; rfl, by repeat (first | (with_reducible first | exact HB.out | apply below_alloc | apply pw_below_drewN | apply below_drew1 | refine below_set ?_ GE144.out) | exact HB.out)⟩)
                  · rw [if_neg c24] at H
                    have c24b0 : decide (12 < (wrap64 (t130 + 1))) = false := decide_eq_false c24
                    clear c24
                    obtain rfl := Option.some.inj H
                    have hnb33 := NB133_138.out
                    have hnc33 := NB138_133.out
                    have hcz34_0 : wc.cell? ⟨gb133, 0, none⟩ = some (.int .i64 t129) := (blk_cell BK133.out 0).trans rfl
                    have hcz34_1 : wc.cell? ⟨gb133, 1, none⟩ = some (.int .i64 t130) := (blk_cell BK133.out 1).trans rfl
                    have hcz34_2 : wc.cell? ⟨gb133, 2, none⟩ = some (.int .i64 t131) := (blk_cell BK133.out 2).trans rfl
                    have hfz34_0 := blk_frozen BK133.out 0
                    have hfz34_1 := blk_frozen BK133.out 1
                    have hfz34_2 := blk_frozen BK133.out 2
                    go_wp2_with (first | ((with_reducible refine gate_dst (N := 9) rfl ?_); refine box_event ?hg (N := 9) ?hd (cs := #[.int .i64 0, .int .i64 0, .int .i64 0]) (t := 23) ?hr ?_; (case hd => rfl); (case hg => rfl); (case hr => first | (go_simp; done) | (go_simp; rfl)); intro gb144 hg w35 hbox hb; have n0_ := Aside0.mk (blk_below (g := gb133) (o := .cells #[.int .i64 t129, .int .i64 t130, .int .i64 t131] 23 (0, 0)) (by (with_reducible repeat (first | refine blk_drewN ?_ _ | refine blk_drew ?_ | refine blk_alloc ?_ _)); exact BK133.out) hb); have n1_ := Aside0.mk (blk_below (g := gb138) (o := .cells #[.int .i64 t134, .int .i64 t135, .int .i64 t136] 23 (0, 0)) (by (with_reducible repeat (first | refine blk_drewN ?_ _ | refine blk_drew ?_ | refine blk_alloc ?_ _)); exact BK138.out) hb); have n2_ := Aside0.mk (below_step (by repeat (first | (with_reducible first | exact HB.out | apply below_alloc | apply pw_below_drewN | apply below_drew1 | refine below_set ?_ GE133.out | refine below_set ?_ GE138.out) | exact HB.out)) hb); have n3_ := Aside0.mk (hbox); have n4_ := Aside0.mk ((by rw [hg]; exact (below_size (by repeat (first | (with_reducible first | exact HB.out | apply below_alloc | apply pw_below_drewN | apply below_drew1 | refine below_set ?_ GE133.out | refine below_set ?_ GE138.out) | exact HB.out))) : w.heap.size ≤ gb144)); have n5_ := Aside0.mk ((by rw [hg]; exact (below_size (by repeat (first | (with_reducible first | exact HB.out | apply below_alloc | apply pw_below_drewN | apply below_drew1 | refine below_set ?_ GE133.out | refine below_set ?_ GE138.out) | exact HB.out))) : w.heap.size ≤ gb144)); have n6_ := Aside0.mk ((by rw [hg]; exact Nat.ne_of_lt (blk_lt (g := gb133) (o := .cells #[.int .i64 t129, .int .i64 t130, .int .i64 t131] 23 (0, 0)) (by (with_reducible repeat (first | refine blk_drewN ?_ _ | refine blk_drew ?_ | refine blk_alloc ?_ _)); exact BK133.out)) : gb133 ≠ gb144)); have n7_ := Aside0.mk ((by rw [hg]; exact Nat.ne_of_gt (blk_lt (g := gb133) (o := .cells #[.int .i64 t129, .int .i64 t130, .int .i64 t131] 23 (0, 0)) (by (with_reducible repeat (first | refine blk_drewN ?_ _ | refine blk_drew ?_ | refine blk_alloc ?_ _)); exact BK133.out)) : gb144 ≠ gb133)); have n8_ := Aside0.mk ((by rw [hg]; exact Nat.ne_of_lt (blk_lt (g := gb138) (o := .cells #[.int .i64 t134, .int .i64 t135, .int .i64 t136] 23 (0, 0)) (by (with_reducible repeat (first | refine blk_drewN ?_ _ | refine blk_drew ?_ | refine blk_alloc ?_ _)); exact BK138.out)) : gb138 ≠ gb144)); have n9_ := Aside0.mk ((by rw [hg]; exact Nat.ne_of_gt (blk_lt (g := gb138) (o := .cells #[.int .i64 t134, .int .i64 t135, .int .i64 t136] 23 (0, 0)) (by (with_reducible repeat (first | refine blk_drewN ?_ _ | refine blk_drew ?_ | refine blk_alloc ?_ _)); exact BK138.out)) : gb144 ≠ gb138)); clear BK133; clear BK138; clear HB; have BK133 := n0_; have BK138 := n1_; have HB := n2_; have BK144 := n3_; have GW144 := n4_; have GE144 := n5_; have NB133_144 := n6_; have NB144_133 := n7_; have NB138_144 := n8_; have NB144_138 := n9_; clear n0_ n1_ n2_ n3_ n4_ n5_ n6_ n7_ n8_ n9_; clear hb hbox hg; have hnb36 := NB144_133.out; have hnc36 := NB133_144.out; have hnb37 := NB144_138.out; have hnc37 := NB138_144.out; have hcz38_0 : w35.cell? ⟨gb144, 0, none⟩ = some (.int .i64 0) := (blk_cell BK144.out 0).trans rfl; have hcz38_1 : w35.cell? ⟨gb144, 1, none⟩ = some (.int .i64 0) := (blk_cell BK144.out 1).trans rfl; have hcz38_2 : w35.cell? ⟨gb144, 2, none⟩ = some (.int .i64 0) := (blk_cell BK144.out 2).trans rfl; have hfz38_0 := blk_frozen BK144.out 0; have hfz38_1 := blk_frozen BK144.out 1; have hfz38_2 := blk_frozen BK144.out 2; have hcz39_0 : w35.cell? ⟨gb133, 0, none⟩ = some (.int .i64 t129) := (blk_cell BK133.out 0).trans rfl; have hcz39_1 : w35.cell? ⟨gb133, 1, none⟩ = some (.int .i64 t130) := (blk_cell BK133.out 1).trans rfl; have hcz39_2 : w35.cell? ⟨gb133, 2, none⟩ = some (.int .i64 t131) := (blk_cell BK133.out 2).trans rfl; have hfz39_0 := blk_frozen BK133.out 0; have hfz39_1 := blk_frozen BK133.out 1; have hfz39_2 := blk_frozen BK133.out 2) | (go_at_call 18; (with_reducible refine (civil_Length.calls kj10 t129 t130 t145 _ A22.out).mono ?_); rintro e w' ⟨rfl, ⟨nd, rfl⟩⟩; (try first | exact ⟨rfl, _, World.drewN_drewN _ _ _⟩ | exact ⟨rfl, _, Eq.trans (World.drewN_drewN _ _ _) (congrArg (World.drewN _) (Nat.add_assoc _ _ _))⟩); have hcz40_0 : w35.cell? ⟨gb138, 0, none⟩ = some (.int .i64 t134) := (blk_cell BK138.out 0).trans rfl; have hcz40_1 : w35.cell? ⟨gb138, 1, none⟩ = some (.int .i64 t135) := (blk_cell BK138.out 1).trans rfl; have hcz40_2 : w35.cell? ⟨gb138, 2, none⟩ = some (.int .i64 t136) := (blk_cell BK138.out 2).trans rfl; have hfz40_0 := blk_frozen BK138.out 0; have hfz40_1 := blk_frozen BK138.out 1; have hfz40_2 := blk_frozen BK138.out 2))
                    generalize hW : ((w35.setCell ⟨gb144, 0, none⟩ (.int .i64 t129)).setCell ⟨gb144, 1, none⟩ (.int .i64 t130)).setCell ⟨gb144, 2, none⟩ (.int .i64 (wrap64 (t131 + 1))) = W
                    have m144 : W.heap[gb144]? = some (.cells #[.int .i64 t129, .int .i64 t130, .int .i64 (wrap64 (t131 + 1))] 23 (0, 0)) := by
                      rw [← hW]; exact blk_put (cs := #[.int .i64 t129, .int .i64 t130, .int .i64 0]) (blk_put (cs := #[.int .i64 t129, .int .i64 0, .int .i64 0]) (blk_put (cs := #[.int .i64 0, .int .i64 0, .int .i64 0]) BK144.out 0 _ rfl) 1 _ rfl) 2 _ rfl
                    have m133 : W.heap[gb133]? = some (.cells #[.int .i64 t129, .int .i64 t130, .int .i64 t131] 23 (0, 0)) := by
                      rw [← hW]; exact blk_far (blk_far (blk_far BK133.out NB133_144.out _) NB133_144.out _) NB133_144.out _
                    have m138 : W.heap[gb138]? = some (.cells #[.int .i64 t134, .int .i64 t135, .int .i64 t136] 23 (0, 0)) := by
                      rw [← hW]; exact blk_far (blk_far (blk_far BK138.out NB138_144.out _) NB138_144.out _) NB138_144.out _
                    have mHB : Below w.heap.size w W := by
                      rw [← hW]; exact below_set (below_set (below_set HB.out GE144.out) GE144.out) GE144.out
                    clear hW BK133 BK138 BK144 HB hcz34_0 hcz34_1 hcz34_2 hfz34_0 hfz34_1 hfz34_2 hcz38_0 hcz38_1 hcz38_2 hfz38_0 hfz38_1 hfz38_2 hcz39_0 hcz39_1 hcz39_2 hfz39_0 hfz39_1 hfz39_2
                    have kz144_0 : W.cell? ⟨gb144, 0, none⟩ = some (.int .i64 (t129)) := (blk_cell m144 0).trans rfl
                    have kz144_1 : W.cell? ⟨gb144, 1, none⟩ = some (.int .i64 (t130)) := (blk_cell m144 1).trans rfl
                    have kz144_2 : W.cell? ⟨gb144, 2, none⟩ = some (.int .i64 (wrap64 (t131 + 1))) := (blk_cell m144 2).trans rfl
                    have kz133_0 : W.cell? ⟨gb133, 0, none⟩ = some (.int .i64 (t129)) := (blk_cell m133 0).trans rfl
                    have kz133_1 : W.cell? ⟨gb133, 1, none⟩ = some (.int .i64 (t130)) := (blk_cell m133 1).trans rfl
                    have kz133_2 : W.cell? ⟨gb133, 2, none⟩ = some (.int .i64 (t131)) := (blk_cell m133 2).trans rfl
                    have kz138_0 : W.cell? ⟨gb138, 0, none⟩ = some (.int .i64 (t134)) := (blk_cell m138 0).trans rfl
                    have kz138_1 : W.cell? ⟨gb138, 1, none⟩ = some (.int .i64 (t135)) := (blk_cell m138 1).trans rfl
                    have kz138_2 : W.cell? ⟨gb138, 2, none⟩ = some (.int .i64 (t136)) := (blk_cell m138 2).trans rfl
                    have kf144_0 := blk_frozen m144 0
                    have kf144_1 := blk_frozen m144 1
                    have kf144_2 := blk_frozen m144 2
                    have kf133_0 := blk_frozen m133 0
                    have kf133_1 := blk_frozen m133 1
                    have kf133_2 := blk_frozen m133 2
                    have kf138_0 := blk_frozen m138 0
                    have kf138_1 := blk_frozen m138 1
                    have kf138_2 := blk_frozen m138 2
                    have M144 := Aside0.mk m144
                    have M133 := Aside0.mk m133
                    have M138 := Aside0.mk m138
                    have HB := Aside0.mk mHB
                    clear m144 m133 m138 mHB
                    go_quiet ((go_at_call 18; (with_reducible refine (civil_Length.calls kj10 t129 t130 t145 _ A22.out).mono ?_); rintro e w' ⟨rfl, ⟨nd, rfl⟩⟩; (first | exact ⟨rfl, _, World.drewN_drewN _ _ _⟩ | exact ⟨rfl, _, Eq.trans (World.drewN_drewN _ _ _) (congrArg (World.drewN _) (Nat.add_assoc _ _ _))⟩)))
                    generalize hV : W.drewN nq = V
                    have m144 : V.heap[gb144]? = some (.cells #[.int .i64 t129, .int .i64 t130, .int .i64 (wrap64 (t131 + 1))] 23 (0, 0)) := by rw [← hV]; exact blk_drewN M144.out _
                    have m133 : V.heap[gb133]? = some (.cells #[.int .i64 t129, .int .i64 t130, .int .i64 t131] 23 (0, 0)) := by rw [← hV]; exact blk_drewN M133.out _
                    have m138 : V.heap[gb138]? = some (.cells #[.int .i64 t134, .int .i64 t135, .int .i64 t136] 23 (0, 0)) := by rw [← hV]; exact blk_drewN M138.out _
                    have mHB : Below w.heap.size w V := by rw [← hV]; exact pw_below_drewN HB.out _
                    clear hV HB M144 M133 M138 kz144_0 kf144_0 kz144_1 kf144_1 kz144_2 kf144_2 kz133_0 kf133_0 kz133_1 kf133_1 kz133_2 kf133_2 kz138_0 kf138_0 kz138_1 kf138_1 kz138_2 kf138_2
                    have kz144_0 : V.cell? ⟨gb144, 0, none⟩ = some (.int .i64 (t129)) := (blk_cell m144 0).trans rfl
                    have kz144_1 : V.cell? ⟨gb144, 1, none⟩ = some (.int .i64 (t130)) := (blk_cell m144 1).trans rfl
                    have kz144_2 : V.cell? ⟨gb144, 2, none⟩ = some (.int .i64 (wrap64 (t131 + 1))) := (blk_cell m144 2).trans rfl
                    have kz133_0 : V.cell? ⟨gb133, 0, none⟩ = some (.int .i64 (t129)) := (blk_cell m133 0).trans rfl
                    have kz133_1 : V.cell? ⟨gb133, 1, none⟩ = some (.int .i64 (t130)) := (blk_cell m133 1).trans rfl
                    have kz133_2 : V.cell? ⟨gb133, 2, none⟩ = some (.int .i64 (t131)) := (blk_cell m133 2).trans rfl
                    have kz138_0 : V.cell? ⟨gb138, 0, none⟩ = some (.int .i64 (t134)) := (blk_cell m138 0).trans rfl
                    have kz138_1 : V.cell? ⟨gb138, 1, none⟩ = some (.int .i64 (t135)) := (blk_cell m138 1).trans rfl
                    have kz138_2 : V.cell? ⟨gb138, 2, none⟩ = some (.int .i64 (t136)) := (blk_cell m138 2).trans rfl
                    have kf144_0 := blk_frozen m144 0
                    have kf144_1 := blk_frozen m144 1
                    have kf144_2 := blk_frozen m144 2
                    have kf133_0 := blk_frozen m133 0
                    have kf133_1 := blk_frozen m133 1
                    have kf133_2 := blk_frozen m133 2
                    have kf138_0 := blk_frozen m138 0
                    have kf138_1 := blk_frozen m138 1
                    have kf138_2 := blk_frozen m138 2
                    have M144 := Aside0.mk m144
                    have M133 := Aside0.mk m133
                    have M138 := Aside0.mk m138
                    have HB := Aside0.mk mHB
                    clear m144 m133 m138 mHB
                    go_upto_region 17 with (fail)
                    generalize hX : ((V.setCell ⟨gb144, 2, none⟩ (.int .i64 1)).setCell ⟨gb144, 1, none⟩ (.int .i64 (wrap64 (t130 + 1)))) = X
                    have m144 : X.heap[gb144]? = some (.cells #[.int .i64 t129, .int .i64 (wrap64 (t130 + 1)), .int .i64 1] 23 (0, 0)) := by rw [← hX]; exact (blk_put (cs := #[.int .i64 t129, .int .i64 t130, .int .i64 1]) (blk_put (cs := #[.int .i64 t129, .int .i64 t130, .int .i64 (wrap64 (t131 + 1))]) M144.out 2 _ rfl) 1 _ rfl)
                    have m138 : X.heap[gb138]? = some (.cells #[.int .i64 t134, .int .i64 t135, .int .i64 t136] 23 (0, 0)) := by rw [← hX]; exact (blk_far (blk_far M138.out NB138_144.out _) NB138_144.out _)
                    have mHB : Below w.heap.size w X := by rw [← hX]; exact (below_set (below_set HB.out GE144.out) GE144.out)
                    clear hX HB M144 M133 M138 kz144_0 kf144_0 kz144_1 kf144_1 kz144_2 kf144_2 kz133_0 kf133_0 kz133_1 kf133_1 kz133_2 kf133_2 kz138_0 kf138_0 kz138_1 kf138_1 kz138_2 kf138_2
                    have kz144_0 : X.cell? ⟨gb144, 0, none⟩ = some (.int .i64 t129) := (blk_cell m144 0).trans rfl
                    have kz144_1 : X.cell? ⟨gb144, 1, none⟩ = some (.int .i64 (wrap64 (t130 + 1))) := (blk_cell m144 1).trans rfl
                    have kz144_2 : X.cell? ⟨gb144, 2, none⟩ = some (.int .i64 1) := (blk_cell m144 2).trans rfl
                    have kf144_0 := blk_frozen m144 0
                    have kf144_1 := blk_frozen m144 1
                    have kf144_2 := blk_frozen m144 2
                    have kz138_0 : X.cell? ⟨gb138, 0, none⟩ = some (.int .i64 t134) := (blk_cell m138 0).trans rfl
                    have kz138_1 : X.cell? ⟨gb138, 1, none⟩ = some (.int .i64 t135) := (blk_cell m138 1).trans rfl
                    have kz138_2 : X.cell? ⟨gb138, 2, none⟩ = some (.int .i64 t136) := (blk_cell m138 2).trans rfl
                    have kf138_0 := blk_frozen m138 0
                    have kf138_1 := blk_frozen m138 1
                    have kf138_2 := blk_frozen m138 2
                    have M144 := Aside0.mk m144
                    have M138 := Aside0.mk m138
                    have HB := Aside0.mk mHB
                    clear m144 m138 mHB
                    go_wp2
                    all_goals first | (exfalso; have hr := HR.out; simp_all; done) | (go_ret; exact ⟨by rw [HR.out]; rfl, by repeat (first | (with_reducible first | exact HB.out | apply below_alloc | apply pw_below_drewN | apply below_drew1 | refine below_set ?_ GE144.out) | exact HB.out)⟩)
                · rw [if_neg c23] at H
                  have c23b0 : decide (t145 < (wrap64 (t131 + 1))) = false := decide_eq_false c23
                  clear c23
                  by_cases c41 : t130 > 12
                  · rw [if_pos c41] at H
                    have c41b0 : decide (12 < t130) = true := decide_eq_true c41
                    clear c41
                    obtain rfl := Option.some.inj H
                    have hnb42 := NB133_138.out
                    have hnc42 := NB138_133.out
                    have hcz43_0 : wc.cell? ⟨gb133, 0, none⟩ = some (.int .i64 t129) := (blk_cell BK133.out 0).trans rfl
                    have hcz43_1 : wc.cell? ⟨gb133, 1, none⟩ = some (.int .i64 t130) := (blk_cell BK133.out 1).trans rfl
                    have hcz43_2 : wc.cell? ⟨gb133, 2, none⟩ = some (.int .i64 t131) := (blk_cell BK133.out 2).trans rfl
                    have hfz43_0 := blk_frozen BK133.out 0
                    have hfz43_1 := blk_frozen BK133.out 1
                    have hfz43_2 := blk_frozen BK133.out 2
                    go_wp2_with (first | ((with_reducible refine gate_dst (N := 9) rfl ?_); refine box_event ?hg (N := 9) ?hd (cs := #[.int .i64 0, .int .i64 0, .int .i64 0]) (t := 23) ?hr ?_; (case hd => rfl); (case hg => rfl); (case hr => first | (go_simp; done) | (go_simp; rfl)); intro gb144 hg w44 hbox hb; have n0_ := Aside0.mk (blk_below (g := gb133) (o := .cells #[.int .i64 t129, .int .i64 t130, .int .i64 t131] 23 (0, 0)) (by (with_reducible repeat (first | refine blk_drewN ?_ _ | refine blk_drew ?_ | refine blk_alloc ?_ _)); exact BK133.out) hb); have n1_ := Aside0.mk (blk_below (g := gb138) (o := .cells #[.int .i64 t134, .int .i64 t135, .int .i64 t136] 23 (0, 0)) (by (with_reducible repeat (first | refine blk_drewN ?_ _ | refine blk_drew ?_ | refine blk_alloc ?_ _)); exact BK138.out) hb); have n2_ := Aside0.mk (below_step (by repeat (first | (with_reducible first | exact HB.out | apply below_alloc | apply pw_below_drewN | apply below_drew1 | refine below_set ?_ GE133.out | refine below_set ?_ GE138.out) | exact HB.out)) hb); have n3_ := Aside0.mk (hbox); have n4_ := Aside0.mk ((by rw [hg]; exact (below_size (by repeat (first | (with_reducible first | exact HB.out | apply below_alloc | apply pw_below_drewN | apply below_drew1 | refine below_set ?_ GE133.out | refine below_set ?_ GE138.out) | exact HB.out))) : w.heap.size ≤ gb144)); have n5_ := Aside0.mk ((by rw [hg]; exact (below_size (by repeat (first | (with_reducible first | exact HB.out | apply below_alloc | apply pw_below_drewN | apply below_drew1 | refine below_set ?_ GE133.out | refine below_set ?_ GE138.out) | exact HB.out))) : w.heap.size ≤ gb144)); have n6_ := Aside0.mk ((by rw [hg]; exact Nat.ne_of_lt (blk_lt (g := gb133) (o := .cells #[.int .i64 t129, .int .i64 t130, .int .i64 t131] 23 (0, 0)) (by (with_reducible repeat (first | refine blk_drewN ?_ _ | refine blk_drew ?_ | refine blk_alloc ?_ _)); exact BK133.out)) : gb133 ≠ gb144)); have n7_ := Aside0.mk ((by rw [hg]; exact Nat.ne_of_gt (blk_lt (g := gb133) (o := .cells #[.int .i64 t129, .int .i64 t130, .int .i64 t131] 23 (0, 0)) (by (with_reducible repeat (first | refine blk_drewN ?_ _ | refine blk_drew ?_ | refine blk_alloc ?_ _)); exact BK133.out)) : gb144 ≠ gb133)); have n8_ := Aside0.mk ((by rw [hg]; exact Nat.ne_of_lt (blk_lt (g := gb138) (o := .cells #[.int .i64 t134, .int .i64 t135, .int .i64 t136] 23 (0, 0)) (by (with_reducible repeat (first | refine blk_drewN ?_ _ | refine blk_drew ?_ | refine blk_alloc ?_ _)); exact BK138.out)) : gb138 ≠ gb144)); have n9_ := Aside0.mk ((by rw [hg]; exact Nat.ne_of_gt (blk_lt (g := gb138) (o := .cells #[.int .i64 t134, .int .i64 t135, .int .i64 t136] 23 (0, 0)) (by (with_reducible repeat (first | refine blk_drewN ?_ _ | refine blk_drew ?_ | refine blk_alloc ?_ _)); exact BK138.out)) : gb144 ≠ gb138)); clear BK133; clear BK138; clear HB; have BK133 := n0_; have BK138 := n1_; have HB := n2_; have BK144 := n3_; have GW144 := n4_; have GE144 := n5_; have NB133_144 := n6_; have NB144_133 := n7_; have NB138_144 := n8_; have NB144_138 := n9_; clear n0_ n1_ n2_ n3_ n4_ n5_ n6_ n7_ n8_ n9_; clear hb hbox hg; have hnb45 := NB144_133.out; have hnc45 := NB133_144.out; have hnb46 := NB144_138.out; have hnc46 := NB138_144.out; have hcz47_0 : w44.cell? ⟨gb144, 0, none⟩ = some (.int .i64 0) := (blk_cell BK144.out 0).trans rfl; have hcz47_1 : w44.cell? ⟨gb144, 1, none⟩ = some (.int .i64 0) := (blk_cell BK144.out 1).trans rfl; have hcz47_2 : w44.cell? ⟨gb144, 2, none⟩ = some (.int .i64 0) := (blk_cell BK144.out 2).trans rfl; have hfz47_0 := blk_frozen BK144.out 0; have hfz47_1 := blk_frozen BK144.out 1; have hfz47_2 := blk_frozen BK144.out 2; have hcz48_0 : w44.cell? ⟨gb133, 0, none⟩ = some (.int .i64 t129) := (blk_cell BK133.out 0).trans rfl; have hcz48_1 : w44.cell? ⟨gb133, 1, none⟩ = some (.int .i64 t130) := (blk_cell BK133.out 1).trans rfl; have hcz48_2 : w44.cell? ⟨gb133, 2, none⟩ = some (.int .i64 t131) := (blk_cell BK133.out 2).trans rfl; have hfz48_0 := blk_frozen BK133.out 0; have hfz48_1 := blk_frozen BK133.out 1; have hfz48_2 := blk_frozen BK133.out 2) | (go_at_call 18; (with_reducible refine (civil_Length.calls kj10 t129 t130 t145 _ A22.out).mono ?_); rintro e w' ⟨rfl, ⟨nd, rfl⟩⟩; (try first | exact ⟨rfl, _, World.drewN_drewN _ _ _⟩ | exact ⟨rfl, _, Eq.trans (World.drewN_drewN _ _ _) (congrArg (World.drewN _) (Nat.add_assoc _ _ _))⟩); have hcz49_0 : w44.cell? ⟨gb138, 0, none⟩ = some (.int .i64 t134) := (blk_cell BK138.out 0).trans rfl; have hcz49_1 : w44.cell? ⟨gb138, 1, none⟩ = some (.int .i64 t135) := (blk_cell BK138.out 1).trans rfl; have hcz49_2 : w44.cell? ⟨gb138, 2, none⟩ = some (.int .i64 t136) := (blk_cell BK138.out 2).trans rfl; have hfz49_0 := blk_frozen BK138.out 0; have hfz49_1 := blk_frozen BK138.out 1; have hfz49_2 := blk_frozen BK138.out 2))
                    generalize hW : ((w44.setCell ⟨gb144, 0, none⟩ (.int .i64 t129)).setCell ⟨gb144, 1, none⟩ (.int .i64 t130)).setCell ⟨gb144, 2, none⟩ (.int .i64 (wrap64 (t131 + 1))) = W
                    have m144 : W.heap[gb144]? = some (.cells #[.int .i64 t129, .int .i64 t130, .int .i64 (wrap64 (t131 + 1))] 23 (0, 0)) := by
                      rw [← hW]; exact blk_put (cs := #[.int .i64 t129, .int .i64 t130, .int .i64 0]) (blk_put (cs := #[.int .i64 t129, .int .i64 0, .int .i64 0]) (blk_put (cs := #[.int .i64 0, .int .i64 0, .int .i64 0]) BK144.out 0 _ rfl) 1 _ rfl) 2 _ rfl
                    have m133 : W.heap[gb133]? = some (.cells #[.int .i64 t129, .int .i64 t130, .int .i64 t131] 23 (0, 0)) := by
                      rw [← hW]; exact blk_far (blk_far (blk_far BK133.out NB133_144.out _) NB133_144.out _) NB133_144.out _
                    have m138 : W.heap[gb138]? = some (.cells #[.int .i64 t134, .int .i64 t135, .int .i64 t136] 23 (0, 0)) := by
                      rw [← hW]; exact blk_far (blk_far (blk_far BK138.out NB138_144.out _) NB138_144.out _) NB138_144.out _
                    have mHB : Below w.heap.size w W := by
                      rw [← hW]; exact below_set (below_set (below_set HB.out GE144.out) GE144.out) GE144.out
                    clear hW BK133 BK138 BK144 HB hcz43_0 hcz43_1 hcz43_2 hfz43_0 hfz43_1 hfz43_2 hcz47_0 hcz47_1 hcz47_2 hfz47_0 hfz47_1 hfz47_2 hcz48_0 hcz48_1 hcz48_2 hfz48_0 hfz48_1 hfz48_2
                    have kz144_0 : W.cell? ⟨gb144, 0, none⟩ = some (.int .i64 (t129)) := (blk_cell m144 0).trans rfl
                    have kz144_1 : W.cell? ⟨gb144, 1, none⟩ = some (.int .i64 (t130)) := (blk_cell m144 1).trans rfl
                    have kz144_2 : W.cell? ⟨gb144, 2, none⟩ = some (.int .i64 (wrap64 (t131 + 1))) := (blk_cell m144 2).trans rfl
                    have kz133_0 : W.cell? ⟨gb133, 0, none⟩ = some (.int .i64 (t129)) := (blk_cell m133 0).trans rfl
                    have kz133_1 : W.cell? ⟨gb133, 1, none⟩ = some (.int .i64 (t130)) := (blk_cell m133 1).trans rfl
                    have kz133_2 : W.cell? ⟨gb133, 2, none⟩ = some (.int .i64 (t131)) := (blk_cell m133 2).trans rfl
                    have kz138_0 : W.cell? ⟨gb138, 0, none⟩ = some (.int .i64 (t134)) := (blk_cell m138 0).trans rfl
                    have kz138_1 : W.cell? ⟨gb138, 1, none⟩ = some (.int .i64 (t135)) := (blk_cell m138 1).trans rfl
                    have kz138_2 : W.cell? ⟨gb138, 2, none⟩ = some (.int .i64 (t136)) := (blk_cell m138 2).trans rfl
                    have kf144_0 := blk_frozen m144 0
                    have kf144_1 := blk_frozen m144 1
                    have kf144_2 := blk_frozen m144 2
                    have kf133_0 := blk_frozen m133 0
                    have kf133_1 := blk_frozen m133 1
                    have kf133_2 := blk_frozen m133 2
                    have kf138_0 := blk_frozen m138 0
                    have kf138_1 := blk_frozen m138 1
                    have kf138_2 := blk_frozen m138 2
                    have M144 := Aside0.mk m144
                    have M133 := Aside0.mk m133
                    have M138 := Aside0.mk m138
                    have HB := Aside0.mk mHB
                    clear m144 m133 m138 mHB
                    go_quiet ((go_at_call 18; (with_reducible refine (civil_Length.calls kj10 t129 t130 t145 _ A22.out).mono ?_); rintro e w' ⟨rfl, ⟨nd, rfl⟩⟩; (first | exact ⟨rfl, _, World.drewN_drewN _ _ _⟩ | exact ⟨rfl, _, Eq.trans (World.drewN_drewN _ _ _) (congrArg (World.drewN _) (Nat.add_assoc _ _ _))⟩)))
                    generalize hV : W.drewN nq = V
                    have m144 : V.heap[gb144]? = some (.cells #[.int .i64 t129, .int .i64 t130, .int .i64 (wrap64 (t131 + 1))] 23 (0, 0)) := by rw [← hV]; exact blk_drewN M144.out _
                    have m133 : V.heap[gb133]? = some (.cells #[.int .i64 t129, .int .i64 t130, .int .i64 t131] 23 (0, 0)) := by rw [← hV]; exact blk_drewN M133.out _
                    have m138 : V.heap[gb138]? = some (.cells #[.int .i64 t134, .int .i64 t135, .int .i64 t136] 23 (0, 0)) := by rw [← hV]; exact blk_drewN M138.out _
                    have mHB : Below w.heap.size w V := by rw [← hV]; exact pw_below_drewN HB.out _
                    clear hV HB M144 M133 M138 kz144_0 kf144_0 kz144_1 kf144_1 kz144_2 kf144_2 kz133_0 kf133_0 kz133_1 kf133_1 kz133_2 kf133_2 kz138_0 kf138_0 kz138_1 kf138_1 kz138_2 kf138_2
                    have kz144_0 : V.cell? ⟨gb144, 0, none⟩ = some (.int .i64 (t129)) := (blk_cell m144 0).trans rfl
                    have kz144_1 : V.cell? ⟨gb144, 1, none⟩ = some (.int .i64 (t130)) := (blk_cell m144 1).trans rfl
                    have kz144_2 : V.cell? ⟨gb144, 2, none⟩ = some (.int .i64 (wrap64 (t131 + 1))) := (blk_cell m144 2).trans rfl
                    have kz133_0 : V.cell? ⟨gb133, 0, none⟩ = some (.int .i64 (t129)) := (blk_cell m133 0).trans rfl
                    have kz133_1 : V.cell? ⟨gb133, 1, none⟩ = some (.int .i64 (t130)) := (blk_cell m133 1).trans rfl
                    have kz133_2 : V.cell? ⟨gb133, 2, none⟩ = some (.int .i64 (t131)) := (blk_cell m133 2).trans rfl
                    have kz138_0 : V.cell? ⟨gb138, 0, none⟩ = some (.int .i64 (t134)) := (blk_cell m138 0).trans rfl
                    have kz138_1 : V.cell? ⟨gb138, 1, none⟩ = some (.int .i64 (t135)) := (blk_cell m138 1).trans rfl
                    have kz138_2 : V.cell? ⟨gb138, 2, none⟩ = some (.int .i64 (t136)) := (blk_cell m138 2).trans rfl
                    have kf144_0 := blk_frozen m144 0
                    have kf144_1 := blk_frozen m144 1
                    have kf144_2 := blk_frozen m144 2
                    have kf133_0 := blk_frozen m133 0
                    have kf133_1 := blk_frozen m133 1
                    have kf133_2 := blk_frozen m133 2
                    have kf138_0 := blk_frozen m138 0
                    have kf138_1 := blk_frozen m138 1
                    have kf138_2 := blk_frozen m138 2
                    have M144 := Aside0.mk m144
                    have M133 := Aside0.mk m133
                    have M138 := Aside0.mk m138
                    have HB := Aside0.mk mHB
                    clear m144 m133 m138 mHB
                    go_upto_region 17 with (fail)
                    generalize hX : ((V.setCell ⟨gb144, 1, none⟩ (.int .i64 1)).setCell ⟨gb144, 0, none⟩ (.int .i64 (wrap64 (t129 + 1)))) = X
                    have m144 : X.heap[gb144]? = some (.cells #[.int .i64 (wrap64 (t129 + 1)), .int .i64 1, .int .i64 (wrap64 (t131 + 1))] 23 (0, 0)) := by rw [← hX]; exact (blk_put (cs := #[.int .i64 t129, .int .i64 1, .int .i64 (wrap64 (t131 + 1))]) (blk_put (cs := #[.int .i64 t129, .int .i64 t130, .int .i64 (wrap64 (t131 + 1))]) M144.out 1 _ rfl) 0 _ rfl)
                    have m138 : X.heap[gb138]? = some (.cells #[.int .i64 t134, .int .i64 t135, .int .i64 t136] 23 (0, 0)) := by rw [← hX]; exact (blk_far (blk_far M138.out NB138_144.out _) NB138_144.out _)
                    have mHB : Below w.heap.size w X := by rw [← hX]; exact (below_set (below_set HB.out GE144.out) GE144.out)
                    clear hX HB M144 M133 M138 kz144_0 kf144_0 kz144_1 kf144_1 kz144_2 kf144_2 kz133_0 kf133_0 kz133_1 kf133_1 kz133_2 kf133_2 kz138_0 kf138_0 kz138_1 kf138_1 kz138_2 kf138_2
                    have kz144_0 : X.cell? ⟨gb144, 0, none⟩ = some (.int .i64 (wrap64 (t129 + 1))) := (blk_cell m144 0).trans rfl
                    have kz144_1 : X.cell? ⟨gb144, 1, none⟩ = some (.int .i64 1) := (blk_cell m144 1).trans rfl
                    have kz144_2 : X.cell? ⟨gb144, 2, none⟩ = some (.int .i64 (wrap64 (t131 + 1))) := (blk_cell m144 2).trans rfl
                    have kf144_0 := blk_frozen m144 0
                    have kf144_1 := blk_frozen m144 1
                    have kf144_2 := blk_frozen m144 2
                    have kz138_0 : X.cell? ⟨gb138, 0, none⟩ = some (.int .i64 t134) := (blk_cell m138 0).trans rfl
                    have kz138_1 : X.cell? ⟨gb138, 1, none⟩ = some (.int .i64 t135) := (blk_cell m138 1).trans rfl
                    have kz138_2 : X.cell? ⟨gb138, 2, none⟩ = some (.int .i64 t136) := (blk_cell m138 2).trans rfl
                    have kf138_0 := blk_frozen m138 0
                    have kf138_1 := blk_frozen m138 1
                    have kf138_2 := blk_frozen m138 2
                    have M144 := Aside0.mk m144
                    have M138 := Aside0.mk m138
                    have HB := Aside0.mk mHB
                    clear m144 m138 mHB
                    go_wp2
                    all_goals first | (exfalso; have hr := HR.out; simp_all; done) | (go_ret; exact ⟨by rw [HR.out]; rfl, by repeat (first | (with_reducible first | exact HB.out | apply below_alloc | apply pw_below_drewN | apply below_drew1 | refine below_set ?_ GE144.out) | exact HB.out)⟩)
                  · rw [if_neg c41] at H
                    have c41b0 : decide (12 < t130) = false := decide_eq_false c41
                    clear c41
                    obtain rfl := Option.some.inj H
                    have hnb50 := NB133_138.out
                    have hnc50 := NB138_133.out
                    have hcz51_0 : wc.cell? ⟨gb133, 0, none⟩ = some (.int .i64 t129) := (blk_cell BK133.out 0).trans rfl
                    have hcz51_1 : wc.cell? ⟨gb133, 1, none⟩ = some (.int .i64 t130) := (blk_cell BK133.out 1).trans rfl
                    have hcz51_2 : wc.cell? ⟨gb133, 2, none⟩ = some (.int .i64 t131) := (blk_cell BK133.out 2).trans rfl
                    have hfz51_0 := blk_frozen BK133.out 0
                    have hfz51_1 := blk_frozen BK133.out 1
                    have hfz51_2 := blk_frozen BK133.out 2
                    go_wp2_with (first | ((with_reducible refine gate_dst (N := 9) rfl ?_); refine box_event ?hg (N := 9) ?hd (cs := #[.int .i64 0, .int .i64 0, .int .i64 0]) (t := 23) ?hr ?_; (case hd => rfl); (case hg => rfl); (case hr => first | (go_simp; done) | (go_simp; rfl)); intro gb144 hg w52 hbox hb; have n0_ := Aside0.mk (blk_below (g := gb133) (o := .cells #[.int .i64 t129, .int .i64 t130, .int .i64 t131] 23 (0, 0)) (by (with_reducible repeat (first | refine blk_drewN ?_ _ | refine blk_drew ?_ | refine blk_alloc ?_ _)); exact BK133.out) hb); have n1_ := Aside0.mk (blk_below (g := gb138) (o := .cells #[.int .i64 t134, .int .i64 t135, .int .i64 t136] 23 (0, 0)) (by (with_reducible repeat (first | refine blk_drewN ?_ _ | refine blk_drew ?_ | refine blk_alloc ?_ _)); exact BK138.out) hb); have n2_ := Aside0.mk (below_step (by repeat (first | (with_reducible first | exact HB.out | apply below_alloc | apply pw_below_drewN | apply below_drew1 | refine below_set ?_ GE133.out | refine below_set ?_ GE138.out) | exact HB.out)) hb); have n3_ := Aside0.mk (hbox); have n4_ := Aside0.mk ((by rw [hg]; exact (below_size (by repeat (first | (with_reducible first | exact HB.out | apply below_alloc | apply pw_below_drewN | apply below_drew1 | refine below_set ?_ GE133.out | refine below_set ?_ GE138.out) | exact HB.out))) : w.heap.size ≤ gb144)); have n5_ := Aside0.mk ((by rw [hg]; exact (below_size (by repeat (first | (with_reducible first | exact HB.out | apply below_alloc | apply pw_below_drewN | apply below_drew1 | refine below_set ?_ GE133.out | refine below_set ?_ GE138.out) | exact HB.out))) : w.heap.size ≤ gb144)); have n6_ := Aside0.mk ((by rw [hg]; exact Nat.ne_of_lt (blk_lt (g := gb133) (o := .cells #[.int .i64 t129, .int .i64 t130, .int .i64 t131] 23 (0, 0)) (by (with_reducible repeat (first | refine blk_drewN ?_ _ | refine blk_drew ?_ | refine blk_alloc ?_ _)); exact BK133.out)) : gb133 ≠ gb144)); have n7_ := Aside0.mk ((by rw [hg]; exact Nat.ne_of_gt (blk_lt (g := gb133) (o := .cells #[.int .i64 t129, .int .i64 t130, .int .i64 t131] 23 (0, 0)) (by (with_reducible repeat (first | refine blk_drewN ?_ _ | refine blk_drew ?_ | refine blk_alloc ?_ _)); exact BK133.out)) : gb144 ≠ gb133)); have n8_ := Aside0.mk ((by rw [hg]; exact Nat.ne_of_lt (blk_lt (g := gb138) (o := .cells #[.int .i64 t134, .int .i64 t135, .int .i64 t136] 23 (0, 0)) (by (with_reducible repeat (first | refine blk_drewN ?_ _ | refine blk_drew ?_ | refine blk_alloc ?_ _)); exact BK138.out)) : gb138 ≠ gb144)); have n9_ := Aside0.mk ((by rw [hg]; exact Nat.ne_of_gt (blk_lt (g := gb138) (o := .cells #[.int .i64 t134, .int .i64 t135, .int .i64 t136] 23 (0, 0)) (by (with_reducible repeat (first | refine blk_drewN ?_ _ | refine blk_drew ?_ | refine blk_alloc ?_ _)); exact BK138.out)) : gb144 ≠ gb138)); clear BK133; clear BK138; clear HB; have BK133 := n0_; have BK138 := n1_; have HB := n2_; have BK144 := n3_; have GW144 := n4_; have GE144 := n5_; have NB133_144 := n6_; have NB144_133 := n7_; have NB138_144 := n8_; have NB144_138 := n9_; clear n0_ n1_ n2_ n3_ n4_ n5_ n6_ n7_ n8_ n9_; clear hb hbox hg; have hnb53 := NB144_133.out; have hnc53 := NB133_144.out; have hnb54 := NB144_138.out; have hnc54 := NB138_144.out; have hcz55_0 : w52.cell? ⟨gb144, 0, none⟩ = some (.int .i64 0) := (blk_cell BK144.out 0).trans rfl; have hcz55_1 : w52.cell? ⟨gb144, 1, none⟩ = some (.int .i64 0) := (blk_cell BK144.out 1).trans rfl; have hcz55_2 : w52.cell? ⟨gb144, 2, none⟩ = some (.int .i64 0) := (blk_cell BK144.out 2).trans rfl; have hfz55_0 := blk_frozen BK144.out 0; have hfz55_1 := blk_frozen BK144.out 1; have hfz55_2 := blk_frozen BK144.out 2; have hcz56_0 : w52.cell? ⟨gb133, 0, none⟩ = some (.int .i64 t129) := (blk_cell BK133.out 0).trans rfl; have hcz56_1 : w52.cell? ⟨gb133, 1, none⟩ = some (.int .i64 t130) := (blk_cell BK133.out 1).trans rfl; have hcz56_2 : w52.cell? ⟨gb133, 2, none⟩ = some (.int .i64 t131) := (blk_cell BK133.out 2).trans rfl; have hfz56_0 := blk_frozen BK133.out 0; have hfz56_1 := blk_frozen BK133.out 1; have hfz56_2 := blk_frozen BK133.out 2) | (go_at_call 18; (with_reducible refine (civil_Length.calls kj10 t129 t130 t145 _ A22.out).mono ?_); rintro e w' ⟨rfl, ⟨nd, rfl⟩⟩; (try first | exact ⟨rfl, _, World.drewN_drewN _ _ _⟩ | exact ⟨rfl, _, Eq.trans (World.drewN_drewN _ _ _) (congrArg (World.drewN _) (Nat.add_assoc _ _ _))⟩); have hcz57_0 : w52.cell? ⟨gb138, 0, none⟩ = some (.int .i64 t134) := (blk_cell BK138.out 0).trans rfl; have hcz57_1 : w52.cell? ⟨gb138, 1, none⟩ = some (.int .i64 t135) := (blk_cell BK138.out 1).trans rfl; have hcz57_2 : w52.cell? ⟨gb138, 2, none⟩ = some (.int .i64 t136) := (blk_cell BK138.out 2).trans rfl; have hfz57_0 := blk_frozen BK138.out 0; have hfz57_1 := blk_frozen BK138.out 1; have hfz57_2 := blk_frozen BK138.out 2))
                    generalize hW : ((w52.setCell ⟨gb144, 0, none⟩ (.int .i64 t129)).setCell ⟨gb144, 1, none⟩ (.int .i64 t130)).setCell ⟨gb144, 2, none⟩ (.int .i64 (wrap64 (t131 + 1))) = W
                    have m144 : W.heap[gb144]? = some (.cells #[.int .i64 t129, .int .i64 t130, .int .i64 (wrap64 (t131 + 1))] 23 (0, 0)) := by
                      rw [← hW]; exact blk_put (cs := #[.int .i64 t129, .int .i64 t130, .int .i64 0]) (blk_put (cs := #[.int .i64 t129, .int .i64 0, .int .i64 0]) (blk_put (cs := #[.int .i64 0, .int .i64 0, .int .i64 0]) BK144.out 0 _ rfl) 1 _ rfl) 2 _ rfl
                    have m133 : W.heap[gb133]? = some (.cells #[.int .i64 t129, .int .i64 t130, .int .i64 t131] 23 (0, 0)) := by
                      rw [← hW]; exact blk_far (blk_far (blk_far BK133.out NB133_144.out _) NB133_144.out _) NB133_144.out _
                    have m138 : W.heap[gb138]? = some (.cells #[.int .i64 t134, .int .i64 t135, .int .i64 t136] 23 (0, 0)) := by
                      rw [← hW]; exact blk_far (blk_far (blk_far BK138.out NB138_144.out _) NB138_144.out _) NB138_144.out _
                    have mHB : Below w.heap.size w W := by
                      rw [← hW]; exact below_set (below_set (below_set HB.out GE144.out) GE144.out) GE144.out
                    clear hW BK133 BK138 BK144 HB hcz51_0 hcz51_1 hcz51_2 hfz51_0 hfz51_1 hfz51_2 hcz55_0 hcz55_1 hcz55_2 hfz55_0 hfz55_1 hfz55_2 hcz56_0 hcz56_1 hcz56_2 hfz56_0 hfz56_1 hfz56_2
                    have kz144_0 : W.cell? ⟨gb144, 0, none⟩ = some (.int .i64 (t129)) := (blk_cell m144 0).trans rfl
                    have kz144_1 : W.cell? ⟨gb144, 1, none⟩ = some (.int .i64 (t130)) := (blk_cell m144 1).trans rfl
                    have kz144_2 : W.cell? ⟨gb144, 2, none⟩ = some (.int .i64 (wrap64 (t131 + 1))) := (blk_cell m144 2).trans rfl
                    have kz133_0 : W.cell? ⟨gb133, 0, none⟩ = some (.int .i64 (t129)) := (blk_cell m133 0).trans rfl
                    have kz133_1 : W.cell? ⟨gb133, 1, none⟩ = some (.int .i64 (t130)) := (blk_cell m133 1).trans rfl
                    have kz133_2 : W.cell? ⟨gb133, 2, none⟩ = some (.int .i64 (t131)) := (blk_cell m133 2).trans rfl
                    have kz138_0 : W.cell? ⟨gb138, 0, none⟩ = some (.int .i64 (t134)) := (blk_cell m138 0).trans rfl
                    have kz138_1 : W.cell? ⟨gb138, 1, none⟩ = some (.int .i64 (t135)) := (blk_cell m138 1).trans rfl
                    have kz138_2 : W.cell? ⟨gb138, 2, none⟩ = some (.int .i64 (t136)) := (blk_cell m138 2).trans rfl
                    have kf144_0 := blk_frozen m144 0
                    have kf144_1 := blk_frozen m144 1
                    have kf144_2 := blk_frozen m144 2
                    have kf133_0 := blk_frozen m133 0
                    have kf133_1 := blk_frozen m133 1
                    have kf133_2 := blk_frozen m133 2
                    have kf138_0 := blk_frozen m138 0
                    have kf138_1 := blk_frozen m138 1
                    have kf138_2 := blk_frozen m138 2
                    have M144 := Aside0.mk m144
                    have M133 := Aside0.mk m133
                    have M138 := Aside0.mk m138
                    have HB := Aside0.mk mHB
                    clear m144 m133 m138 mHB
                    go_quiet ((go_at_call 18; (with_reducible refine (civil_Length.calls kj10 t129 t130 t145 _ A22.out).mono ?_); rintro e w' ⟨rfl, ⟨nd, rfl⟩⟩; (first | exact ⟨rfl, _, World.drewN_drewN _ _ _⟩ | exact ⟨rfl, _, Eq.trans (World.drewN_drewN _ _ _) (congrArg (World.drewN _) (Nat.add_assoc _ _ _))⟩)))
                    generalize hV : W.drewN nq = V
                    have m144 : V.heap[gb144]? = some (.cells #[.int .i64 t129, .int .i64 t130, .int .i64 (wrap64 (t131 + 1))] 23 (0, 0)) := by rw [← hV]; exact blk_drewN M144.out _
                    have m133 : V.heap[gb133]? = some (.cells #[.int .i64 t129, .int .i64 t130, .int .i64 t131] 23 (0, 0)) := by rw [← hV]; exact blk_drewN M133.out _
                    have m138 : V.heap[gb138]? = some (.cells #[.int .i64 t134, .int .i64 t135, .int .i64 t136] 23 (0, 0)) := by rw [← hV]; exact blk_drewN M138.out _
                    have mHB : Below w.heap.size w V := by rw [← hV]; exact pw_below_drewN HB.out _
                    clear hV HB M144 M133 M138 kz144_0 kf144_0 kz144_1 kf144_1 kz144_2 kf144_2 kz133_0 kf133_0 kz133_1 kf133_1 kz133_2 kf133_2 kz138_0 kf138_0 kz138_1 kf138_1 kz138_2 kf138_2
                    have kz144_0 : V.cell? ⟨gb144, 0, none⟩ = some (.int .i64 (t129)) := (blk_cell m144 0).trans rfl
                    have kz144_1 : V.cell? ⟨gb144, 1, none⟩ = some (.int .i64 (t130)) := (blk_cell m144 1).trans rfl
                    have kz144_2 : V.cell? ⟨gb144, 2, none⟩ = some (.int .i64 (wrap64 (t131 + 1))) := (blk_cell m144 2).trans rfl
                    have kz133_0 : V.cell? ⟨gb133, 0, none⟩ = some (.int .i64 (t129)) := (blk_cell m133 0).trans rfl
                    have kz133_1 : V.cell? ⟨gb133, 1, none⟩ = some (.int .i64 (t130)) := (blk_cell m133 1).trans rfl
                    have kz133_2 : V.cell? ⟨gb133, 2, none⟩ = some (.int .i64 (t131)) := (blk_cell m133 2).trans rfl
                    have kz138_0 : V.cell? ⟨gb138, 0, none⟩ = some (.int .i64 (t134)) := (blk_cell m138 0).trans rfl
                    have kz138_1 : V.cell? ⟨gb138, 1, none⟩ = some (.int .i64 (t135)) := (blk_cell m138 1).trans rfl
                    have kz138_2 : V.cell? ⟨gb138, 2, none⟩ = some (.int .i64 (t136)) := (blk_cell m138 2).trans rfl
                    have kf144_0 := blk_frozen m144 0
                    have kf144_1 := blk_frozen m144 1
                    have kf144_2 := blk_frozen m144 2
                    have kf133_0 := blk_frozen m133 0
                    have kf133_1 := blk_frozen m133 1
                    have kf133_2 := blk_frozen m133 2
                    have kf138_0 := blk_frozen m138 0
                    have kf138_1 := blk_frozen m138 1
                    have kf138_2 := blk_frozen m138 2
                    have M144 := Aside0.mk m144
                    have M133 := Aside0.mk m133
                    have M138 := Aside0.mk m138
                    have HB := Aside0.mk mHB
                    clear m144 m133 m138 mHB
                    go_upto_region 17 with (fail)
                    generalize hX : V = X
                    have m144 : X.heap[gb144]? = some (.cells #[.int .i64 t129, .int .i64 t130, .int .i64 (wrap64 (t131 + 1))] 23 (0, 0)) := by rw [← hX]; exact M144.out
                    have m138 : X.heap[gb138]? = some (.cells #[.int .i64 t134, .int .i64 t135, .int .i64 t136] 23 (0, 0)) := by rw [← hX]; exact M138.out
                    have mHB : Below w.heap.size w X := by rw [← hX]; exact HB.out
                    clear hX HB M144 M133 M138 kz144_0 kf144_0 kz144_1 kf144_1 kz144_2 kf144_2 kz133_0 kf133_0 kz133_1 kf133_1 kz133_2 kf133_2 kz138_0 kf138_0 kz138_1 kf138_1 kz138_2 kf138_2
                    have kz144_0 : X.cell? ⟨gb144, 0, none⟩ = some (.int .i64 t129) := (blk_cell m144 0).trans rfl
                    have kz144_1 : X.cell? ⟨gb144, 1, none⟩ = some (.int .i64 t130) := (blk_cell m144 1).trans rfl
                    have kz144_2 : X.cell? ⟨gb144, 2, none⟩ = some (.int .i64 (wrap64 (t131 + 1))) := (blk_cell m144 2).trans rfl
                    have kf144_0 := blk_frozen m144 0
                    have kf144_1 := blk_frozen m144 1
                    have kf144_2 := blk_frozen m144 2
                    have kz138_0 : X.cell? ⟨gb138, 0, none⟩ = some (.int .i64 t134) := (blk_cell m138 0).trans rfl
                    have kz138_1 : X.cell? ⟨gb138, 1, none⟩ = some (.int .i64 t135) := (blk_cell m138 1).trans rfl
                    have kz138_2 : X.cell? ⟨gb138, 2, none⟩ = some (.int .i64 t136) := (blk_cell m138 2).trans rfl
                    have kf138_0 := blk_frozen m138 0
                    have kf138_1 := blk_frozen m138 1
                    have kf138_2 := blk_frozen m138 2
                    have M144 := Aside0.mk m144
                    have M138 := Aside0.mk m138
                    have HB := Aside0.mk mHB
                    clear m144 m138 mHB
                    go_wp2
                    all_goals first | (exfalso; have hr := HR.out; simp_all; done) | (go_ret; exact ⟨by rw [HR.out]; rfl, by repeat (first | (with_reducible first | exact HB.out | apply below_alloc | apply pw_below_drewN | apply below_drew1 | refine below_set ?_ GE144.out) | exact HB.out)⟩)
  · replace c3 := Bool.eq_false_iff.mpr c3
    subst c3
    have H1 : (some false) = some r := by rw [if_neg (show ¬ (false = true) by decide)] at H; exact H
    clear H
    have H := H1
    clear H1
    exact absurd ((Option.some.inj H).trans HR.out) (by decide)

/-- THE ONE PURE STATEMENT of amphoralaw19_CivilBack: yours. -/
def amphoralaw19_CivilBack.Pure : Prop := ∀ (a0 : Int), (Lit.int .i64 a0).wf = true → ∃ k, amphoralaw19_CivilBack.f k a0 = some true
theorem amphoralaw19_CivilBack.walk (P : amphoralaw19_CivilBack.Pure) (a0 : Int) (w : World) (w0 : (Lit.int .i64 a0).wf = true) :
    Calls Try.prog 4 #[.int .i64 a0] w fun e w' => e = .returned (.bool true) ∧ Below w.heap.size w w' := by
  obtain ⟨k, h⟩ := P a0 w0
  refine (amphoralaw19_CivilBack.calls_true k a0 true w rfl h).mono ?_
  rintro e w' ⟨rfl, hd⟩
  exact ⟨rfl, hd⟩

end Go.Proofs.Ytlgjojhenohjnaa.OCivilBack
