/- Printed for this claim by a copy of the kit's print.py that takes functions walked by our own texts. Conditions: none. -/
import Derived.Test.YtkdklgcjimnabaaPUstarx0
import Derived.Test.YtkdklgcjimnabaaPUstarx6
namespace Go.Proofs.Ytkdklgcjimnabaa.PUstar
open Go.RowKit Go.Proofs.YtkdklgcjimnabaaW.PrintWords Go.Proofs.YtkdklgcjimnabaaW.PrintLast Go.Proofs.YtkdklgcjimnabaaW.PrintMore
attribute [local go_sem] max2_int min2_int max_two min_two max_three min_three max_four min_four   -- for this text's walks alone
set_option linter.unusedVariables false
set_option linter.unusedSimpArgs false

/-! ### amphoraref10_Fits: function 34 -/
mutual
def amphoraref10_Fits.j0 : Nat → Bool → ByteArray → Int → Int → Int → Int → Int → Int → ByteArray → Option (Bool)
  | 0, _, _, _, _, _, _, _, _, _ => none
  | k + 1, x5, x194000, x194001, x194002, x194003, x194004, x194005, x194006, x194007 => if x194006 = 49 then (amphoraref10_Fits.j1 k x5 true x194000 x194001 x194002 x194003 x194004 x194005 x194006 x194007) else (amphoraref10_Fits.j1 k x5 (x194006 == 50) x194000 x194001 x194002 x194003 x194004 x194005 x194006 x194007)
def amphoraref10_Fits.j1 : Nat → Bool → Bool → ByteArray → Int → Int → Int → Int → Int → Int → ByteArray → Option (Bool)
  | 0, _, _, _, _, _, _, _, _, _, _ => none
  | k + 1, x5, x46, x194000, x194001, x194002, x194003, x194004, x194005, x194006, x194007 => if x46 = true then (if x5 = true then ((amphoraref10_Link.f k x194007).bind fun t202 => (if t202 = true then (some (x194004 == 0)) else (some false))) else (some false)) else (if x194006 = 48 then (if x5 = true then (if x194007.toList = ([] : List UInt8) then (if x194004 = 0 then (some true) else (some (x194006 != 53))) else (some false)) else (some false)) else (if x194006 = 120 then (if x5 = true then (if x194007.toList = ([] : List UInt8) then (if x194004 = 0 then (some true) else (some (x194006 != 53))) else (some false)) else (some false)) else (if x194006 = 53 then (if x5 = true then (if x194007.toList = ([] : List UInt8) then (if x194004 = 0 then (some true) else (some (x194006 != 53))) else (some false)) else (some false)) else (some false))))
end
def amphoraref10_Fits.f (k : Nat) (a0_0 : ByteArray) (a0_1 : Int) (a0_2 : Int) (a0_3 : Int) (a0_4 : Int) (a0_5 : Int) (a0_6 : Int) (a0_7 : ByteArray) : Option (Bool) := (amphoraref10_Path.f k a0_0).bind fun bt194 => (if bt194.2.2 = true then ((amphoraref10_Id.f a0_1).bind fun t197 => (if t197 = true then ((amphoraref10_Id.f a0_2).bind fun t198 => (if t198 = true then ((amphoraref10_Id.f a0_3).bind fun t199 => (if t199 = true then ((amphoraref10_Time.f a0_4).bind fun t200 => (if t200 = true then ((amphoraref10_Time.f a0_5).bind fun t201 => (amphoraref10_Fits.j0 k t201 a0_0 a0_1 a0_2 a0_3 a0_4 a0_5 a0_6 a0_7)) else (amphoraref10_Fits.j0 k false a0_0 a0_1 a0_2 a0_3 a0_4 a0_5 a0_6 a0_7))) else (amphoraref10_Fits.j0 k false a0_0 a0_1 a0_2 a0_3 a0_4 a0_5 a0_6 a0_7))) else (amphoraref10_Fits.j0 k false a0_0 a0_1 a0_2 a0_3 a0_4 a0_5 a0_6 a0_7))) else (amphoraref10_Fits.j0 k false a0_0 a0_1 a0_2 a0_3 a0_4 a0_5 a0_6 a0_7))) else (amphoraref10_Fits.j0 k false a0_0 a0_1 a0_2 a0_3 a0_4 a0_5 a0_6 a0_7))
theorem amphoraref10_Fits.mono_l : ∀ k, (∀ y0 y1 y2 y3 y4 y5 y6 y7 y8, LeO (amphoraref10_Fits.j0 k y0 y1 y2 y3 y4 y5 y6 y7 y8) (amphoraref10_Fits.j0 (k + 1) y0 y1 y2 y3 y4 y5 y6 y7 y8)) ∧ (∀ y0 y1 y2 y3 y4 y5 y6 y7 y8 y9, LeO (amphoraref10_Fits.j1 k y0 y1 y2 y3 y4 y5 y6 y7 y8 y9) (amphoraref10_Fits.j1 (k + 1) y0 y1 y2 y3 y4 y5 y6 y7 y8 y9))
  | 0 => ⟨fun _ _ _ _ _ _ _ _ _ r h => by simp [amphoraref10_Fits.j0] at h, fun _ _ _ _ _ _ _ _ _ _ r h => by simp [amphoraref10_Fits.j1] at h⟩
  | k + 1 => by
    obtain ⟨ih0, ih1⟩ := amphoraref10_Fits.mono_l k
    refine ⟨?_, ?_⟩
    · intro y0 y1 y2 y3 y4 y5 y6 y7 y8
      unfold amphoraref10_Fits.j0
      repeat' first
      | (with_reducible exact ih0 _ _ _ _ _ _ _ _ _)
      | (with_reducible exact ih1 _ _ _ _ _ _ _ _ _ _)
      | (with_reducible exact amphoraref10_Link.mono _ _)
      | (with_reducible exact amphoraref10_Path.mono _ _)
      | (with_reducible exact LeO.refl _)
      | (with_reducible exact LeO.none _)
      | (with_reducible refine LeO.ite ?_ ?_)
      | (with_reducible refine LeO.bind ?_ (fun _ => ?_))
      | exact ih0 _ _ _ _ _ _ _ _ _
      | exact ih1 _ _ _ _ _ _ _ _ _ _
      | exact amphoraref10_Link.mono _ _
      | exact amphoraref10_Path.mono _ _
      | exact LeO.none _
      | refine LeO.ite ?_ ?_
      | refine LeO.bind ?_ (fun _ => ?_)
    · intro y0 y1 y2 y3 y4 y5 y6 y7 y8 y9
      unfold amphoraref10_Fits.j1
      repeat' first
      | (with_reducible exact ih0 _ _ _ _ _ _ _ _ _)
      | (with_reducible exact ih1 _ _ _ _ _ _ _ _ _ _)
      | (with_reducible exact amphoraref10_Link.mono _ _)
      | (with_reducible exact amphoraref10_Path.mono _ _)
      | (with_reducible exact LeO.refl _)
      | (with_reducible exact LeO.none _)
      | (with_reducible refine LeO.ite ?_ ?_)
      | (with_reducible refine LeO.bind ?_ (fun _ => ?_))
      | exact ih0 _ _ _ _ _ _ _ _ _
      | exact ih1 _ _ _ _ _ _ _ _ _ _
      | exact amphoraref10_Link.mono _ _
      | exact amphoraref10_Path.mono _ _
      | exact LeO.none _
      | refine LeO.ite ?_ ?_
      | refine LeO.bind ?_ (fun _ => ?_)
theorem amphoraref10_Fits.mono : ∀ a0 a1 a2 a3 a4 a5 a6 a7 k, LeO (amphoraref10_Fits.f k a0 a1 a2 a3 a4 a5 a6 a7) (amphoraref10_Fits.f (k + 1) a0 a1 a2 a3 a4 a5 a6 a7) := by
  intro a0 a1 a2 a3 a4 a5 a6 a7 k
  obtain ⟨ih0, ih1⟩ := amphoraref10_Fits.mono_l k
  unfold amphoraref10_Fits.f
  repeat' first
      | (with_reducible exact ih0 _ _ _ _ _ _ _ _ _)
      | (with_reducible exact ih1 _ _ _ _ _ _ _ _ _ _)
      | (with_reducible exact amphoraref10_Link.mono _ _)
      | (with_reducible exact amphoraref10_Path.mono _ _)
      | (with_reducible exact LeO.refl _)
      | (with_reducible exact LeO.none _)
      | (with_reducible refine LeO.ite ?_ ?_)
      | (with_reducible refine LeO.bind ?_ (fun _ => ?_))
      | exact ih0 _ _ _ _ _ _ _ _ _
      | exact ih1 _ _ _ _ _ _ _ _ _ _
      | exact amphoraref10_Link.mono _ _
      | exact amphoraref10_Path.mono _ _
      | exact LeO.none _
      | refine LeO.ite ?_ ?_
      | refine LeO.bind ?_ (fun _ => ?_)
set_option maxHeartbeats 8000000 in
set_option maxRecDepth 100000 in
theorem amphoraref10_Fits.calls (k : Nat) (a0_0 : ByteArray) (a0_1 : Int) (a0_2 : Int) (a0_3 : Int) (a0_4 : Int) (a0_5 : Int) (a0_6 : Int) (a0_7 : ByteArray) (r : Bool) (w : World) (h : amphoraref10_Fits.f k a0_0 a0_1 a0_2 a0_3 a0_4 a0_5 a0_6 a0_7 = some r) :
    Calls Try.prog 34 #[.agg #[.string a0_0, .int .i64 a0_1, .int .i64 a0_2, .int .i64 a0_3, .int .i64 a0_4, .int .i64 a0_5, .int .u8 a0_6, .string a0_7]] w fun e w' => e = .returned (.bool r) ∧ Below w.heap.size w w' := by
  have hu26 := Try.underlying26
  have HB := Aside0.mk (Below.refl w.heap.size w)
  have H : ((amphoraref10_Path.f k a0_0).bind fun bt194 => (if bt194.2.2 = true then ((amphoraref10_Id.f a0_1).bind fun t197 => (if t197 = true then ((amphoraref10_Id.f a0_2).bind fun t198 => (if t198 = true then ((amphoraref10_Id.f a0_3).bind fun t199 => (if t199 = true then ((amphoraref10_Time.f a0_4).bind fun t200 => (if t200 = true then ((amphoraref10_Time.f a0_5).bind fun t201 => (amphoraref10_Fits.j0 k t201 a0_0 a0_1 a0_2 a0_3 a0_4 a0_5 a0_6 a0_7)) else (amphoraref10_Fits.j0 k false a0_0 a0_1 a0_2 a0_3 a0_4 a0_5 a0_6 a0_7))) else (amphoraref10_Fits.j0 k false a0_0 a0_1 a0_2 a0_3 a0_4 a0_5 a0_6 a0_7))) else (amphoraref10_Fits.j0 k false a0_0 a0_1 a0_2 a0_3 a0_4 a0_5 a0_6 a0_7))) else (amphoraref10_Fits.j0 k false a0_0 a0_1 a0_2 a0_3 a0_4 a0_5 a0_6 a0_7))) else (amphoraref10_Fits.j0 k false a0_0 a0_1 a0_2 a0_3 a0_4 a0_5 a0_6 a0_7))) = some r := h
  clear h
  replace H := Option.bind_eq_some_iff.mp H
  obtain ⟨⟨t194, t195, t196⟩, A20, H⟩ := H
  replace H : (if t196 = true then ((amphoraref10_Id.f a0_1).bind fun t197 => (if t197 = true then ((amphoraref10_Id.f a0_2).bind fun t198 => (if t198 = true then ((amphoraref10_Id.f a0_3).bind fun t199 => (if t199 = true then ((amphoraref10_Time.f a0_4).bind fun t200 => (if t200 = true then ((amphoraref10_Time.f a0_5).bind fun t201 => (amphoraref10_Fits.j0 k t201 a0_0 a0_1 a0_2 a0_3 a0_4 a0_5 a0_6 a0_7)) else (amphoraref10_Fits.j0 k false a0_0 a0_1 a0_2 a0_3 a0_4 a0_5 a0_6 a0_7))) else (amphoraref10_Fits.j0 k false a0_0 a0_1 a0_2 a0_3 a0_4 a0_5 a0_6 a0_7))) else (amphoraref10_Fits.j0 k false a0_0 a0_1 a0_2 a0_3 a0_4 a0_5 a0_6 a0_7))) else (amphoraref10_Fits.j0 k false a0_0 a0_1 a0_2 a0_3 a0_4 a0_5 a0_6 a0_7))) else (amphoraref10_Fits.j0 k false a0_0 a0_1 a0_2 a0_3 a0_4 a0_5 a0_6 a0_7)) = some r := H
  have A2 := Aside0.mk A20
  clear A20
  have HC3 := Aside0.mk H
  clear H
  go_enter Try.func34, Try.ntmps34
  go_upto_region 2 with (first | ((with_reducible refine gate_dst (N := 1) rfl ?_); refine box_event ?hg (N := 1) ?hd (cs := #[.string a0_0, .int .i64 a0_1, .int .i64 a0_2, .int .i64 a0_3, .int .i64 a0_4, .int .i64 a0_5, .int .u8 a0_6, .string a0_7]) (t := 26) ?hr ?_; (case hd => rfl); (case hg => rfl); (case hr => first | (go_simp; done) | (go_simp; rfl)); intro gb193 hg w4 hbox hb; have n0_ := Aside0.mk (below_step (by repeat (first | (with_reducible first | exact HB.out | apply below_alloc | apply pw_below_drewN | apply below_drew1) | exact HB.out)) hb); have n1_ := Aside0.mk (hbox); have n2_ := Aside0.mk ((by rw [hg]; exact (below_size (by repeat (first | (with_reducible first | exact HB.out | apply below_alloc | apply pw_below_drewN | apply below_drew1) | exact HB.out))) : w.heap.size ≤ gb193)); have n3_ := Aside0.mk ((by rw [hg]; exact (below_size (by repeat (first | (with_reducible first | exact HB.out | apply below_alloc | apply pw_below_drewN | apply below_drew1) | exact HB.out))) : w.heap.size ≤ gb193)); clear HB; have HB := n0_; have BK193 := n1_; have GW193 := n2_; have GE193 := n3_; clear n0_ n1_ n2_ n3_; clear hb hbox hg; have hcz5_0 : w4.cell? ⟨gb193, 0, none⟩ = some (.string a0_0) := (blk_cell BK193.out 0).trans rfl; have hcz5_1 : w4.cell? ⟨gb193, 1, none⟩ = some (.int .i64 a0_1) := (blk_cell BK193.out 1).trans rfl; have hcz5_2 : w4.cell? ⟨gb193, 2, none⟩ = some (.int .i64 a0_2) := (blk_cell BK193.out 2).trans rfl; have hcz5_3 : w4.cell? ⟨gb193, 3, none⟩ = some (.int .i64 a0_3) := (blk_cell BK193.out 3).trans rfl; have hcz5_4 : w4.cell? ⟨gb193, 4, none⟩ = some (.int .i64 a0_4) := (blk_cell BK193.out 4).trans rfl; have hcz5_5 : w4.cell? ⟨gb193, 5, none⟩ = some (.int .i64 a0_5) := (blk_cell BK193.out 5).trans rfl; have hcz5_6 : w4.cell? ⟨gb193, 6, none⟩ = some (.int .u8 a0_6) := (blk_cell BK193.out 6).trans rfl; have hcz5_7 : w4.cell? ⟨gb193, 7, none⟩ = some (.string a0_7) := (blk_cell BK193.out 7).trans rfl; have hfz5_0 := blk_frozen BK193.out 0; have hfz5_1 := blk_frozen BK193.out 1; have hfz5_2 := blk_frozen BK193.out 2; have hfz5_3 := blk_frozen BK193.out 3; have hfz5_4 := blk_frozen BK193.out 4; have hfz5_5 := blk_frozen BK193.out 5; have hfz5_6 := blk_frozen BK193.out 6; have hfz5_7 := blk_frozen BK193.out 7) | ((with_reducible refine gate_callee (f := 17) rfl ?_); refine goesL_ (some 9) rfl rfl Try.func17 (by kernel_rfl) rfl #[.string a0_0] rfl (by (try simp only [List.map_toArray, List.map_cons, List.map_nil]); first | done | rfl | (simp only [List.length_drop, List.length_take]; rfl)) ?_; (with_reducible refine (amphoraref10_Path.calls k a0_0 t194 t195 t196 _ A2.out).mono ?_); rintro e w' ⟨rfl, ⟨nd, rfl⟩⟩; refine ⟨_, rfl, ?_⟩))
  (try simp only [Act.put, List.setIfInBounds_toArray, List.set_cons_zero, List.set_cons_succ])
  go_cut [5] (fun v5 wc => ∃ (kq : Nat) (x5_2 : Bool), v5 = .bool x5_2 ∧ Aside0 (amphoraref10_Fits.j0 kq x5_2 a0_0 a0_1 a0_2 a0_3 a0_4 a0_5 a0_6 a0_7 = some r) ∧ Aside0 (kq ≤ k) ∧ Aside0 (wc.heap[gb193]? = some (.cells #[.string a0_0, .int .i64 a0_1, .int .i64 a0_2, .int .i64 a0_3, .int .i64 a0_4, .int .i64 a0_5, .int .u8 a0_6, .string a0_7] 26 (0, 0))) ∧ Aside0 (Below w.heap.size w wc))
  case first =>
    have H := HC3.out
    clear HC3
    by_cases c6 : t196 = true
    · subst c6
      have H1 : ((amphoraref10_Id.f a0_1).bind fun t197 => (if t197 = true then ((amphoraref10_Id.f a0_2).bind fun t198 => (if t198 = true then ((amphoraref10_Id.f a0_3).bind fun t199 => (if t199 = true then ((amphoraref10_Time.f a0_4).bind fun t200 => (if t200 = true then ((amphoraref10_Time.f a0_5).bind fun t201 => (amphoraref10_Fits.j0 k t201 a0_0 a0_1 a0_2 a0_3 a0_4 a0_5 a0_6 a0_7)) else (amphoraref10_Fits.j0 k false a0_0 a0_1 a0_2 a0_3 a0_4 a0_5 a0_6 a0_7))) else (amphoraref10_Fits.j0 k false a0_0 a0_1 a0_2 a0_3 a0_4 a0_5 a0_6 a0_7))) else (amphoraref10_Fits.j0 k false a0_0 a0_1 a0_2 a0_3 a0_4 a0_5 a0_6 a0_7))) else (amphoraref10_Fits.j0 k false a0_0 a0_1 a0_2 a0_3 a0_4 a0_5 a0_6 a0_7))) = some r := by rw [if_pos rfl] at H; exact H
      clear H
      have H := H1
      clear H1
      replace H := Option.bind_eq_some_iff.mp H
      obtain ⟨t197, A70, H⟩ := H
      replace H : (if t197 = true then ((amphoraref10_Id.f a0_2).bind fun t198 => (if t198 = true then ((amphoraref10_Id.f a0_3).bind fun t199 => (if t199 = true then ((amphoraref10_Time.f a0_4).bind fun t200 => (if t200 = true then ((amphoraref10_Time.f a0_5).bind fun t201 => (amphoraref10_Fits.j0 k t201 a0_0 a0_1 a0_2 a0_3 a0_4 a0_5 a0_6 a0_7)) else (amphoraref10_Fits.j0 k false a0_0 a0_1 a0_2 a0_3 a0_4 a0_5 a0_6 a0_7))) else (amphoraref10_Fits.j0 k false a0_0 a0_1 a0_2 a0_3 a0_4 a0_5 a0_6 a0_7))) else (amphoraref10_Fits.j0 k false a0_0 a0_1 a0_2 a0_3 a0_4 a0_5 a0_6 a0_7))) else (amphoraref10_Fits.j0 k false a0_0 a0_1 a0_2 a0_3 a0_4 a0_5 a0_6 a0_7)) = some r := H
      have A7 := Aside0.mk A70
      clear A70
      by_cases c8 : t197 = true
      · subst c8
        have H1 : ((amphoraref10_Id.f a0_2).bind fun t198 => (if t198 = true then ((amphoraref10_Id.f a0_3).bind fun t199 => (if t199 = true then ((amphoraref10_Time.f a0_4).bind fun t200 => (if t200 = true then ((amphoraref10_Time.f a0_5).bind fun t201 => (amphoraref10_Fits.j0 k t201 a0_0 a0_1 a0_2 a0_3 a0_4 a0_5 a0_6 a0_7)) else (amphoraref10_Fits.j0 k false a0_0 a0_1 a0_2 a0_3 a0_4 a0_5 a0_6 a0_7))) else (amphoraref10_Fits.j0 k false a0_0 a0_1 a0_2 a0_3 a0_4 a0_5 a0_6 a0_7))) else (amphoraref10_Fits.j0 k false a0_0 a0_1 a0_2 a0_3 a0_4 a0_5 a0_6 a0_7))) = some r := by rw [if_pos rfl] at H; exact H
        clear H
        have H := H1
        clear H1
        replace H := Option.bind_eq_some_iff.mp H
        obtain ⟨t198, A90, H⟩ := H
        replace H : (if t198 = true then ((amphoraref10_Id.f a0_3).bind fun t199 => (if t199 = true then ((amphoraref10_Time.f a0_4).bind fun t200 => (if t200 = true then ((amphoraref10_Time.f a0_5).bind fun t201 => (amphoraref10_Fits.j0 k t201 a0_0 a0_1 a0_2 a0_3 a0_4 a0_5 a0_6 a0_7)) else (amphoraref10_Fits.j0 k false a0_0 a0_1 a0_2 a0_3 a0_4 a0_5 a0_6 a0_7))) else (amphoraref10_Fits.j0 k false a0_0 a0_1 a0_2 a0_3 a0_4 a0_5 a0_6 a0_7))) else (amphoraref10_Fits.j0 k false a0_0 a0_1 a0_2 a0_3 a0_4 a0_5 a0_6 a0_7)) = some r := H
        have A9 := Aside0.mk A90
        clear A90
        by_cases c10 : t198 = true
        · subst c10
          have H1 : ((amphoraref10_Id.f a0_3).bind fun t199 => (if t199 = true then ((amphoraref10_Time.f a0_4).bind fun t200 => (if t200 = true then ((amphoraref10_Time.f a0_5).bind fun t201 => (amphoraref10_Fits.j0 k t201 a0_0 a0_1 a0_2 a0_3 a0_4 a0_5 a0_6 a0_7)) else (amphoraref10_Fits.j0 k false a0_0 a0_1 a0_2 a0_3 a0_4 a0_5 a0_6 a0_7))) else (amphoraref10_Fits.j0 k false a0_0 a0_1 a0_2 a0_3 a0_4 a0_5 a0_6 a0_7))) = some r := by rw [if_pos rfl] at H; exact H
          clear H
          have H := H1
          clear H1
          replace H := Option.bind_eq_some_iff.mp H
          obtain ⟨t199, A110, H⟩ := H
          replace H : (if t199 = true then ((amphoraref10_Time.f a0_4).bind fun t200 => (if t200 = true then ((amphoraref10_Time.f a0_5).bind fun t201 => (amphoraref10_Fits.j0 k t201 a0_0 a0_1 a0_2 a0_3 a0_4 a0_5 a0_6 a0_7)) else (amphoraref10_Fits.j0 k false a0_0 a0_1 a0_2 a0_3 a0_4 a0_5 a0_6 a0_7))) else (amphoraref10_Fits.j0 k false a0_0 a0_1 a0_2 a0_3 a0_4 a0_5 a0_6 a0_7)) = some r := H
          have A11 := Aside0.mk A110
          clear A110
          by_cases c12 : t199 = true
          · subst c12
            have H1 : ((amphoraref10_Time.f a0_4).bind fun t200 => (if t200 = true then ((amphoraref10_Time.f a0_5).bind fun t201 => (amphoraref10_Fits.j0 k t201 a0_0 a0_1 a0_2 a0_3 a0_4 a0_5 a0_6 a0_7)) else (amphoraref10_Fits.j0 k false a0_0 a0_1 a0_2 a0_3 a0_4 a0_5 a0_6 a0_7))) = some r := by rw [if_pos rfl] at H; exact H
            clear H
            have H := H1
            clear H1
            replace H := Option.bind_eq_some_iff.mp H
            obtain ⟨t200, A130, H⟩ := H
            replace H : (if t200 = true then ((amphoraref10_Time.f a0_5).bind fun t201 => (amphoraref10_Fits.j0 k t201 a0_0 a0_1 a0_2 a0_3 a0_4 a0_5 a0_6 a0_7)) else (amphoraref10_Fits.j0 k false a0_0 a0_1 a0_2 a0_3 a0_4 a0_5 a0_6 a0_7)) = some r := H
            have A13 := Aside0.mk A130
            clear A130
            by_cases c14 : t200 = true
            · subst c14
              have H1 : ((amphoraref10_Time.f a0_5).bind fun t201 => (amphoraref10_Fits.j0 k t201 a0_0 a0_1 a0_2 a0_3 a0_4 a0_5 a0_6 a0_7)) = some r := by rw [if_pos rfl] at H; exact H
              clear H
              have H := H1
              clear H1
              replace H := Option.bind_eq_some_iff.mp H
              obtain ⟨t201, A150, H⟩ := H
              replace H : (amphoraref10_Fits.j0 k t201 a0_0 a0_1 a0_2 a0_3 a0_4 a0_5 a0_6 a0_7) = some r := H
              have A15 := Aside0.mk A150
              clear A150
              have H' := Aside0.mk H
              clear H
              have hcz16_0 : w4.cell? ⟨gb193, 0, none⟩ = some (.string a0_0) := (blk_cell BK193.out 0).trans rfl
              have hcz16_1 : w4.cell? ⟨gb193, 1, none⟩ = some (.int .i64 a0_1) := (blk_cell BK193.out 1).trans rfl
              have hcz16_2 : w4.cell? ⟨gb193, 2, none⟩ = some (.int .i64 a0_2) := (blk_cell BK193.out 2).trans rfl
              have hcz16_3 : w4.cell? ⟨gb193, 3, none⟩ = some (.int .i64 a0_3) := (blk_cell BK193.out 3).trans rfl
              have hcz16_4 : w4.cell? ⟨gb193, 4, none⟩ = some (.int .i64 a0_4) := (blk_cell BK193.out 4).trans rfl
              have hcz16_5 : w4.cell? ⟨gb193, 5, none⟩ = some (.int .i64 a0_5) := (blk_cell BK193.out 5).trans rfl
              have hcz16_6 : w4.cell? ⟨gb193, 6, none⟩ = some (.int .u8 a0_6) := (blk_cell BK193.out 6).trans rfl
              have hcz16_7 : w4.cell? ⟨gb193, 7, none⟩ = some (.string a0_7) := (blk_cell BK193.out 7).trans rfl
              have hfz16_0 := blk_frozen BK193.out 0
              have hfz16_1 := blk_frozen BK193.out 1
              have hfz16_2 := blk_frozen BK193.out 2
              have hfz16_3 := blk_frozen BK193.out 3
              have hfz16_4 := blk_frozen BK193.out 4
              have hfz16_5 := blk_frozen BK193.out 5
              have hfz16_6 := blk_frozen BK193.out 6
              have hfz16_7 := blk_frozen BK193.out 7
              go_wp2_with (first | (go_at_call 22; (with_reducible refine (amphoraref10_Id.calls a0_1 true _ A7.out).mono ?_); rintro e w' ⟨rfl, ⟨nd, rfl⟩⟩) | (go_at_call 22; (with_reducible refine (amphoraref10_Id.calls a0_2 true _ A9.out).mono ?_); rintro e w' ⟨rfl, ⟨nd, rfl⟩⟩) | (go_at_call 22; (with_reducible refine (amphoraref10_Id.calls a0_3 true _ A11.out).mono ?_); rintro e w' ⟨rfl, ⟨nd, rfl⟩⟩) | (go_at_call 24; (with_reducible refine (amphoraref10_Time.calls a0_4 true _ A13.out).mono ?_); rintro e w' ⟨rfl, ⟨nd, rfl⟩⟩) | (go_at_call 24; (with_reducible refine (amphoraref10_Time.calls a0_5 t201 _ A15.out).mono ?_); rintro e w' ⟨rfl, ⟨nd, rfl⟩⟩))
              go_meet
              case rel => exact ⟨_, (t201), (by first | rfl | (simp; done) | (simp [*]; done)), H', ⟨by first | omega | exact Nat.le_refl _⟩, ⟨by (with_reducible repeat (first | refine blk_drewN ?_ _ | refine blk_drew ?_ | refine blk_alloc ?_ _)); exact BK193.out⟩, ⟨by repeat (first | (with_reducible first | exact HB.out | apply below_alloc | apply pw_below_drewN | apply below_drew1 | refine below_set ?_ GE193.out) | exact HB.out)⟩⟩
            · replace c14 := Bool.eq_false_iff.mpr c14
              subst c14
              have H1 : (amphoraref10_Fits.j0 k false a0_0 a0_1 a0_2 a0_3 a0_4 a0_5 a0_6 a0_7) = some r := by rw [if_neg (show ¬ (false = true) by decide)] at H; exact H
              clear H
              have H := H1
              clear H1
              have H' := Aside0.mk H
              clear H
              have hcz17_0 : w4.cell? ⟨gb193, 0, none⟩ = some (.string a0_0) := (blk_cell BK193.out 0).trans rfl
              have hcz17_1 : w4.cell? ⟨gb193, 1, none⟩ = some (.int .i64 a0_1) := (blk_cell BK193.out 1).trans rfl
              have hcz17_2 : w4.cell? ⟨gb193, 2, none⟩ = some (.int .i64 a0_2) := (blk_cell BK193.out 2).trans rfl
              have hcz17_3 : w4.cell? ⟨gb193, 3, none⟩ = some (.int .i64 a0_3) := (blk_cell BK193.out 3).trans rfl
              have hcz17_4 : w4.cell? ⟨gb193, 4, none⟩ = some (.int .i64 a0_4) := (blk_cell BK193.out 4).trans rfl
              have hcz17_5 : w4.cell? ⟨gb193, 5, none⟩ = some (.int .i64 a0_5) := (blk_cell BK193.out 5).trans rfl
              have hcz17_6 : w4.cell? ⟨gb193, 6, none⟩ = some (.int .u8 a0_6) := (blk_cell BK193.out 6).trans rfl
              have hcz17_7 : w4.cell? ⟨gb193, 7, none⟩ = some (.string a0_7) := (blk_cell BK193.out 7).trans rfl
              have hfz17_0 := blk_frozen BK193.out 0
              have hfz17_1 := blk_frozen BK193.out 1
              have hfz17_2 := blk_frozen BK193.out 2
              have hfz17_3 := blk_frozen BK193.out 3
              have hfz17_4 := blk_frozen BK193.out 4
              have hfz17_5 := blk_frozen BK193.out 5
              have hfz17_6 := blk_frozen BK193.out 6
              have hfz17_7 := blk_frozen BK193.out 7
              go_wp2_with (first | (go_at_call 22; (with_reducible refine (amphoraref10_Id.calls a0_1 true _ A7.out).mono ?_); rintro e w' ⟨rfl, ⟨nd, rfl⟩⟩) | (go_at_call 22; (with_reducible refine (amphoraref10_Id.calls a0_2 true _ A9.out).mono ?_); rintro e w' ⟨rfl, ⟨nd, rfl⟩⟩) | (go_at_call 22; (with_reducible refine (amphoraref10_Id.calls a0_3 true _ A11.out).mono ?_); rintro e w' ⟨rfl, ⟨nd, rfl⟩⟩) | (go_at_call 24; (with_reducible refine (amphoraref10_Time.calls a0_4 false _ A13.out).mono ?_); rintro e w' ⟨rfl, ⟨nd, rfl⟩⟩))
              go_meet
              case rel => exact ⟨_, (false), (by first | rfl | (simp; done) | (simp [*]; done)), H', ⟨by first | omega | exact Nat.le_refl _⟩, ⟨by (with_reducible repeat (first | refine blk_drewN ?_ _ | refine blk_drew ?_ | refine blk_alloc ?_ _)); exact BK193.out⟩, ⟨by repeat (first | (with_reducible first | exact HB.out | apply below_alloc | apply pw_below_drewN | apply below_drew1 | refine below_set ?_ GE193.out) | exact HB.out)⟩⟩
          · replace c12 := Bool.eq_false_iff.mpr c12
            subst c12
            have H1 : (amphoraref10_Fits.j0 k false a0_0 a0_1 a0_2 a0_3 a0_4 a0_5 a0_6 a0_7) = some r := by rw [if_neg (show ¬ (false = true) by decide)] at H; exact H
            clear H
            have H := H1
            clear H1
            have H' := Aside0.mk H
            clear H
            have hcz18_0 : w4.cell? ⟨gb193, 0, none⟩ = some (.string a0_0) := (blk_cell BK193.out 0).trans rfl
            have hcz18_1 : w4.cell? ⟨gb193, 1, none⟩ = some (.int .i64 a0_1) := (blk_cell BK193.out 1).trans rfl
            have hcz18_2 : w4.cell? ⟨gb193, 2, none⟩ = some (.int .i64 a0_2) := (blk_cell BK193.out 2).trans rfl
            have hcz18_3 : w4.cell? ⟨gb193, 3, none⟩ = some (.int .i64 a0_3) := (blk_cell BK193.out 3).trans rfl
            have hcz18_4 : w4.cell? ⟨gb193, 4, none⟩ = some (.int .i64 a0_4) := (blk_cell BK193.out 4).trans rfl
            have hcz18_5 : w4.cell? ⟨gb193, 5, none⟩ = some (.int .i64 a0_5) := (blk_cell BK193.out 5).trans rfl
            have hcz18_6 : w4.cell? ⟨gb193, 6, none⟩ = some (.int .u8 a0_6) := (blk_cell BK193.out 6).trans rfl
            have hcz18_7 : w4.cell? ⟨gb193, 7, none⟩ = some (.string a0_7) := (blk_cell BK193.out 7).trans rfl
            have hfz18_0 := blk_frozen BK193.out 0
            have hfz18_1 := blk_frozen BK193.out 1
            have hfz18_2 := blk_frozen BK193.out 2
            have hfz18_3 := blk_frozen BK193.out 3
            have hfz18_4 := blk_frozen BK193.out 4
            have hfz18_5 := blk_frozen BK193.out 5
            have hfz18_6 := blk_frozen BK193.out 6
            have hfz18_7 := blk_frozen BK193.out 7
            go_wp2_with (first | (go_at_call 22; (with_reducible refine (amphoraref10_Id.calls a0_1 true _ A7.out).mono ?_); rintro e w' ⟨rfl, ⟨nd, rfl⟩⟩) | (go_at_call 22; (with_reducible refine (amphoraref10_Id.calls a0_2 true _ A9.out).mono ?_); rintro e w' ⟨rfl, ⟨nd, rfl⟩⟩) | (go_at_call 22; (with_reducible refine (amphoraref10_Id.calls a0_3 false _ A11.out).mono ?_); rintro e w' ⟨rfl, ⟨nd, rfl⟩⟩))
            go_meet
            case rel => exact ⟨_, (false), (by first | rfl | (simp; done) | (simp [*]; done)), H', ⟨by first | omega | exact Nat.le_refl _⟩, ⟨by (with_reducible repeat (first | refine blk_drewN ?_ _ | refine blk_drew ?_ | refine blk_alloc ?_ _)); exact BK193.out⟩, ⟨by repeat (first | (with_reducible first | exact HB.out | apply below_alloc | apply pw_below_drewN | apply below_drew1 | refine below_set ?_ GE193.out) | exact HB.out)⟩⟩
        · replace c10 := Bool.eq_false_iff.mpr c10
          subst c10
          have H1 : (amphoraref10_Fits.j0 k false a0_0 a0_1 a0_2 a0_3 a0_4 a0_5 a0_6 a0_7) = some r := by rw [if_neg (show ¬ (false = true) by decide)] at H; exact H
          clear H
          have H := H1
          clear H1
          have H' := Aside0.mk H
          clear H
          have hcz19_0 : w4.cell? ⟨gb193, 0, none⟩ = some (.string a0_0) := (blk_cell BK193.out 0).trans rfl
          have hcz19_1 : w4.cell? ⟨gb193, 1, none⟩ = some (.int .i64 a0_1) := (blk_cell BK193.out 1).trans rfl
          have hcz19_2 : w4.cell? ⟨gb193, 2, none⟩ = some (.int .i64 a0_2) := (blk_cell BK193.out 2).trans rfl
          have hcz19_3 : w4.cell? ⟨gb193, 3, none⟩ = some (.int .i64 a0_3) := (blk_cell BK193.out 3).trans rfl
          have hcz19_4 : w4.cell? ⟨gb193, 4, none⟩ = some (.int .i64 a0_4) := (blk_cell BK193.out 4).trans rfl
          have hcz19_5 : w4.cell? ⟨gb193, 5, none⟩ = some (.int .i64 a0_5) := (blk_cell BK193.out 5).trans rfl
          have hcz19_6 : w4.cell? ⟨gb193, 6, none⟩ = some (.int .u8 a0_6) := (blk_cell BK193.out 6).trans rfl
          have hcz19_7 : w4.cell? ⟨gb193, 7, none⟩ = some (.string a0_7) := (blk_cell BK193.out 7).trans rfl
          have hfz19_0 := blk_frozen BK193.out 0
          have hfz19_1 := blk_frozen BK193.out 1
          have hfz19_2 := blk_frozen BK193.out 2
          have hfz19_3 := blk_frozen BK193.out 3
          have hfz19_4 := blk_frozen BK193.out 4
          have hfz19_5 := blk_frozen BK193.out 5
          have hfz19_6 := blk_frozen BK193.out 6
          have hfz19_7 := blk_frozen BK193.out 7
          go_wp2_with (first | (go_at_call 22; (with_reducible refine (amphoraref10_Id.calls a0_1 true _ A7.out).mono ?_); rintro e w' ⟨rfl, ⟨nd, rfl⟩⟩) | (go_at_call 22; (with_reducible refine (amphoraref10_Id.calls a0_2 false _ A9.out).mono ?_); rintro e w' ⟨rfl, ⟨nd, rfl⟩⟩))
          go_meet
          case rel => exact ⟨_, (false), (by first | rfl | (simp; done) | (simp [*]; done)), H', ⟨by first | omega | exact Nat.le_refl _⟩, ⟨by (with_reducible repeat (first | refine blk_drewN ?_ _ | refine blk_drew ?_ | refine blk_alloc ?_ _)); exact BK193.out⟩, ⟨by repeat (first | (with_reducible first | exact HB.out | apply below_alloc | apply pw_below_drewN | apply below_drew1 | refine below_set ?_ GE193.out) | exact HB.out)⟩⟩
      · replace c8 := Bool.eq_false_iff.mpr c8
        subst c8
        have H1 : (amphoraref10_Fits.j0 k false a0_0 a0_1 a0_2 a0_3 a0_4 a0_5 a0_6 a0_7) = some r := by rw [if_neg (show ¬ (false = true) by decide)] at H; exact H
        clear H
        have H := H1
        clear H1
        have H' := Aside0.mk H
        clear H
        have hcz20_0 : w4.cell? ⟨gb193, 0, none⟩ = some (.string a0_0) := (blk_cell BK193.out 0).trans rfl
        have hcz20_1 : w4.cell? ⟨gb193, 1, none⟩ = some (.int .i64 a0_1) := (blk_cell BK193.out 1).trans rfl
        have hcz20_2 : w4.cell? ⟨gb193, 2, none⟩ = some (.int .i64 a0_2) := (blk_cell BK193.out 2).trans rfl
        have hcz20_3 : w4.cell? ⟨gb193, 3, none⟩ = some (.int .i64 a0_3) := (blk_cell BK193.out 3).trans rfl
        have hcz20_4 : w4.cell? ⟨gb193, 4, none⟩ = some (.int .i64 a0_4) := (blk_cell BK193.out 4).trans rfl
        have hcz20_5 : w4.cell? ⟨gb193, 5, none⟩ = some (.int .i64 a0_5) := (blk_cell BK193.out 5).trans rfl
        have hcz20_6 : w4.cell? ⟨gb193, 6, none⟩ = some (.int .u8 a0_6) := (blk_cell BK193.out 6).trans rfl
        have hcz20_7 : w4.cell? ⟨gb193, 7, none⟩ = some (.string a0_7) := (blk_cell BK193.out 7).trans rfl
        have hfz20_0 := blk_frozen BK193.out 0
        have hfz20_1 := blk_frozen BK193.out 1
        have hfz20_2 := blk_frozen BK193.out 2
        have hfz20_3 := blk_frozen BK193.out 3
        have hfz20_4 := blk_frozen BK193.out 4
        have hfz20_5 := blk_frozen BK193.out 5
        have hfz20_6 := blk_frozen BK193.out 6
        have hfz20_7 := blk_frozen BK193.out 7
        go_wp2_with (first | (go_at_call 22; (with_reducible refine (amphoraref10_Id.calls a0_1 false _ A7.out).mono ?_); rintro e w' ⟨rfl, ⟨nd, rfl⟩⟩))
        go_meet
        case rel => exact ⟨_, (false), (by first | rfl | (simp; done) | (simp [*]; done)), H', ⟨by first | omega | exact Nat.le_refl _⟩, ⟨by (with_reducible repeat (first | refine blk_drewN ?_ _ | refine blk_drew ?_ | refine blk_alloc ?_ _)); exact BK193.out⟩, ⟨by repeat (first | (with_reducible first | exact HB.out | apply below_alloc | apply pw_below_drewN | apply below_drew1 | refine below_set ?_ GE193.out) | exact HB.out)⟩⟩
    · replace c6 := Bool.eq_false_iff.mpr c6
      subst c6
      have H1 : (amphoraref10_Fits.j0 k false a0_0 a0_1 a0_2 a0_3 a0_4 a0_5 a0_6 a0_7) = some r := by rw [if_neg (show ¬ (false = true) by decide)] at H; exact H
      clear H
      have H := H1
      clear H1
      have H' := Aside0.mk H
      clear H
      go_wp2
      go_meet
      case rel => exact ⟨_, (false), (by first | rfl | (simp; done) | (simp [*]; done)), H', ⟨by first | omega | exact Nat.le_refl _⟩, ⟨by (with_reducible repeat (first | refine blk_drewN ?_ _ | refine blk_drew ?_ | refine blk_alloc ?_ _)); exact BK193.out⟩, ⟨by repeat (first | (with_reducible first | exact HB.out | apply below_alloc | apply pw_below_drewN | apply below_drew1 | refine below_set ?_ GE193.out) | exact HB.out)⟩⟩
  case rest =>
    clear HC3
    try clear c1
    try clear p2
    try clear c3
    try clear c6
    try clear c8
    try clear c10
    try clear c12
    try clear c14
    try clear c17
    try clear hcz16_0
    try clear hcz16_1
    try clear hcz16_2
    try clear hcz16_3
    try clear hcz16_4
    try clear hcz16_5
    try clear hcz16_6
    try clear hcz16_7
    try clear hcz17_0
    try clear hcz17_1
    try clear hcz17_2
    try clear hcz17_3
    try clear hcz17_4
    try clear hcz17_5
    try clear hcz17_6
    try clear hcz17_7
    try clear hcz18_0
    try clear hcz18_1
    try clear hcz18_2
    try clear hcz18_3
    try clear hcz18_4
    try clear hcz18_5
    try clear hcz18_6
    try clear hcz18_7
    try clear hcz19_0
    try clear hcz19_1
    try clear hcz19_2
    try clear hcz19_3
    try clear hcz19_4
    try clear hcz19_5
    try clear hcz19_6
    try clear hcz19_7
    try clear hcz20_0
    try clear hcz20_1
    try clear hcz20_2
    try clear hcz20_3
    try clear hcz20_4
    try clear hcz20_5
    try clear hcz20_6
    try clear hcz20_7
    try clear hcz5_0
    try clear hcz5_1
    try clear hcz5_2
    try clear hcz5_3
    try clear hcz5_4
    try clear hcz5_5
    try clear hcz5_6
    try clear hcz5_7
    try clear hfz16_0
    try clear hfz16_1
    try clear hfz16_2
    try clear hfz16_3
    try clear hfz16_4
    try clear hfz16_5
    try clear hfz16_6
    try clear hfz16_7
    try clear hfz17_0
    try clear hfz17_1
    try clear hfz17_2
    try clear hfz17_3
    try clear hfz17_4
    try clear hfz17_5
    try clear hfz17_6
    try clear hfz17_7
    try clear hfz18_0
    try clear hfz18_1
    try clear hfz18_2
    try clear hfz18_3
    try clear hfz18_4
    try clear hfz18_5
    try clear hfz18_6
    try clear hfz18_7
    try clear hfz19_0
    try clear hfz19_1
    try clear hfz19_2
    try clear hfz19_3
    try clear hfz19_4
    try clear hfz19_5
    try clear hfz19_6
    try clear hfz19_7
    try clear hfz20_0
    try clear hfz20_1
    try clear hfz20_2
    try clear hfz20_3
    try clear hfz20_4
    try clear hfz20_5
    try clear hfz20_6
    try clear hfz20_7
    try clear hfz5_0
    try clear hfz5_1
    try clear hfz5_2
    try clear hfz5_3
    try clear hfz5_4
    try clear hfz5_5
    try clear hfz5_6
    try clear hfz5_7
    obtain ⟨kq, x5_2, rfl, HA, HJ2, BK193, HB⟩ := hcut
    cases kq with
    | zero => exact absurd HA.out (by simp [amphoraref10_Fits.j0])
    | succ kj2 =>
      have H := HA.out
      clear HA
      simp only [amphoraref10_Fits.j0] at H
      have HC21 := Aside0.mk H
      clear H
      go_upto_region 3 with (fail)
      go_cut [46] (fun v46 wc => ∃ (kq : Nat) (x46_20 : Bool), v46 = .bool x46_20 ∧ Aside0 (amphoraref10_Fits.j1 kq x5_2 x46_20 a0_0 a0_1 a0_2 a0_3 a0_4 a0_5 a0_6 a0_7 = some r) ∧ Aside0 (kq ≤ kj2) ∧ Aside0 (wc.heap[gb193]? = some (.cells #[.string a0_0, .int .i64 a0_1, .int .i64 a0_2, .int .i64 a0_3, .int .i64 a0_4, .int .i64 a0_5, .int .u8 a0_6, .string a0_7] 26 (0, 0))) ∧ Aside0 (Below w.heap.size w wc))
      case first =>
        have H := HC21.out
        clear HC21
        by_cases c22 : a0_6 = 49
        · rw [if_pos c22] at H
          have c22b0 : (a0_6 == 49) = true := beq_iff_eq.mpr c22
          have c22b1 : (a0_6 != 49) = false := bne_eq_false_iff_eq.mpr c22
          clear c22
          (first | rw [c22b0] | (simp only [i64_w, i32_w]; rw [c22b0]) | skip)
          have H' := Aside0.mk H
          clear H
          have hcz23_0 : wc.cell? ⟨gb193, 0, none⟩ = some (.string a0_0) := (blk_cell BK193.out 0).trans rfl
          have hcz23_1 : wc.cell? ⟨gb193, 1, none⟩ = some (.int .i64 a0_1) := (blk_cell BK193.out 1).trans rfl
          have hcz23_2 : wc.cell? ⟨gb193, 2, none⟩ = some (.int .i64 a0_2) := (blk_cell BK193.out 2).trans rfl
          have hcz23_3 : wc.cell? ⟨gb193, 3, none⟩ = some (.int .i64 a0_3) := (blk_cell BK193.out 3).trans rfl
          have hcz23_4 : wc.cell? ⟨gb193, 4, none⟩ = some (.int .i64 a0_4) := (blk_cell BK193.out 4).trans rfl
          have hcz23_5 : wc.cell? ⟨gb193, 5, none⟩ = some (.int .i64 a0_5) := (blk_cell BK193.out 5).trans rfl
          have hcz23_6 : wc.cell? ⟨gb193, 6, none⟩ = some (.int .u8 a0_6) := (blk_cell BK193.out 6).trans rfl
          have hcz23_7 : wc.cell? ⟨gb193, 7, none⟩ = some (.string a0_7) := (blk_cell BK193.out 7).trans rfl
          have hfz23_0 := blk_frozen BK193.out 0
          have hfz23_1 := blk_frozen BK193.out 1
          have hfz23_2 := blk_frozen BK193.out 2
          have hfz23_3 := blk_frozen BK193.out 3
          have hfz23_4 := blk_frozen BK193.out 4
          have hfz23_5 := blk_frozen BK193.out 5
          have hfz23_6 := blk_frozen BK193.out 6
          have hfz23_7 := blk_frozen BK193.out 7
          go_wp2
          go_meet
          case rel => exact ⟨_, (true), (by first | rfl | (simp; done) | (simp [*]; done)), H', ⟨by have := HJ2.out; first | omega | exact Nat.le_refl _⟩, ⟨by (with_reducible repeat (first | refine blk_drewN ?_ _ | refine blk_drew ?_ | refine blk_alloc ?_ _)); exact BK193.out⟩, ⟨by repeat (first | (with_reducible first | exact HB.out | apply below_alloc | apply pw_below_drewN | apply below_drew1 | refine below_set ?_ GE193.out) | exact HB.out)⟩⟩
        · rw [if_neg c22] at H
          have c22b0 : (a0_6 == 49) = false := beq_eq_false_iff_ne.mpr c22
          have c22b1 : (a0_6 != 49) = true := bne_iff_ne.mpr c22
          (first | rw [c22b0] | (simp only [i64_w, i32_w]; rw [c22b0]) | skip)
          have H' := Aside0.mk H
          clear H
          have hcz24_0 : wc.cell? ⟨gb193, 0, none⟩ = some (.string a0_0) := (blk_cell BK193.out 0).trans rfl
          have hcz24_1 : wc.cell? ⟨gb193, 1, none⟩ = some (.int .i64 a0_1) := (blk_cell BK193.out 1).trans rfl
          have hcz24_2 : wc.cell? ⟨gb193, 2, none⟩ = some (.int .i64 a0_2) := (blk_cell BK193.out 2).trans rfl
          have hcz24_3 : wc.cell? ⟨gb193, 3, none⟩ = some (.int .i64 a0_3) := (blk_cell BK193.out 3).trans rfl
          have hcz24_4 : wc.cell? ⟨gb193, 4, none⟩ = some (.int .i64 a0_4) := (blk_cell BK193.out 4).trans rfl
          have hcz24_5 : wc.cell? ⟨gb193, 5, none⟩ = some (.int .i64 a0_5) := (blk_cell BK193.out 5).trans rfl
          have hcz24_6 : wc.cell? ⟨gb193, 6, none⟩ = some (.int .u8 a0_6) := (blk_cell BK193.out 6).trans rfl
          have hcz24_7 : wc.cell? ⟨gb193, 7, none⟩ = some (.string a0_7) := (blk_cell BK193.out 7).trans rfl
          have hfz24_0 := blk_frozen BK193.out 0
          have hfz24_1 := blk_frozen BK193.out 1
          have hfz24_2 := blk_frozen BK193.out 2
          have hfz24_3 := blk_frozen BK193.out 3
          have hfz24_4 := blk_frozen BK193.out 4
          have hfz24_5 := blk_frozen BK193.out 5
          have hfz24_6 := blk_frozen BK193.out 6
          have hfz24_7 := blk_frozen BK193.out 7
          go_wp2
          go_meet
          case rel => exact ⟨_, ((a0_6 == 50)), (by first | rfl | (simp; done) | (simp [*]; done)), H', ⟨by have := HJ2.out; first | omega | exact Nat.le_refl _⟩, ⟨by (with_reducible repeat (first | refine blk_drewN ?_ _ | refine blk_drew ?_ | refine blk_alloc ?_ _)); exact BK193.out⟩, ⟨by repeat (first | (with_reducible first | exact HB.out | apply below_alloc | apply pw_below_drewN | apply below_drew1 | refine below_set ?_ GE193.out) | exact HB.out)⟩⟩
      case rest =>
        clear HC21
        try clear c1
        try clear c2
        try clear p2
        try clear c3
        try clear c6
        try clear c8
        try clear c10
        try clear c12
        try clear c14
        try clear c17
        try clear c22
        try clear c22b0
        try clear c22b1
        try clear hcz16_0
        try clear hcz16_1
        try clear hcz16_2
        try clear hcz16_3
        try clear hcz16_4
        try clear hcz16_5
        try clear hcz16_6
        try clear hcz16_7
        try clear hcz17_0
        try clear hcz17_1
        try clear hcz17_2
        try clear hcz17_3
        try clear hcz17_4
        try clear hcz17_5
        try clear hcz17_6
        try clear hcz17_7
        try clear hcz18_0
        try clear hcz18_1
        try clear hcz18_2
        try clear hcz18_3
        try clear hcz18_4
        try clear hcz18_5
        try clear hcz18_6
        try clear hcz18_7
        try clear hcz19_0
        try clear hcz19_1
        try clear hcz19_2
        try clear hcz19_3
        try clear hcz19_4
        try clear hcz19_5
        try clear hcz19_6
        try clear hcz19_7
        try clear hcz20_0
        try clear hcz20_1
        try clear hcz20_2
        try clear hcz20_3
        try clear hcz20_4
        try clear hcz20_5
        try clear hcz20_6
        try clear hcz20_7
        try clear hcz23_0
        try clear hcz23_1
        try clear hcz23_2
        try clear hcz23_3
        try clear hcz23_4
        try clear hcz23_5
        try clear hcz23_6
        try clear hcz23_7
        try clear hcz24_0
        try clear hcz24_1
        try clear hcz24_2
        try clear hcz24_3
        try clear hcz24_4
        try clear hcz24_5
        try clear hcz24_6
        try clear hcz24_7
        try clear hcz5_0
        try clear hcz5_1
        try clear hcz5_2
        try clear hcz5_3
        try clear hcz5_4
        try clear hcz5_5
        try clear hcz5_6
        try clear hcz5_7
        try clear hfz16_0
        try clear hfz16_1
        try clear hfz16_2
        try clear hfz16_3
        try clear hfz16_4
        try clear hfz16_5
        try clear hfz16_6
        try clear hfz16_7
        try clear hfz17_0
        try clear hfz17_1
        try clear hfz17_2
        try clear hfz17_3
        try clear hfz17_4
        try clear hfz17_5
        try clear hfz17_6
        try clear hfz17_7
        try clear hfz18_0
        try clear hfz18_1
        try clear hfz18_2
        try clear hfz18_3
        try clear hfz18_4
        try clear hfz18_5
        try clear hfz18_6
        try clear hfz18_7
        try clear hfz19_0
        try clear hfz19_1
        try clear hfz19_2
        try clear hfz19_3
        try clear hfz19_4
        try clear hfz19_5
        try clear hfz19_6
        try clear hfz19_7
        try clear hfz20_0
        try clear hfz20_1
        try clear hfz20_2
        try clear hfz20_3
        try clear hfz20_4
        try clear hfz20_5
        try clear hfz20_6
        try clear hfz20_7
        try clear hfz23_0
        try clear hfz23_1
        try clear hfz23_2
        try clear hfz23_3
        try clear hfz23_4
        try clear hfz23_5
        try clear hfz23_6
        try clear hfz23_7
        try clear hfz24_0
        try clear hfz24_1
        try clear hfz24_2
        try clear hfz24_3
        try clear hfz24_4
        try clear hfz24_5
        try clear hfz24_6
        try clear hfz24_7
        try clear hfz5_0
        try clear hfz5_1
        try clear hfz5_2
        try clear hfz5_3
        try clear hfz5_4
        try clear hfz5_5
        try clear hfz5_6
        try clear hfz5_7
        try clear p2
        obtain ⟨kq, x46_20, rfl, HA, HJ20, BK193, HB⟩ := hcut
        cases kq with
        | zero => exact absurd HA.out (by simp [amphoraref10_Fits.j1])
        | succ kj20 =>
          have H := HA.out
          clear HA
          simp only [amphoraref10_Fits.j1] at H
          by_cases c25 : x46_20 = true
          · subst c25
            have H1 : (if x5_2 = true then ((amphoraref10_Link.f kj20 a0_7).bind fun t202 => (if t202 = true then (some (a0_4 == 0)) else (some false))) else (some false)) = some r := by rw [if_pos rfl] at H; exact H
            clear H
            have H := H1
            clear H1
            by_cases c26 : x5_2 = true
            · subst c26
              have H1 : ((amphoraref10_Link.f kj20 a0_7).bind fun t202 => (if t202 = true then (some (a0_4 == 0)) else (some false))) = some r := by rw [if_pos rfl] at H; exact H
              clear H
              have H := H1
              clear H1
              replace H := Option.bind_eq_some_iff.mp H
              obtain ⟨t202, A270, H⟩ := H
              replace H : (if t202 = true then (some (a0_4 == 0)) else (some false)) = some r := H
              have A27 := Aside0.mk A270
              clear A270
              by_cases c28 : t202 = true
              · subst c28
                have H1 : (some (a0_4 == 0)) = some r := by rw [if_pos rfl] at H; exact H
                clear H
                have H := H1
                clear H1
                obtain rfl := Option.some.inj H
                have hcz29_0 : wc.cell? ⟨gb193, 0, none⟩ = some (.string a0_0) := (blk_cell BK193.out 0).trans rfl
                have hcz29_1 : wc.cell? ⟨gb193, 1, none⟩ = some (.int .i64 a0_1) := (blk_cell BK193.out 1).trans rfl
                have hcz29_2 : wc.cell? ⟨gb193, 2, none⟩ = some (.int .i64 a0_2) := (blk_cell BK193.out 2).trans rfl
                have hcz29_3 : wc.cell? ⟨gb193, 3, none⟩ = some (.int .i64 a0_3) := (blk_cell BK193.out 3).trans rfl
                have hcz29_4 : wc.cell? ⟨gb193, 4, none⟩ = some (.int .i64 a0_4) := (blk_cell BK193.out 4).trans rfl
                have hcz29_5 : wc.cell? ⟨gb193, 5, none⟩ = some (.int .i64 a0_5) := (blk_cell BK193.out 5).trans rfl
                have hcz29_6 : wc.cell? ⟨gb193, 6, none⟩ = some (.int .u8 a0_6) := (blk_cell BK193.out 6).trans rfl
                have hcz29_7 : wc.cell? ⟨gb193, 7, none⟩ = some (.string a0_7) := (blk_cell BK193.out 7).trans rfl
                have hfz29_0 := blk_frozen BK193.out 0
                have hfz29_1 := blk_frozen BK193.out 1
                have hfz29_2 := blk_frozen BK193.out 2
                have hfz29_3 := blk_frozen BK193.out 3
                have hfz29_4 := blk_frozen BK193.out 4
                have hfz29_5 := blk_frozen BK193.out 5
                have hfz29_6 := blk_frozen BK193.out 6
                have hfz29_7 := blk_frozen BK193.out 7
                go_wp2_with (first | (go_at_call 20; (with_reducible refine (amphoraref10_Link.calls kj20 a0_7 true _ A27.out).mono ?_); rintro e w' ⟨rfl, ⟨nd, rfl⟩⟩))
                go_ret
                exact ⟨by first | rfl | (simp [errW_none, errW_some] <;> rfl) | (simp [*, errW_none, errW_some] <;> rfl), by repeat (first | (with_reducible first | exact HB.out | apply below_alloc | apply pw_below_drewN | apply below_drew1 | refine below_set ?_ GE193.out) | exact HB.out)⟩
              · replace c28 := Bool.eq_false_iff.mpr c28
                subst c28
                have H1 : (some false) = some r := by rw [if_neg (show ¬ (false = true) by decide)] at H; exact H
                clear H
                have H := H1
                clear H1
                obtain rfl := Option.some.inj H
                have hcz30_0 : wc.cell? ⟨gb193, 0, none⟩ = some (.string a0_0) := (blk_cell BK193.out 0).trans rfl
                have hcz30_1 : wc.cell? ⟨gb193, 1, none⟩ = some (.int .i64 a0_1) := (blk_cell BK193.out 1).trans rfl
                have hcz30_2 : wc.cell? ⟨gb193, 2, none⟩ = some (.int .i64 a0_2) := (blk_cell BK193.out 2).trans rfl
                have hcz30_3 : wc.cell? ⟨gb193, 3, none⟩ = some (.int .i64 a0_3) := (blk_cell BK193.out 3).trans rfl
                have hcz30_4 : wc.cell? ⟨gb193, 4, none⟩ = some (.int .i64 a0_4) := (blk_cell BK193.out 4).trans rfl
                have hcz30_5 : wc.cell? ⟨gb193, 5, none⟩ = some (.int .i64 a0_5) := (blk_cell BK193.out 5).trans rfl
                have hcz30_6 : wc.cell? ⟨gb193, 6, none⟩ = some (.int .u8 a0_6) := (blk_cell BK193.out 6).trans rfl
                have hcz30_7 : wc.cell? ⟨gb193, 7, none⟩ = some (.string a0_7) := (blk_cell BK193.out 7).trans rfl
                have hfz30_0 := blk_frozen BK193.out 0
                have hfz30_1 := blk_frozen BK193.out 1
                have hfz30_2 := blk_frozen BK193.out 2
                have hfz30_3 := blk_frozen BK193.out 3
                have hfz30_4 := blk_frozen BK193.out 4
                have hfz30_5 := blk_frozen BK193.out 5
                have hfz30_6 := blk_frozen BK193.out 6
                have hfz30_7 := blk_frozen BK193.out 7
                go_wp2_with (first | (go_at_call 20; (with_reducible refine (amphoraref10_Link.calls kj20 a0_7 false _ A27.out).mono ?_); rintro e w' ⟨rfl, ⟨nd, rfl⟩⟩))
                go_ret
                exact ⟨by first | rfl | (simp [errW_none, errW_some] <;> rfl) | (simp [*, errW_none, errW_some] <;> rfl), by repeat (first | (with_reducible first | exact HB.out | apply below_alloc | apply pw_below_drewN | apply below_drew1 | refine below_set ?_ GE193.out) | exact HB.out)⟩
            · replace c26 := Bool.eq_false_iff.mpr c26
              subst c26
              have H1 : (some false) = some r := by rw [if_neg (show ¬ (false = true) by decide)] at H; exact H
              clear H
              have H := H1
              clear H1
              obtain rfl := Option.some.inj H
              go_wp2
              go_ret
              exact ⟨by first | rfl | (simp [errW_none, errW_some] <;> rfl) | (simp [*, errW_none, errW_some] <;> rfl), by repeat (first | (with_reducible first | exact HB.out | apply below_alloc | apply pw_below_drewN | apply below_drew1 | refine below_set ?_ GE193.out) | exact HB.out)⟩
          · replace c25 := Bool.eq_false_iff.mpr c25
            subst c25
            have H1 : (if a0_6 = 48 then (if x5_2 = true then (if a0_7.toList = ([] : List UInt8) then (if a0_4 = 0 then (some true) else (some (a0_6 != 53))) else (some false)) else (some false)) else (if a0_6 = 120 then (if x5_2 = true then (if a0_7.toList = ([] : List UInt8) then (if a0_4 = 0 then (some true) else (some (a0_6 != 53))) else (some false)) else (some false)) else (if a0_6 = 53 then (if x5_2 = true then (if a0_7.toList = ([] : List UInt8) then (if a0_4 = 0 then (some true) else (some (a0_6 != 53))) else (some false)) else (some false)) else (some false)))) = some r := by rw [if_neg (show ¬ (false = true) by decide)] at H; exact H
            clear H
            have H := H1
            clear H1
            by_cases c31 : a0_6 = 48
            · rw [if_pos c31] at H
              have c31b0 : (a0_6 == 48) = true := beq_iff_eq.mpr c31
              have c31b1 : (a0_6 != 48) = false := bne_eq_false_iff_eq.mpr c31
              clear c31
              by_cases c32 : x5_2 = true
              · subst c32
                have H1 : (if a0_7.toList = ([] : List UInt8) then (if a0_4 = 0 then (some true) else (some (a0_6 != 53))) else (some false)) = some r := by rw [if_pos rfl] at H; exact H
                clear H
                have H := H1
                clear H1
                by_cases c33 : a0_7.toList = ([] : List UInt8)
                · rw [if_pos c33] at H
                  have c33b0 : (a0_7.toList == ([] : List UInt8)) = true := beq_iff_eq.mpr c33
                  have c33b1 : (a0_7.toList != ([] : List UInt8)) = false := bne_eq_false_iff_eq.mpr c33
                  have c33b2 : a0_7.toList.isEmpty = true := List.isEmpty_iff.2 c33
                  clear c33
                  (try rw [c33b2])
                  (try simp only [Bool.not_true, Bool.not_false])
                  by_cases c34 : a0_4 = 0
                  · rw [if_pos c34] at H
                    have c34b0 : (a0_4 == 0) = true := beq_iff_eq.mpr c34
                    have c34b1 : (a0_4 != 0) = false := bne_eq_false_iff_eq.mpr c34
                    clear c34
                    obtain rfl := Option.some.inj H
                    have hcz35_0 : wc.cell? ⟨gb193, 0, none⟩ = some (.string a0_0) := (blk_cell BK193.out 0).trans rfl
                    have hcz35_1 : wc.cell? ⟨gb193, 1, none⟩ = some (.int .i64 a0_1) := (blk_cell BK193.out 1).trans rfl
                    have hcz35_2 : wc.cell? ⟨gb193, 2, none⟩ = some (.int .i64 a0_2) := (blk_cell BK193.out 2).trans rfl
                    have hcz35_3 : wc.cell? ⟨gb193, 3, none⟩ = some (.int .i64 a0_3) := (blk_cell BK193.out 3).trans rfl
                    have hcz35_4 : wc.cell? ⟨gb193, 4, none⟩ = some (.int .i64 a0_4) := (blk_cell BK193.out 4).trans rfl
                    have hcz35_5 : wc.cell? ⟨gb193, 5, none⟩ = some (.int .i64 a0_5) := (blk_cell BK193.out 5).trans rfl
                    have hcz35_6 : wc.cell? ⟨gb193, 6, none⟩ = some (.int .u8 a0_6) := (blk_cell BK193.out 6).trans rfl
                    have hcz35_7 : wc.cell? ⟨gb193, 7, none⟩ = some (.string a0_7) := (blk_cell BK193.out 7).trans rfl
                    have hfz35_0 := blk_frozen BK193.out 0
                    have hfz35_1 := blk_frozen BK193.out 1
                    have hfz35_2 := blk_frozen BK193.out 2
                    have hfz35_3 := blk_frozen BK193.out 3
                    have hfz35_4 := blk_frozen BK193.out 4
                    have hfz35_5 := blk_frozen BK193.out 5
                    have hfz35_6 := blk_frozen BK193.out 6
                    have hfz35_7 := blk_frozen BK193.out 7
                    go_wp2
                    go_ret
                    exact ⟨by first | rfl | (simp [errW_none, errW_some] <;> rfl) | (simp [*, errW_none, errW_some] <;> rfl), by repeat (first | (with_reducible first | exact HB.out | apply below_alloc | apply pw_below_drewN | apply below_drew1 | refine below_set ?_ GE193.out) | exact HB.out)⟩
                  · rw [if_neg c34] at H
                    have c34b0 : (a0_4 == 0) = false := beq_eq_false_iff_ne.mpr c34
                    have c34b1 : (a0_4 != 0) = true := bne_iff_ne.mpr c34
                    obtain rfl := Option.some.inj H
                    have hcz36_0 : wc.cell? ⟨gb193, 0, none⟩ = some (.string a0_0) := (blk_cell BK193.out 0).trans rfl
                    have hcz36_1 : wc.cell? ⟨gb193, 1, none⟩ = some (.int .i64 a0_1) := (blk_cell BK193.out 1).trans rfl
                    have hcz36_2 : wc.cell? ⟨gb193, 2, none⟩ = some (.int .i64 a0_2) := (blk_cell BK193.out 2).trans rfl
                    have hcz36_3 : wc.cell? ⟨gb193, 3, none⟩ = some (.int .i64 a0_3) := (blk_cell BK193.out 3).trans rfl
                    have hcz36_4 : wc.cell? ⟨gb193, 4, none⟩ = some (.int .i64 a0_4) := (blk_cell BK193.out 4).trans rfl
                    have hcz36_5 : wc.cell? ⟨gb193, 5, none⟩ = some (.int .i64 a0_5) := (blk_cell BK193.out 5).trans rfl
                    have hcz36_6 : wc.cell? ⟨gb193, 6, none⟩ = some (.int .u8 a0_6) := (blk_cell BK193.out 6).trans rfl
                    have hcz36_7 : wc.cell? ⟨gb193, 7, none⟩ = some (.string a0_7) := (blk_cell BK193.out 7).trans rfl
                    have hfz36_0 := blk_frozen BK193.out 0
                    have hfz36_1 := blk_frozen BK193.out 1
                    have hfz36_2 := blk_frozen BK193.out 2
                    have hfz36_3 := blk_frozen BK193.out 3
                    have hfz36_4 := blk_frozen BK193.out 4
                    have hfz36_5 := blk_frozen BK193.out 5
                    have hfz36_6 := blk_frozen BK193.out 6
                    have hfz36_7 := blk_frozen BK193.out 7
                    go_wp2
                    go_ret
                    exact ⟨by first | rfl | (simp [errW_none, errW_some] <;> rfl) | (simp [*, errW_none, errW_some] <;> rfl), by repeat (first | (with_reducible first | exact HB.out | apply below_alloc | apply pw_below_drewN | apply below_drew1 | refine below_set ?_ GE193.out) | exact HB.out)⟩
                · rw [if_neg c33] at H
                  have c33b0 : (a0_7.toList == ([] : List UInt8)) = false := beq_eq_false_iff_ne.mpr c33
                  have c33b1 : (a0_7.toList != ([] : List UInt8)) = true := bne_iff_ne.mpr c33
                  have c33b2 : a0_7.toList.isEmpty = false := Bool.eq_false_iff.2 (fun h_ => c33 (List.isEmpty_iff.1 h_))
                  (try rw [c33b2])
                  (try simp only [Bool.not_true, Bool.not_false])
                  obtain rfl := Option.some.inj H
                  have hcz37_0 : wc.cell? ⟨gb193, 0, none⟩ = some (.string a0_0) := (blk_cell BK193.out 0).trans rfl
                  have hcz37_1 : wc.cell? ⟨gb193, 1, none⟩ = some (.int .i64 a0_1) := (blk_cell BK193.out 1).trans rfl
                  have hcz37_2 : wc.cell? ⟨gb193, 2, none⟩ = some (.int .i64 a0_2) := (blk_cell BK193.out 2).trans rfl
                  have hcz37_3 : wc.cell? ⟨gb193, 3, none⟩ = some (.int .i64 a0_3) := (blk_cell BK193.out 3).trans rfl
                  have hcz37_4 : wc.cell? ⟨gb193, 4, none⟩ = some (.int .i64 a0_4) := (blk_cell BK193.out 4).trans rfl
                  have hcz37_5 : wc.cell? ⟨gb193, 5, none⟩ = some (.int .i64 a0_5) := (blk_cell BK193.out 5).trans rfl
                  have hcz37_6 : wc.cell? ⟨gb193, 6, none⟩ = some (.int .u8 a0_6) := (blk_cell BK193.out 6).trans rfl
                  have hcz37_7 : wc.cell? ⟨gb193, 7, none⟩ = some (.string a0_7) := (blk_cell BK193.out 7).trans rfl
                  have hfz37_0 := blk_frozen BK193.out 0
                  have hfz37_1 := blk_frozen BK193.out 1
                  have hfz37_2 := blk_frozen BK193.out 2
                  have hfz37_3 := blk_frozen BK193.out 3
                  have hfz37_4 := blk_frozen BK193.out 4
                  have hfz37_5 := blk_frozen BK193.out 5
                  have hfz37_6 := blk_frozen BK193.out 6
                  have hfz37_7 := blk_frozen BK193.out 7
                  go_wp2
                  go_ret
                  exact ⟨by first | rfl | (simp [errW_none, errW_some] <;> rfl) | (simp [*, errW_none, errW_some] <;> rfl), by repeat (first | (with_reducible first | exact HB.out | apply below_alloc | apply pw_below_drewN | apply below_drew1 | refine below_set ?_ GE193.out) | exact HB.out)⟩
              · replace c32 := Bool.eq_false_iff.mpr c32
                subst c32
                have H1 : (some false) = some r := by rw [if_neg (show ¬ (false = true) by decide)] at H; exact H
                clear H
                have H := H1
                clear H1
                obtain rfl := Option.some.inj H
                have hcz38_0 : wc.cell? ⟨gb193, 0, none⟩ = some (.string a0_0) := (blk_cell BK193.out 0).trans rfl
                have hcz38_1 : wc.cell? ⟨gb193, 1, none⟩ = some (.int .i64 a0_1) := (blk_cell BK193.out 1).trans rfl
                have hcz38_2 : wc.cell? ⟨gb193, 2, none⟩ = some (.int .i64 a0_2) := (blk_cell BK193.out 2).trans rfl
                have hcz38_3 : wc.cell? ⟨gb193, 3, none⟩ = some (.int .i64 a0_3) := (blk_cell BK193.out 3).trans rfl
                have hcz38_4 : wc.cell? ⟨gb193, 4, none⟩ = some (.int .i64 a0_4) := (blk_cell BK193.out 4).trans rfl
                have hcz38_5 : wc.cell? ⟨gb193, 5, none⟩ = some (.int .i64 a0_5) := (blk_cell BK193.out 5).trans rfl
                have hcz38_6 : wc.cell? ⟨gb193, 6, none⟩ = some (.int .u8 a0_6) := (blk_cell BK193.out 6).trans rfl
                have hcz38_7 : wc.cell? ⟨gb193, 7, none⟩ = some (.string a0_7) := (blk_cell BK193.out 7).trans rfl
                have hfz38_0 := blk_frozen BK193.out 0
                have hfz38_1 := blk_frozen BK193.out 1
                have hfz38_2 := blk_frozen BK193.out 2
                have hfz38_3 := blk_frozen BK193.out 3
                have hfz38_4 := blk_frozen BK193.out 4
                have hfz38_5 := blk_frozen BK193.out 5
                have hfz38_6 := blk_frozen BK193.out 6
                have hfz38_7 := blk_frozen BK193.out 7
                go_wp2
                go_ret
                exact ⟨by first | rfl | (simp [errW_none, errW_some] <;> rfl) | (simp [*, errW_none, errW_some] <;> rfl), by repeat (first | (with_reducible first | exact HB.out | apply below_alloc | apply pw_below_drewN | apply below_drew1 | refine below_set ?_ GE193.out) | exact HB.out)⟩
            · rw [if_neg c31] at H
              have c31b0 : (a0_6 == 48) = false := beq_eq_false_iff_ne.mpr c31
              have c31b1 : (a0_6 != 48) = true := bne_iff_ne.mpr c31
              by_cases c39 : a0_6 = 120
              · rw [if_pos c39] at H
                have c39b0 : (a0_6 == 120) = true := beq_iff_eq.mpr c39
                have c39b1 : (a0_6 != 120) = false := bne_eq_false_iff_eq.mpr c39
                clear c39
                by_cases c40 : x5_2 = true
                · subst c40
                  have H1 : (if a0_7.toList = ([] : List UInt8) then (if a0_4 = 0 then (some true) else (some (a0_6 != 53))) else (some false)) = some r := by rw [if_pos rfl] at H; exact H
                  clear H
                  have H := H1
                  clear H1
                  by_cases c41 : a0_7.toList = ([] : List UInt8)
                  · rw [if_pos c41] at H
                    have c41b0 : (a0_7.toList == ([] : List UInt8)) = true := beq_iff_eq.mpr c41
                    have c41b1 : (a0_7.toList != ([] : List UInt8)) = false := bne_eq_false_iff_eq.mpr c41
                    have c41b2 : a0_7.toList.isEmpty = true := List.isEmpty_iff.2 c41
                    clear c41
                    (try rw [c41b2])
                    (try simp only [Bool.not_true, Bool.not_false])
                    by_cases c42 : a0_4 = 0
                    · rw [if_pos c42] at H
                      have c42b0 : (a0_4 == 0) = true := beq_iff_eq.mpr c42
                      have c42b1 : (a0_4 != 0) = false := bne_eq_false_iff_eq.mpr c42
                      clear c42
                      obtain rfl := Option.some.inj H
                      have hcz43_0 : wc.cell? ⟨gb193, 0, none⟩ = some (.string a0_0) := (blk_cell BK193.out 0).trans rfl
                      have hcz43_1 : wc.cell? ⟨gb193, 1, none⟩ = some (.int .i64 a0_1) := (blk_cell BK193.out 1).trans rfl
                      have hcz43_2 : wc.cell? ⟨gb193, 2, none⟩ = some (.int .i64 a0_2) := (blk_cell BK193.out 2).trans rfl
                      have hcz43_3 : wc.cell? ⟨gb193, 3, none⟩ = some (.int .i64 a0_3) := (blk_cell BK193.out 3).trans rfl
                      have hcz43_4 : wc.cell? ⟨gb193, 4, none⟩ = some (.int .i64 a0_4) := (blk_cell BK193.out 4).trans rfl
                      have hcz43_5 : wc.cell? ⟨gb193, 5, none⟩ = some (.int .i64 a0_5) := (blk_cell BK193.out 5).trans rfl
                      have hcz43_6 : wc.cell? ⟨gb193, 6, none⟩ = some (.int .u8 a0_6) := (blk_cell BK193.out 6).trans rfl
                      have hcz43_7 : wc.cell? ⟨gb193, 7, none⟩ = some (.string a0_7) := (blk_cell BK193.out 7).trans rfl
                      have hfz43_0 := blk_frozen BK193.out 0
                      have hfz43_1 := blk_frozen BK193.out 1
                      have hfz43_2 := blk_frozen BK193.out 2
                      have hfz43_3 := blk_frozen BK193.out 3
                      have hfz43_4 := blk_frozen BK193.out 4
                      have hfz43_5 := blk_frozen BK193.out 5
                      have hfz43_6 := blk_frozen BK193.out 6
                      have hfz43_7 := blk_frozen BK193.out 7
                      go_wp2
                      go_ret
                      exact ⟨by first | rfl | (simp [errW_none, errW_some] <;> rfl) | (simp [*, errW_none, errW_some] <;> rfl), by repeat (first | (with_reducible first | exact HB.out | apply below_alloc | apply pw_below_drewN | apply below_drew1 | refine below_set ?_ GE193.out) | exact HB.out)⟩
                    · rw [if_neg c42] at H
                      have c42b0 : (a0_4 == 0) = false := beq_eq_false_iff_ne.mpr c42
                      have c42b1 : (a0_4 != 0) = true := bne_iff_ne.mpr c42
                      obtain rfl := Option.some.inj H
                      have hcz44_0 : wc.cell? ⟨gb193, 0, none⟩ = some (.string a0_0) := (blk_cell BK193.out 0).trans rfl
                      have hcz44_1 : wc.cell? ⟨gb193, 1, none⟩ = some (.int .i64 a0_1) := (blk_cell BK193.out 1).trans rfl
                      have hcz44_2 : wc.cell? ⟨gb193, 2, none⟩ = some (.int .i64 a0_2) := (blk_cell BK193.out 2).trans rfl
                      have hcz44_3 : wc.cell? ⟨gb193, 3, none⟩ = some (.int .i64 a0_3) := (blk_cell BK193.out 3).trans rfl
                      have hcz44_4 : wc.cell? ⟨gb193, 4, none⟩ = some (.int .i64 a0_4) := (blk_cell BK193.out 4).trans rfl
                      have hcz44_5 : wc.cell? ⟨gb193, 5, none⟩ = some (.int .i64 a0_5) := (blk_cell BK193.out 5).trans rfl
                      have hcz44_6 : wc.cell? ⟨gb193, 6, none⟩ = some (.int .u8 a0_6) := (blk_cell BK193.out 6).trans rfl
                      have hcz44_7 : wc.cell? ⟨gb193, 7, none⟩ = some (.string a0_7) := (blk_cell BK193.out 7).trans rfl
                      have hfz44_0 := blk_frozen BK193.out 0
                      have hfz44_1 := blk_frozen BK193.out 1
                      have hfz44_2 := blk_frozen BK193.out 2
                      have hfz44_3 := blk_frozen BK193.out 3
                      have hfz44_4 := blk_frozen BK193.out 4
                      have hfz44_5 := blk_frozen BK193.out 5
                      have hfz44_6 := blk_frozen BK193.out 6
                      have hfz44_7 := blk_frozen BK193.out 7
                      go_wp2
                      go_ret
                      exact ⟨by first | rfl | (simp [errW_none, errW_some] <;> rfl) | (simp [*, errW_none, errW_some] <;> rfl), by repeat (first | (with_reducible first | exact HB.out | apply below_alloc | apply pw_below_drewN | apply below_drew1 | refine below_set ?_ GE193.out) | exact HB.out)⟩
                  · rw [if_neg c41] at H
                    have c41b0 : (a0_7.toList == ([] : List UInt8)) = false := beq_eq_false_iff_ne.mpr c41
                    have c41b1 : (a0_7.toList != ([] : List UInt8)) = true := bne_iff_ne.mpr c41
                    have c41b2 : a0_7.toList.isEmpty = false := Bool.eq_false_iff.2 (fun h_ => c41 (List.isEmpty_iff.1 h_))
                    (try rw [c41b2])
                    (try simp only [Bool.not_true, Bool.not_false])
                    obtain rfl := Option.some.inj H
                    have hcz45_0 : wc.cell? ⟨gb193, 0, none⟩ = some (.string a0_0) := (blk_cell BK193.out 0).trans rfl
                    have hcz45_1 : wc.cell? ⟨gb193, 1, none⟩ = some (.int .i64 a0_1) := (blk_cell BK193.out 1).trans rfl
                    have hcz45_2 : wc.cell? ⟨gb193, 2, none⟩ = some (.int .i64 a0_2) := (blk_cell BK193.out 2).trans rfl
                    have hcz45_3 : wc.cell? ⟨gb193, 3, none⟩ = some (.int .i64 a0_3) := (blk_cell BK193.out 3).trans rfl
                    have hcz45_4 : wc.cell? ⟨gb193, 4, none⟩ = some (.int .i64 a0_4) := (blk_cell BK193.out 4).trans rfl
                    have hcz45_5 : wc.cell? ⟨gb193, 5, none⟩ = some (.int .i64 a0_5) := (blk_cell BK193.out 5).trans rfl
                    have hcz45_6 : wc.cell? ⟨gb193, 6, none⟩ = some (.int .u8 a0_6) := (blk_cell BK193.out 6).trans rfl
                    have hcz45_7 : wc.cell? ⟨gb193, 7, none⟩ = some (.string a0_7) := (blk_cell BK193.out 7).trans rfl
                    have hfz45_0 := blk_frozen BK193.out 0
                    have hfz45_1 := blk_frozen BK193.out 1
                    have hfz45_2 := blk_frozen BK193.out 2
                    have hfz45_3 := blk_frozen BK193.out 3
                    have hfz45_4 := blk_frozen BK193.out 4
                    have hfz45_5 := blk_frozen BK193.out 5
                    have hfz45_6 := blk_frozen BK193.out 6
                    have hfz45_7 := blk_frozen BK193.out 7
                    go_wp2
                    go_ret
                    exact ⟨by first | rfl | (simp [errW_none, errW_some] <;> rfl) | (simp [*, errW_none, errW_some] <;> rfl), by repeat (first | (with_reducible first | exact HB.out | apply below_alloc | apply pw_below_drewN | apply below_drew1 | refine below_set ?_ GE193.out) | exact HB.out)⟩
                · replace c40 := Bool.eq_false_iff.mpr c40
                  subst c40
                  have H1 : (some false) = some r := by rw [if_neg (show ¬ (false = true) by decide)] at H; exact H
                  clear H
                  have H := H1
                  clear H1
                  obtain rfl := Option.some.inj H
                  have hcz46_0 : wc.cell? ⟨gb193, 0, none⟩ = some (.string a0_0) := (blk_cell BK193.out 0).trans rfl
                  have hcz46_1 : wc.cell? ⟨gb193, 1, none⟩ = some (.int .i64 a0_1) := (blk_cell BK193.out 1).trans rfl
                  have hcz46_2 : wc.cell? ⟨gb193, 2, none⟩ = some (.int .i64 a0_2) := (blk_cell BK193.out 2).trans rfl
                  have hcz46_3 : wc.cell? ⟨gb193, 3, none⟩ = some (.int .i64 a0_3) := (blk_cell BK193.out 3).trans rfl
                  have hcz46_4 : wc.cell? ⟨gb193, 4, none⟩ = some (.int .i64 a0_4) := (blk_cell BK193.out 4).trans rfl
                  have hcz46_5 : wc.cell? ⟨gb193, 5, none⟩ = some (.int .i64 a0_5) := (blk_cell BK193.out 5).trans rfl
                  have hcz46_6 : wc.cell? ⟨gb193, 6, none⟩ = some (.int .u8 a0_6) := (blk_cell BK193.out 6).trans rfl
                  have hcz46_7 : wc.cell? ⟨gb193, 7, none⟩ = some (.string a0_7) := (blk_cell BK193.out 7).trans rfl
                  have hfz46_0 := blk_frozen BK193.out 0
                  have hfz46_1 := blk_frozen BK193.out 1
                  have hfz46_2 := blk_frozen BK193.out 2
                  have hfz46_3 := blk_frozen BK193.out 3
                  have hfz46_4 := blk_frozen BK193.out 4
                  have hfz46_5 := blk_frozen BK193.out 5
                  have hfz46_6 := blk_frozen BK193.out 6
                  have hfz46_7 := blk_frozen BK193.out 7
                  go_wp2
                  go_ret
                  exact ⟨by first | rfl | (simp [errW_none, errW_some] <;> rfl) | (simp [*, errW_none, errW_some] <;> rfl), by repeat (first | (with_reducible first | exact HB.out | apply below_alloc | apply pw_below_drewN | apply below_drew1 | refine below_set ?_ GE193.out) | exact HB.out)⟩
              · rw [if_neg c39] at H
                have c39b0 : (a0_6 == 120) = false := beq_eq_false_iff_ne.mpr c39
                have c39b1 : (a0_6 != 120) = true := bne_iff_ne.mpr c39
                by_cases c47 : a0_6 = 53
                · rw [if_pos c47] at H
                  have c47b0 : (a0_6 == 53) = true := beq_iff_eq.mpr c47
                  have c47b1 : (a0_6 != 53) = false := bne_eq_false_iff_eq.mpr c47
                  clear c47
                  by_cases c48 : x5_2 = true
                  · subst c48
                    have H1 : (if a0_7.toList = ([] : List UInt8) then (if a0_4 = 0 then (some true) else (some (a0_6 != 53))) else (some false)) = some r := by rw [if_pos rfl] at H; exact H
                    clear H
                    have H := H1
                    clear H1
                    by_cases c49 : a0_7.toList = ([] : List UInt8)
                    · rw [if_pos c49] at H
                      have c49b0 : (a0_7.toList == ([] : List UInt8)) = true := beq_iff_eq.mpr c49
                      have c49b1 : (a0_7.toList != ([] : List UInt8)) = false := bne_eq_false_iff_eq.mpr c49
                      have c49b2 : a0_7.toList.isEmpty = true := List.isEmpty_iff.2 c49
                      clear c49
                      (try rw [c49b2])
                      (try simp only [Bool.not_true, Bool.not_false])
                      by_cases c50 : a0_4 = 0
                      · rw [if_pos c50] at H
                        have c50b0 : (a0_4 == 0) = true := beq_iff_eq.mpr c50
                        have c50b1 : (a0_4 != 0) = false := bne_eq_false_iff_eq.mpr c50
                        clear c50
                        obtain rfl := Option.some.inj H
                        have hcz51_0 : wc.cell? ⟨gb193, 0, none⟩ = some (.string a0_0) := (blk_cell BK193.out 0).trans rfl
                        have hcz51_1 : wc.cell? ⟨gb193, 1, none⟩ = some (.int .i64 a0_1) := (blk_cell BK193.out 1).trans rfl
                        have hcz51_2 : wc.cell? ⟨gb193, 2, none⟩ = some (.int .i64 a0_2) := (blk_cell BK193.out 2).trans rfl
                        have hcz51_3 : wc.cell? ⟨gb193, 3, none⟩ = some (.int .i64 a0_3) := (blk_cell BK193.out 3).trans rfl
                        have hcz51_4 : wc.cell? ⟨gb193, 4, none⟩ = some (.int .i64 a0_4) := (blk_cell BK193.out 4).trans rfl
                        have hcz51_5 : wc.cell? ⟨gb193, 5, none⟩ = some (.int .i64 a0_5) := (blk_cell BK193.out 5).trans rfl
                        have hcz51_6 : wc.cell? ⟨gb193, 6, none⟩ = some (.int .u8 a0_6) := (blk_cell BK193.out 6).trans rfl
                        have hcz51_7 : wc.cell? ⟨gb193, 7, none⟩ = some (.string a0_7) := (blk_cell BK193.out 7).trans rfl
                        have hfz51_0 := blk_frozen BK193.out 0
                        have hfz51_1 := blk_frozen BK193.out 1
                        have hfz51_2 := blk_frozen BK193.out 2
                        have hfz51_3 := blk_frozen BK193.out 3
                        have hfz51_4 := blk_frozen BK193.out 4
                        have hfz51_5 := blk_frozen BK193.out 5
                        have hfz51_6 := blk_frozen BK193.out 6
                        have hfz51_7 := blk_frozen BK193.out 7
                        go_wp2
                        go_ret
                        exact ⟨by first | rfl | (simp [errW_none, errW_some] <;> rfl) | (simp [*, errW_none, errW_some] <;> rfl), by repeat (first | (with_reducible first | exact HB.out | apply below_alloc | apply pw_below_drewN | apply below_drew1 | refine below_set ?_ GE193.out) | exact HB.out)⟩
                      · rw [if_neg c50] at H
                        have c50b0 : (a0_4 == 0) = false := beq_eq_false_iff_ne.mpr c50
                        have c50b1 : (a0_4 != 0) = true := bne_iff_ne.mpr c50
                        obtain rfl := Option.some.inj H
                        have hcz52_0 : wc.cell? ⟨gb193, 0, none⟩ = some (.string a0_0) := (blk_cell BK193.out 0).trans rfl
                        have hcz52_1 : wc.cell? ⟨gb193, 1, none⟩ = some (.int .i64 a0_1) := (blk_cell BK193.out 1).trans rfl
                        have hcz52_2 : wc.cell? ⟨gb193, 2, none⟩ = some (.int .i64 a0_2) := (blk_cell BK193.out 2).trans rfl
                        have hcz52_3 : wc.cell? ⟨gb193, 3, none⟩ = some (.int .i64 a0_3) := (blk_cell BK193.out 3).trans rfl
                        have hcz52_4 : wc.cell? ⟨gb193, 4, none⟩ = some (.int .i64 a0_4) := (blk_cell BK193.out 4).trans rfl
                        have hcz52_5 : wc.cell? ⟨gb193, 5, none⟩ = some (.int .i64 a0_5) := (blk_cell BK193.out 5).trans rfl
                        have hcz52_6 : wc.cell? ⟨gb193, 6, none⟩ = some (.int .u8 a0_6) := (blk_cell BK193.out 6).trans rfl
                        have hcz52_7 : wc.cell? ⟨gb193, 7, none⟩ = some (.string a0_7) := (blk_cell BK193.out 7).trans rfl
                        have hfz52_0 := blk_frozen BK193.out 0
                        have hfz52_1 := blk_frozen BK193.out 1
                        have hfz52_2 := blk_frozen BK193.out 2
                        have hfz52_3 := blk_frozen BK193.out 3
                        have hfz52_4 := blk_frozen BK193.out 4
                        have hfz52_5 := blk_frozen BK193.out 5
                        have hfz52_6 := blk_frozen BK193.out 6
                        have hfz52_7 := blk_frozen BK193.out 7
                        go_wp2
                        go_ret
                        exact ⟨by first | rfl | (simp [errW_none, errW_some] <;> rfl) | (simp [*, errW_none, errW_some] <;> rfl), by repeat (first | (with_reducible first | exact HB.out | apply below_alloc | apply pw_below_drewN | apply below_drew1 | refine below_set ?_ GE193.out) | exact HB.out)⟩
                    · rw [if_neg c49] at H
                      have c49b0 : (a0_7.toList == ([] : List UInt8)) = false := beq_eq_false_iff_ne.mpr c49
                      have c49b1 : (a0_7.toList != ([] : List UInt8)) = true := bne_iff_ne.mpr c49
                      have c49b2 : a0_7.toList.isEmpty = false := Bool.eq_false_iff.2 (fun h_ => c49 (List.isEmpty_iff.1 h_))
                      (try rw [c49b2])
                      (try simp only [Bool.not_true, Bool.not_false])
                      obtain rfl := Option.some.inj H
                      have hcz53_0 : wc.cell? ⟨gb193, 0, none⟩ = some (.string a0_0) := (blk_cell BK193.out 0).trans rfl
                      have hcz53_1 : wc.cell? ⟨gb193, 1, none⟩ = some (.int .i64 a0_1) := (blk_cell BK193.out 1).trans rfl
                      have hcz53_2 : wc.cell? ⟨gb193, 2, none⟩ = some (.int .i64 a0_2) := (blk_cell BK193.out 2).trans rfl
                      have hcz53_3 : wc.cell? ⟨gb193, 3, none⟩ = some (.int .i64 a0_3) := (blk_cell BK193.out 3).trans rfl
                      have hcz53_4 : wc.cell? ⟨gb193, 4, none⟩ = some (.int .i64 a0_4) := (blk_cell BK193.out 4).trans rfl
                      have hcz53_5 : wc.cell? ⟨gb193, 5, none⟩ = some (.int .i64 a0_5) := (blk_cell BK193.out 5).trans rfl
                      have hcz53_6 : wc.cell? ⟨gb193, 6, none⟩ = some (.int .u8 a0_6) := (blk_cell BK193.out 6).trans rfl
                      have hcz53_7 : wc.cell? ⟨gb193, 7, none⟩ = some (.string a0_7) := (blk_cell BK193.out 7).trans rfl
                      have hfz53_0 := blk_frozen BK193.out 0
                      have hfz53_1 := blk_frozen BK193.out 1
                      have hfz53_2 := blk_frozen BK193.out 2
                      have hfz53_3 := blk_frozen BK193.out 3
                      have hfz53_4 := blk_frozen BK193.out 4
                      have hfz53_5 := blk_frozen BK193.out 5
                      have hfz53_6 := blk_frozen BK193.out 6
                      have hfz53_7 := blk_frozen BK193.out 7
                      go_wp2
                      go_ret
                      exact ⟨by first | rfl | (simp [errW_none, errW_some] <;> rfl) | (simp [*, errW_none, errW_some] <;> rfl), by repeat (first | (with_reducible first | exact HB.out | apply below_alloc | apply pw_below_drewN | apply below_drew1 | refine below_set ?_ GE193.out) | exact HB.out)⟩
                  · replace c48 := Bool.eq_false_iff.mpr c48
                    subst c48
                    have H1 : (some false) = some r := by rw [if_neg (show ¬ (false = true) by decide)] at H; exact H
                    clear H
                    have H := H1
                    clear H1
                    obtain rfl := Option.some.inj H
                    have hcz54_0 : wc.cell? ⟨gb193, 0, none⟩ = some (.string a0_0) := (blk_cell BK193.out 0).trans rfl
                    have hcz54_1 : wc.cell? ⟨gb193, 1, none⟩ = some (.int .i64 a0_1) := (blk_cell BK193.out 1).trans rfl
                    have hcz54_2 : wc.cell? ⟨gb193, 2, none⟩ = some (.int .i64 a0_2) := (blk_cell BK193.out 2).trans rfl
                    have hcz54_3 : wc.cell? ⟨gb193, 3, none⟩ = some (.int .i64 a0_3) := (blk_cell BK193.out 3).trans rfl
                    have hcz54_4 : wc.cell? ⟨gb193, 4, none⟩ = some (.int .i64 a0_4) := (blk_cell BK193.out 4).trans rfl
                    have hcz54_5 : wc.cell? ⟨gb193, 5, none⟩ = some (.int .i64 a0_5) := (blk_cell BK193.out 5).trans rfl
                    have hcz54_6 : wc.cell? ⟨gb193, 6, none⟩ = some (.int .u8 a0_6) := (blk_cell BK193.out 6).trans rfl
                    have hcz54_7 : wc.cell? ⟨gb193, 7, none⟩ = some (.string a0_7) := (blk_cell BK193.out 7).trans rfl
                    have hfz54_0 := blk_frozen BK193.out 0
                    have hfz54_1 := blk_frozen BK193.out 1
                    have hfz54_2 := blk_frozen BK193.out 2
                    have hfz54_3 := blk_frozen BK193.out 3
                    have hfz54_4 := blk_frozen BK193.out 4
                    have hfz54_5 := blk_frozen BK193.out 5
                    have hfz54_6 := blk_frozen BK193.out 6
                    have hfz54_7 := blk_frozen BK193.out 7
                    go_wp2
                    go_ret
                    exact ⟨by first | rfl | (simp [errW_none, errW_some] <;> rfl) | (simp [*, errW_none, errW_some] <;> rfl), by repeat (first | (with_reducible first | exact HB.out | apply below_alloc | apply pw_below_drewN | apply below_drew1 | refine below_set ?_ GE193.out) | exact HB.out)⟩
                · rw [if_neg c47] at H
                  have c47b0 : (a0_6 == 53) = false := beq_eq_false_iff_ne.mpr c47
                  have c47b1 : (a0_6 != 53) = true := bne_iff_ne.mpr c47
                  obtain rfl := Option.some.inj H
                  have hcz55_0 : wc.cell? ⟨gb193, 0, none⟩ = some (.string a0_0) := (blk_cell BK193.out 0).trans rfl
                  have hcz55_1 : wc.cell? ⟨gb193, 1, none⟩ = some (.int .i64 a0_1) := (blk_cell BK193.out 1).trans rfl
                  have hcz55_2 : wc.cell? ⟨gb193, 2, none⟩ = some (.int .i64 a0_2) := (blk_cell BK193.out 2).trans rfl
                  have hcz55_3 : wc.cell? ⟨gb193, 3, none⟩ = some (.int .i64 a0_3) := (blk_cell BK193.out 3).trans rfl
                  have hcz55_4 : wc.cell? ⟨gb193, 4, none⟩ = some (.int .i64 a0_4) := (blk_cell BK193.out 4).trans rfl
                  have hcz55_5 : wc.cell? ⟨gb193, 5, none⟩ = some (.int .i64 a0_5) := (blk_cell BK193.out 5).trans rfl
                  have hcz55_6 : wc.cell? ⟨gb193, 6, none⟩ = some (.int .u8 a0_6) := (blk_cell BK193.out 6).trans rfl
                  have hcz55_7 : wc.cell? ⟨gb193, 7, none⟩ = some (.string a0_7) := (blk_cell BK193.out 7).trans rfl
                  have hfz55_0 := blk_frozen BK193.out 0
                  have hfz55_1 := blk_frozen BK193.out 1
                  have hfz55_2 := blk_frozen BK193.out 2
                  have hfz55_3 := blk_frozen BK193.out 3
                  have hfz55_4 := blk_frozen BK193.out 4
                  have hfz55_5 := blk_frozen BK193.out 5
                  have hfz55_6 := blk_frozen BK193.out 6
                  have hfz55_7 := blk_frozen BK193.out 7
                  go_wp2
                  go_ret
                  exact ⟨by first | rfl | (simp [errW_none, errW_some] <;> rfl) | (simp [*, errW_none, errW_some] <;> rfl), by repeat (first | (with_reducible first | exact HB.out | apply below_alloc | apply pw_below_drewN | apply below_drew1 | refine below_set ?_ GE193.out) | exact HB.out)⟩

end Go.Proofs.Ytkdklgcjimnabaa.PUstar
