/- Printed for this claim by a copy of the kit's print.py that takes functions walked by our own texts. Conditions: none. -/
import Derived.Test.YtfkbmjfhakooiaaGreatDoorPTreex0
import Derived.Test.YtfkbmjfhakooiaaGreatDoorPTreex6
import Derived.Test.YtfkbmjfhakooiaaGreatDoorPTreex8
namespace Go.Proofs.YtfkbmjfhakooiaaGreatDoor.PTree
open Go.RowKit Go.Proofs.YtfkbmjfhakooiaaGreatDoorW.PrintWords Go.Proofs.YtfkbmjfhakooiaaGreatDoorW.PrintLast Go.Proofs.YtfkbmjfhakooiaaGreatDoorW.PrintMore
attribute [local go_sem] max2_int min2_int max_two min_two max_three min_three max_four min_four   -- for this text's walks alone
set_option linter.unusedVariables false
set_option linter.unusedSimpArgs false

/-! ### amphoraref09_Walk: function 17 -/
def amphoraref09_Walk.l0 : Nat → List (S28) → ByteArray → List (S28) → Int → Option ((List (S28)))
  | 0, _, _, _, _ => none
  | k + 1, x0, x1, x5, x6 => if x6 < (x0.length : Int) then (if x1.toList = ([] : List UInt8) then (if 0 ≤ x6 then (if x5.length < 1466015503701 then (amphoraref09_Walk.l0 k x0 x1 (x5 ++ [(⟨(rd_T28 x0 x6).f0, (rd_T28 x0 x6).f1, (rd_T28 x0 x6).f2, (rd_T28 x0 x6).f3, (rd_T28 x0 x6).f4, (rd_T28 x0 x6).f5, (rd_T28 x0 x6).f6, (rd_T28 x0 x6).f7⟩ : S28)]) (wrap64 (x6 + 1))) else (none)) else (none)) else (if 0 ≤ x6 then (if ((rd_T28 x0 x6).f0).toList = x1.toList then (if x5.length < 1466015503701 then (amphoraref09_Walk.l0 k x0 x1 (x5 ++ [(⟨(rd_T28 x0 x6).f0, (rd_T28 x0 x6).f1, (rd_T28 x0 x6).f2, (rd_T28 x0 x6).f3, (rd_T28 x0 x6).f4, (rd_T28 x0 x6).f5, (rd_T28 x0 x6).f6, (rd_T28 x0 x6).f7⟩ : S28)]) (wrap64 (x6 + 1))) else (none)) else ((amphoraref08_Above.f k x1 ((rd_T28 x0 x6).f0)).bind fun t254 => (if t254 = true then (if x5.length < 1466015503701 then (amphoraref09_Walk.l0 k x0 x1 (x5 ++ [(⟨(rd_T28 x0 x6).f0, (rd_T28 x0 x6).f1, (rd_T28 x0 x6).f2, (rd_T28 x0 x6).f3, (rd_T28 x0 x6).f4, (rd_T28 x0 x6).f5, (rd_T28 x0 x6).f6, (rd_T28 x0 x6).f7⟩ : S28)]) (wrap64 (x6 + 1))) else (none)) else (amphoraref09_Walk.l0 k x0 x1 x5 (wrap64 (x6 + 1)))))) else (none))) else (some x5)
def amphoraref09_Walk.f (k : Nat) (l0 : List (S28)) (a1 : ByteArray) : Option ((List (S28))) := amphoraref09_Walk.l0 k l0 a1 ([] : List (S28)) 0
theorem amphoraref09_Walk.mono_l : ∀ k, (∀ y0 y1 y2 y3, LeO (amphoraref09_Walk.l0 k y0 y1 y2 y3) (amphoraref09_Walk.l0 (k + 1) y0 y1 y2 y3))
  | 0 => fun _ _ _ _ r h => by simp [amphoraref09_Walk.l0] at h
  | k + 1 => by
    have ih0 := amphoraref09_Walk.mono_l k
    · intro y0 y1 y2 y3
      unfold amphoraref09_Walk.l0
      repeat' first
      | (with_reducible exact ih0 _ _ _ _)
      | (with_reducible exact amphoraref08_Above.mono _ _ _)
      | (with_reducible exact LeO.refl _)
      | (with_reducible exact LeO.none _)
      | (with_reducible refine LeO.ite ?_ ?_)
      | (with_reducible refine LeO.bind ?_ (fun _ => ?_))
      | exact ih0 _ _ _ _
      | exact amphoraref08_Above.mono _ _ _
      | exact LeO.none _
      | refine LeO.ite ?_ ?_
      | refine LeO.bind ?_ (fun _ => ?_)
theorem amphoraref09_Walk.mono : ∀ a0 a1 k, LeO (amphoraref09_Walk.f k a0 a1) (amphoraref09_Walk.f (k + 1) a0 a1) := by
  intro a0 a1 k
  have ih0 := amphoraref09_Walk.mono_l k
  unfold amphoraref09_Walk.f
  repeat' first
      | (with_reducible exact ih0 _ _ _ _)
      | (with_reducible exact amphoraref08_Above.mono _ _ _)
      | (with_reducible exact LeO.refl _)
      | (with_reducible exact LeO.none _)
      | (with_reducible refine LeO.ite ?_ ?_)
      | (with_reducible refine LeO.bind ?_ (fun _ => ?_))
      | exact ih0 _ _ _ _
      | exact amphoraref08_Above.mono _ _ _
      | exact LeO.none _
      | refine LeO.ite ?_ ?_
      | refine LeO.bind ?_ (fun _ => ?_)
set_option maxHeartbeats 8000000 in
set_option maxRecDepth 100000 in
theorem amphoraref09_Walk.calls (k : Nat) (P0_ : Nat → Prop) (A0 : Option Addr) (c0 : Nat) (l0 : List (S28)) (a1 : ByteArray) (r : List (S28)) (w : World) (hs0 : Kd.V k28 28 w w.heap.size (fun k_ => P0_ k_) (.slice A0 l0.length c0) l0) (hGl : Gl w) (h : amphoraref09_Walk.f k l0 a1 = some r) :
    Calls Tryz.prog 17 #[.slice A0 l0.length c0, .string a1] w fun e w' => ∃ v0_ : Value, e = .returned (v0_) ∧ Kd.N k28 28 w' w.heap.size (fun k_ => (P0_ k_ ∨ w.heap.size ≤ k_)) v0_ r ∧ Below w.heap.size w w' := by
  have hu28 := Tryz.underlying28
  have HO0 := Aside0.mk (show Kd.V k28 28 w w.heap.size (fun k_ => (P0_ k_ ∨ w.heap.size ≤ k_)) (.slice A0 l0.length c0) l0 from Kd.V_mono hs0 (fun k_ hk => .inl hk))
  have HB := Aside0.mk (Below.refl w.heap.size w)
  have HGL := Aside0.mk hGl
  clear hGl
  have H : (amphoraref09_Walk.l0 k l0 a1 ([] : List (S28)) 0) = some r := h
  clear h
  have H' := Aside0.mk H
  clear H
  go_enter Tryz.func17, Tryz.ntmps17
  go_wp2
  go_loopg [5, 6] k (fun kq v5 v6 w' => ∃ (x5_1 : List (S28)) (x6_1 : Int), v6 = .int .i64 x6_1 ∧ Aside0 (amphoraref09_Walk.l0 kq l0 a1 x5_1 x6_1 = some r) ∧ Aside0 (kq ≤ k) ∧ Aside0 (Kd.V k28 28 w' w.heap.size (fun k_ => (P0_ k_ ∨ w.heap.size ≤ k_) ∧ some k_ ≠ (v5 : Value).ownBlock) (.slice A0 l0.length c0) l0) ∧ Aside0 (Kd.N k28 28 w' w.heap.size (fun k_ => (P0_ k_ ∨ w.heap.size ≤ k_)) v5 x5_1) ∧ Aside0 (Below w.heap.size w w'))
  case atStart => exact ⟨(([] : List (S28))), (0), (by first | rfl | (simp; done) | (simp [*]; done)), H', ⟨Nat.le_refl _⟩, ⟨by (with_reducible repeat (first | apply Kd.V_alloc | apply Kd.V_drewN | apply Kd.V_drew)); exact Kd.V_mono HO0.out (fun _ hk => ⟨hk, (by simp [Value.ownBlock])⟩)⟩, ⟨by first | exact Kd.S_nil _ _ _ _ _ | exact Kd.N_nil _ _ _ _ _ | exact Kd.V_nil _ _ _ _ _ | exact Kd.Q_nil _ _ _ _ _ | exact Kd.R_nil _ _ _ _ _⟩, ⟨by repeat (first | (with_reducible first | exact HB.out | apply below_alloc | apply pw_below_drewN | apply below_drew1) | exact HB.out)⟩⟩
  case round =>
    clear H'
    try clear c1
    try clear p2
    obtain ⟨x5_1, x6_1, rfl, HA, HK1, HO_0, HO_5, HB⟩ := hrel
    cases gk with
    | zero => exact absurd HA.out (by simp [amphoraref09_Walk.l0])
    | succ k1 =>
      have H := HA.out
      clear HA
      simp only [amphoraref09_Walk.l0] at H
      by_cases c3 : x6_1 < (l0.length : Int)
      · rw [if_pos c3] at H
        have c3b0 : decide (x6_1 < (l0.length : Int)) = true := decide_eq_true c3
        clear c3
        by_cases c4 : a1.toList = ([] : List UInt8)
        · rw [if_pos c4] at H
          have c4b0 : (a1.toList == ([] : List UInt8)) = true := beq_iff_eq.mpr c4
          have c4b1 : (a1.toList != ([] : List UInt8)) = false := bne_eq_false_iff_eq.mpr c4
          have c4b2 : a1.toList.isEmpty = true := List.isEmpty_iff.2 c4
          clear c4
          (try rw [c4b2])
          (try simp only [Bool.not_true, Bool.not_false])
          by_cases c5 : 0 ≤ x6_1
          · rw [if_pos c5] at H
            have c5b0 : decide (0 ≤ x6_1) = true := decide_eq_true c5
            clear c5
            by_cases c6 : x5_1.length < 1466015503701
            · rw [if_pos c6] at H
              have LMc6 := Aside0.mk c6
              clear c6
              obtain ⟨y245, hy245⟩ : ∃ y_ : List (S28), y_ = (x5_1 ++ [(⟨(rd_T28 l0 x6_1).f0, (rd_T28 l0 x6_1).f1, (rd_T28 l0 x6_1).f2, (rd_T28 l0 x6_1).f3, (rd_T28 l0 x6_1).f4, (rd_T28 l0 x6_1).f5, (rd_T28 l0 x6_1).f6, (rd_T28 l0 x6_1).f7⟩ : S28)]) := ⟨_, rfl⟩
              replace H : (amphoraref09_Walk.l0 k1 l0 a1 y245 (wrap64 (x6_1 + 1))) = some r := by first | (rw [hy245]; with_reducible exact H) | (have H2_ := (Option.bind_some _ _).symm.trans H; rw [hy245]; with_reducible exact H2_) | (have H2_ := (Option.bind_some _ _).symm.trans H; with_reducible exact H2_) | with_reducible exact H | (rw [hy245]; exact H) | exact H
              have Ny245 := Aside0.mk hy245
              clear hy245
              have H' := Aside0.mk H
              clear H
              have p244 : 0 ≤ (x6_1 : Int) := of_decide_eq_true (by first | (with_reducible assumption) | assumption)
              have q244 : x6_1 < (l0.length : Int) := of_decide_eq_true (by first | (with_reducible assumption) | assumption)
              obtain ⟨ad244, A244_7, c244_7, e244, hx244_0, hx244_1, hx244_2, hx244_3, hx244_4, hx244_5, hx244_6, hx244_7, hl244_7, hi244_7⟩ := at_T28 (Kd.V_reads' HO_0.out).2.2 x6_1 p244 q244
              cases e244
              obtain ⟨ce244, hce244, hMe244, hcc244⟩ := Kd.V_get HO_0.out z28 x6_1 p244 (by first | exact q244 | exact of_decide_eq_true (by first | (with_reducible assumption) | assumption) | (have e_ := (Kd.V_reads' HO_0.out).1; omega))
              obtain ⟨ua244_7, uc244_7, rfl, ul244_7, ge244_7⟩ := k28_openF hMe244
              have hv244_7 := hcc244 7 _ rfl
              rw [add_field _ _ 7 (by omega)] at hv244_7
              replace hv244_7 := Option.some.inj (hv244_7.symm.trans hx244_7)
              injection hv244_7 with hva_ hvn_ hvc_
              rw [hva_] at ge244_7
              rw [hvc_] at ul244_7
              have HL244_7 := Aside0.mk (show Kd.V (Kd.int .u8) 5 _ w.heap.size _ _ ((rd_T28 l0 x6_1).f7) from Kd.V_mk ul244_7 ge244_7)
              clear hva_ hvn_ hvc_ ge244_7 ul244_7
              clear hcc244 hce244
              have HR244_7 := Aside0.mk hi244_7
              have HC244_7 := Aside0.mk hl244_7
              clear hi244_7 hl244_7
              replace p244 := eq_true p244
              replace q244 := eq_true q244
              go_wp2_with (first | ((with_reducible refine gate_builtin (b := .append) (xs := #[.tmp 33, .tmp 38]) rfl ?_); at_builtin; refine Kd.N_append k28 (w0 := w) w.heap.size rfl (.tmp 33) (.tmp 38) 22 28 (.agg #[(.string ⟨#[]⟩), (.int .i64 0), (.int .i64 0), (.int .i64 0), (.int .i64 0), (.int .i64 0), (.string ⟨#[]⟩), (.slice none 0 0)]) 96 rfl Tryz.underlying22 info28 rfl (by decide) (by omega) u5 x5_1 (⟨(rd_T28 l0 x6_1).f0, (rd_T28 l0 x6_1).f1, (rd_T28 l0 x6_1).f2, (rd_T28 l0 x6_1).f3, (rd_T28 l0 x6_1).f4, (rd_T28 l0 x6_1).f5, (rd_T28 l0 x6_1).f6, (rd_T28 l0 x6_1).f7⟩ : S28) [.string ((rd_T28 l0 x6_1).f0), .int .i64 ((rd_T28 l0 x6_1).f1), .int .i64 ((rd_T28 l0 x6_1).f2), .int .i64 ((rd_T28 l0 x6_1).f3), .int .i64 ((rd_T28 l0 x6_1).f4), .int .i64 ((rd_T28 l0 x6_1).f5), .string ((rd_T28 l0 x6_1).f6), .slice A244_7 ((rd_T28 l0 x6_1).f7).length c244_7] (fun k_ => (P0_ k_ ∨ w.heap.size ≤ k_)) (fun k_ => ((fun k_ => (P0_ k_ ∨ w.heap.size ≤ k_))) k_ ∧ some k_ ≠ (u5 : Value).ownBlock) rfl rfl ?aP (fun _ hk => hk) ?aF ?aO ?aB ?aS ?aL ?_; (case aP => exact (k28_mkF _ _ (⟨(rd_T28 l0 x6_1).f0, (rd_T28 l0 x6_1).f1, (rd_T28 l0 x6_1).f2, (rd_T28 l0 x6_1).f3, (rd_T28 l0 x6_1).f4, (rd_T28 l0 x6_1).f5, (rd_T28 l0 x6_1).f6, (rd_T28 l0 x6_1).f7⟩ : S28) (Kd.V_reads' (Kd.V_mono (ok' := (fun k_ => ((fun k_ => (P0_ k_ ∨ w.heap.size ≤ k_))) k_ ∧ some k_ ≠ (u5 : Value).ownBlock)) (HL244_7.out) (fun k_ hk => ⟨hk.1, hk.2⟩))).2.1 (Kd.V_F (Kd.V_mono (ok' := (fun k_ => ((fun k_ => (P0_ k_ ∨ w.heap.size ≤ k_))) k_ ∧ some k_ ≠ (u5 : Value).ownBlock)) (HL244_7.out) (fun k_ hk => ⟨hk.1, hk.2⟩))))); (case aB => exact (by repeat (first | (with_reducible first | exact HB.out | apply below_alloc | apply pw_below_drewN | apply below_drew1) | exact HB.out))); (case aF => exact (fun k_ hk => (.inr (Nat.le_trans (below_size (by repeat (first | (with_reducible first | exact HB.out | apply below_alloc | apply pw_below_drewN | apply below_drew1) | exact HB.out))) hk)))); (case aO => exact (by (with_reducible repeat (first | apply Kd.N_alloc | apply Kd.N_drewN | apply Kd.N_drew)); exact HO_5.out)); (case aS => exact (below_size (by repeat (first | (with_reducible first | exact HB.out | apply below_alloc | apply pw_below_drewN | apply below_drew1) | exact HB.out)))); (case aL => have := LMc6.out; omega); intro v246 w7 ho hb hg hat; rw [← Ny245.out] at ho; have n0_ := Aside0.mk (Kd.V_afterv (ok := (fun k_ => (P0_ k_ ∨ w.heap.size ≤ k_))) (by (with_reducible repeat (first | apply Kd.V_alloc | apply Kd.V_drewN | apply Kd.V_drew)); exact HO_0.out) hg hat); have n1_ := Aside0.mk (Kd.V_afterv (ok := (fun k_ => (P0_ k_ ∨ w.heap.size ≤ k_))) (by (with_reducible repeat (first | apply Kd.V_alloc | apply Kd.V_drewN | apply Kd.V_drew)); exact HL244_7.out) hg hat); have n2_ := Aside0.mk (hb); have n3_ := Aside0.mk (ho); clear HO_0; clear HL244_7; clear HB; clear HO_5; have HO_0 := n0_; have HL244_7 := n1_; have HB := n2_; have HO247 := n3_; clear n0_ n1_ n2_ n3_; clear ho hb hg hat))
              go_roundg k1
              case measure => have := HK1.out; omega
              case rel => exact ⟨(y245), (wrap64 (x6_1 + 1)), (by first | rfl | (simp; done) | (simp [*]; done)), H', ⟨by have := HK1.out; omega⟩, ⟨by (with_reducible repeat (first | apply Kd.V_alloc | apply Kd.V_drewN | apply Kd.V_drew)); exact HO_0.out⟩, ⟨by (with_reducible repeat (first | apply Kd.N_alloc | apply Kd.N_drewN | apply Kd.N_drew)); exact HO247.out⟩, ⟨by repeat (first | (with_reducible first | exact HB.out | apply below_alloc | apply pw_below_drewN | apply below_drew1) | exact HB.out)⟩⟩
            · rw [if_neg c6] at H
              exact absurd H (by simp)
          · rw [if_neg c5] at H
            exact absurd H (by simp)
        · rw [if_neg c4] at H
          have c4b0 : (a1.toList == ([] : List UInt8)) = false := beq_eq_false_iff_ne.mpr c4
          have c4b1 : (a1.toList != ([] : List UInt8)) = true := bne_iff_ne.mpr c4
          have c4b2 : a1.toList.isEmpty = false := Bool.eq_false_iff.2 (fun h_ => c4 (List.isEmpty_iff.1 h_))
          (try rw [c4b2])
          (try simp only [Bool.not_true, Bool.not_false])
          by_cases c8 : 0 ≤ x6_1
          · rw [if_pos c8] at H
            have c8b0 : decide (0 ≤ x6_1) = true := decide_eq_true c8
            clear c8
            by_cases c9 : ((rd_T28 l0 x6_1).f0).toList = a1.toList
            · rw [if_pos c9] at H
              have c9b0 : (((rd_T28 l0 x6_1).f0).toList == a1.toList) = true := beq_iff_eq.mpr c9
              have c9b1 : (((rd_T28 l0 x6_1).f0).toList != a1.toList) = false := bne_eq_false_iff_eq.mpr c9
              clear c9
              by_cases c10 : x5_1.length < 1466015503701
              · rw [if_pos c10] at H
                have LMc10 := Aside0.mk c10
                clear c10
                obtain ⟨y250, hy250⟩ : ∃ y_ : List (S28), y_ = (x5_1 ++ [(⟨(rd_T28 l0 x6_1).f0, (rd_T28 l0 x6_1).f1, (rd_T28 l0 x6_1).f2, (rd_T28 l0 x6_1).f3, (rd_T28 l0 x6_1).f4, (rd_T28 l0 x6_1).f5, (rd_T28 l0 x6_1).f6, (rd_T28 l0 x6_1).f7⟩ : S28)]) := ⟨_, rfl⟩
                replace H : (amphoraref09_Walk.l0 k1 l0 a1 y250 (wrap64 (x6_1 + 1))) = some r := by first | (rw [hy250]; with_reducible exact H) | (have H2_ := (Option.bind_some _ _).symm.trans H; rw [hy250]; with_reducible exact H2_) | (have H2_ := (Option.bind_some _ _).symm.trans H; with_reducible exact H2_) | with_reducible exact H | (rw [hy250]; exact H) | exact H
                have Ny250 := Aside0.mk hy250
                clear hy250
                have H' := Aside0.mk H
                clear H
                have p248 : 0 ≤ (x6_1 : Int) := of_decide_eq_true (by first | (with_reducible assumption) | assumption)
                have q248 : x6_1 < (l0.length : Int) := of_decide_eq_true (by first | (with_reducible assumption) | assumption)
                obtain ⟨ad248, A248_7, c248_7, e248, hx248_0, hx248_1, hx248_2, hx248_3, hx248_4, hx248_5, hx248_6, hx248_7, hl248_7, hi248_7⟩ := at_T28 (Kd.V_reads' HO_0.out).2.2 x6_1 p248 q248
                cases e248
                obtain ⟨ce248, hce248, hMe248, hcc248⟩ := Kd.V_get HO_0.out z28 x6_1 p248 (by first | exact q248 | exact of_decide_eq_true (by first | (with_reducible assumption) | assumption) | (have e_ := (Kd.V_reads' HO_0.out).1; omega))
                obtain ⟨ua248_7, uc248_7, rfl, ul248_7, ge248_7⟩ := k28_openF hMe248
                have hv248_7 := hcc248 7 _ rfl
                rw [add_field _ _ 7 (by omega)] at hv248_7
                replace hv248_7 := Option.some.inj (hv248_7.symm.trans hx248_7)
                injection hv248_7 with hva_ hvn_ hvc_
                rw [hva_] at ge248_7
                rw [hvc_] at ul248_7
                have HL248_7 := Aside0.mk (show Kd.V (Kd.int .u8) 5 _ w.heap.size _ _ ((rd_T28 l0 x6_1).f7) from Kd.V_mk ul248_7 ge248_7)
                clear hva_ hvn_ hvc_ ge248_7 ul248_7
                clear hcc248 hce248
                have HR248_7 := Aside0.mk hi248_7
                have HC248_7 := Aside0.mk hl248_7
                clear hi248_7 hl248_7
                replace p248 := eq_true p248
                replace q248 := eq_true q248
                have p249 : 0 ≤ (x6_1 : Int) := of_decide_eq_true (by first | (with_reducible assumption) | assumption)
                have q249 : x6_1 < (l0.length : Int) := of_decide_eq_true (by first | (with_reducible assumption) | assumption)
                obtain ⟨ad249, A249_7, c249_7, e249, hx249_0, hx249_1, hx249_2, hx249_3, hx249_4, hx249_5, hx249_6, hx249_7, hl249_7, hi249_7⟩ := at_T28 (Kd.V_reads' HO_0.out).2.2 x6_1 p249 q249
                obtain rfl : ad248 = ad249 := (by injection e249)
                obtain ⟨ce249, hce249, hMe249, hcc249⟩ := Kd.V_get HO_0.out z28 x6_1 p249 (by first | exact q249 | exact of_decide_eq_true (by first | (with_reducible assumption) | assumption) | (have e_ := (Kd.V_reads' HO_0.out).1; omega))
                obtain ⟨ua249_7, uc249_7, rfl, ul249_7, ge249_7⟩ := k28_openF hMe249
                have hv249_7 := hcc249 7 _ rfl
                rw [add_field _ _ 7 (by omega)] at hv249_7
                replace hv249_7 := Option.some.inj (hv249_7.symm.trans hx249_7)
                injection hv249_7 with hva_ hvn_ hvc_
                rw [hva_] at ge249_7
                rw [hvc_] at ul249_7
                have HL249_7 := Aside0.mk (show Kd.V (Kd.int .u8) 5 _ w.heap.size _ _ ((rd_T28 l0 x6_1).f7) from Kd.V_mk ul249_7 ge249_7)
                clear hva_ hvn_ hvc_ ge249_7 ul249_7
                clear hcc249 hce249
                have HR249_7 := Aside0.mk hi249_7
                have HC249_7 := Aside0.mk hl249_7
                clear hi249_7 hl249_7
                replace p249 := eq_true p249
                replace q249 := eq_true q249
                have ea_ := Option.some.inj (hx248_7.symm.trans hx249_7)
                injection ea_ with ea_ en_ ec_
                subst ea_
                subst ec_
                clear en_
                go_wp2_with (first | ((with_reducible refine gate_builtin (b := .append) (xs := #[.tmp 33, .tmp 38]) rfl ?_); at_builtin; refine Kd.N_append k28 (w0 := w) w.heap.size rfl (.tmp 33) (.tmp 38) 22 28 (.agg #[(.string ⟨#[]⟩), (.int .i64 0), (.int .i64 0), (.int .i64 0), (.int .i64 0), (.int .i64 0), (.string ⟨#[]⟩), (.slice none 0 0)]) 96 rfl Tryz.underlying22 info28 rfl (by decide) (by omega) u5 x5_1 (⟨(rd_T28 l0 x6_1).f0, (rd_T28 l0 x6_1).f1, (rd_T28 l0 x6_1).f2, (rd_T28 l0 x6_1).f3, (rd_T28 l0 x6_1).f4, (rd_T28 l0 x6_1).f5, (rd_T28 l0 x6_1).f6, (rd_T28 l0 x6_1).f7⟩ : S28) [.string ((rd_T28 l0 x6_1).f0), .int .i64 ((rd_T28 l0 x6_1).f1), .int .i64 ((rd_T28 l0 x6_1).f2), .int .i64 ((rd_T28 l0 x6_1).f3), .int .i64 ((rd_T28 l0 x6_1).f4), .int .i64 ((rd_T28 l0 x6_1).f5), .string ((rd_T28 l0 x6_1).f6), .slice A248_7 ((rd_T28 l0 x6_1).f7).length c248_7] (fun k_ => (P0_ k_ ∨ w.heap.size ≤ k_)) (fun k_ => ((fun k_ => (P0_ k_ ∨ w.heap.size ≤ k_))) k_ ∧ some k_ ≠ (u5 : Value).ownBlock) rfl rfl ?aP (fun _ hk => hk) ?aF ?aO ?aB ?aS ?aL ?_; (case aP => exact (k28_mkF _ _ (⟨(rd_T28 l0 x6_1).f0, (rd_T28 l0 x6_1).f1, (rd_T28 l0 x6_1).f2, (rd_T28 l0 x6_1).f3, (rd_T28 l0 x6_1).f4, (rd_T28 l0 x6_1).f5, (rd_T28 l0 x6_1).f6, (rd_T28 l0 x6_1).f7⟩ : S28) (Kd.V_reads' (Kd.V_mono (ok' := (fun k_ => ((fun k_ => (P0_ k_ ∨ w.heap.size ≤ k_))) k_ ∧ some k_ ≠ (u5 : Value).ownBlock)) (HL249_7.out) (fun k_ hk => ⟨hk.1, hk.2⟩))).2.1 (Kd.V_F (Kd.V_mono (ok' := (fun k_ => ((fun k_ => (P0_ k_ ∨ w.heap.size ≤ k_))) k_ ∧ some k_ ≠ (u5 : Value).ownBlock)) (HL249_7.out) (fun k_ hk => ⟨hk.1, hk.2⟩))))); (case aB => exact (by repeat (first | (with_reducible first | exact HB.out | apply below_alloc | apply pw_below_drewN | apply below_drew1) | exact HB.out))); (case aF => exact (fun k_ hk => (.inr (Nat.le_trans (below_size (by repeat (first | (with_reducible first | exact HB.out | apply below_alloc | apply pw_below_drewN | apply below_drew1) | exact HB.out))) hk)))); (case aO => exact (by (with_reducible repeat (first | apply Kd.N_alloc | apply Kd.N_drewN | apply Kd.N_drew)); exact HO_5.out)); (case aS => exact (below_size (by repeat (first | (with_reducible first | exact HB.out | apply below_alloc | apply pw_below_drewN | apply below_drew1) | exact HB.out)))); (case aL => have := LMc10.out; omega); intro v251 w11 ho hb hg hat; rw [← Ny250.out] at ho; have n0_ := Aside0.mk (Kd.V_afterv (ok := (fun k_ => (P0_ k_ ∨ w.heap.size ≤ k_))) (by (with_reducible repeat (first | apply Kd.V_alloc | apply Kd.V_drewN | apply Kd.V_drew)); exact HO_0.out) hg hat); have n1_ := Aside0.mk (Kd.V_afterv (ok := (fun k_ => (P0_ k_ ∨ w.heap.size ≤ k_))) (by (with_reducible repeat (first | apply Kd.V_alloc | apply Kd.V_drewN | apply Kd.V_drew)); exact HL248_7.out) hg hat); have n2_ := Aside0.mk (Kd.V_afterv (ok := (fun k_ => (P0_ k_ ∨ w.heap.size ≤ k_))) (by (with_reducible repeat (first | apply Kd.V_alloc | apply Kd.V_drewN | apply Kd.V_drew)); exact HL249_7.out) hg hat); have n3_ := Aside0.mk (hb); have n4_ := Aside0.mk (ho); clear HO_0; clear HL248_7; clear HL249_7; clear HB; clear HO_5; have HO_0 := n0_; have HL248_7 := n1_; have HL249_7 := n2_; have HB := n3_; have HO252 := n4_; clear n0_ n1_ n2_ n3_ n4_; clear ho hb hg hat))
                go_roundg k1
                case measure => have := HK1.out; omega
                case rel => exact ⟨(y250), (wrap64 (x6_1 + 1)), (by first | rfl | (simp; done) | (simp [*]; done)), H', ⟨by have := HK1.out; omega⟩, ⟨by (with_reducible repeat (first | apply Kd.V_alloc | apply Kd.V_drewN | apply Kd.V_drew)); exact HO_0.out⟩, ⟨by (with_reducible repeat (first | apply Kd.N_alloc | apply Kd.N_drewN | apply Kd.N_drew)); exact HO252.out⟩, ⟨by repeat (first | (with_reducible first | exact HB.out | apply below_alloc | apply pw_below_drewN | apply below_drew1) | exact HB.out)⟩⟩
              · rw [if_neg c10] at H
                exact absurd H (by simp)
            · rw [if_neg c9] at H
              have c9b0 : (((rd_T28 l0 x6_1).f0).toList == a1.toList) = false := beq_eq_false_iff_ne.mpr c9
              have c9b1 : (((rd_T28 l0 x6_1).f0).toList != a1.toList) = true := bne_iff_ne.mpr c9
              replace H := Option.bind_eq_some_iff.mp H
              obtain ⟨t254, A120, H⟩ := H
              replace H : (if t254 = true then (if x5_1.length < 1466015503701 then (amphoraref09_Walk.l0 k1 l0 a1 (x5_1 ++ [(⟨(rd_T28 l0 x6_1).f0, (rd_T28 l0 x6_1).f1, (rd_T28 l0 x6_1).f2, (rd_T28 l0 x6_1).f3, (rd_T28 l0 x6_1).f4, (rd_T28 l0 x6_1).f5, (rd_T28 l0 x6_1).f6, (rd_T28 l0 x6_1).f7⟩ : S28)]) (wrap64 (x6_1 + 1))) else (none)) else (amphoraref09_Walk.l0 k1 l0 a1 x5_1 (wrap64 (x6_1 + 1)))) = some r := H
              have A12 := Aside0.mk A120
              clear A120
              by_cases c13 : t254 = true
              · subst c13
                have H1 : (if x5_1.length < 1466015503701 then (amphoraref09_Walk.l0 k1 l0 a1 (x5_1 ++ [(⟨(rd_T28 l0 x6_1).f0, (rd_T28 l0 x6_1).f1, (rd_T28 l0 x6_1).f2, (rd_T28 l0 x6_1).f3, (rd_T28 l0 x6_1).f4, (rd_T28 l0 x6_1).f5, (rd_T28 l0 x6_1).f6, (rd_T28 l0 x6_1).f7⟩ : S28)]) (wrap64 (x6_1 + 1))) else (none)) = some r := by rw [if_pos rfl] at H; exact H
                clear H
                have H := H1
                clear H1
                by_cases c14 : x5_1.length < 1466015503701
                · rw [if_pos c14] at H
                  have LMc14 := Aside0.mk c14
                  clear c14
                  obtain ⟨y256, hy256⟩ : ∃ y_ : List (S28), y_ = (x5_1 ++ [(⟨(rd_T28 l0 x6_1).f0, (rd_T28 l0 x6_1).f1, (rd_T28 l0 x6_1).f2, (rd_T28 l0 x6_1).f3, (rd_T28 l0 x6_1).f4, (rd_T28 l0 x6_1).f5, (rd_T28 l0 x6_1).f6, (rd_T28 l0 x6_1).f7⟩ : S28)]) := ⟨_, rfl⟩
                  replace H : (amphoraref09_Walk.l0 k1 l0 a1 y256 (wrap64 (x6_1 + 1))) = some r := by first | (rw [hy256]; with_reducible exact H) | (have H2_ := (Option.bind_some _ _).symm.trans H; rw [hy256]; with_reducible exact H2_) | (have H2_ := (Option.bind_some _ _).symm.trans H; with_reducible exact H2_) | with_reducible exact H | (rw [hy256]; exact H) | exact H
                  have Ny256 := Aside0.mk hy256
                  clear hy256
                  have H' := Aside0.mk H
                  clear H
                  have p248 : 0 ≤ (x6_1 : Int) := of_decide_eq_true (by first | (with_reducible assumption) | assumption)
                  have q248 : x6_1 < (l0.length : Int) := of_decide_eq_true (by first | (with_reducible assumption) | assumption)
                  obtain ⟨ad248, A248_7, c248_7, e248, hx248_0, hx248_1, hx248_2, hx248_3, hx248_4, hx248_5, hx248_6, hx248_7, hl248_7, hi248_7⟩ := at_T28 (Kd.V_reads' HO_0.out).2.2 x6_1 p248 q248
                  cases e248
                  obtain ⟨ce248, hce248, hMe248, hcc248⟩ := Kd.V_get HO_0.out z28 x6_1 p248 (by first | exact q248 | exact of_decide_eq_true (by first | (with_reducible assumption) | assumption) | (have e_ := (Kd.V_reads' HO_0.out).1; omega))
                  obtain ⟨ua248_7, uc248_7, rfl, ul248_7, ge248_7⟩ := k28_openF hMe248
                  have hv248_7 := hcc248 7 _ rfl
                  rw [add_field _ _ 7 (by omega)] at hv248_7
                  replace hv248_7 := Option.some.inj (hv248_7.symm.trans hx248_7)
                  injection hv248_7 with hva_ hvn_ hvc_
                  rw [hva_] at ge248_7
                  rw [hvc_] at ul248_7
                  have HL248_7 := Aside0.mk (show Kd.V (Kd.int .u8) 5 _ w.heap.size _ _ ((rd_T28 l0 x6_1).f7) from Kd.V_mk ul248_7 ge248_7)
                  clear hva_ hvn_ hvc_ ge248_7 ul248_7
                  clear hcc248 hce248
                  have HR248_7 := Aside0.mk hi248_7
                  have HC248_7 := Aside0.mk hl248_7
                  clear hi248_7 hl248_7
                  replace p248 := eq_true p248
                  replace q248 := eq_true q248
                  have p253 : 0 ≤ (x6_1 : Int) := of_decide_eq_true (by first | (with_reducible assumption) | assumption)
                  have q253 : x6_1 < (l0.length : Int) := of_decide_eq_true (by first | (with_reducible assumption) | assumption)
                  obtain ⟨ad253, A253_7, c253_7, e253, hx253_0, hx253_1, hx253_2, hx253_3, hx253_4, hx253_5, hx253_6, hx253_7, hl253_7, hi253_7⟩ := at_T28 (Kd.V_reads' HO_0.out).2.2 x6_1 p253 q253
                  obtain rfl : ad248 = ad253 := (by injection e253)
                  obtain ⟨ce253, hce253, hMe253, hcc253⟩ := Kd.V_get HO_0.out z28 x6_1 p253 (by first | exact q253 | exact of_decide_eq_true (by first | (with_reducible assumption) | assumption) | (have e_ := (Kd.V_reads' HO_0.out).1; omega))
                  obtain ⟨ua253_7, uc253_7, rfl, ul253_7, ge253_7⟩ := k28_openF hMe253
                  have hv253_7 := hcc253 7 _ rfl
                  rw [add_field _ _ 7 (by omega)] at hv253_7
                  replace hv253_7 := Option.some.inj (hv253_7.symm.trans hx253_7)
                  injection hv253_7 with hva_ hvn_ hvc_
                  rw [hva_] at ge253_7
                  rw [hvc_] at ul253_7
                  have HL253_7 := Aside0.mk (show Kd.V (Kd.int .u8) 5 _ w.heap.size _ _ ((rd_T28 l0 x6_1).f7) from Kd.V_mk ul253_7 ge253_7)
                  clear hva_ hvn_ hvc_ ge253_7 ul253_7
                  clear hcc253 hce253
                  have HR253_7 := Aside0.mk hi253_7
                  have HC253_7 := Aside0.mk hl253_7
                  clear hi253_7 hl253_7
                  replace p253 := eq_true p253
                  replace q253 := eq_true q253
                  have ea_ := Option.some.inj (hx248_7.symm.trans hx253_7)
                  injection ea_ with ea_ en_ ec_
                  subst ea_
                  subst ec_
                  clear en_
                  go_wp2_with (first | (go_at_call 36; (with_reducible refine (amphoraref08_Above.calls k1 a1 ((rd_T28 l0 x6_1).f0) true _ ?side1 A12.out).mono ?_); (case side1 => first | exact HGL.out | exact Gl.drewN HGL.out _ | exact Gl.of HGL.out (by repeat (first | (with_reducible first | exact HB.out | apply below_alloc | apply pw_below_drewN | apply below_drew1) | exact HB.out))); rintro e w15 ⟨rfl, hb⟩; have n0_ := Aside0.mk (Kd.V_below (by (with_reducible repeat (first | apply Kd.V_alloc | apply Kd.V_drewN | apply Kd.V_drew)); exact HO_0.out) hb); have n1_ := Aside0.mk (Kd.N_below (by (with_reducible repeat (first | apply Kd.N_alloc | apply Kd.N_drewN | apply Kd.N_drew)); exact HO_5.out) hb); have n2_ := Aside0.mk (Kd.V_below (by (with_reducible repeat (first | apply Kd.V_alloc | apply Kd.V_drewN | apply Kd.V_drew)); exact HL248_7.out) hb); have n3_ := Aside0.mk (Kd.V_below (by (with_reducible repeat (first | apply Kd.V_alloc | apply Kd.V_drewN | apply Kd.V_drew)); exact HL253_7.out) hb); have n4_ := Aside0.mk (Kd.C_below (by repeat (first | (with_reducible exact HR248_7.out) | (with_reducible refine Kd.C_alloc ?_ _) | (with_reducible refine Kd.C_drewN ?_ _) | (with_reducible refine Kd.C_drew ?_) | exact HR248_7.out)) hb); have n5_ := Aside0.mk (Kd.C_below (by repeat (first | (with_reducible exact HR253_7.out) | (with_reducible refine Kd.C_alloc ?_ _) | (with_reducible refine Kd.C_drewN ?_ _) | (with_reducible refine Kd.C_drew ?_) | exact HR253_7.out)) hb); have n6_ := Aside0.mk (below_step (by repeat (first | (with_reducible first | exact HB.out | apply below_alloc | apply pw_below_drewN | apply below_drew1) | exact HB.out)) hb); clear HO_0; clear HO_5; clear HL248_7; clear HL253_7; clear HR248_7; clear HR253_7; clear HB; have HO_0 := n0_; have HO_5 := n1_; have HL248_7 := n2_; have HL253_7 := n3_; have HR248_7 := n4_; have HR253_7 := n5_; have HB := n6_; clear n0_ n1_ n2_ n3_ n4_ n5_ n6_; (try clear hb); (try clear hb2); (try clear hk); (try clear hi); have p255 : 0 ≤ (x6_1 : Int) := of_decide_eq_true (by first | (with_reducible assumption) | assumption); have q255 : x6_1 < (l0.length : Int) := of_decide_eq_true (by first | (with_reducible assumption) | assumption); obtain ⟨ad255, A255_7, c255_7, e255, hx255_0, hx255_1, hx255_2, hx255_3, hx255_4, hx255_5, hx255_6, hx255_7, hl255_7, hi255_7⟩ := at_T28 (Kd.V_reads' HO_0.out).2.2 x6_1 p255 q255; obtain rfl : ad248 = ad255 := (by injection e255); obtain ⟨ce255, hce255, hMe255, hcc255⟩ := Kd.V_get HO_0.out z28 x6_1 p255 (by first | exact q255 | exact of_decide_eq_true (by first | (with_reducible assumption) | assumption) | (have e_ := (Kd.V_reads' HO_0.out).1; omega)); obtain ⟨ua255_7, uc255_7, rfl, ul255_7, ge255_7⟩ := k28_openF hMe255; have hv255_7 := hcc255 7 _ rfl; rw [add_field _ _ 7 (by omega)] at hv255_7; replace hv255_7 := Option.some.inj (hv255_7.symm.trans hx255_7); injection hv255_7 with hva_ hvn_ hvc_; rw [hva_] at ge255_7; rw [hvc_] at ul255_7; have HL255_7 := Aside0.mk (show Kd.V (Kd.int .u8) 5 _ w.heap.size _ _ ((rd_T28 l0 x6_1).f7) from Kd.V_mk ul255_7 ge255_7); clear hva_ hvn_ hvc_ ge255_7 ul255_7; clear hcc255 hce255; have HR255_7 := Aside0.mk hi255_7; have HC255_7 := Aside0.mk hl255_7; clear hi255_7 hl255_7; replace p255 := eq_true p255; replace q255 := eq_true q255) | ((with_reducible refine gate_builtin (b := .append) (xs := #[.tmp 33, .tmp 38]) rfl ?_); at_builtin; refine Kd.N_append k28 (w0 := w) w.heap.size rfl (.tmp 33) (.tmp 38) 22 28 (.agg #[(.string ⟨#[]⟩), (.int .i64 0), (.int .i64 0), (.int .i64 0), (.int .i64 0), (.int .i64 0), (.string ⟨#[]⟩), (.slice none 0 0)]) 96 rfl Tryz.underlying22 info28 rfl (by decide) (by omega) u5 x5_1 (⟨(rd_T28 l0 x6_1).f0, (rd_T28 l0 x6_1).f1, (rd_T28 l0 x6_1).f2, (rd_T28 l0 x6_1).f3, (rd_T28 l0 x6_1).f4, (rd_T28 l0 x6_1).f5, (rd_T28 l0 x6_1).f6, (rd_T28 l0 x6_1).f7⟩ : S28) [.string ((rd_T28 l0 x6_1).f0), .int .i64 ((rd_T28 l0 x6_1).f1), .int .i64 ((rd_T28 l0 x6_1).f2), .int .i64 ((rd_T28 l0 x6_1).f3), .int .i64 ((rd_T28 l0 x6_1).f4), .int .i64 ((rd_T28 l0 x6_1).f5), .string ((rd_T28 l0 x6_1).f6), .slice A255_7 ((rd_T28 l0 x6_1).f7).length c255_7] (fun k_ => (P0_ k_ ∨ w.heap.size ≤ k_)) (fun k_ => ((fun k_ => (P0_ k_ ∨ w.heap.size ≤ k_))) k_ ∧ some k_ ≠ (u5 : Value).ownBlock) rfl rfl ?aP (fun _ hk => hk) ?aF ?aO ?aB ?aS ?aL ?_; (case aP => exact (k28_mkF _ _ (⟨(rd_T28 l0 x6_1).f0, (rd_T28 l0 x6_1).f1, (rd_T28 l0 x6_1).f2, (rd_T28 l0 x6_1).f3, (rd_T28 l0 x6_1).f4, (rd_T28 l0 x6_1).f5, (rd_T28 l0 x6_1).f6, (rd_T28 l0 x6_1).f7⟩ : S28) (Kd.V_reads' (Kd.V_mono (ok' := (fun k_ => ((fun k_ => (P0_ k_ ∨ w.heap.size ≤ k_))) k_ ∧ some k_ ≠ (u5 : Value).ownBlock)) (HL255_7.out) (fun k_ hk => ⟨hk.1, hk.2⟩))).2.1 (Kd.V_F (Kd.V_mono (ok' := (fun k_ => ((fun k_ => (P0_ k_ ∨ w.heap.size ≤ k_))) k_ ∧ some k_ ≠ (u5 : Value).ownBlock)) (HL255_7.out) (fun k_ hk => ⟨hk.1, hk.2⟩))))); (case aB => exact (by repeat (first | (with_reducible first | exact HB.out | apply below_alloc | apply pw_below_drewN | apply below_drew1) | exact HB.out))); (case aF => exact (fun k_ hk => (.inr (Nat.le_trans (below_size (by repeat (first | (with_reducible first | exact HB.out | apply below_alloc | apply pw_below_drewN | apply below_drew1) | exact HB.out))) hk)))); (case aO => exact (by (with_reducible repeat (first | apply Kd.N_alloc | apply Kd.N_drewN | apply Kd.N_drew)); exact HO_5.out)); (case aS => exact (below_size (by repeat (first | (with_reducible first | exact HB.out | apply below_alloc | apply pw_below_drewN | apply below_drew1) | exact HB.out)))); (case aL => have := LMc14.out; omega); intro v257 w16 ho hb hg hat; rw [← Ny256.out] at ho; have n0_ := Aside0.mk (Kd.V_afterv (ok := (fun k_ => (P0_ k_ ∨ w.heap.size ≤ k_))) (by (with_reducible repeat (first | apply Kd.V_alloc | apply Kd.V_drewN | apply Kd.V_drew)); exact HO_0.out) hg hat); have n1_ := Aside0.mk (Kd.V_afterv (ok := (fun k_ => (P0_ k_ ∨ w.heap.size ≤ k_))) (by (with_reducible repeat (first | apply Kd.V_alloc | apply Kd.V_drewN | apply Kd.V_drew)); exact HL248_7.out) hg hat); have n2_ := Aside0.mk (Kd.V_afterv (ok := (fun k_ => (P0_ k_ ∨ w.heap.size ≤ k_))) (by (with_reducible repeat (first | apply Kd.V_alloc | apply Kd.V_drewN | apply Kd.V_drew)); exact HL253_7.out) hg hat); have n3_ := Aside0.mk (Kd.V_afterv (ok := (fun k_ => (P0_ k_ ∨ w.heap.size ≤ k_))) (by (with_reducible repeat (first | apply Kd.V_alloc | apply Kd.V_drewN | apply Kd.V_drew)); exact HL255_7.out) hg hat); have n4_ := Aside0.mk (hb); have n5_ := Aside0.mk (ho); clear HO_0; clear HL248_7; clear HL253_7; clear HL255_7; clear HB; clear HO_5; have HO_0 := n0_; have HL248_7 := n1_; have HL253_7 := n2_; have HL255_7 := n3_; have HB := n4_; have HO258 := n5_; clear n0_ n1_ n2_ n3_ n4_ n5_; clear ho hb hg hat))
                  go_roundg k1
                  case measure => have := HK1.out; omega
                  case rel => exact ⟨(y256), (wrap64 (x6_1 + 1)), (by first | rfl | (simp; done) | (simp [*]; done)), H', ⟨by have := HK1.out; omega⟩, ⟨by (with_reducible repeat (first | apply Kd.V_alloc | apply Kd.V_drewN | apply Kd.V_drew)); exact HO_0.out⟩, ⟨by (with_reducible repeat (first | apply Kd.N_alloc | apply Kd.N_drewN | apply Kd.N_drew)); exact HO258.out⟩, ⟨by repeat (first | (with_reducible first | exact HB.out | apply below_alloc | apply pw_below_drewN | apply below_drew1) | exact HB.out)⟩⟩
                · rw [if_neg c14] at H
                  exact absurd H (by simp)
              · replace c13 := Bool.eq_false_iff.mpr c13
                subst c13
                have H1 : (amphoraref09_Walk.l0 k1 l0 a1 x5_1 (wrap64 (x6_1 + 1))) = some r := by rw [if_neg (show ¬ (false = true) by decide)] at H; exact H
                clear H
                have H := H1
                clear H1
                have H' := Aside0.mk H
                clear H
                have p248 : 0 ≤ (x6_1 : Int) := of_decide_eq_true (by first | (with_reducible assumption) | assumption)
                have q248 : x6_1 < (l0.length : Int) := of_decide_eq_true (by first | (with_reducible assumption) | assumption)
                obtain ⟨ad248, A248_7, c248_7, e248, hx248_0, hx248_1, hx248_2, hx248_3, hx248_4, hx248_5, hx248_6, hx248_7, hl248_7, hi248_7⟩ := at_T28 (Kd.V_reads' HO_0.out).2.2 x6_1 p248 q248
                cases e248
                obtain ⟨ce248, hce248, hMe248, hcc248⟩ := Kd.V_get HO_0.out z28 x6_1 p248 (by first | exact q248 | exact of_decide_eq_true (by first | (with_reducible assumption) | assumption) | (have e_ := (Kd.V_reads' HO_0.out).1; omega))
                obtain ⟨ua248_7, uc248_7, rfl, ul248_7, ge248_7⟩ := k28_openF hMe248
                have hv248_7 := hcc248 7 _ rfl
                rw [add_field _ _ 7 (by omega)] at hv248_7
                replace hv248_7 := Option.some.inj (hv248_7.symm.trans hx248_7)
                injection hv248_7 with hva_ hvn_ hvc_
                rw [hva_] at ge248_7
                rw [hvc_] at ul248_7
                have HL248_7 := Aside0.mk (show Kd.V (Kd.int .u8) 5 _ w.heap.size _ _ ((rd_T28 l0 x6_1).f7) from Kd.V_mk ul248_7 ge248_7)
                clear hva_ hvn_ hvc_ ge248_7 ul248_7
                clear hcc248 hce248
                have HR248_7 := Aside0.mk hi248_7
                have HC248_7 := Aside0.mk hl248_7
                clear hi248_7 hl248_7
                replace p248 := eq_true p248
                replace q248 := eq_true q248
                have p253 : 0 ≤ (x6_1 : Int) := of_decide_eq_true (by first | (with_reducible assumption) | assumption)
                have q253 : x6_1 < (l0.length : Int) := of_decide_eq_true (by first | (with_reducible assumption) | assumption)
                obtain ⟨ad253, A253_7, c253_7, e253, hx253_0, hx253_1, hx253_2, hx253_3, hx253_4, hx253_5, hx253_6, hx253_7, hl253_7, hi253_7⟩ := at_T28 (Kd.V_reads' HO_0.out).2.2 x6_1 p253 q253
                obtain rfl : ad248 = ad253 := (by injection e253)
                obtain ⟨ce253, hce253, hMe253, hcc253⟩ := Kd.V_get HO_0.out z28 x6_1 p253 (by first | exact q253 | exact of_decide_eq_true (by first | (with_reducible assumption) | assumption) | (have e_ := (Kd.V_reads' HO_0.out).1; omega))
                obtain ⟨ua253_7, uc253_7, rfl, ul253_7, ge253_7⟩ := k28_openF hMe253
                have hv253_7 := hcc253 7 _ rfl
                rw [add_field _ _ 7 (by omega)] at hv253_7
                replace hv253_7 := Option.some.inj (hv253_7.symm.trans hx253_7)
                injection hv253_7 with hva_ hvn_ hvc_
                rw [hva_] at ge253_7
                rw [hvc_] at ul253_7
                have HL253_7 := Aside0.mk (show Kd.V (Kd.int .u8) 5 _ w.heap.size _ _ ((rd_T28 l0 x6_1).f7) from Kd.V_mk ul253_7 ge253_7)
                clear hva_ hvn_ hvc_ ge253_7 ul253_7
                clear hcc253 hce253
                have HR253_7 := Aside0.mk hi253_7
                have HC253_7 := Aside0.mk hl253_7
                clear hi253_7 hl253_7
                replace p253 := eq_true p253
                replace q253 := eq_true q253
                have ea_ := Option.some.inj (hx248_7.symm.trans hx253_7)
                injection ea_ with ea_ en_ ec_
                subst ea_
                subst ec_
                clear en_
                go_wp2_with (first | (go_at_call 36; (with_reducible refine (amphoraref08_Above.calls k1 a1 ((rd_T28 l0 x6_1).f0) false _ ?side1 A12.out).mono ?_); (case side1 => first | exact HGL.out | exact Gl.drewN HGL.out _ | exact Gl.of HGL.out (by repeat (first | (with_reducible first | exact HB.out | apply below_alloc | apply pw_below_drewN | apply below_drew1) | exact HB.out))); rintro e w17 ⟨rfl, hb⟩; have n0_ := Aside0.mk (Kd.V_below (by (with_reducible repeat (first | apply Kd.V_alloc | apply Kd.V_drewN | apply Kd.V_drew)); exact HO_0.out) hb); have n1_ := Aside0.mk (Kd.N_below (by (with_reducible repeat (first | apply Kd.N_alloc | apply Kd.N_drewN | apply Kd.N_drew)); exact HO_5.out) hb); have n2_ := Aside0.mk (Kd.V_below (by (with_reducible repeat (first | apply Kd.V_alloc | apply Kd.V_drewN | apply Kd.V_drew)); exact HL248_7.out) hb); have n3_ := Aside0.mk (Kd.V_below (by (with_reducible repeat (first | apply Kd.V_alloc | apply Kd.V_drewN | apply Kd.V_drew)); exact HL253_7.out) hb); have n4_ := Aside0.mk (Kd.C_below (by repeat (first | (with_reducible exact HR248_7.out) | (with_reducible refine Kd.C_alloc ?_ _) | (with_reducible refine Kd.C_drewN ?_ _) | (with_reducible refine Kd.C_drew ?_) | exact HR248_7.out)) hb); have n5_ := Aside0.mk (Kd.C_below (by repeat (first | (with_reducible exact HR253_7.out) | (with_reducible refine Kd.C_alloc ?_ _) | (with_reducible refine Kd.C_drewN ?_ _) | (with_reducible refine Kd.C_drew ?_) | exact HR253_7.out)) hb); have n6_ := Aside0.mk (below_step (by repeat (first | (with_reducible first | exact HB.out | apply below_alloc | apply pw_below_drewN | apply below_drew1) | exact HB.out)) hb); clear HO_0; clear HO_5; clear HL248_7; clear HL253_7; clear HR248_7; clear HR253_7; clear HB; have HO_0 := n0_; have HO_5 := n1_; have HL248_7 := n2_; have HL253_7 := n3_; have HR248_7 := n4_; have HR253_7 := n5_; have HB := n6_; clear n0_ n1_ n2_ n3_ n4_ n5_ n6_; (try clear hb); (try clear hb2); (try clear hk); (try clear hi)))
                go_roundg k1
                case measure => have := HK1.out; omega
                case rel => exact ⟨(x5_1), (wrap64 (x6_1 + 1)), (by first | rfl | (simp; done) | (simp [*]; done)), H', ⟨by have := HK1.out; omega⟩, ⟨by (with_reducible repeat (first | apply Kd.V_alloc | apply Kd.V_drewN | apply Kd.V_drew)); exact HO_0.out⟩, ⟨by (with_reducible repeat (first | apply Kd.N_alloc | apply Kd.N_drewN | apply Kd.N_drew)); exact HO_5.out⟩, ⟨by repeat (first | (with_reducible first | exact HB.out | apply below_alloc | apply pw_below_drewN | apply below_drew1) | exact HB.out)⟩⟩
          · rw [if_neg c8] at H
            exact absurd H (by simp)
      · rw [if_neg c3] at H
        have c3b0 : decide (x6_1 < (l0.length : Int)) = false := decide_eq_false c3
        clear c3
        obtain rfl := Option.some.inj H
        go_wp2
        go_ret
        exact ⟨_, by first | rfl | (simp [errW_none, errW_some] <;> rfl) | (simp [*, errW_none, errW_some] <;> rfl), by (with_reducible repeat (first | apply Kd.N_alloc | apply Kd.N_drewN | apply Kd.N_drew)); exact HO_5.out, by repeat (first | (with_reducible first | exact HB.out | apply below_alloc | apply pw_below_drewN | apply below_drew1) | exact HB.out)⟩

end Go.Proofs.YtfkbmjfhakooiaaGreatDoor.PTree
