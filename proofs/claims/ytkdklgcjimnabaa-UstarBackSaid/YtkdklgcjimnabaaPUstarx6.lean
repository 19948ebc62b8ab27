/- Printed for this claim by a copy of the kit's print.py that takes functions walked by our own texts. Conditions: none. -/
import Derived.Test.YtkdklgcjimnabaaPUstarx0
import Derived.Test.YtkdklgcjimnabaaPUstarx1
import Derived.Test.YtkdklgcjimnabaaPUstarx4
import Derived.Test.YtkdklgcjimnabaaPUstarx5
namespace Go.Proofs.Ytkdklgcjimnabaa.PUstar
open Go.RowKit Go.Proofs.YtkdklgcjimnabaaW.PrintWords Go.Proofs.YtkdklgcjimnabaaW.PrintLast Go.Proofs.YtkdklgcjimnabaaW.PrintMore
attribute [local go_sem] max2_int min2_int max_two min_two max_three min_three max_four min_four   -- for this text's walks alone
set_option linter.unusedVariables false
set_option linter.unusedSimpArgs false

attribute [local go_sem high] eqA26
/-! ### amphoralaw10_alive: function 8 -/
def amphoralaw10_alive.f (k : Nat)  : Option (Bool) := (ustar_Encode.f k (⟨#[97]⟩ : ByteArray) 420 0 0 0 0 48 (⟨#[]⟩ : ByteArray)).bind fun bt167 => (if bt167.2.isNone = true then (if (bt167.1.length : Int) = 512 then ((ustar_Decode.f k bt167.1).bind fun bt172 => (if bt172.2.2.2.2.2.2.2.2.isNone = true then (if (bt172.1.toList == ([97] : List UInt8) && (bt172.2.1 == 420 && (bt172.2.2.1 == 0 && (bt172.2.2.2.1 == 0 && (bt172.2.2.2.2.1 == 0 && (bt172.2.2.2.2.2.1 == 0 && (bt172.2.2.2.2.2.2.1 == 48 && (bt172.2.2.2.2.2.2.2.1.toList == ([] : List UInt8))))))))) = true then (if 100 ≤ 108 then (if 108 ≤ (bt167.1.length : Int) then (if (strOfNums ((bt167.1.take 108).drop 100)).toList = ([48, 48, 48, 48, 54, 52, 52, 0] : List UInt8) then (if 148 ≤ 156 then (if 156 ≤ (bt167.1.length : Int) then (some ((strOfNums ((bt167.1.take 156).drop 148)).toList == ([48, 48, 55, 51, 51, 54, 0, 32] : List UInt8))) else (none)) else (none)) else (some false)) else (none)) else (none)) else (some false)) else (some false))) else (some false)) else (some false))
theorem amphoralaw10_alive.mono : ∀ k, LeO (amphoralaw10_alive.f k ) (amphoralaw10_alive.f (k + 1) ) := by
  intro  k
  unfold amphoralaw10_alive.f
  repeat' first
      | (with_reducible exact ustar_Decode.mono _ _)
      | (with_reducible exact ustar_Encode.mono _ _ _ _ _ _ _ _ _)
      | (with_reducible exact LeO.refl _)
      | (with_reducible exact LeO.none _)
      | (with_reducible refine LeO.ite ?_ ?_)
      | (with_reducible refine LeO.bind ?_ (fun _ => ?_))
      | exact ustar_Decode.mono _ _
      | exact ustar_Encode.mono _ _ _ _ _ _ _ _ _
      | exact LeO.none _
      | refine LeO.ite ?_ ?_
      | refine LeO.bind ?_ (fun _ => ?_)
set_option maxHeartbeats 8000000 in
set_option maxRecDepth 100000 in
theorem amphoralaw10_alive.calls (k : Nat)  (r : Bool) (w : World) (h : amphoralaw10_alive.f k  = some r) :
    Calls Try.prog 8 #[] w fun e w' => e = .returned (.bool r) ∧ Below w.heap.size w w' := by
  have hu26 := Try.underlying26
  have hu28 := Try.underlying28
  have hu40 := Try.underlying40
  have HB := Aside0.mk (Below.refl w.heap.size w)
  have H : ((ustar_Encode.f k (⟨#[97]⟩ : ByteArray) 420 0 0 0 0 48 (⟨#[]⟩ : ByteArray)).bind fun bt167 => (if bt167.2.isNone = true then (if (bt167.1.length : Int) = 512 then ((ustar_Decode.f k bt167.1).bind fun bt172 => (if bt172.2.2.2.2.2.2.2.2.isNone = true then (if (bt172.1.toList == ([97] : List UInt8) && (bt172.2.1 == 420 && (bt172.2.2.1 == 0 && (bt172.2.2.2.1 == 0 && (bt172.2.2.2.2.1 == 0 && (bt172.2.2.2.2.2.1 == 0 && (bt172.2.2.2.2.2.2.1 == 48 && (bt172.2.2.2.2.2.2.2.1.toList == ([] : List UInt8))))))))) = true then (if 100 ≤ 108 then (if 108 ≤ (bt167.1.length : Int) then (if (strOfNums ((bt167.1.take 108).drop 100)).toList = ([48, 48, 48, 48, 54, 52, 52, 0] : List UInt8) then (if 148 ≤ 156 then (if 156 ≤ (bt167.1.length : Int) then (some ((strOfNums ((bt167.1.take 156).drop 148)).toList == ([48, 48, 55, 51, 51, 54, 0, 32] : List UInt8))) else (none)) else (none)) else (some false)) else (none)) else (none)) else (some false)) else (some false))) else (some false)) else (some false))) = some r := h
  clear h
  replace H := Option.bind_eq_some_iff.mp H
  obtain ⟨⟨t167, t170⟩, A10, H⟩ := H
  replace H : (if t170.isNone = true then (if (t167.length : Int) = 512 then ((ustar_Decode.f k t167).bind fun bt172 => (if bt172.2.2.2.2.2.2.2.2.isNone = true then (if (bt172.1.toList == ([97] : List UInt8) && (bt172.2.1 == 420 && (bt172.2.2.1 == 0 && (bt172.2.2.2.1 == 0 && (bt172.2.2.2.2.1 == 0 && (bt172.2.2.2.2.2.1 == 0 && (bt172.2.2.2.2.2.2.1 == 48 && (bt172.2.2.2.2.2.2.2.1.toList == ([] : List UInt8))))))))) = true then (if 100 ≤ 108 then (if 108 ≤ (t167.length : Int) then (if (strOfNums ((t167.take 108).drop 100)).toList = ([48, 48, 48, 48, 54, 52, 52, 0] : List UInt8) then (if 148 ≤ 156 then (if 156 ≤ (t167.length : Int) then (some ((strOfNums ((t167.take 156).drop 148)).toList == ([48, 48, 55, 51, 51, 54, 0, 32] : List UInt8))) else (none)) else (none)) else (some false)) else (none)) else (none)) else (some false)) else (some false))) else (some false)) else (some false)) = some r := H
  have A1 := Aside0.mk A10
  clear A10
  rcases t170 with _ | q171
  · have H1 : (if (t167.length : Int) = 512 then ((ustar_Decode.f k t167).bind fun bt172 => (if bt172.2.2.2.2.2.2.2.2.isNone = true then (if (bt172.1.toList == ([97] : List UInt8) && (bt172.2.1 == 420 && (bt172.2.2.1 == 0 && (bt172.2.2.2.1 == 0 && (bt172.2.2.2.2.1 == 0 && (bt172.2.2.2.2.2.1 == 0 && (bt172.2.2.2.2.2.2.1 == 48 && (bt172.2.2.2.2.2.2.2.1.toList == ([] : List UInt8))))))))) = true then (if 100 ≤ 108 then (if 108 ≤ (t167.length : Int) then (if (strOfNums ((t167.take 108).drop 100)).toList = ([48, 48, 48, 48, 54, 52, 52, 0] : List UInt8) then (if 148 ≤ 156 then (if 156 ≤ (t167.length : Int) then (some ((strOfNums ((t167.take 156).drop 148)).toList == ([48, 48, 55, 51, 51, 54, 0, 32] : List UInt8))) else (none)) else (none)) else (some false)) else (none)) else (none)) else (some false)) else (some false))) else (some false)) = some r := by rw [if_pos (show (none : Option Int).isNone = true by rfl)] at H; exact H
    clear H
    have H := H1
    clear H1
    try simp only [errW_none, errW_some]
    by_cases c2 : (t167.length : Int) = 512
    · rw [if_pos c2] at H
      have c2b0 : ((t167.length : Int) == 512) = true := beq_iff_eq.mpr c2
      have c2b1 : ((t167.length : Int) != 512) = false := bne_eq_false_iff_eq.mpr c2
      clear c2
      replace H := Option.bind_eq_some_iff.mp H
      obtain ⟨⟨t172, t173, t174, t175, t176, t177, t178, t179, t180⟩, A30, H⟩ := H
      replace H : (if t180.isNone = true then (if (t172.toList == ([97] : List UInt8) && (t173 == 420 && (t174 == 0 && (t175 == 0 && (t176 == 0 && (t177 == 0 && (t178 == 48 && (t179.toList == ([] : List UInt8))))))))) = true then (if 100 ≤ 108 then (if 108 ≤ (t167.length : Int) then (if (strOfNums ((t167.take 108).drop 100)).toList = ([48, 48, 48, 48, 54, 52, 52, 0] : List UInt8) then (if 148 ≤ 156 then (if 156 ≤ (t167.length : Int) then (some ((strOfNums ((t167.take 156).drop 148)).toList == ([48, 48, 55, 51, 51, 54, 0, 32] : List UInt8))) else (none)) else (none)) else (some false)) else (none)) else (none)) else (some false)) else (some false)) = some r := H
      have A3 := Aside0.mk A30
      clear A30
      rcases t180 with _ | q182
      · have H1 : (if (t172.toList == ([97] : List UInt8) && (t173 == 420 && (t174 == 0 && (t175 == 0 && (t176 == 0 && (t177 == 0 && (t178 == 48 && (t179.toList == ([] : List UInt8))))))))) = true then (if 100 ≤ 108 then (if 108 ≤ (t167.length : Int) then (if (strOfNums ((t167.take 108).drop 100)).toList = ([48, 48, 48, 48, 54, 52, 52, 0] : List UInt8) then (if 148 ≤ 156 then (if 156 ≤ (t167.length : Int) then (some ((strOfNums ((t167.take 156).drop 148)).toList == ([48, 48, 55, 51, 51, 54, 0, 32] : List UInt8))) else (none)) else (none)) else (some false)) else (none)) else (none)) else (some false)) = some r := by rw [if_pos (show (none : Option Int).isNone = true by rfl)] at H; exact H
        clear H
        have H := H1
        clear H1
        try simp only [errW_none, errW_some]
        by_cases c4 : (t172.toList == ([97] : List UInt8) && (t173 == 420 && (t174 == 0 && (t175 == 0 && (t176 == 0 && (t177 == 0 && (t178 == 48 && (t179.toList == ([] : List UInt8))))))))) = true
        · rw [if_pos c4] at H
          have c4b0 : (t172.toList == ([97] : List UInt8) && (t173 == 420 && (t174 == 0 && (t175 == 0 && (t176 == 0 && (t177 == 0 && (t178 == 48 && (t179.toList == ([] : List UInt8))))))))) = true := c4
          (try (have c4b5 : (t172.toList == ([97] : List UInt8) && (t173 == 420 && (t174 == 0 && (t175 == 0 && (t176 == 0 && (t177 == 0 && (t178 == 48 && t179.toList.isEmpty))))))) = true := by simpa using c4))
          (try (have c4b1 : decide (t172.toList = ([97] : List UInt8) && (t173 == 420 && (t174 == 0 && (t175 == 0 && (t176 == 0 && (t177 == 0 && (t178 == 48 && (t179.toList == ([] : List UInt8))))))))) = true := by simpa using c4))
          (try (have c4b2 : (t172.toList == ([97] : List UInt8) && (t173 == 420 && (t174 == 0 && (t175 == 0 && (t176 == 0 && (t177 == 0 && (t178 == 48 && (t179.toList == ([] : List UInt8))))))))) = true := by simpa using c4))
          clear c4
          by_cases c5 : 100 ≤ 108
          · rw [if_pos c5] at H
            have c5b0 := eq_true c5
            have c5b1 : decide (100 ≤ 108) = true := decide_eq_true c5
            clear c5
            by_cases c6 : 108 ≤ (t167.length : Int)
            · rw [if_pos c6] at H
              have c6b0 := eq_true c6
              have c6b1 : decide (108 ≤ (t167.length : Int)) = true := decide_eq_true c6
              clear c6
              obtain ⟨y183, hy183⟩ : ∃ y_ : List Int, y_ = ((t167.take 108).drop 100) := ⟨_, rfl⟩
              replace H : (if (strOfNums y183).toList = ([48, 48, 48, 48, 54, 52, 52, 0] : List UInt8) then (if 148 ≤ 156 then (if 156 ≤ (t167.length : Int) then (some ((strOfNums ((t167.take 156).drop 148)).toList == ([48, 48, 55, 51, 51, 54, 0, 32] : List UInt8))) else (none)) else (none)) else (some false)) = some r := by first | (rw [hy183]; with_reducible exact H) | (have H2_ := (Option.bind_some _ _).symm.trans H; rw [hy183]; with_reducible exact H2_) | (have H2_ := (Option.bind_some _ _).symm.trans H; with_reducible exact H2_) | with_reducible exact H | (rw [hy183]; exact H) | exact H
              have Ny183 := Aside0.mk hy183
              clear hy183
              by_cases c7 : (strOfNums y183).toList = ([48, 48, 48, 48, 54, 52, 52, 0] : List UInt8)
              · rw [if_pos c7] at H
                have c7b0 : ((strOfNums y183).toList == ([48, 48, 48, 48, 54, 52, 52, 0] : List UInt8)) = true := beq_iff_eq.mpr c7
                have c7b1 : ((strOfNums y183).toList != ([48, 48, 48, 48, 54, 52, 52, 0] : List UInt8)) = false := bne_eq_false_iff_eq.mpr c7
                clear c7
                by_cases c8 : 148 ≤ 156
                · rw [if_pos c8] at H
                  have c8b0 := eq_true c8
                  have c8b1 : decide (148 ≤ 156) = true := decide_eq_true c8
                  clear c8
                  by_cases c9 : 156 ≤ (t167.length : Int)
                  · rw [if_pos c9] at H
                    have c9b0 := eq_true c9
                    have c9b1 : decide (156 ≤ (t167.length : Int)) = true := decide_eq_true c9
                    clear c9
                    obtain ⟨y187, hy187⟩ : ∃ y_ : List Int, y_ = ((t167.take 156).drop 148) := ⟨_, rfl⟩
                    replace H : (some ((strOfNums y187).toList == ([48, 48, 55, 51, 51, 54, 0, 32] : List UInt8))) = some r := by first | (rw [hy187]; with_reducible exact H) | (have H2_ := (Option.bind_some _ _).symm.trans H; rw [hy187]; with_reducible exact H2_) | (have H2_ := (Option.bind_some _ _).symm.trans H; with_reducible exact H2_) | with_reducible exact H | (rw [hy187]; exact H) | exact H
                    have Ny187 := Aside0.mk hy187
                    clear hy187
                    obtain rfl := Option.some.inj H
                    go_enter Try.func8, Try.ntmps8
                    go_wp2_with (first | ((with_reducible refine gate_callee (f := 14) rfl ?_); refine goesL_ (some 6) rfl rfl Try.func14 (by kernel_rfl) rfl #[.agg #[.string (⟨#[97]⟩ : ByteArray), .int .i64 420, .int .i64 0, .int .i64 0, .int .i64 0, .int .i64 0, .int .u8 48, .string (⟨#[]⟩ : ByteArray)]] rfl (by (try simp only [List.map_toArray, List.map_cons, List.map_nil]); first | done | rfl | (simp only [List.length_drop, List.length_take]; rfl)) ?_; (with_reducible refine (ustar_Encode.calls k (⟨#[97]⟩ : ByteArray) 420 0 0 0 0 48 (⟨#[]⟩ : ByteArray) t167 none _ A1.out).mono ?_); rintro e w10 ⟨v168, rfl, ho0, hb⟩; refine ⟨_, rfl, ?_⟩; have n0_ := Aside0.mk (Kd.R_lower ho0 (below_size (by repeat (first | (with_reducible first | exact HB.out | apply below_alloc | apply pw_below_drewN | apply below_drew1) | exact HB.out)))); have n1_ := Aside0.mk (below_step (by repeat (first | (with_reducible first | exact HB.out | apply below_alloc | apply pw_below_drewN | apply below_drew1) | exact HB.out)) hb); clear HB; have HO169 := n0_; have HB := n1_; clear n0_ n1_; (try clear hb); (try clear hb2); (try clear hk); (try clear hi); (try clear ho0); (try simp only [errW_none, errW_some]); obtain ⟨Ao11, co11, eo11⟩ := Kd.R_slice HO169.out; subst eo11) | ((with_reducible refine gate_callee (f := 10) rfl ?_); refine goesL_ (some 18) rfl rfl Try.func10 (by kernel_rfl) rfl #[.slice Ao11 t167.length co11] rfl (by (try simp only [List.map_toArray, List.map_cons, List.map_nil]); first | done | rfl | (simp only [List.length_drop, List.length_take]; rfl)) ?_; (with_reducible refine (ustar_Decode.calls k _ _ t167 t172 t173 t174 t175 t176 t177 t178 t179 none _ ?side1 ?side2 A3.out).mono ?_); (case side1 => repeat (first | exact (Kd.R_reads' HO169.out).2.2 | (with_reducible refine Kd.C_alloc ?_ _) | (with_reducible refine Kd.C_drewN ?_ _) | (with_reducible refine Kd.C_drew ?_))); (case side2 => exact (Kd.R_reads' HO169.out).2.1); rintro e w12 ⟨rfl, hb⟩; refine ⟨_, rfl, ?_⟩; have n0_ := Aside0.mk (Kd.R_below (by (with_reducible repeat (first | apply Kd.R_alloc | apply Kd.R_drewN | apply Kd.R_drew)); exact HO169.out) hb); have n1_ := Aside0.mk (below_step (by repeat (first | (with_reducible first | exact HB.out | apply below_alloc | apply pw_below_drewN | apply below_drew1) | exact HB.out)) hb); clear HO169; clear HB; have HO169 := n0_; have HB := n1_; clear n0_ n1_; (try clear hb); (try clear hb2); (try clear hk); (try clear hi); (try simp only [errW_none, errW_some])) | ((with_reducible refine gate_dst (N := 3) rfl ?_); (try (refine gate_guard (by rfl) ?_; dsimp only)); refine box_event ?hg (N := 3) ?hd (cs := #[.string (⟨#[]⟩ : ByteArray), .int .i64 0, .int .i64 0, .int .i64 0, .int .i64 0, .int .i64 0, .int .u8 0, .string (⟨#[]⟩ : ByteArray)]) (t := 26) ?hr ?_; (case hd => rfl); (case hg => rfl); (case hr => first | (go_simp; done) | (go_simp; rfl)); intro gb181 hg w13 hbox hb; have n0_ := Aside0.mk (Kd.R_below (by (with_reducible repeat (first | apply Kd.R_alloc | apply Kd.R_drewN | apply Kd.R_drew)); exact HO169.out) hb); have n1_ := Aside0.mk (below_step (by repeat (first | (with_reducible first | exact HB.out | apply below_alloc | apply pw_below_drewN | apply below_drew1) | exact HB.out)) hb); have n2_ := Aside0.mk (hbox); have n3_ := Aside0.mk ((by rw [hg]; exact (below_size (by repeat (first | (with_reducible first | exact HB.out | apply below_alloc | apply pw_below_drewN | apply below_drew1) | exact HB.out))) : w.heap.size ≤ gb181)); have n4_ := Aside0.mk ((by rw [hg]; exact (below_size (by repeat (first | (with_reducible first | exact HB.out | apply below_alloc | apply pw_below_drewN | apply below_drew1) | exact HB.out))) : w.heap.size ≤ gb181)); clear HO169; clear HB; have HO169 := n0_; have HB := n1_; have BK181 := n2_; have GW181 := n3_; have GE181 := n4_; clear n0_ n1_ n2_ n3_ n4_; clear hb hbox hg; have hcz14_0 : w13.cell? ⟨gb181, 0, none⟩ = some (.string (⟨#[]⟩ : ByteArray)) := (blk_cell BK181.out 0).trans rfl; have hcz14_1 : w13.cell? ⟨gb181, 1, none⟩ = some (.int .i64 0) := (blk_cell BK181.out 1).trans rfl; have hcz14_2 : w13.cell? ⟨gb181, 2, none⟩ = some (.int .i64 0) := (blk_cell BK181.out 2).trans rfl; have hcz14_3 : w13.cell? ⟨gb181, 3, none⟩ = some (.int .i64 0) := (blk_cell BK181.out 3).trans rfl; have hcz14_4 : w13.cell? ⟨gb181, 4, none⟩ = some (.int .i64 0) := (blk_cell BK181.out 4).trans rfl; have hcz14_5 : w13.cell? ⟨gb181, 5, none⟩ = some (.int .i64 0) := (blk_cell BK181.out 5).trans rfl; have hcz14_6 : w13.cell? ⟨gb181, 6, none⟩ = some (.int .u8 0) := (blk_cell BK181.out 6).trans rfl; have hcz14_7 : w13.cell? ⟨gb181, 7, none⟩ = some (.string (⟨#[]⟩ : ByteArray)) := (blk_cell BK181.out 7).trans rfl; have hfz14_0 := blk_frozen BK181.out 0; have hfz14_1 := blk_frozen BK181.out 1; have hfz14_2 := blk_frozen BK181.out 2; have hfz14_3 := blk_frozen BK181.out 3; have hfz14_4 := blk_frozen BK181.out 4; have hfz14_5 := blk_frozen BK181.out 5; have hfz14_6 := blk_frozen BK181.out 6; have hfz14_7 := blk_frozen BK181.out 7) | ((with_reducible refine gate_store (t := 26) (p := 3) rfl ?_); refine store_event (t := 26) (p := 3) (v := ?vo_w15) (w1 := ((((((((w13.setCell ⟨gb181, 0, none⟩ (.string t172)).setCell ⟨gb181, 1, none⟩ (.int .i64 t173)).setCell ⟨gb181, 2, none⟩ (.int .i64 t174)).setCell ⟨gb181, 3, none⟩ (.int .i64 t175)).setCell ⟨gb181, 4, none⟩ (.int .i64 t176)).setCell ⟨gb181, 5, none⟩ (.int .i64 t177)).setCell ⟨gb181, 6, none⟩ (.int .u8 t178)).setCell ⟨gb181, 7, none⟩ (.string t179))) ?hg ?ho ?hn ?hr ?_; (case ho => rfl); (case hg => rfl); (case hn => rfl); (case hr => first | (go_simp; done) | (go_simp; rfl)); intro w15 hw; have n0_ : Aside0 (Kd.R (Kd.int .u8) 5 w15 w.heap.size (fun _ => True) (.slice Ao11 t167.length co11) t167) := ⟨(by rw [hw]; exact (by (with_reducible repeat (first | apply Kd.R_alloc | apply Kd.R_drewN | apply Kd.R_drew)); exact Kd.R_mono (Kd.R_far (p := ⟨gb181, 7, none⟩) (Kd.R_far (p := ⟨gb181, 6, none⟩) (Kd.R_far (p := ⟨gb181, 5, none⟩) (Kd.R_far (p := ⟨gb181, 4, none⟩) (Kd.R_far (p := ⟨gb181, 3, none⟩) (Kd.R_far (p := ⟨gb181, 2, none⟩) (Kd.R_far (p := ⟨gb181, 1, none⟩) (Kd.R_far (p := ⟨gb181, 0, none⟩) (Kd.R_types HO169.out BK181.out (by decide)) (fun _ hk => hk.2) (.string t172)) (fun _ hk => hk.2) (.int .i64 t173)) (fun _ hk => hk.2) (.int .i64 t174)) (fun _ hk => hk.2) (.int .i64 t175)) (fun _ hk => hk.2) (.int .i64 t176)) (fun _ hk => hk.2) (.int .i64 t177)) (fun _ hk => hk.2) (.int .u8 t178)) (fun _ hk => hk.2) (.string t179)) (fun _ hk => trivial)))⟩; have n1_ : Aside0 (w15.heap[gb181]? = some (.cells #[.string t172, .int .i64 t173, .int .i64 t174, .int .i64 t175, .int .i64 t176, .int .i64 t177, .int .u8 t178, .string t179] 26 (0, 0))) := ⟨(by rw [hw]; exact (by (with_reducible repeat (first | refine blk_drewN ?_ _ | refine blk_drew ?_ | refine blk_alloc ?_ _)); refine blk_put (cs := #[.string t172, .int .i64 t173, .int .i64 t174, .int .i64 t175, .int .i64 t176, .int .i64 t177, .int .u8 t178, .string (⟨#[]⟩ : ByteArray)]) ?_ 7 _ rfl; (with_reducible repeat (first | refine blk_drewN ?_ _ | refine blk_drew ?_ | refine blk_alloc ?_ _)); refine blk_put (cs := #[.string t172, .int .i64 t173, .int .i64 t174, .int .i64 t175, .int .i64 t176, .int .i64 t177, .int .u8 0, .string (⟨#[]⟩ : ByteArray)]) ?_ 6 _ rfl; (with_reducible repeat (first | refine blk_drewN ?_ _ | refine blk_drew ?_ | refine blk_alloc ?_ _)); refine blk_put (cs := #[.string t172, .int .i64 t173, .int .i64 t174, .int .i64 t175, .int .i64 t176, .int .i64 0, .int .u8 0, .string (⟨#[]⟩ : ByteArray)]) ?_ 5 _ rfl; (with_reducible repeat (first | refine blk_drewN ?_ _ | refine blk_drew ?_ | refine blk_alloc ?_ _)); refine blk_put (cs := #[.string t172, .int .i64 t173, .int .i64 t174, .int .i64 t175, .int .i64 0, .int .i64 0, .int .u8 0, .string (⟨#[]⟩ : ByteArray)]) ?_ 4 _ rfl; (with_reducible repeat (first | refine blk_drewN ?_ _ | refine blk_drew ?_ | refine blk_alloc ?_ _)); refine blk_put (cs := #[.string t172, .int .i64 t173, .int .i64 t174, .int .i64 0, .int .i64 0, .int .i64 0, .int .u8 0, .string (⟨#[]⟩ : ByteArray)]) ?_ 3 _ rfl; (with_reducible repeat (first | refine blk_drewN ?_ _ | refine blk_drew ?_ | refine blk_alloc ?_ _)); refine blk_put (cs := #[.string t172, .int .i64 t173, .int .i64 0, .int .i64 0, .int .i64 0, .int .i64 0, .int .u8 0, .string (⟨#[]⟩ : ByteArray)]) ?_ 2 _ rfl; (with_reducible repeat (first | refine blk_drewN ?_ _ | refine blk_drew ?_ | refine blk_alloc ?_ _)); refine blk_put (cs := #[.string t172, .int .i64 0, .int .i64 0, .int .i64 0, .int .i64 0, .int .i64 0, .int .u8 0, .string (⟨#[]⟩ : ByteArray)]) ?_ 1 _ rfl; (with_reducible repeat (first | refine blk_drewN ?_ _ | refine blk_drew ?_ | refine blk_alloc ?_ _)); refine blk_put (cs := #[.string (⟨#[]⟩ : ByteArray), .int .i64 0, .int .i64 0, .int .i64 0, .int .i64 0, .int .i64 0, .int .u8 0, .string (⟨#[]⟩ : ByteArray)]) ?_ 0 _ rfl; (with_reducible repeat (first | refine blk_drewN ?_ _ | refine blk_drew ?_ | refine blk_alloc ?_ _)); exact BK181.out))⟩; have n2_ : Aside0 (Below w.heap.size w w15) := ⟨(by rw [hw]; exact (by repeat (first | (with_reducible first | exact HB.out | apply below_alloc | apply pw_below_drewN | apply below_drew1 | refine below_set ?_ GE181.out) | exact HB.out)))⟩; clear hw; clear HO169; clear BK181; clear HB; have HO169 := n0_; have BK181 := n1_; have HB := n2_; clear n0_ n1_ n2_; have hcz16_0 : w15.cell? ⟨gb181, 0, none⟩ = some (.string t172) := (blk_cell BK181.out 0).trans rfl; have hcz16_1 : w15.cell? ⟨gb181, 1, none⟩ = some (.int .i64 t173) := (blk_cell BK181.out 1).trans rfl; have hcz16_2 : w15.cell? ⟨gb181, 2, none⟩ = some (.int .i64 t174) := (blk_cell BK181.out 2).trans rfl; have hcz16_3 : w15.cell? ⟨gb181, 3, none⟩ = some (.int .i64 t175) := (blk_cell BK181.out 3).trans rfl; have hcz16_4 : w15.cell? ⟨gb181, 4, none⟩ = some (.int .i64 t176) := (blk_cell BK181.out 4).trans rfl; have hcz16_5 : w15.cell? ⟨gb181, 5, none⟩ = some (.int .i64 t177) := (blk_cell BK181.out 5).trans rfl; have hcz16_6 : w15.cell? ⟨gb181, 6, none⟩ = some (.int .u8 t178) := (blk_cell BK181.out 6).trans rfl; have hcz16_7 : w15.cell? ⟨gb181, 7, none⟩ = some (.string t179) := (blk_cell BK181.out 7).trans rfl; have hfz16_0 := blk_frozen BK181.out 0; have hfz16_1 := blk_frozen BK181.out 1; have hfz16_2 := blk_frozen BK181.out 2; have hfz16_3 := blk_frozen BK181.out 3; have hfz16_4 := blk_frozen BK181.out 4; have hfz16_5 := blk_frozen BK181.out 5; have hfz16_6 := blk_frozen BK181.out 6; have hfz16_7 := blk_frozen BK181.out 7; have q17 : (108 : Int) ≤ ((t167.length : Int) : Int) := of_decide_eq_true (by first | (with_reducible assumption) | assumption); obtain ⟨i017, hi017, _, hsz17, _⟩ := info_parts info5; have hroom17 : t167.length ≤ co11 := (Kd.R_reads' HO169.out).2.1; have hC17 : Kd.C (Kd.int .u8) _ Ao11 t167.length t167 := (Kd.R_reads' HO169.out).2.2; have ql17 : (100 : Int) ≤ (108 : Int) := (by omega); have hcut17 := cut_mid (P := Try.prog) 22 5 .i64 .i64 Try.underlying22 hi017 1 hsz17 Ao11 t167.length co11 100 108 (by omega) ql17 q17 hroom17; have hr17 := Kd.C_mid (lo := (100 : Int).toNat) (hi := (108 : Int).toNat) (c := co11) hC17 (by omega) (by omega) hroom17; obtain ⟨A17, hA17⟩ : ∃ A1, A1 = (if co11 = (100 : Int).toNat then Ao11 else (Ao11 : Option Addr).map (·.add ((100 : Int).toNat * 1))) := ⟨_, rfl⟩; obtain ⟨c17, hc17⟩ : ∃ c1, c1 = co11 - (100 : Int).toNat := ⟨_, rfl⟩; have hy17 : y183.length = (108 : Int).toNat - (100 : Int).toNat := (by rw [Ny183.out, List.length_drop, List.length_take] <;> omega); rw [show ((t167).take (108 : Int).toNat).drop (100 : Int).toNat = y183 from Ny183.out.symm] at hr17; replace hr17 : Kd.C (Kd.int .u8) _ A17 y183.length y183 := (by rw [hA17]; exact hr17); rw [← hy17, ← hA17, ← hc17] at hcut17; have HR186 := Aside0.mk hr17; have HC186 := Aside0.mk (show y183.length ≤ c17 from by rw [hy17, hc17]; exact Nat.sub_le_sub_right (Nat.le_trans (by omega) hroom17) _); clear hr17 hC17 hroom17 hi017 hsz17 hc17; have KY17 := Aside0.mk hy17; have KA17 := Aside0.mk hA17; clear hy17 hA17; have KL17 := Aside0.mk (show 108 ≤ t167.length from by omega); have KM17 := Aside0.mk (show 100 ≤ 108 from by omega); replace q17 := eq_true q17; have hcv18 := Kd.C_string (P := Try.prog) (A := A17) (c := c17) Try.underlying22 Try.underlying5 Try.underlying9 (by repeat (first | (with_reducible exact HR186.out) | (with_reducible refine Kd.C_alloc ?_ _) | (with_reducible refine Kd.C_drewN ?_ _) | (with_reducible refine Kd.C_drew ?_) | exact HR186.out)); have q19 : (156 : Int) ≤ ((t167.length : Int) : Int) := of_decide_eq_true (by first | (with_reducible assumption) | assumption); obtain ⟨i019, hi019, _, hsz19, _⟩ := info_parts info5; have hroom19 : t167.length ≤ co11 := (Kd.R_reads' HO169.out).2.1; have hC19 : Kd.C (Kd.int .u8) _ Ao11 t167.length t167 := (Kd.R_reads' HO169.out).2.2; have ql19 : (148 : Int) ≤ (156 : Int) := (by omega); have hcut19 := cut_mid (P := Try.prog) 22 5 .i64 .i64 Try.underlying22 hi019 1 hsz19 Ao11 t167.length co11 148 156 (by omega) ql19 q19 hroom19; have hr19 := Kd.C_mid (lo := (148 : Int).toNat) (hi := (156 : Int).toNat) (c := co11) hC19 (by omega) (by omega) hroom19; obtain ⟨A19, hA19⟩ : ∃ A1, A1 = (if co11 = (148 : Int).toNat then Ao11 else (Ao11 : Option Addr).map (·.add ((148 : Int).toNat * 1))) := ⟨_, rfl⟩; obtain ⟨c19, hc19⟩ : ∃ c1, c1 = co11 - (148 : Int).toNat := ⟨_, rfl⟩; have hy19 : y187.length = (156 : Int).toNat - (148 : Int).toNat := (by rw [Ny187.out, List.length_drop, List.length_take] <;> omega); rw [show ((t167).take (156 : Int).toNat).drop (148 : Int).toNat = y187 from Ny187.out.symm] at hr19; replace hr19 : Kd.C (Kd.int .u8) _ A19 y187.length y187 := (by rw [hA19]; exact hr19); rw [← hy19, ← hA19, ← hc19] at hcut19; have HR190 := Aside0.mk hr19; have HC190 := Aside0.mk (show y187.length ≤ c19 from by rw [hy19, hc19]; exact Nat.sub_le_sub_right (Nat.le_trans (by omega) hroom19) _); clear hr19 hC19 hroom19 hi019 hsz19 hc19; have KY19 := Aside0.mk hy19; have KA19 := Aside0.mk hA19; clear hy19 hA19; have KL19 := Aside0.mk (show 156 ≤ t167.length from by omega); have KM19 := Aside0.mk (show 148 ≤ 156 from by omega); replace q19 := eq_true q19; have hcv20 := Kd.C_string (P := Try.prog) (A := A19) (c := c19) Try.underlying22 Try.underlying5 Try.underlying9 (by repeat (first | (with_reducible exact HR190.out) | (with_reducible refine Kd.C_alloc ?_ _) | (with_reducible refine Kd.C_drewN ?_ _) | (with_reducible refine Kd.C_drew ?_) | exact HR190.out))))
                    go_ret
                    exact ⟨by first | rfl | (simp [errW_none, errW_some] <;> rfl) | (simp [*, errW_none, errW_some] <;> rfl), by repeat (first | (with_reducible first | exact HB.out | apply below_alloc | apply pw_below_drewN | apply below_drew1 | refine below_set ?_ GE181.out) | exact HB.out)⟩
                  · rw [if_neg c9] at H
                    exact absurd H (by simp)
                · rw [if_neg c8] at H
                  exact absurd H (by simp)
              · rw [if_neg c7] at H
                have c7b0 : ((strOfNums y183).toList == ([48, 48, 48, 48, 54, 52, 52, 0] : List UInt8)) = false := beq_eq_false_iff_ne.mpr c7
                have c7b1 : ((strOfNums y183).toList != ([48, 48, 48, 48, 54, 52, 52, 0] : List UInt8)) = true := bne_iff_ne.mpr c7
                obtain rfl := Option.some.inj H
                go_enter Try.func8, Try.ntmps8
                go_wp2_with (first | ((with_reducible refine gate_callee (f := 14) rfl ?_); refine goesL_ (some 6) rfl rfl Try.func14 (by kernel_rfl) rfl #[.agg #[.string (⟨#[97]⟩ : ByteArray), .int .i64 420, .int .i64 0, .int .i64 0, .int .i64 0, .int .i64 0, .int .u8 48, .string (⟨#[]⟩ : ByteArray)]] rfl (by (try simp only [List.map_toArray, List.map_cons, List.map_nil]); first | done | rfl | (simp only [List.length_drop, List.length_take]; rfl)) ?_; (with_reducible refine (ustar_Encode.calls k (⟨#[97]⟩ : ByteArray) 420 0 0 0 0 48 (⟨#[]⟩ : ByteArray) t167 none _ A1.out).mono ?_); rintro e w21 ⟨v168, rfl, ho0, hb⟩; refine ⟨_, rfl, ?_⟩; have n0_ := Aside0.mk (Kd.R_lower ho0 (below_size (by repeat (first | (with_reducible first | exact HB.out | apply below_alloc | apply pw_below_drewN | apply below_drew1) | exact HB.out)))); have n1_ := Aside0.mk (below_step (by repeat (first | (with_reducible first | exact HB.out | apply below_alloc | apply pw_below_drewN | apply below_drew1) | exact HB.out)) hb); clear HB; have HO169 := n0_; have HB := n1_; clear n0_ n1_; (try clear hb); (try clear hb2); (try clear hk); (try clear hi); (try clear ho0); (try simp only [errW_none, errW_some]); obtain ⟨Ao22, co22, eo22⟩ := Kd.R_slice HO169.out; subst eo22) | ((with_reducible refine gate_callee (f := 10) rfl ?_); refine goesL_ (some 18) rfl rfl Try.func10 (by kernel_rfl) rfl #[.slice Ao22 t167.length co22] rfl (by (try simp only [List.map_toArray, List.map_cons, List.map_nil]); first | done | rfl | (simp only [List.length_drop, List.length_take]; rfl)) ?_; (with_reducible refine (ustar_Decode.calls k _ _ t167 t172 t173 t174 t175 t176 t177 t178 t179 none _ ?side1 ?side2 A3.out).mono ?_); (case side1 => repeat (first | exact (Kd.R_reads' HO169.out).2.2 | (with_reducible refine Kd.C_alloc ?_ _) | (with_reducible refine Kd.C_drewN ?_ _) | (with_reducible refine Kd.C_drew ?_))); (case side2 => exact (Kd.R_reads' HO169.out).2.1); rintro e w23 ⟨rfl, hb⟩; refine ⟨_, rfl, ?_⟩; have n0_ := Aside0.mk (Kd.R_below (by (with_reducible repeat (first | apply Kd.R_alloc | apply Kd.R_drewN | apply Kd.R_drew)); exact HO169.out) hb); have n1_ := Aside0.mk (below_step (by repeat (first | (with_reducible first | exact HB.out | apply below_alloc | apply pw_below_drewN | apply below_drew1) | exact HB.out)) hb); clear HO169; clear HB; have HO169 := n0_; have HB := n1_; clear n0_ n1_; (try clear hb); (try clear hb2); (try clear hk); (try clear hi); (try simp only [errW_none, errW_some])) | ((with_reducible refine gate_dst (N := 3) rfl ?_); (try (refine gate_guard (by rfl) ?_; dsimp only)); refine box_event ?hg (N := 3) ?hd (cs := #[.string (⟨#[]⟩ : ByteArray), .int .i64 0, .int .i64 0, .int .i64 0, .int .i64 0, .int .i64 0, .int .u8 0, .string (⟨#[]⟩ : ByteArray)]) (t := 26) ?hr ?_; (case hd => rfl); (case hg => rfl); (case hr => first | (go_simp; done) | (go_simp; rfl)); intro gb181 hg w24 hbox hb; have n0_ := Aside0.mk (Kd.R_below (by (with_reducible repeat (first | apply Kd.R_alloc | apply Kd.R_drewN | apply Kd.R_drew)); exact HO169.out) hb); have n1_ := Aside0.mk (below_step (by repeat (first | (with_reducible first | exact HB.out | apply below_alloc | apply pw_below_drewN | apply below_drew1) | exact HB.out)) hb); have n2_ := Aside0.mk (hbox); have n3_ := Aside0.mk ((by rw [hg]; exact (below_size (by repeat (first | (with_reducible first | exact HB.out | apply below_alloc | apply pw_below_drewN | apply below_drew1) | exact HB.out))) : w.heap.size ≤ gb181)); have n4_ := Aside0.mk ((by rw [hg]; exact (below_size (by repeat (first | (with_reducible first | exact HB.out | apply below_alloc | apply pw_below_drewN | apply below_drew1) | exact HB.out))) : w.heap.size ≤ gb181)); clear HO169; clear HB; have HO169 := n0_; have HB := n1_; have BK181 := n2_; have GW181 := n3_; have GE181 := n4_; clear n0_ n1_ n2_ n3_ n4_; clear hb hbox hg; have hcz25_0 : w24.cell? ⟨gb181, 0, none⟩ = some (.string (⟨#[]⟩ : ByteArray)) := (blk_cell BK181.out 0).trans rfl; have hcz25_1 : w24.cell? ⟨gb181, 1, none⟩ = some (.int .i64 0) := (blk_cell BK181.out 1).trans rfl; have hcz25_2 : w24.cell? ⟨gb181, 2, none⟩ = some (.int .i64 0) := (blk_cell BK181.out 2).trans rfl; have hcz25_3 : w24.cell? ⟨gb181, 3, none⟩ = some (.int .i64 0) := (blk_cell BK181.out 3).trans rfl; have hcz25_4 : w24.cell? ⟨gb181, 4, none⟩ = some (.int .i64 0) := (blk_cell BK181.out 4).trans rfl; have hcz25_5 : w24.cell? ⟨gb181, 5, none⟩ = some (.int .i64 0) := (blk_cell BK181.out 5).trans rfl; have hcz25_6 : w24.cell? ⟨gb181, 6, none⟩ = some (.int .u8 0) := (blk_cell BK181.out 6).trans rfl; have hcz25_7 : w24.cell? ⟨gb181, 7, none⟩ = some (.string (⟨#[]⟩ : ByteArray)) := (blk_cell BK181.out 7).trans rfl; have hfz25_0 := blk_frozen BK181.out 0; have hfz25_1 := blk_frozen BK181.out 1; have hfz25_2 := blk_frozen BK181.out 2; have hfz25_3 := blk_frozen BK181.out 3; have hfz25_4 := blk_frozen BK181.out 4; have hfz25_5 := blk_frozen BK181.out 5; have hfz25_6 := blk_frozen BK181.out 6; have hfz25_7 := blk_frozen BK181.out 7) | ((with_reducible refine gate_store (t := 26) (p := 3) rfl ?_); refine store_event (t := 26) (p := 3) (v := ?vo_w26) (w1 := ((((((((w24.setCell ⟨gb181, 0, none⟩ (.string t172)).setCell ⟨gb181, 1, none⟩ (.int .i64 t173)).setCell ⟨gb181, 2, none⟩ (.int .i64 t174)).setCell ⟨gb181, 3, none⟩ (.int .i64 t175)).setCell ⟨gb181, 4, none⟩ (.int .i64 t176)).setCell ⟨gb181, 5, none⟩ (.int .i64 t177)).setCell ⟨gb181, 6, none⟩ (.int .u8 t178)).setCell ⟨gb181, 7, none⟩ (.string t179))) ?hg ?ho ?hn ?hr ?_; (case ho => rfl); (case hg => rfl); (case hn => rfl); (case hr => first | (go_simp; done) | (go_simp; rfl)); intro w26 hw; have n0_ : Aside0 (Kd.R (Kd.int .u8) 5 w26 w.heap.size (fun _ => True) (.slice Ao22 t167.length co22) t167) := ⟨(by rw [hw]; exact (by (with_reducible repeat (first | apply Kd.R_alloc | apply Kd.R_drewN | apply Kd.R_drew)); exact Kd.R_mono (Kd.R_far (p := ⟨gb181, 7, none⟩) (Kd.R_far (p := ⟨gb181, 6, none⟩) (Kd.R_far (p := ⟨gb181, 5, none⟩) (Kd.R_far (p := ⟨gb181, 4, none⟩) (Kd.R_far (p := ⟨gb181, 3, none⟩) (Kd.R_far (p := ⟨gb181, 2, none⟩) (Kd.R_far (p := ⟨gb181, 1, none⟩) (Kd.R_far (p := ⟨gb181, 0, none⟩) (Kd.R_types HO169.out BK181.out (by decide)) (fun _ hk => hk.2) (.string t172)) (fun _ hk => hk.2) (.int .i64 t173)) (fun _ hk => hk.2) (.int .i64 t174)) (fun _ hk => hk.2) (.int .i64 t175)) (fun _ hk => hk.2) (.int .i64 t176)) (fun _ hk => hk.2) (.int .i64 t177)) (fun _ hk => hk.2) (.int .u8 t178)) (fun _ hk => hk.2) (.string t179)) (fun _ hk => trivial)))⟩; have n1_ : Aside0 (w26.heap[gb181]? = some (.cells #[.string t172, .int .i64 t173, .int .i64 t174, .int .i64 t175, .int .i64 t176, .int .i64 t177, .int .u8 t178, .string t179] 26 (0, 0))) := ⟨(by rw [hw]; exact (by (with_reducible repeat (first | refine blk_drewN ?_ _ | refine blk_drew ?_ | refine blk_alloc ?_ _)); refine blk_put (cs := #[.string t172, .int .i64 t173, .int .i64 t174, .int .i64 t175, .int .i64 t176, .int .i64 t177, .int .u8 t178, .string (⟨#[]⟩ : ByteArray)]) ?_ 7 _ rfl; (with_reducible repeat (first | refine blk_drewN ?_ _ | refine blk_drew ?_ | refine blk_alloc ?_ _)); refine blk_put (cs := #[.string t172, .int .i64 t173, .int .i64 t174, .int .i64 t175, .int .i64 t176, .int .i64 t177, .int .u8 0, .string (⟨#[]⟩ : ByteArray)]) ?_ 6 _ rfl; (with_reducible repeat (first | refine blk_drewN ?_ _ | refine blk_drew ?_ | refine blk_alloc ?_ _)); refine blk_put (cs := #[.string t172, .int .i64 t173, .int .i64 t174, .int .i64 t175, .int .i64 t176, .int .i64 0, .int .u8 0, .string (⟨#[]⟩ : ByteArray)]) ?_ 5 _ rfl; (with_reducible repeat (first | refine blk_drewN ?_ _ | refine blk_drew ?_ | refine blk_alloc ?_ _)); refine blk_put (cs := #[.string t172, .int .i64 t173, .int .i64 t174, .int .i64 t175, .int .i64 0, .int .i64 0, .int .u8 0, .string (⟨#[]⟩ : ByteArray)]) ?_ 4 _ rfl; (with_reducible repeat (first | refine blk_drewN ?_ _ | refine blk_drew ?_ | refine blk_alloc ?_ _)); refine blk_put (cs := #[.string t172, .int .i64 t173, .int .i64 t174, .int .i64 0, .int .i64 0, .int .i64 0, .int .u8 0, .string (⟨#[]⟩ : ByteArray)]) ?_ 3 _ rfl; (with_reducible repeat (first | refine blk_drewN ?_ _ | refine blk_drew ?_ | refine blk_alloc ?_ _)); refine blk_put (cs := #[.string t172, .int .i64 t173, .int .i64 0, .int .i64 0, .int .i64 0, .int .i64 0, .int .u8 0, .string (⟨#[]⟩ : ByteArray)]) ?_ 2 _ rfl; (with_reducible repeat (first | refine blk_drewN ?_ _ | refine blk_drew ?_ | refine blk_alloc ?_ _)); refine blk_put (cs := #[.string t172, .int .i64 0, .int .i64 0, .int .i64 0, .int .i64 0, .int .i64 0, .int .u8 0, .string (⟨#[]⟩ : ByteArray)]) ?_ 1 _ rfl; (with_reducible repeat (first | refine blk_drewN ?_ _ | refine blk_drew ?_ | refine blk_alloc ?_ _)); refine blk_put (cs := #[.string (⟨#[]⟩ : ByteArray), .int .i64 0, .int .i64 0, .int .i64 0, .int .i64 0, .int .i64 0, .int .u8 0, .string (⟨#[]⟩ : ByteArray)]) ?_ 0 _ rfl; (with_reducible repeat (first | refine blk_drewN ?_ _ | refine blk_drew ?_ | refine blk_alloc ?_ _)); exact BK181.out))⟩; have n2_ : Aside0 (Below w.heap.size w w26) := ⟨(by rw [hw]; exact (by repeat (first | (with_reducible first | exact HB.out | apply below_alloc | apply pw_below_drewN | apply below_drew1 | refine below_set ?_ GE181.out) | exact HB.out)))⟩; clear hw; clear HO169; clear BK181; clear HB; have HO169 := n0_; have BK181 := n1_; have HB := n2_; clear n0_ n1_ n2_; have hcz27_0 : w26.cell? ⟨gb181, 0, none⟩ = some (.string t172) := (blk_cell BK181.out 0).trans rfl; have hcz27_1 : w26.cell? ⟨gb181, 1, none⟩ = some (.int .i64 t173) := (blk_cell BK181.out 1).trans rfl; have hcz27_2 : w26.cell? ⟨gb181, 2, none⟩ = some (.int .i64 t174) := (blk_cell BK181.out 2).trans rfl; have hcz27_3 : w26.cell? ⟨gb181, 3, none⟩ = some (.int .i64 t175) := (blk_cell BK181.out 3).trans rfl; have hcz27_4 : w26.cell? ⟨gb181, 4, none⟩ = some (.int .i64 t176) := (blk_cell BK181.out 4).trans rfl; have hcz27_5 : w26.cell? ⟨gb181, 5, none⟩ = some (.int .i64 t177) := (blk_cell BK181.out 5).trans rfl; have hcz27_6 : w26.cell? ⟨gb181, 6, none⟩ = some (.int .u8 t178) := (blk_cell BK181.out 6).trans rfl; have hcz27_7 : w26.cell? ⟨gb181, 7, none⟩ = some (.string t179) := (blk_cell BK181.out 7).trans rfl; have hfz27_0 := blk_frozen BK181.out 0; have hfz27_1 := blk_frozen BK181.out 1; have hfz27_2 := blk_frozen BK181.out 2; have hfz27_3 := blk_frozen BK181.out 3; have hfz27_4 := blk_frozen BK181.out 4; have hfz27_5 := blk_frozen BK181.out 5; have hfz27_6 := blk_frozen BK181.out 6; have hfz27_7 := blk_frozen BK181.out 7; have q28 : (108 : Int) ≤ ((t167.length : Int) : Int) := of_decide_eq_true (by first | (with_reducible assumption) | assumption); obtain ⟨i028, hi028, _, hsz28, _⟩ := info_parts info5; have hroom28 : t167.length ≤ co22 := (Kd.R_reads' HO169.out).2.1; have hC28 : Kd.C (Kd.int .u8) _ Ao22 t167.length t167 := (Kd.R_reads' HO169.out).2.2; have ql28 : (100 : Int) ≤ (108 : Int) := (by omega); have hcut28 := cut_mid (P := Try.prog) 22 5 .i64 .i64 Try.underlying22 hi028 1 hsz28 Ao22 t167.length co22 100 108 (by omega) ql28 q28 hroom28; have hr28 := Kd.C_mid (lo := (100 : Int).toNat) (hi := (108 : Int).toNat) (c := co22) hC28 (by omega) (by omega) hroom28; obtain ⟨A28, hA28⟩ : ∃ A1, A1 = (if co22 = (100 : Int).toNat then Ao22 else (Ao22 : Option Addr).map (·.add ((100 : Int).toNat * 1))) := ⟨_, rfl⟩; obtain ⟨c28, hc28⟩ : ∃ c1, c1 = co22 - (100 : Int).toNat := ⟨_, rfl⟩; have hy28 : y183.length = (108 : Int).toNat - (100 : Int).toNat := (by rw [Ny183.out, List.length_drop, List.length_take] <;> omega); rw [show ((t167).take (108 : Int).toNat).drop (100 : Int).toNat = y183 from Ny183.out.symm] at hr28; replace hr28 : Kd.C (Kd.int .u8) _ A28 y183.length y183 := (by rw [hA28]; exact hr28); rw [← hy28, ← hA28, ← hc28] at hcut28; have HR186 := Aside0.mk hr28; have HC186 := Aside0.mk (show y183.length ≤ c28 from by rw [hy28, hc28]; exact Nat.sub_le_sub_right (Nat.le_trans (by omega) hroom28) _); clear hr28 hC28 hroom28 hi028 hsz28 hc28; have KY28 := Aside0.mk hy28; have KA28 := Aside0.mk hA28; clear hy28 hA28; have KL28 := Aside0.mk (show 108 ≤ t167.length from by omega); have KM28 := Aside0.mk (show 100 ≤ 108 from by omega); replace q28 := eq_true q28; have hcv29 := Kd.C_string (P := Try.prog) (A := A28) (c := c28) Try.underlying22 Try.underlying5 Try.underlying9 (by repeat (first | (with_reducible exact HR186.out) | (with_reducible refine Kd.C_alloc ?_ _) | (with_reducible refine Kd.C_drewN ?_ _) | (with_reducible refine Kd.C_drew ?_) | exact HR186.out))))
                go_ret
                exact ⟨by first | rfl | (simp [errW_none, errW_some] <;> rfl) | (simp [*, errW_none, errW_some] <;> rfl), by repeat (first | (with_reducible first | exact HB.out | apply below_alloc | apply pw_below_drewN | apply below_drew1 | refine below_set ?_ GE181.out) | exact HB.out)⟩
            · rw [if_neg c6] at H
              exact absurd H (by simp)
          · rw [if_neg c5] at H
            exact absurd H (by simp)
        · rw [if_neg c4] at H
          have c4b0 : (t172.toList == ([97] : List UInt8) && (t173 == 420 && (t174 == 0 && (t175 == 0 && (t176 == 0 && (t177 == 0 && (t178 == 48 && (t179.toList == ([] : List UInt8))))))))) = false := by simpa using c4
          (try (have c4b5 : (t172.toList == ([97] : List UInt8) && (t173 == 420 && (t174 == 0 && (t175 == 0 && (t176 == 0 && (t177 == 0 && (t178 == 48 && t179.toList.isEmpty))))))) = false := by simpa using c4))
          (try (have c4b1 : decide (t172.toList = ([97] : List UInt8) && (t173 == 420 && (t174 == 0 && (t175 == 0 && (t176 == 0 && (t177 == 0 && (t178 == 48 && (t179.toList == ([] : List UInt8))))))))) = false := by simpa using c4))
          (try (have c4b2 : (t172.toList == ([97] : List UInt8) && (t173 == 420 && (t174 == 0 && (t175 == 0 && (t176 == 0 && (t177 == 0 && (t178 == 48 && (t179.toList == ([] : List UInt8))))))))) = false := by simpa using c4))
          (try (have c4b3 : ¬ (t172.toList = ([97] : List UInt8) && (t173 == 420 && (t174 == 0 && (t175 == 0 && (t176 == 0 && (t177 == 0 && (t178 == 48 && (t179.toList == ([] : List UInt8))))))))) := by simpa using c4))
          clear c4
          obtain rfl := Option.some.inj H
          go_enter Try.func8, Try.ntmps8
          go_wp2_with (first | ((with_reducible refine gate_callee (f := 14) rfl ?_); refine goesL_ (some 6) rfl rfl Try.func14 (by kernel_rfl) rfl #[.agg #[.string (⟨#[97]⟩ : ByteArray), .int .i64 420, .int .i64 0, .int .i64 0, .int .i64 0, .int .i64 0, .int .u8 48, .string (⟨#[]⟩ : ByteArray)]] rfl (by (try simp only [List.map_toArray, List.map_cons, List.map_nil]); first | done | rfl | (simp only [List.length_drop, List.length_take]; rfl)) ?_; (with_reducible refine (ustar_Encode.calls k (⟨#[97]⟩ : ByteArray) 420 0 0 0 0 48 (⟨#[]⟩ : ByteArray) t167 none _ A1.out).mono ?_); rintro e w30 ⟨v168, rfl, ho0, hb⟩; refine ⟨_, rfl, ?_⟩; have n0_ := Aside0.mk (Kd.R_lower ho0 (below_size (by repeat (first | (with_reducible first | exact HB.out | apply below_alloc | apply pw_below_drewN | apply below_drew1) | exact HB.out)))); have n1_ := Aside0.mk (below_step (by repeat (first | (with_reducible first | exact HB.out | apply below_alloc | apply pw_below_drewN | apply below_drew1) | exact HB.out)) hb); clear HB; have HO169 := n0_; have HB := n1_; clear n0_ n1_; (try clear hb); (try clear hb2); (try clear hk); (try clear hi); (try clear ho0); (try simp only [errW_none, errW_some]); obtain ⟨Ao31, co31, eo31⟩ := Kd.R_slice HO169.out; subst eo31) | ((with_reducible refine gate_callee (f := 10) rfl ?_); refine goesL_ (some 18) rfl rfl Try.func10 (by kernel_rfl) rfl #[.slice Ao31 t167.length co31] rfl (by (try simp only [List.map_toArray, List.map_cons, List.map_nil]); first | done | rfl | (simp only [List.length_drop, List.length_take]; rfl)) ?_; (with_reducible refine (ustar_Decode.calls k _ _ t167 t172 t173 t174 t175 t176 t177 t178 t179 none _ ?side1 ?side2 A3.out).mono ?_); (case side1 => repeat (first | exact (Kd.R_reads' HO169.out).2.2 | (with_reducible refine Kd.C_alloc ?_ _) | (with_reducible refine Kd.C_drewN ?_ _) | (with_reducible refine Kd.C_drew ?_))); (case side2 => exact (Kd.R_reads' HO169.out).2.1); rintro e w32 ⟨rfl, hb⟩; refine ⟨_, rfl, ?_⟩; have n0_ := Aside0.mk (Kd.R_below (by (with_reducible repeat (first | apply Kd.R_alloc | apply Kd.R_drewN | apply Kd.R_drew)); exact HO169.out) hb); have n1_ := Aside0.mk (below_step (by repeat (first | (with_reducible first | exact HB.out | apply below_alloc | apply pw_below_drewN | apply below_drew1) | exact HB.out)) hb); clear HO169; clear HB; have HO169 := n0_; have HB := n1_; clear n0_ n1_; (try clear hb); (try clear hb2); (try clear hk); (try clear hi); (try simp only [errW_none, errW_some])) | ((with_reducible refine gate_dst (N := 3) rfl ?_); (try (refine gate_guard (by rfl) ?_; dsimp only)); refine box_event ?hg (N := 3) ?hd (cs := #[.string (⟨#[]⟩ : ByteArray), .int .i64 0, .int .i64 0, .int .i64 0, .int .i64 0, .int .i64 0, .int .u8 0, .string (⟨#[]⟩ : ByteArray)]) (t := 26) ?hr ?_; (case hd => rfl); (case hg => rfl); (case hr => first | (go_simp; done) | (go_simp; rfl)); intro gb181 hg w33 hbox hb; have n0_ := Aside0.mk (Kd.R_below (by (with_reducible repeat (first | apply Kd.R_alloc | apply Kd.R_drewN | apply Kd.R_drew)); exact HO169.out) hb); have n1_ := Aside0.mk (below_step (by repeat (first | (with_reducible first | exact HB.out | apply below_alloc | apply pw_below_drewN | apply below_drew1) | exact HB.out)) hb); have n2_ := Aside0.mk (hbox); have n3_ := Aside0.mk ((by rw [hg]; exact (below_size (by repeat (first | (with_reducible first | exact HB.out | apply below_alloc | apply pw_below_drewN | apply below_drew1) | exact HB.out))) : w.heap.size ≤ gb181)); have n4_ := Aside0.mk ((by rw [hg]; exact (below_size (by repeat (first | (with_reducible first | exact HB.out | apply below_alloc | apply pw_below_drewN | apply below_drew1) | exact HB.out))) : w.heap.size ≤ gb181)); clear HO169; clear HB; have HO169 := n0_; have HB := n1_; have BK181 := n2_; have GW181 := n3_; have GE181 := n4_; clear n0_ n1_ n2_ n3_ n4_; clear hb hbox hg; have hcz34_0 : w33.cell? ⟨gb181, 0, none⟩ = some (.string (⟨#[]⟩ : ByteArray)) := (blk_cell BK181.out 0).trans rfl; have hcz34_1 : w33.cell? ⟨gb181, 1, none⟩ = some (.int .i64 0) := (blk_cell BK181.out 1).trans rfl; have hcz34_2 : w33.cell? ⟨gb181, 2, none⟩ = some (.int .i64 0) := (blk_cell BK181.out 2).trans rfl; have hcz34_3 : w33.cell? ⟨gb181, 3, none⟩ = some (.int .i64 0) := (blk_cell BK181.out 3).trans rfl; have hcz34_4 : w33.cell? ⟨gb181, 4, none⟩ = some (.int .i64 0) := (blk_cell BK181.out 4).trans rfl; have hcz34_5 : w33.cell? ⟨gb181, 5, none⟩ = some (.int .i64 0) := (blk_cell BK181.out 5).trans rfl; have hcz34_6 : w33.cell? ⟨gb181, 6, none⟩ = some (.int .u8 0) := (blk_cell BK181.out 6).trans rfl; have hcz34_7 : w33.cell? ⟨gb181, 7, none⟩ = some (.string (⟨#[]⟩ : ByteArray)) := (blk_cell BK181.out 7).trans rfl; have hfz34_0 := blk_frozen BK181.out 0; have hfz34_1 := blk_frozen BK181.out 1; have hfz34_2 := blk_frozen BK181.out 2; have hfz34_3 := blk_frozen BK181.out 3; have hfz34_4 := blk_frozen BK181.out 4; have hfz34_5 := blk_frozen BK181.out 5; have hfz34_6 := blk_frozen BK181.out 6; have hfz34_7 := blk_frozen BK181.out 7))
          go_ret
          exact ⟨by first | rfl | (simp [errW_none, errW_some] <;> rfl) | (simp [*, errW_none, errW_some] <;> rfl), by repeat (first | (with_reducible first | exact HB.out | apply below_alloc | apply pw_below_drewN | apply below_drew1 | refine below_set ?_ GE181.out) | exact HB.out)⟩
      · have H1 : (some false) = some r := by rw [if_neg (show ¬ (some q182).isNone = true by simp)] at H; exact H
        clear H
        have H := H1
        clear H1
        try simp only [errW_none, errW_some]
        obtain rfl := Option.some.inj H
        go_enter Try.func8, Try.ntmps8
        go_wp2_with (first | ((with_reducible refine gate_callee (f := 14) rfl ?_); refine goesL_ (some 6) rfl rfl Try.func14 (by kernel_rfl) rfl #[.agg #[.string (⟨#[97]⟩ : ByteArray), .int .i64 420, .int .i64 0, .int .i64 0, .int .i64 0, .int .i64 0, .int .u8 48, .string (⟨#[]⟩ : ByteArray)]] rfl (by (try simp only [List.map_toArray, List.map_cons, List.map_nil]); first | done | rfl | (simp only [List.length_drop, List.length_take]; rfl)) ?_; (with_reducible refine (ustar_Encode.calls k (⟨#[97]⟩ : ByteArray) 420 0 0 0 0 48 (⟨#[]⟩ : ByteArray) t167 none _ A1.out).mono ?_); rintro e w35 ⟨v168, rfl, ho0, hb⟩; refine ⟨_, rfl, ?_⟩; have n0_ := Aside0.mk (Kd.R_lower ho0 (below_size (by repeat (first | (with_reducible first | exact HB.out | apply below_alloc | apply pw_below_drewN | apply below_drew1) | exact HB.out)))); have n1_ := Aside0.mk (below_step (by repeat (first | (with_reducible first | exact HB.out | apply below_alloc | apply pw_below_drewN | apply below_drew1) | exact HB.out)) hb); clear HB; have HO169 := n0_; have HB := n1_; clear n0_ n1_; (try clear hb); (try clear hb2); (try clear hk); (try clear hi); (try clear ho0); (try simp only [errW_none, errW_some]); obtain ⟨Ao36, co36, eo36⟩ := Kd.R_slice HO169.out; subst eo36) | ((with_reducible refine gate_callee (f := 10) rfl ?_); refine goesL_ (some 18) rfl rfl Try.func10 (by kernel_rfl) rfl #[.slice Ao36 t167.length co36] rfl (by (try simp only [List.map_toArray, List.map_cons, List.map_nil]); first | done | rfl | (simp only [List.length_drop, List.length_take]; rfl)) ?_; (with_reducible refine (ustar_Decode.calls k _ _ t167 t172 t173 t174 t175 t176 t177 t178 t179 (some q182) _ ?side1 ?side2 A3.out).mono ?_); (case side1 => repeat (first | exact (Kd.R_reads' HO169.out).2.2 | (with_reducible refine Kd.C_alloc ?_ _) | (with_reducible refine Kd.C_drewN ?_ _) | (with_reducible refine Kd.C_drew ?_))); (case side2 => exact (Kd.R_reads' HO169.out).2.1); rintro e w37 ⟨rfl, hb⟩; refine ⟨_, rfl, ?_⟩; have n0_ := Aside0.mk (Kd.R_below (by (with_reducible repeat (first | apply Kd.R_alloc | apply Kd.R_drewN | apply Kd.R_drew)); exact HO169.out) hb); have n1_ := Aside0.mk (below_step (by repeat (first | (with_reducible first | exact HB.out | apply below_alloc | apply pw_below_drewN | apply below_drew1) | exact HB.out)) hb); clear HO169; clear HB; have HO169 := n0_; have HB := n1_; clear n0_ n1_; (try clear hb); (try clear hb2); (try clear hk); (try clear hi); (try simp only [errW_none, errW_some])) | ((with_reducible refine gate_dst (N := 3) rfl ?_); (try (refine gate_guard (by rfl) ?_; dsimp only)); refine box_event ?hg (N := 3) ?hd (cs := #[.string (⟨#[]⟩ : ByteArray), .int .i64 0, .int .i64 0, .int .i64 0, .int .i64 0, .int .i64 0, .int .u8 0, .string (⟨#[]⟩ : ByteArray)]) (t := 26) ?hr ?_; (case hd => rfl); (case hg => rfl); (case hr => first | (go_simp; done) | (go_simp; rfl)); intro gb181 hg w38 hbox hb; have n0_ := Aside0.mk (Kd.R_below (by (with_reducible repeat (first | apply Kd.R_alloc | apply Kd.R_drewN | apply Kd.R_drew)); exact HO169.out) hb); have n1_ := Aside0.mk (below_step (by repeat (first | (with_reducible first | exact HB.out | apply below_alloc | apply pw_below_drewN | apply below_drew1) | exact HB.out)) hb); have n2_ := Aside0.mk (hbox); have n3_ := Aside0.mk ((by rw [hg]; exact (below_size (by repeat (first | (with_reducible first | exact HB.out | apply below_alloc | apply pw_below_drewN | apply below_drew1) | exact HB.out))) : w.heap.size ≤ gb181)); have n4_ := Aside0.mk ((by rw [hg]; exact (below_size (by repeat (first | (with_reducible first | exact HB.out | apply below_alloc | apply pw_below_drewN | apply below_drew1) | exact HB.out))) : w.heap.size ≤ gb181)); clear HO169; clear HB; have HO169 := n0_; have HB := n1_; have BK181 := n2_; have GW181 := n3_; have GE181 := n4_; clear n0_ n1_ n2_ n3_ n4_; clear hb hbox hg; have hcz39_0 : w38.cell? ⟨gb181, 0, none⟩ = some (.string (⟨#[]⟩ : ByteArray)) := (blk_cell BK181.out 0).trans rfl; have hcz39_1 : w38.cell? ⟨gb181, 1, none⟩ = some (.int .i64 0) := (blk_cell BK181.out 1).trans rfl; have hcz39_2 : w38.cell? ⟨gb181, 2, none⟩ = some (.int .i64 0) := (blk_cell BK181.out 2).trans rfl; have hcz39_3 : w38.cell? ⟨gb181, 3, none⟩ = some (.int .i64 0) := (blk_cell BK181.out 3).trans rfl; have hcz39_4 : w38.cell? ⟨gb181, 4, none⟩ = some (.int .i64 0) := (blk_cell BK181.out 4).trans rfl; have hcz39_5 : w38.cell? ⟨gb181, 5, none⟩ = some (.int .i64 0) := (blk_cell BK181.out 5).trans rfl; have hcz39_6 : w38.cell? ⟨gb181, 6, none⟩ = some (.int .u8 0) := (blk_cell BK181.out 6).trans rfl; have hcz39_7 : w38.cell? ⟨gb181, 7, none⟩ = some (.string (⟨#[]⟩ : ByteArray)) := (blk_cell BK181.out 7).trans rfl; have hfz39_0 := blk_frozen BK181.out 0; have hfz39_1 := blk_frozen BK181.out 1; have hfz39_2 := blk_frozen BK181.out 2; have hfz39_3 := blk_frozen BK181.out 3; have hfz39_4 := blk_frozen BK181.out 4; have hfz39_5 := blk_frozen BK181.out 5; have hfz39_6 := blk_frozen BK181.out 6; have hfz39_7 := blk_frozen BK181.out 7))
        go_ret
        exact ⟨by first | rfl | (simp [errW_none, errW_some] <;> rfl) | (simp [*, errW_none, errW_some] <;> rfl), by repeat (first | (with_reducible first | exact HB.out | apply below_alloc | apply pw_below_drewN | apply below_drew1 | refine below_set ?_ GE181.out) | exact HB.out)⟩
    · rw [if_neg c2] at H
      have c2b0 : ((t167.length : Int) == 512) = false := beq_eq_false_iff_ne.mpr c2
      have c2b1 : ((t167.length : Int) != 512) = true := bne_iff_ne.mpr c2
      obtain rfl := Option.some.inj H
      go_enter Try.func8, Try.ntmps8
      go_wp2_with (first | ((with_reducible refine gate_callee (f := 14) rfl ?_); refine goesL_ (some 6) rfl rfl Try.func14 (by kernel_rfl) rfl #[.agg #[.string (⟨#[97]⟩ : ByteArray), .int .i64 420, .int .i64 0, .int .i64 0, .int .i64 0, .int .i64 0, .int .u8 48, .string (⟨#[]⟩ : ByteArray)]] rfl (by (try simp only [List.map_toArray, List.map_cons, List.map_nil]); first | done | rfl | (simp only [List.length_drop, List.length_take]; rfl)) ?_; (with_reducible refine (ustar_Encode.calls k (⟨#[97]⟩ : ByteArray) 420 0 0 0 0 48 (⟨#[]⟩ : ByteArray) t167 none _ A1.out).mono ?_); rintro e w40 ⟨v168, rfl, ho0, hb⟩; refine ⟨_, rfl, ?_⟩; have n0_ := Aside0.mk (Kd.R_lower ho0 (below_size (by repeat (first | (with_reducible first | exact HB.out | apply below_alloc | apply pw_below_drewN | apply below_drew1) | exact HB.out)))); have n1_ := Aside0.mk (below_step (by repeat (first | (with_reducible first | exact HB.out | apply below_alloc | apply pw_below_drewN | apply below_drew1) | exact HB.out)) hb); clear HB; have HO169 := n0_; have HB := n1_; clear n0_ n1_; (try clear hb); (try clear hb2); (try clear hk); (try clear hi); (try clear ho0); (try simp only [errW_none, errW_some]); obtain ⟨Ao41, co41, eo41⟩ := Kd.R_slice HO169.out; subst eo41))
      go_ret
      exact ⟨by first | rfl | (simp [errW_none, errW_some] <;> rfl) | (simp [*, errW_none, errW_some] <;> rfl), by repeat (first | (with_reducible first | exact HB.out | apply below_alloc | apply pw_below_drewN | apply below_drew1) | exact HB.out)⟩
  · have H1 : (some false) = some r := by rw [if_neg (show ¬ (some q171).isNone = true by simp)] at H; exact H
    clear H
    have H := H1
    clear H1
    try simp only [errW_none, errW_some]
    obtain rfl := Option.some.inj H
    go_enter Try.func8, Try.ntmps8
    go_wp2_with (first | ((with_reducible refine gate_callee (f := 14) rfl ?_); refine goesL_ (some 6) rfl rfl Try.func14 (by kernel_rfl) rfl #[.agg #[.string (⟨#[97]⟩ : ByteArray), .int .i64 420, .int .i64 0, .int .i64 0, .int .i64 0, .int .i64 0, .int .u8 48, .string (⟨#[]⟩ : ByteArray)]] rfl (by (try simp only [List.map_toArray, List.map_cons, List.map_nil]); first | done | rfl | (simp only [List.length_drop, List.length_take]; rfl)) ?_; (with_reducible refine (ustar_Encode.calls k (⟨#[97]⟩ : ByteArray) 420 0 0 0 0 48 (⟨#[]⟩ : ByteArray) t167 (some q171) _ A1.out).mono ?_); rintro e w42 ⟨v168, rfl, ho0, hb⟩; refine ⟨_, rfl, ?_⟩; have n0_ := Aside0.mk (Kd.R_lower ho0 (below_size (by repeat (first | (with_reducible first | exact HB.out | apply below_alloc | apply pw_below_drewN | apply below_drew1) | exact HB.out)))); have n1_ := Aside0.mk (below_step (by repeat (first | (with_reducible first | exact HB.out | apply below_alloc | apply pw_below_drewN | apply below_drew1) | exact HB.out)) hb); clear HB; have HO169 := n0_; have HB := n1_; clear n0_ n1_; (try clear hb); (try clear hb2); (try clear hk); (try clear hi); (try clear ho0); (try simp only [errW_none, errW_some])))
    go_ret
    exact ⟨by first | rfl | (simp [errW_none, errW_some] <;> rfl) | (simp [*, errW_none, errW_some] <;> rfl), by repeat (first | (with_reducible first | exact HB.out | apply below_alloc | apply pw_below_drewN | apply below_drew1) | exact HB.out)⟩

-- NOT PRINTED: function 9 (amphoranum_Copy)

/-! ### amphoraref10_plain: function 37 -/
def amphoraref10_plain.l0 : Nat → ByteArray → Int → Option (Bool)
  | 0, _, _ => none
  | k + 1, x0, x3 => if x3 < (x0.size : Int) then (if 0 ≤ x3 then (if (bt x0 x3) < 1 then (some false) else (if (bt x0 x3) > 127 then (some false) else (amphoraref10_plain.l0 k x0 (wrap64 (x3 + 1))))) else (none)) else (some true)
def amphoraref10_plain.f (k : Nat) (a0 : ByteArray) : Option (Bool) := amphoraref10_plain.l0 k a0 0
theorem amphoraref10_plain.mono_l : ∀ k, (∀ y0 y1, LeO (amphoraref10_plain.l0 k y0 y1) (amphoraref10_plain.l0 (k + 1) y0 y1))
  | 0 => fun _ _ r h => by simp [amphoraref10_plain.l0] at h
  | k + 1 => by
    have ih0 := amphoraref10_plain.mono_l k
    · intro y0 y1
      unfold amphoraref10_plain.l0
      repeat' first
      | (with_reducible exact ih0 _ _)
      | (with_reducible exact LeO.refl _)
      | (with_reducible exact LeO.none _)
      | (with_reducible refine LeO.ite ?_ ?_)
      | (with_reducible refine LeO.bind ?_ (fun _ => ?_))
      | exact ih0 _ _
      | exact LeO.none _
      | refine LeO.ite ?_ ?_
      | refine LeO.bind ?_ (fun _ => ?_)
theorem amphoraref10_plain.mono : ∀ a0 k, LeO (amphoraref10_plain.f k a0) (amphoraref10_plain.f (k + 1) a0) := by
  intro a0 k
  have ih0 := amphoraref10_plain.mono_l k
  unfold amphoraref10_plain.f
  repeat' first
      | (with_reducible exact ih0 _ _)
      | (with_reducible exact LeO.refl _)
      | (with_reducible exact LeO.none _)
      | (with_reducible refine LeO.ite ?_ ?_)
      | (with_reducible refine LeO.bind ?_ (fun _ => ?_))
      | exact ih0 _ _
      | exact LeO.none _
      | refine LeO.ite ?_ ?_
      | refine LeO.bind ?_ (fun _ => ?_)
set_option maxHeartbeats 8000000 in
set_option maxRecDepth 100000 in
theorem amphoraref10_plain.calls (k : Nat) (a0 : ByteArray) (r : Bool) (w : World) (h : amphoraref10_plain.f k a0 = some r) :
    Calls Try.prog 37 #[.string a0] w fun e w' => e = .returned (.bool r) ∧ Drawn0 w w' := by
  have H : (amphoraref10_plain.l0 k a0 0) = some r := h
  clear h
  have H' := Aside0.mk H
  clear H
  go_enter Try.func37, Try.ntmps37
  go_wp2
  go_loopg [3] k (fun kq v3 w' => ∃ (x3_1 : Int), v3 = .int .i64 x3_1 ∧ Aside0 (amphoraref10_plain.l0 kq a0 x3_1 = some r) ∧ Aside0 (kq ≤ k) ∧ Drawn0 w w')
  case atStart => exact ⟨(0), (by first | rfl | (simp; done) | (simp [*]; done)), H', ⟨Nat.le_refl _⟩, by repeat (first | exact Drawn0.refl _ | apply Drawn0.step)⟩
  case round =>
    clear H'
    obtain ⟨x3_1, rfl, HA, HK1, ⟨m1, rfl⟩⟩ := hrel
    cases gk with
    | zero => exact absurd HA.out (by simp [amphoraref10_plain.l0])
    | succ k1 =>
      have H := HA.out
      clear HA
      simp only [amphoraref10_plain.l0] at H
      by_cases c2 : x3_1 < (a0.size : Int)
      · rw [if_pos c2] at H
        have c2b0 : decide (x3_1 < (a0.size : Int)) = true := decide_eq_true c2
        clear c2
        by_cases c3 : 0 ≤ x3_1
        · rw [if_pos c3] at H
          have c3b0 : decide (0 ≤ x3_1) = true := decide_eq_true c3
          clear c3
          by_cases c5 : (bt a0 x3_1) < 1
          · rw [if_pos c5] at H
            have c5b0 : decide ((bt a0 x3_1) < 1) = true := decide_eq_true c5
            clear c5
            obtain rfl := Option.some.inj H
            have p4 : 0 ≤ (x3_1 : Int) := of_decide_eq_true (by first | (with_reducible assumption) | assumption)
            have q4 : x3_1 < (a0.size : Int) := of_decide_eq_true (by first | (with_reducible assumption) | assumption)
            have hx4 := bt_at a0 x3_1
            replace p4 := eq_true p4
            replace q4 := eq_true q4
            go_wp2
            go_ret
            exact ⟨by first | rfl | (simp; done) | (simp [*]; done), by repeat (first | exact Drawn0.refl _ | apply Drawn0.step)⟩
          · rw [if_neg c5] at H
            have c5b0 : decide ((bt a0 x3_1) < 1) = false := decide_eq_false c5
            clear c5
            by_cases c7 : (bt a0 x3_1) > 127
            · rw [if_pos c7] at H
              have c7b0 : decide (127 < (bt a0 x3_1)) = true := decide_eq_true c7
              clear c7
              obtain rfl := Option.some.inj H
              have p4 : 0 ≤ (x3_1 : Int) := of_decide_eq_true (by first | (with_reducible assumption) | assumption)
              have q4 : x3_1 < (a0.size : Int) := of_decide_eq_true (by first | (with_reducible assumption) | assumption)
              have hx4 := bt_at a0 x3_1
              replace p4 := eq_true p4
              replace q4 := eq_true q4
              have p6 : 0 ≤ (x3_1 : Int) := of_decide_eq_true (by first | (with_reducible assumption) | assumption)
              have q6 : x3_1 < (a0.size : Int) := of_decide_eq_true (by first | (with_reducible assumption) | assumption)
              have hx6 := bt_at a0 x3_1
              replace p6 := eq_true p6
              replace q6 := eq_true q6
              go_wp2
              go_ret
              exact ⟨by first | rfl | (simp; done) | (simp [*]; done), by repeat (first | exact Drawn0.refl _ | apply Drawn0.step)⟩
            · rw [if_neg c7] at H
              have c7b0 : decide (127 < (bt a0 x3_1)) = false := decide_eq_false c7
              clear c7
              have H' := Aside0.mk H
              clear H
              have p4 : 0 ≤ (x3_1 : Int) := of_decide_eq_true (by first | (with_reducible assumption) | assumption)
              have q4 : x3_1 < (a0.size : Int) := of_decide_eq_true (by first | (with_reducible assumption) | assumption)
              have hx4 := bt_at a0 x3_1
              replace p4 := eq_true p4
              replace q4 := eq_true q4
              have p6 : 0 ≤ (x3_1 : Int) := of_decide_eq_true (by first | (with_reducible assumption) | assumption)
              have q6 : x3_1 < (a0.size : Int) := of_decide_eq_true (by first | (with_reducible assumption) | assumption)
              have hx6 := bt_at a0 x3_1
              replace p6 := eq_true p6
              replace q6 := eq_true q6
              go_wp2
              go_roundg k1
              case measure => have := HK1.out; omega
              case rel => exact ⟨(wrap64 (x3_1 + 1)), (by first | rfl | (simp; done) | (simp [*]; done)), H', ⟨by have := HK1.out; omega⟩, by repeat (first | exact Drawn0.refl _ | apply Drawn0.step)⟩
        · rw [if_neg c3] at H
          exact absurd H (by simp)
      · rw [if_neg c2] at H
        have c2b0 : decide (x3_1 < (a0.size : Int)) = false := decide_eq_false c2
        clear c2
        obtain rfl := Option.some.inj H
        go_wp2
        go_ret
        exact ⟨by first | rfl | (simp; done) | (simp [*]; done), by repeat (first | exact Drawn0.refl _ | apply Drawn0.step)⟩

/-! ### amphoraref10_Path: function 17 -/
mutual
def amphoraref10_Path.j0 : Nat → ByteArray → Bool → Option (ByteArray × ByteArray × Bool)
  | 0, _, _ => none
  | k + 1, x0, x13 => if x13 = true then (some ((⟨#[]⟩ : ByteArray), (⟨#[]⟩ : ByteArray), false)) else (if (x0.size : Int) ≤ 100 then (some ((⟨#[]⟩ : ByteArray), x0, true)) else (amphoraref10_Path.l0 k x0 1))
def amphoraref10_Path.l0 : Nat → ByteArray → Int → Option (ByteArray × ByteArray × Bool)
  | 0, _, _ => none
  | k + 1, x0, x5 => if x5 < (wrap64 ((x0.size : Int) - 1)) then (if 0 ≤ x5 then (if x5 < (x0.size : Int) then (if (bt x0 x5) = 47 then (if x5 ≤ 155 then (if (wrap64 ((wrap64 ((x0.size : Int) - 1)) - x5)) ≤ 100 then (if x5 ≤ (x0.size : Int) then (if 0 ≤ (wrap64 (x5 + 1)) then (if (wrap64 (x5 + 1)) ≤ (x0.size : Int) then (some (x0.extract 0 (x5 : Int).toNat, x0.extract ((wrap64 (x5 + 1)) : Int).toNat x0.size, true)) else (none)) else (none)) else (none)) else (amphoraref10_Path.l0 k x0 (wrap64 (x5 + 1)))) else (amphoraref10_Path.l0 k x0 (wrap64 (x5 + 1)))) else (amphoraref10_Path.l0 k x0 (wrap64 (x5 + 1)))) else (none)) else (none)) else (some ((⟨#[]⟩ : ByteArray), (⟨#[]⟩ : ByteArray), false))
end
def amphoraref10_Path.f (k : Nat) (a0 : ByteArray) : Option (ByteArray × ByteArray × Bool) := if (a0.size : Int) < 1 then (amphoraref10_Path.j0 k a0 true) else ((amphoraref10_plain.f k a0).bind fun t191 => (amphoraref10_Path.j0 k a0 (!t191)))
theorem amphoraref10_Path.mono_l : ∀ k, (∀ y0 y1, LeO (amphoraref10_Path.j0 k y0 y1) (amphoraref10_Path.j0 (k + 1) y0 y1)) ∧ (∀ y0 y1, LeO (amphoraref10_Path.l0 k y0 y1) (amphoraref10_Path.l0 (k + 1) y0 y1))
  | 0 => ⟨fun _ _ r h => by simp [amphoraref10_Path.j0] at h, fun _ _ r h => by simp [amphoraref10_Path.l0] at h⟩
  | k + 1 => by
    obtain ⟨ih0, ih1⟩ := amphoraref10_Path.mono_l k
    refine ⟨?_, ?_⟩
    · intro y0 y1
      unfold amphoraref10_Path.j0
      repeat' first
      | (with_reducible exact ih0 _ _)
      | (with_reducible exact ih1 _ _)
      | (with_reducible exact amphoraref10_plain.mono _ _)
      | (with_reducible exact LeO.refl _)
      | (with_reducible exact LeO.none _)
      | (with_reducible refine LeO.ite ?_ ?_)
      | (with_reducible refine LeO.bind ?_ (fun _ => ?_))
      | exact ih0 _ _
      | exact ih1 _ _
      | exact amphoraref10_plain.mono _ _
      | exact LeO.none _
      | refine LeO.ite ?_ ?_
      | refine LeO.bind ?_ (fun _ => ?_)
    · intro y0 y1
      unfold amphoraref10_Path.l0
      repeat' first
      | (with_reducible exact ih0 _ _)
      | (with_reducible exact ih1 _ _)
      | (with_reducible exact amphoraref10_plain.mono _ _)
      | (with_reducible exact LeO.refl _)
      | (with_reducible exact LeO.none _)
      | (with_reducible refine LeO.ite ?_ ?_)
      | (with_reducible refine LeO.bind ?_ (fun _ => ?_))
      | exact ih0 _ _
      | exact ih1 _ _
      | exact amphoraref10_plain.mono _ _
      | exact LeO.none _
      | refine LeO.ite ?_ ?_
      | refine LeO.bind ?_ (fun _ => ?_)
theorem amphoraref10_Path.mono : ∀ a0 k, LeO (amphoraref10_Path.f k a0) (amphoraref10_Path.f (k + 1) a0) := by
  intro a0 k
  obtain ⟨ih0, ih1⟩ := amphoraref10_Path.mono_l k
  unfold amphoraref10_Path.f
  repeat' first
      | (with_reducible exact ih0 _ _)
      | (with_reducible exact ih1 _ _)
      | (with_reducible exact amphoraref10_plain.mono _ _)
      | (with_reducible exact LeO.refl _)
      | (with_reducible exact LeO.none _)
      | (with_reducible refine LeO.ite ?_ ?_)
      | (with_reducible refine LeO.bind ?_ (fun _ => ?_))
      | exact ih0 _ _
      | exact ih1 _ _
      | exact amphoraref10_plain.mono _ _
      | exact LeO.none _
      | refine LeO.ite ?_ ?_
      | refine LeO.bind ?_ (fun _ => ?_)
set_option maxHeartbeats 8000000 in
set_option maxRecDepth 100000 in
theorem amphoraref10_Path.calls (k : Nat) (a0 : ByteArray) (r1 : ByteArray) (r2 : ByteArray) (r3 : Bool) (w : World) (h : amphoraref10_Path.f k a0 = some (r1, r2, r3)) :
    Calls Try.prog 17 #[.string a0] w fun e w' => e = .returned (.tuple #[.string r1, .string r2, .bool r3]) ∧ Drawn0 w w' := by
  have H : (if (a0.size : Int) < 1 then (amphoraref10_Path.j0 k a0 true) else ((amphoraref10_plain.f k a0).bind fun t191 => (amphoraref10_Path.j0 k a0 (!t191)))) = some (r1, r2, r3) := h
  clear h
  have HC2 := Aside0.mk H
  clear H
  go_enter Try.func17, Try.ntmps17
  go_upto_region 1 with (fail)
  repeat (go_quiet (fail); go_upto_region 1 with (fail))
  go_cut [13] (fun v13 wc => ∃ (kq : Nat) (x13_1 : Bool), v13 = .bool x13_1 ∧ Aside0 (amphoraref10_Path.j0 kq a0 x13_1 = some (r1, r2, r3)) ∧ Aside0 (kq ≤ k) ∧ Drawn0 w wc)
  case first =>
    have H := HC2.out
    clear HC2
    by_cases c3 : (a0.size : Int) < 1
    · rw [if_pos c3] at H
      have c3b0 : decide ((a0.size : Int) < 1) = true := decide_eq_true c3
      have c3b1 : decide (a0.size < 1) = true := decide_eq_true (by omega)
      clear c3
      (first | rw [c3b0] | (simp only [i64_w, i32_w]; rw [c3b0]) | skip)
      have H' := Aside0.mk H
      clear H
      go_wp2
      repeat (go_quiet (fail); try go_wp2)
      go_meet
      case rel => exact ⟨_, (true), (by first | rfl | (simp; done) | (simp [*]; done)), H', ⟨by first | omega | exact Nat.le_refl _⟩, by repeat (first | exact Drawn0.refl _ | apply Drawn0.step)⟩
    · rw [if_neg c3] at H
      have c3b0 : decide ((a0.size : Int) < 1) = false := decide_eq_false c3
      have c3b1 : decide (a0.size < 1) = false := decide_eq_false (by omega)
      clear c3
      (first | rw [c3b0] | (simp only [i64_w, i32_w]; rw [c3b0]) | skip)
      replace H := Option.bind_eq_some_iff.mp H
      obtain ⟨t191, A40, H⟩ := H
      replace H : (amphoraref10_Path.j0 k a0 (!t191)) = some (r1, r2, r3) := H
      have A4 := Aside0.mk A40
      clear A40
      have H' := Aside0.mk H
      clear H
      go_wp2_with (first | (go_at_call 37; (with_reducible refine (amphoraref10_plain.calls k a0 t191 _ A4.out).mono ?_); rintro e w' ⟨rfl, ⟨nd, rfl⟩⟩; (try first | exact ⟨rfl, _, World.drewN_drewN _ _ _⟩ | exact ⟨rfl, _, Eq.trans (World.drewN_drewN _ _ _) (congrArg (World.drewN _) (Nat.add_assoc _ _ _))⟩)))
      repeat (go_quiet (first | (go_at_call 37; (with_reducible refine (amphoraref10_plain.calls k a0 t191 _ A4.out).mono ?_); rintro e w' ⟨rfl, ⟨nd, rfl⟩⟩; (try first | exact ⟨rfl, _, World.drewN_drewN _ _ _⟩ | exact ⟨rfl, _, Eq.trans (World.drewN_drewN _ _ _) (congrArg (World.drewN _) (Nat.add_assoc _ _ _))⟩))); try go_wp2_with (first | (go_at_call 37; (with_reducible refine (amphoraref10_plain.calls k a0 t191 _ A4.out).mono ?_); rintro e w' ⟨rfl, ⟨nd, rfl⟩⟩; (try first | exact ⟨rfl, _, World.drewN_drewN _ _ _⟩ | exact ⟨rfl, _, Eq.trans (World.drewN_drewN _ _ _) (congrArg (World.drewN _) (Nat.add_assoc _ _ _))⟩))))
      go_meet
      case rel => exact ⟨_, (!t191), (by first | rfl | (simp; done) | (simp [*]; done)), H', ⟨by first | omega | exact Nat.le_refl _⟩, by repeat (first | exact Drawn0.refl _ | apply Drawn0.step)⟩
  case rest =>
    clear HC2
    try clear c1
    try clear p2
    try clear c3
    try clear c3b0
    try clear c3b1
    obtain ⟨kq, x13_1, rfl, HA, HJ1, ⟨mc1, rfl⟩⟩ := hcut
    cases kq with
    | zero => exact absurd HA.out (by simp [amphoraref10_Path.j0])
    | succ kj1 =>
      have H := HA.out
      clear HA
      simp only [amphoraref10_Path.j0] at H
      by_cases c5 : x13_1 = true
      · subst c5
        have H1 : (some ((⟨#[]⟩ : ByteArray), (⟨#[]⟩ : ByteArray), false)) = some (r1, r2, r3) := by rw [if_pos rfl] at H; exact H
        clear H
        have H := H1
        clear H1
        simp only [Option.some.injEq, Prod.mk.injEq] at H
        obtain ⟨rfl, rfl, rfl⟩ := H
        go_wp2
        repeat (go_quiet (fail); try go_wp2)
        go_ret3
        exact ⟨by first | rfl | (simp; done) | (simp [*]; done), by repeat (first | exact Drawn0.refl _ | apply Drawn0.step)⟩
      · replace c5 := Bool.eq_false_iff.mpr c5
        subst c5
        have H1 : (if (a0.size : Int) ≤ 100 then (some ((⟨#[]⟩ : ByteArray), a0, true)) else (amphoraref10_Path.l0 kj1 a0 1)) = some (r1, r2, r3) := by rw [if_neg (show ¬ (false = true) by decide)] at H; exact H
        clear H
        have H := H1
        clear H1
        by_cases c6 : (a0.size : Int) ≤ 100
        · rw [if_pos c6] at H
          have c6b0 : decide ((a0.size : Int) ≤ 100) = true := decide_eq_true c6
          have c6b1 : decide (a0.size ≤ 100) = true := decide_eq_true (by omega)
          clear c6
          simp only [Option.some.injEq, Prod.mk.injEq] at H
          obtain ⟨rfl, rfl, rfl⟩ := H
          go_wp2
          repeat (go_quiet (fail); try go_wp2)
          go_ret3
          exact ⟨by first | rfl | (simp; done) | (simp [*]; done), by repeat (first | exact Drawn0.refl _ | apply Drawn0.step)⟩
        · rw [if_neg c6] at H
          have c6b0 : decide ((a0.size : Int) ≤ 100) = false := decide_eq_false c6
          have c6b1 : decide (a0.size ≤ 100) = false := decide_eq_false (by omega)
          clear c6
          have H' := Aside0.mk H
          clear H
          go_wp2
          repeat (go_quiet (fail); try go_wp2)
          go_loopg [5] kj1 (fun kq v5 w' => ∃ (x5_2 : Int), v5 = .int .i64 x5_2 ∧ Aside0 (amphoraref10_Path.l0 kq a0 x5_2 = some (r1, r2, r3)) ∧ Aside0 (kq ≤ kj1) ∧ Drawn0 w w')
          case atStart => exact ⟨(1), (by first | rfl | (simp; done) | (simp [*]; done)), H', ⟨Nat.le_refl _⟩, by repeat (first | exact Drawn0.refl _ | apply Drawn0.step)⟩
          case round =>
            clear H'
            try clear c1
            try clear p2
            try clear c3
            try clear c3b0
            try clear c3b1
            try clear c5
            try clear c6
            try clear c6b0
            try clear c6b1
            try clear p2
            obtain ⟨x5_2, rfl, HA, HK2, ⟨m2, rfl⟩⟩ := hrel
            cases gk with
            | zero => exact absurd HA.out (by simp [amphoraref10_Path.l0])
            | succ k2 =>
              have H := HA.out
              clear HA
              simp only [amphoraref10_Path.l0] at H
              by_cases c7 : x5_2 < (wrap64 ((a0.size : Int) - 1))
              · rw [if_pos c7] at H
                have c7b0 : decide (x5_2 < (wrap64 ((a0.size : Int) - 1))) = true := decide_eq_true c7
                clear c7
                by_cases c8 : 0 ≤ x5_2
                · rw [if_pos c8] at H
                  have c8b0 : decide (0 ≤ x5_2) = true := decide_eq_true c8
                  clear c8
                  by_cases c9 : x5_2 < (a0.size : Int)
                  · rw [if_pos c9] at H
                    have c9b0 : decide (x5_2 < (a0.size : Int)) = true := decide_eq_true c9
                    clear c9
                    by_cases c11 : (bt a0 x5_2) = 47
                    · rw [if_pos c11] at H
                      have c11b0 : ((bt a0 x5_2) == 47) = true := beq_iff_eq.mpr c11
                      have c11b1 : ((bt a0 x5_2) != 47) = false := bne_eq_false_iff_eq.mpr c11
                      clear c11
                      by_cases c12 : x5_2 ≤ 155
                      · rw [if_pos c12] at H
                        have c12b0 : decide (x5_2 ≤ 155) = true := decide_eq_true c12
                        clear c12
                        by_cases c13 : (wrap64 ((wrap64 ((a0.size : Int) - 1)) - x5_2)) ≤ 100
                        · rw [if_pos c13] at H
                          have c13b0 : decide ((wrap64 ((wrap64 ((a0.size : Int) - 1)) - x5_2)) ≤ 100) = true := decide_eq_true c13
                          clear c13
                          have c14b0 := eq_true (of_decide_eq_true (by first | (with_reducible assumption) | assumption) : 0 ≤ x5_2)
                          by_cases c15 : x5_2 ≤ (a0.size : Int)
                          · rw [if_pos c15] at H
                            have c15b0 := eq_true c15
                            have c15b1 : decide (x5_2 ≤ (a0.size : Int)) = true := decide_eq_true c15
                            clear c15
                            obtain ⟨ji16, hji16⟩ : ∃ j_ : Int, (wrap64 (x5_2 + 1)) = j_ := ⟨_, rfl⟩
                            replace H : (if 0 ≤ (ji16) then (if (ji16) ≤ (a0.size : Int) then (some (a0.extract 0 (x5_2 : Int).toNat, a0.extract ((ji16) : Int).toNat a0.size, true)) else (none)) else (none)) = some (r1, r2, r3) := by first | (rw [hji16] at H; exact H) | (simp only [hji16] at H ⊢; exact H)
                            have hji16w : (IntKind.i64.wrap (x5_2 + 1)) = ji16 := (i64_w _).trans hji16
                            by_cases c17 : 0 ≤ (ji16)
                            · rw [if_pos c17] at H
                              have c17b0 := eq_true c17
                              have c17b1 : decide (0 ≤ (ji16)) = true := decide_eq_true c17
                              clear c17
                              by_cases c18 : (ji16) ≤ (a0.size : Int)
                              · rw [if_pos c18] at H
                                have c18b0 := eq_true c18
                                have c18b1 : decide ((ji16) ≤ (a0.size : Int)) = true := decide_eq_true c18
                                clear c18
                                simp only [Option.some.injEq, Prod.mk.injEq] at H
                                obtain ⟨rfl, rfl, rfl⟩ := H
                                have p10 : 0 ≤ (x5_2 : Int) := of_decide_eq_true (by first | (with_reducible assumption) | assumption)
                                have q10 : x5_2 < (a0.size : Int) := of_decide_eq_true (by first | (with_reducible assumption) | assumption)
                                have hx10 := bt_at a0 x5_2
                                replace p10 := eq_true p10
                                replace q10 := eq_true q10
                                go_wp2
                                repeat (go_quiet (fail); try go_wp2)
                                go_ret3
                                exact ⟨by first | rfl | (simp; done) | (simp only [← hji16] <;> (first | rfl | simp)) | (simp [*]; done), by repeat (first | exact Drawn0.refl _ | apply Drawn0.step)⟩
                              · rw [if_neg c18] at H
                                exact absurd H (by simp)
                            · rw [if_neg c17] at H
                              exact absurd H (by simp)
                          · rw [if_neg c15] at H
                            exact absurd H (by simp)
                        · rw [if_neg c13] at H
                          have c13b0 : decide ((wrap64 ((wrap64 ((a0.size : Int) - 1)) - x5_2)) ≤ 100) = false := decide_eq_false c13
                          clear c13
                          have H' := Aside0.mk H
                          clear H
                          have p10 : 0 ≤ (x5_2 : Int) := of_decide_eq_true (by first | (with_reducible assumption) | assumption)
                          have q10 : x5_2 < (a0.size : Int) := of_decide_eq_true (by first | (with_reducible assumption) | assumption)
                          have hx10 := bt_at a0 x5_2
                          replace p10 := eq_true p10
                          replace q10 := eq_true q10
                          go_wp2
                          repeat (go_quiet (fail); try go_wp2)
                          go_roundg k2
                          case measure => have := HJ1.out; have := HK2.out; omega
                          case rel => exact ⟨(wrap64 (x5_2 + 1)), (by first | rfl | (simp; done) | (simp [*]; done)), H', ⟨by have := HJ1.out; have := HK2.out; omega⟩, by repeat (first | exact Drawn0.refl _ | apply Drawn0.step)⟩
                      · rw [if_neg c12] at H
                        have c12b0 : decide (x5_2 ≤ 155) = false := decide_eq_false c12
                        clear c12
                        have H' := Aside0.mk H
                        clear H
                        have p10 : 0 ≤ (x5_2 : Int) := of_decide_eq_true (by first | (with_reducible assumption) | assumption)
                        have q10 : x5_2 < (a0.size : Int) := of_decide_eq_true (by first | (with_reducible assumption) | assumption)
                        have hx10 := bt_at a0 x5_2
                        replace p10 := eq_true p10
                        replace q10 := eq_true q10
                        go_wp2
                        repeat (go_quiet (fail); try go_wp2)
                        go_roundg k2
                        case measure => have := HJ1.out; have := HK2.out; omega
                        case rel => exact ⟨(wrap64 (x5_2 + 1)), (by first | rfl | (simp; done) | (simp [*]; done)), H', ⟨by have := HJ1.out; have := HK2.out; omega⟩, by repeat (first | exact Drawn0.refl _ | apply Drawn0.step)⟩
                    · rw [if_neg c11] at H
                      have c11b0 : ((bt a0 x5_2) == 47) = false := beq_eq_false_iff_ne.mpr c11
                      have c11b1 : ((bt a0 x5_2) != 47) = true := bne_iff_ne.mpr c11
                      have H' := Aside0.mk H
                      clear H
                      have p10 : 0 ≤ (x5_2 : Int) := of_decide_eq_true (by first | (with_reducible assumption) | assumption)
                      have q10 : x5_2 < (a0.size : Int) := of_decide_eq_true (by first | (with_reducible assumption) | assumption)
                      have hx10 := bt_at a0 x5_2
                      replace p10 := eq_true p10
                      replace q10 := eq_true q10
                      go_wp2
                      repeat (go_quiet (fail); try go_wp2)
                      go_roundg k2
                      case measure => have := HJ1.out; have := HK2.out; omega
                      case rel => exact ⟨(wrap64 (x5_2 + 1)), (by first | rfl | (simp; done) | (simp [*]; done)), H', ⟨by have := HJ1.out; have := HK2.out; omega⟩, by repeat (first | exact Drawn0.refl _ | apply Drawn0.step)⟩
                  · rw [if_neg c9] at H
                    exact absurd H (by simp)
                · rw [if_neg c8] at H
                  exact absurd H (by simp)
              · rw [if_neg c7] at H
                have c7b0 : decide (x5_2 < (wrap64 ((a0.size : Int) - 1))) = false := decide_eq_false c7
                clear c7
                simp only [Option.some.injEq, Prod.mk.injEq] at H
                obtain ⟨rfl, rfl, rfl⟩ := H
                go_wp2
                repeat (go_quiet (fail); try go_wp2)
                go_ret3
                exact ⟨by first | rfl | (simp; done) | (simp [*]; done), by repeat (first | exact Drawn0.refl _ | apply Drawn0.step)⟩

/-! ### amphoraref10_Link: function 20 -/
def amphoraref10_Link.f (k : Nat) (a0 : ByteArray) : Option (Bool) := if (a0.size : Int) ≥ 1 then (if (a0.size : Int) ≤ 100 then ((amphoraref10_plain.f k a0).bind fun t192 => (some t192)) else (some false)) else (some false)
theorem amphoraref10_Link.mono : ∀ a0 k, LeO (amphoraref10_Link.f k a0) (amphoraref10_Link.f (k + 1) a0) := by
  intro a0 k
  unfold amphoraref10_Link.f
  repeat' first
      | (with_reducible exact amphoraref10_plain.mono _ _)
      | (with_reducible exact LeO.refl _)
      | (with_reducible exact LeO.none _)
      | (with_reducible refine LeO.ite ?_ ?_)
      | (with_reducible refine LeO.bind ?_ (fun _ => ?_))
      | exact amphoraref10_plain.mono _ _
      | exact LeO.none _
      | refine LeO.ite ?_ ?_
      | refine LeO.bind ?_ (fun _ => ?_)
set_option maxHeartbeats 8000000 in
set_option maxRecDepth 100000 in
theorem amphoraref10_Link.calls (k : Nat) (a0 : ByteArray) (r : Bool) (w : World) (h : amphoraref10_Link.f k a0 = some r) :
    Calls Try.prog 20 #[.string a0] w fun e w' => e = .returned (.bool r) ∧ Drawn0 w w' := by
  have H : (if (a0.size : Int) ≥ 1 then (if (a0.size : Int) ≤ 100 then ((amphoraref10_plain.f k a0).bind fun t192 => (some t192)) else (some false)) else (some false)) = some r := h
  clear h
  by_cases c2 : (a0.size : Int) ≥ 1
  · rw [if_pos c2] at H
    have c2b0 : decide (1 ≤ (a0.size : Int)) = true := decide_eq_true c2
    have c2b1 : decide (1 ≤ a0.size) = true := decide_eq_true (by omega)
    clear c2
    by_cases c3 : (a0.size : Int) ≤ 100
    · rw [if_pos c3] at H
      have c3b0 : decide ((a0.size : Int) ≤ 100) = true := decide_eq_true c3
      have c3b1 : decide (a0.size ≤ 100) = true := decide_eq_true (by omega)
      clear c3
      replace H := Option.bind_eq_some_iff.mp H
      obtain ⟨t192, A40, H⟩ := H
      replace H : (some t192) = some r := H
      have A4 := Aside0.mk A40
      clear A40
      obtain rfl := Option.some.inj H
      go_enter Try.func20, Try.ntmps20
      go_wp2_with (first | (go_at_call 37; (with_reducible refine (amphoraref10_plain.calls k a0 t192 _ A4.out).mono ?_); rintro e w' ⟨rfl, ⟨nd, rfl⟩⟩))
      go_ret
      exact ⟨by first | rfl | (simp; done) | (simp [*]; done), by repeat (first | exact Drawn0.refl _ | apply Drawn0.step)⟩
    · rw [if_neg c3] at H
      have c3b0 : decide ((a0.size : Int) ≤ 100) = false := decide_eq_false c3
      have c3b1 : decide (a0.size ≤ 100) = false := decide_eq_false (by omega)
      clear c3
      obtain rfl := Option.some.inj H
      go_enter Try.func20, Try.ntmps20
      go_wp2
      go_ret
      exact ⟨by first | rfl | (simp; done) | (simp [*]; done), by repeat (first | exact Drawn0.refl _ | apply Drawn0.step)⟩
  · rw [if_neg c2] at H
    have c2b0 : decide (1 ≤ (a0.size : Int)) = false := decide_eq_false c2
    have c2b1 : decide (1 ≤ a0.size) = false := decide_eq_false (by omega)
    clear c2
    obtain rfl := Option.some.inj H
    go_enter Try.func20, Try.ntmps20
    go_wp2
    go_ret
    exact ⟨by first | rfl | (simp; done) | (simp [*]; done), by repeat (first | exact Drawn0.refl _ | apply Drawn0.step)⟩

/-! ### amphoraref10_Id: function 22 -/
def amphoraref10_Id.f (a0 : Int) : Option (Bool) := if a0 ≥ 0 then (some (decide (a0 ≤ 2097151))) else (some false)
set_option maxHeartbeats 8000000 in
set_option maxRecDepth 100000 in
theorem amphoraref10_Id.calls (a0 : Int) (r : Bool) (w : World) (h : amphoraref10_Id.f a0 = some r) :
    Calls Try.prog 22 #[.int .i64 a0] w fun e w' => e = .returned (.bool r) ∧ Drawn0 w w' := by
  have H : (if a0 ≥ 0 then (some (decide (a0 ≤ 2097151))) else (some false)) = some r := h
  clear h
  by_cases c2 : a0 ≥ 0
  · rw [if_pos c2] at H
    have c2b0 : decide (0 ≤ a0) = true := decide_eq_true c2
    clear c2
    obtain rfl := Option.some.inj H
    go_enter Try.func22, Try.ntmps22
    go_wp2
    go_ret
    exact ⟨by first | rfl | (simp; done) | (simp [*]; done), by repeat (first | exact Drawn0.refl _ | apply Drawn0.step)⟩
  · rw [if_neg c2] at H
    have c2b0 : decide (0 ≤ a0) = false := decide_eq_false c2
    clear c2
    obtain rfl := Option.some.inj H
    go_enter Try.func22, Try.ntmps22
    go_wp2
    go_ret
    exact ⟨by first | rfl | (simp; done) | (simp [*]; done), by repeat (first | exact Drawn0.refl _ | apply Drawn0.step)⟩

/-! ### amphoraref10_Time: function 24 -/
def amphoraref10_Time.f (a0 : Int) : Option (Bool) := if a0 ≥ 0 then (some (decide (a0 ≤ 8589934591))) else (some false)
set_option maxHeartbeats 8000000 in
set_option maxRecDepth 100000 in
theorem amphoraref10_Time.calls (a0 : Int) (r : Bool) (w : World) (h : amphoraref10_Time.f a0 = some r) :
    Calls Try.prog 24 #[.int .i64 a0] w fun e w' => e = .returned (.bool r) ∧ Drawn0 w w' := by
  have H : (if a0 ≥ 0 then (some (decide (a0 ≤ 8589934591))) else (some false)) = some r := h
  clear h
  by_cases c2 : a0 ≥ 0
  · rw [if_pos c2] at H
    have c2b0 : decide (0 ≤ a0) = true := decide_eq_true c2
    clear c2
    obtain rfl := Option.some.inj H
    go_enter Try.func24, Try.ntmps24
    go_wp2
    go_ret
    exact ⟨by first | rfl | (simp; done) | (simp [*]; done), by repeat (first | exact Drawn0.refl _ | apply Drawn0.step)⟩
  · rw [if_neg c2] at H
    have c2b0 : decide (0 ≤ a0) = false := decide_eq_false c2
    clear c2
    obtain rfl := Option.some.inj H
    go_enter Try.func24, Try.ntmps24
    go_wp2
    go_ret
    exact ⟨by first | rfl | (simp; done) | (simp [*]; done), by repeat (first | exact Drawn0.refl _ | apply Drawn0.step)⟩

end Go.Proofs.Ytkdklgcjimnabaa.PUstar
