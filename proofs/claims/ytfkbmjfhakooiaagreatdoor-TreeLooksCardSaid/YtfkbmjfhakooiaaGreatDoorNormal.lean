/- tree.normal of an entry that came in, walked. Conditions: as each theorem says. -/
import Derived.Test.YtfkbmjfhakooiaaGreatDoorChecks1
import Derived.Test.YtfkbmjfhakooiaaGreatDoorPTreex3
import Derived.Deep.Cut
namespace Go.Proofs.YtfkbmjfhakooiaaGreatDoor.TR
open Go.RowKit Go.Proofs.YtfkbmjfhakooiaaGreatDoor.PTree Go.Proofs.YtfkbmjfhakooiaaGreatDoorW.PrintWords Go.Proofs.YtfkbmjfhakooiaaGreatDoorW.PrintLast Go.Proofs.YtfkbmjfhakooiaaGreatDoorW.PrintMore
set_option linter.unusedVariables false
set_option linter.unusedSimpArgs false
set_option maxHeartbeats 8000000 in
set_option maxRecDepth 100000 in
theorem normal_calls (k : Nat) (p : ByteArray) (kd md u g t : Int) (ln : ByteArray) (A7 : Option Addr) (c7 : Nat) (d : List Int) (r1 : ByteArray) (r2 r3 r4 r5 r6 : Int) (r7 : ByteArray) (r8 : List Int) (r9 : Option Int) (w : World) (hr : Kd.C (Kd.int .u8) w A7 d.length d) (hc : d.length ≤ c7) (hGl : Gl w) (h : tree_normal.f k p kd md u g t ln d = some (r1, r2, r3, r4, r5, r6, r7, r8, r9)) :
    Calls Tryz.prog 43 #[.agg #[.string p, .int .i64 kd, .int .i64 md, .int .i64 u, .int .i64 g, .int .i64 t, .string ln, .slice A7 d.length c7]] w fun e w' => ∃ (Ao : Option Addr) (co : Nat), e = .returned (.tuple #[.agg #[.string r1, .int .i64 r2, .int .i64 r3, .int .i64 r4, .int .i64 r5, .int .i64 r6, .string r7, .slice Ao r8.length co], errW r9]) ∧ (r9 = none → (r2, r3, r4, r5, r6) = (kd, md, u, g, t) ∧ Kd.R (Kd.int .u8) 5 w' w.heap.size (fun _ => True) (.slice Ao r8.length co) r8) ∧ Below w.heap.size w w' := by
  have hu31 := Tryz.underlying28
  have hu26 := Tryz.underlying44
  have hu56 := Tryz.underlying63
  have HR := Aside0.mk hr
  have HC := Aside0.mk hc
  have HGL := Aside0.mk hGl
  clear hr hc hGl
  unfold tree_normal.f at h
  obtain ⟨⟨t0, t1⟩, A20, H⟩ := Option.bind_eq_some_iff.mp h
  have A2 := Aside0.mk A20
  clear h A20
  rcases t1 with _ | q1
  · replace H := (if_pos (show (none : Option Int).isNone = true by rfl)).symm.trans H
    by_cases c3 : kd = 4
    · rw [if_pos c3] at H
      obtain ⟨⟨t2, t3⟩, A40, H⟩ := Option.bind_eq_some_iff.mp H
      have A4 := Aside0.mk A40
      clear A40
      rcases t3 with _ | q2
      · replace H := (if_pos (show (none : Option Int).isNone = true by rfl)).symm.trans H
        obtain ⟨d2, A50, H⟩ := Option.bind_eq_some_iff.mp H
        have A3 := Aside0.mk A50
        clear A50
        simp only [Option.some.injEq, Prod.mk.injEq] at H
        obtain ⟨rfl, rfl, rfl, rfl, rfl, rfl, rfl, rfl, rfl⟩ := H
        have c3b : (kd == 4) = true := beq_iff_eq.mpr c3
        clear c3
        go_enter Tryz.func43, Tryz.ntmps43
        go_upto_region 4 with (first | ((with_reducible refine gate_dst (N := 1) rfl ?_); refine box_event ?hg (N := 1) ?hd (cs := #[.string p, .int .i64 kd, .int .i64 md, .int .i64 u, .int .i64 g, .int .i64 t, .string ln, .slice A7 d.length c7]) (t := 28) ?hr ?_; (case hd => rfl); (case hg => rfl); (case hr => first | (go_simp; done) | (go_simp; rfl)); intro g1 hg w1 hbox hb; have HB := Aside0.mk hb; have K1 := Aside0.mk hbox; have G1 := Aside0.mk (show w.heap.size ≤ g1 by omega); clear hb hbox hg) | ((with_reducible refine gate_dst (N := 2) rfl ?_); refine box_event ?hg (N := 2) ?hd (cs := #[.string (⟨#[]⟩ : ByteArray), .int .i64 0, .int .i64 0, .int .i64 0, .int .i64 0, .int .i64 0, .string (⟨#[]⟩ : ByteArray), .slice none 0 0]) (t := 28) ?hr ?_; (case hd => rfl); (case hg => rfl); (case hr => first | (go_simp; done) | (go_simp; rfl)); intro g2 hg w2 hbox hb; have HB2 := Aside0.mk (below_step HB.out hb); have K1b := Aside0.mk (blk_below K1.out hb); have K2 := Aside0.mk hbox; have G2 := Aside0.mk (show w.heap.size ≤ g2 by rw [hg]; exact below_size HB.out); have N12 := Aside0.mk (show g2 ≠ g1 by have := (Array.getElem?_eq_some_iff.1 K1.out).1; omega); clear hb hbox hg HB K1; obtain ⟨x0, x1, x2, x3, x4, x5, x6, x7⟩ := good_cells K1b.out) | (go_at_call 56; refine (path_Normal.calls k p t0 _ _ (HGL.out.of HB2.out) A2.out).mono ?_; rintro e w3 ⟨rfl, hb⟩; have HB := Aside0.mk (below_step HB2.out hb); have K1 := Aside0.mk (blk_below K1b.out hb); have K2b := Aside0.mk (blk_below K2.out hb); clear hb HB2 K1b K2 x0 x1 x2 x3 x4 x5 x6 x7; try simp only [errW_none, errW_some]))
        obtain ⟨x0, x1, x2, x3, x4, x5, x6, x7⟩ := good_cells K1.out
        have f0 : ∀ j, _ := blk_frozen K1.out
        go_upto_region 5 with (fail)
        have K1n := Aside0.mk (show (w3.setCell ⟨g1, 0, none⟩ (.string t0)).heap[g1]? = some (.cells #[.string t0, .int .i64 kd, .int .i64 md, .int .i64 u, .int .i64 g, .int .i64 t, .string ln, .slice A7 d.length c7] 28 (0, 0)) from blk_set K1.out 0 _)
        have K2n := Aside0.mk (show (w3.setCell ⟨g1, 0, none⟩ (.string t0)).heap[g2]? = _ from (Below.heap_setCell _ _ _ _ N12.out).trans K2b.out)
        have HBn := Aside0.mk (show Below w.heap.size w (w3.setCell ⟨g1, 0, none⟩ (.string t0)) from below_set HB.out G1.out)
        generalize w3.setCell ⟨g1, 0, none⟩ (.string t0) = w4 at K1n K2n HBn ⊢
        clear K1 K2b HB x0 x1 x2 x3 x4 x5 x6 x7 f0
        have K1 := K1n
        have K2b := K2n
        have HB := HBn
        clear K1n K2n HBn
        obtain ⟨x0, x1, x2, x3, x4, x5, x6, x7⟩ := good_cells K1.out
        have f0 : ∀ j, _ := blk_frozen K1.out
        go_upto_region 7 with (first | (go_at_call 56; refine (path_Normal.calls k ln t2 none _ (HGL.out.of HB.out) A4.out).mono ?_; rintro e w9 ⟨rfl, hb⟩; have HB6 := Aside0.mk (below_step HB.out hb); have K16 := Aside0.mk (blk_below K1.out hb); have K26 := Aside0.mk (blk_below K2b.out hb); clear hb K1 K2b HB x0 x1 x2 x3 x4 x5 x6 x7 f0; have K1 := K16; have K2b := K26; have HB := HB6; clear K16 K26 HB6; obtain ⟨x0, x1, x2, x3, x4, x5, x6, x7⟩ := good_cells K1.out; have f0 : ∀ j, _ := blk_frozen K1.out; try simp only [errW_none, errW_some]))
        have K1n := Aside0.mk (show (w9.setCell ⟨g1, 6, none⟩ (.string t2)).heap[g1]? = some (.cells #[.string t0, .int .i64 kd, .int .i64 md, .int .i64 u, .int .i64 g, .int .i64 t, .string t2, .slice A7 d.length c7] 28 (0, 0)) from blk_set K1.out 6 _)
        have K2n := Aside0.mk (show (w9.setCell ⟨g1, 6, none⟩ (.string t2)).heap[g2]? = _ from (Below.heap_setCell _ _ _ _ N12.out).trans K2b.out)
        have HBn := Aside0.mk (show Below w.heap.size w (w9.setCell ⟨g1, 6, none⟩ (.string t2)) from below_set HB.out G1.out)
        generalize w9.setCell ⟨g1, 6, none⟩ (.string t2) = w10 at K1n K2n HBn ⊢
        clear K1 K2b HB x0 x1 x2 x3 x4 x5 x6 x7 f0
        have K1 := K1n
        have K2b := K2n
        have HB := HBn
        clear K1n K2n HBn
        obtain ⟨x0, x1, x2, x3, x4, x5, x6, x7⟩ := good_cells K1.out
        have f0 : ∀ j, _ := blk_frozen K1.out
        go_upto_region 9 with (fail)
        clear x0 x1 x2 x3 x4 x5 x6 x7 f0
        obtain ⟨x0, x1, x2, x3, x4, x5, x6, x7⟩ := good_cells K1.out
        have f0 : ∀ j, _ := blk_frozen K1.out
        go_upto_region 10 with (first | (go_at_call 47; refine (bytes_Clone.calls A7 c7 d d2 _ (Kd.C_below HR.out HB.out) HC.out (HGL.out.of HB.out) A3.out).mono ?_; rintro e w5 ⟨v7, rfl, ho, hb⟩; have HO := Aside0.mk (Kd.R_lower ho (below_size HB.out)); have HB6 := Aside0.mk (below_step HB.out hb); have K16 := Aside0.mk (blk_below K1.out hb); have K26 := Aside0.mk (blk_below K2b.out hb); clear hb ho K1 K2b HB x0 x1 x2 x3 x4 x5 x6 x7 f0; have K1 := K16; have K2b := K26; have HB := HB6; clear K16 K26 HB6; obtain ⟨x0, x1, x2, x3, x4, x5, x6, x7⟩ := good_cells K1.out; have f0 : ∀ j, _ := blk_frozen K1.out; obtain ⟨Ao, co, eo⟩ := Kd.R_slice HO.out; subst eo))
        have K1n := Aside0.mk (show (w5.setCell ⟨g1, 7, none⟩ (.slice Ao d2.length co)).heap[g1]? = some (.cells #[.string t0, .int .i64 kd, .int .i64 md, .int .i64 u, .int .i64 g, .int .i64 t, .string t2, .slice Ao d2.length co] 28 (0, 0)) from blk_set K1.out 7 _)
        have K2n := Aside0.mk (show (w5.setCell ⟨g1, 7, none⟩ (.slice Ao d2.length co)).heap[g2]? = _ from (Below.heap_setCell _ _ _ _ N12.out).trans K2b.out)
        have HBn := Aside0.mk (show Below w.heap.size w (w5.setCell ⟨g1, 7, none⟩ (.slice Ao d2.length co)) from below_set HB.out G1.out)
        have HOn := Aside0.mk (Kd.R_types (Kd.R_far (p := ⟨g1, 7, none⟩) (Kd.R_types (Kd.R_types HO.out K1.out (by decide)) K2b.out (by decide)) (fun _ hk => hk.1.2) (.slice Ao d2.length co)) K2n.out (by decide))
        generalize w5.setCell ⟨g1, 7, none⟩ (.slice Ao d2.length co) = w6 at K1n K2n HBn HOn ⊢
        clear K1 K2b HB x0 x1 x2 x3 x4 x5 x6 x7 f0
        have K1 := K1n
        have K2b := K2n
        have HB := HBn
        clear K1n K2n HBn
        obtain ⟨x0, x1, x2, x3, x4, x5, x6, x7⟩ := good_cells K1.out
        have f0 : ∀ j, _ := blk_frozen K1.out
        go_wp2_with (first | ((with_reducible refine gate_store (t := 28) (p := 2) (v := .tmp 36) rfl ?_); refine ev_set31 _ rfl (.tmp 2) (.tmp 36) rfl rfl g2 _ _ _ _ _ _ _ _ t0 t2 kd md u g t Ao d2.length co rfl rfl K2b.out (fun w8 b1 b2 => ?_)))
        refine bodyPost_ret (results_ct rfl _ _ g2 28 #[.string t0, .int .i64 kd, .int .i64 md, .int .i64 u, .int .i64 g, .int .i64 t, .string t2, .slice Ao d2.length co] (0, 0) _ rfl b1 Tryz.underlying28 rfl (by kernel_rfl)) rfl ?_
        exact ⟨_, _, rfl, fun _ => ⟨by simp, Kd.R_mono (Kd.R_grown HOn.out b2 (fun k hk e => hk.2 (by injection e))) (fun _ _ => trivial)⟩, HB.out.trans ⟨b2.os, b2.tape, b2.output, b2.size, fun k hk => b2.block k (Nat.lt_of_lt_of_le hk (below_size HB.out)) (fun e => by injection e with e; have := G2.out; omega)⟩⟩
      · replace H := (if_neg (show ¬ (some q2).isNone = true by simp)).symm.trans H
        simp only [Option.some.injEq, Prod.mk.injEq] at H
        obtain ⟨rfl, rfl, rfl, rfl, rfl, rfl, rfl, rfl, rfl⟩ := H
        have c3b : (kd == 4) = true := beq_iff_eq.mpr c3
        clear c3
        go_enter Tryz.func43, Tryz.ntmps43
        go_upto_region 4 with (first | ((with_reducible refine gate_dst (N := 1) rfl ?_); refine box_event ?hg (N := 1) ?hd (cs := #[.string p, .int .i64 kd, .int .i64 md, .int .i64 u, .int .i64 g, .int .i64 t, .string ln, .slice A7 d.length c7]) (t := 28) ?hr ?_; (case hd => rfl); (case hg => rfl); (case hr => first | (go_simp; done) | (go_simp; rfl)); intro g1 hg w1 hbox hb; have HB := Aside0.mk hb; have K1 := Aside0.mk hbox; have G1 := Aside0.mk (show w.heap.size ≤ g1 by omega); clear hb hbox hg) | ((with_reducible refine gate_dst (N := 2) rfl ?_); refine box_event ?hg (N := 2) ?hd (cs := #[.string (⟨#[]⟩ : ByteArray), .int .i64 0, .int .i64 0, .int .i64 0, .int .i64 0, .int .i64 0, .string (⟨#[]⟩ : ByteArray), .slice none 0 0]) (t := 28) ?hr ?_; (case hd => rfl); (case hg => rfl); (case hr => first | (go_simp; done) | (go_simp; rfl)); intro g2 hg w2 hbox hb; have HB2 := Aside0.mk (below_step HB.out hb); have K1b := Aside0.mk (blk_below K1.out hb); have K2 := Aside0.mk hbox; have G2 := Aside0.mk (show w.heap.size ≤ g2 by rw [hg]; exact below_size HB.out); have N12 := Aside0.mk (show g2 ≠ g1 by have := (Array.getElem?_eq_some_iff.1 K1.out).1; omega); clear hb hbox hg HB K1; obtain ⟨x0, x1, x2, x3, x4, x5, x6, x7⟩ := good_cells K1b.out) | (go_at_call 56; refine (path_Normal.calls k p t0 _ _ (HGL.out.of HB2.out) A2.out).mono ?_; rintro e w3 ⟨rfl, hb⟩; have HB := Aside0.mk (below_step HB2.out hb); have K1 := Aside0.mk (blk_below K1b.out hb); have K2b := Aside0.mk (blk_below K2.out hb); clear hb HB2 K1b K2 x0 x1 x2 x3 x4 x5 x6 x7; try simp only [errW_none, errW_some]))
        obtain ⟨x0, x1, x2, x3, x4, x5, x6, x7⟩ := good_cells K1.out
        have f0 : ∀ j, _ := blk_frozen K1.out
        go_upto_region 5 with (fail)
        have K1n := Aside0.mk (show (w3.setCell ⟨g1, 0, none⟩ (.string t0)).heap[g1]? = some (.cells #[.string t0, .int .i64 kd, .int .i64 md, .int .i64 u, .int .i64 g, .int .i64 t, .string ln, .slice A7 d.length c7] 28 (0, 0)) from blk_set K1.out 0 _)
        have K2n := Aside0.mk (show (w3.setCell ⟨g1, 0, none⟩ (.string t0)).heap[g2]? = _ from (Below.heap_setCell _ _ _ _ N12.out).trans K2b.out)
        have HBn := Aside0.mk (show Below w.heap.size w (w3.setCell ⟨g1, 0, none⟩ (.string t0)) from below_set HB.out G1.out)
        generalize w3.setCell ⟨g1, 0, none⟩ (.string t0) = w4 at K1n K2n HBn ⊢
        clear K1 K2b HB x0 x1 x2 x3 x4 x5 x6 x7 f0
        have K1 := K1n
        have K2b := K2n
        have HB := HBn
        clear K1n K2n HBn
        obtain ⟨x0, x1, x2, x3, x4, x5, x6, x7⟩ := good_cells K1.out
        have f0 : ∀ j, _ := blk_frozen K1.out
        go_upto_region 7 with (first | (go_at_call 56; refine (path_Normal.calls k ln t2 (some q2) _ (HGL.out.of HB.out) A4.out).mono ?_; rintro e w9 ⟨rfl, hb⟩; have HB6 := Aside0.mk (below_step HB.out hb); have K16 := Aside0.mk (blk_below K1.out hb); have K26 := Aside0.mk (blk_below K2b.out hb); clear hb K1 K2b HB x0 x1 x2 x3 x4 x5 x6 x7 f0; have K1 := K16; have K2b := K26; have HB := HB6; clear K16 K26 HB6; obtain ⟨x0, x1, x2, x3, x4, x5, x6, x7⟩ := good_cells K1.out; have f0 : ∀ j, _ := blk_frozen K1.out; try simp only [errW_none, errW_some]))
        have K1n := Aside0.mk (show (w9.setCell ⟨g1, 6, none⟩ (.string t2)).heap[g1]? = some (.cells #[.string t0, .int .i64 kd, .int .i64 md, .int .i64 u, .int .i64 g, .int .i64 t, .string t2, .slice A7 d.length c7] 28 (0, 0)) from blk_set K1.out 6 _)
        have K2n := Aside0.mk (show (w9.setCell ⟨g1, 6, none⟩ (.string t2)).heap[g2]? = _ from (Below.heap_setCell _ _ _ _ N12.out).trans K2b.out)
        have HBn := Aside0.mk (show Below w.heap.size w (w9.setCell ⟨g1, 6, none⟩ (.string t2)) from below_set HB.out G1.out)
        generalize w9.setCell ⟨g1, 6, none⟩ (.string t2) = w10 at K1n K2n HBn ⊢
        clear K1 K2b HB x0 x1 x2 x3 x4 x5 x6 x7 f0
        have K1 := K1n
        have K2b := K2n
        have HB := HBn
        clear K1n K2n HBn
        obtain ⟨x0, x1, x2, x3, x4, x5, x6, x7⟩ := good_cells K1.out
        have f0 : ∀ j, _ := blk_frozen K1.out
        go_wp2_with (first | ((with_reducible refine gate_store (t := 28) (p := 2) (v := .tmp 30) rfl ?_); refine ev_set31 _ rfl (.tmp 2) (.tmp 30) rfl rfl g2 _ _ _ _ _ _ _ _ t0 t2 kd md u g t A7 d.length c7 rfl rfl K2b.out (fun w8 b1 b2 => ?_)))
        refine bodyPost_ret (results_ct rfl _ _ g2 28 #[.string t0, .int .i64 kd, .int .i64 md, .int .i64 u, .int .i64 g, .int .i64 t, .string t2, .slice A7 d.length c7] (0, 0) _ rfl b1 Tryz.underlying28 rfl (by kernel_rfl)) rfl ?_
        first | exact ⟨_, _, rfl, fun e => (by simp at e), HB.out.trans ⟨b2.os, b2.tape, b2.output, b2.size, fun k hk => b2.block k (Nat.lt_of_lt_of_le hk (below_size HB.out)) (fun e => by injection e with e; have := G2.out; omega)⟩⟩ | exact ⟨⟨_, _, rfl⟩, HB.out.trans ⟨b2.os, b2.tape, b2.output, b2.size, fun k hk => b2.block k (Nat.lt_of_lt_of_le hk (below_size HB.out)) (fun e => by injection e with e; have := G2.out; omega)⟩⟩
    · rw [if_neg c3] at H
      obtain ⟨d2, A50, H⟩ := Option.bind_eq_some_iff.mp H
      have A3 := Aside0.mk A50
      clear A50
      simp only [Option.some.injEq, Prod.mk.injEq] at H
      obtain ⟨rfl, rfl, rfl, rfl, rfl, rfl, rfl, rfl, rfl⟩ := H
      have c3b : (kd == 4) = false := beq_eq_false_iff_ne.mpr c3
      clear c3
      go_enter Tryz.func43, Tryz.ntmps43
      go_upto_region 4 with (first | ((with_reducible refine gate_dst (N := 1) rfl ?_); refine box_event ?hg (N := 1) ?hd (cs := #[.string p, .int .i64 kd, .int .i64 md, .int .i64 u, .int .i64 g, .int .i64 t, .string ln, .slice A7 d.length c7]) (t := 28) ?hr ?_; (case hd => rfl); (case hg => rfl); (case hr => first | (go_simp; done) | (go_simp; rfl)); intro g1 hg w1 hbox hb; have HB := Aside0.mk hb; have K1 := Aside0.mk hbox; have G1 := Aside0.mk (show w.heap.size ≤ g1 by omega); clear hb hbox hg) | ((with_reducible refine gate_dst (N := 2) rfl ?_); refine box_event ?hg (N := 2) ?hd (cs := #[.string (⟨#[]⟩ : ByteArray), .int .i64 0, .int .i64 0, .int .i64 0, .int .i64 0, .int .i64 0, .string (⟨#[]⟩ : ByteArray), .slice none 0 0]) (t := 28) ?hr ?_; (case hd => rfl); (case hg => rfl); (case hr => first | (go_simp; done) | (go_simp; rfl)); intro g2 hg w2 hbox hb; have HB2 := Aside0.mk (below_step HB.out hb); have K1b := Aside0.mk (blk_below K1.out hb); have K2 := Aside0.mk hbox; have G2 := Aside0.mk (show w.heap.size ≤ g2 by rw [hg]; exact below_size HB.out); have N12 := Aside0.mk (show g2 ≠ g1 by have := (Array.getElem?_eq_some_iff.1 K1.out).1; omega); clear hb hbox hg HB K1; obtain ⟨x0, x1, x2, x3, x4, x5, x6, x7⟩ := good_cells K1b.out) | (go_at_call 56; refine (path_Normal.calls k p t0 _ _ (HGL.out.of HB2.out) A2.out).mono ?_; rintro e w3 ⟨rfl, hb⟩; have HB := Aside0.mk (below_step HB2.out hb); have K1 := Aside0.mk (blk_below K1b.out hb); have K2b := Aside0.mk (blk_below K2.out hb); clear hb HB2 K1b K2 x0 x1 x2 x3 x4 x5 x6 x7; try simp only [errW_none, errW_some]))
      obtain ⟨x0, x1, x2, x3, x4, x5, x6, x7⟩ := good_cells K1.out
      have f0 : ∀ j, _ := blk_frozen K1.out
      go_upto_region 5 with (fail)
      have K1n := Aside0.mk (show (w3.setCell ⟨g1, 0, none⟩ (.string t0)).heap[g1]? = some (.cells #[.string t0, .int .i64 kd, .int .i64 md, .int .i64 u, .int .i64 g, .int .i64 t, .string ln, .slice A7 d.length c7] 28 (0, 0)) from blk_set K1.out 0 _)
      have K2n := Aside0.mk (show (w3.setCell ⟨g1, 0, none⟩ (.string t0)).heap[g2]? = _ from (Below.heap_setCell _ _ _ _ N12.out).trans K2b.out)
      have HBn := Aside0.mk (show Below w.heap.size w (w3.setCell ⟨g1, 0, none⟩ (.string t0)) from below_set HB.out G1.out)
      generalize w3.setCell ⟨g1, 0, none⟩ (.string t0) = w4 at K1n K2n HBn ⊢
      clear K1 K2b HB x0 x1 x2 x3 x4 x5 x6 x7 f0
      have K1 := K1n
      have K2b := K2n
      have HB := HBn
      clear K1n K2n HBn
      obtain ⟨x0, x1, x2, x3, x4, x5, x6, x7⟩ := good_cells K1.out
      have f0 : ∀ j, _ := blk_frozen K1.out
      go_upto_region 9 with (fail)
      clear x0 x1 x2 x3 x4 x5 x6 x7 f0
      obtain ⟨x0, x1, x2, x3, x4, x5, x6, x7⟩ := good_cells K1.out
      have f0 : ∀ j, _ := blk_frozen K1.out
      go_upto_region 10 with (first | (go_at_call 47; refine (bytes_Clone.calls A7 c7 d d2 _ (Kd.C_below HR.out HB.out) HC.out (HGL.out.of HB.out) A3.out).mono ?_; rintro e w5 ⟨v7, rfl, ho, hb⟩; have HO := Aside0.mk (Kd.R_lower ho (below_size HB.out)); have HB6 := Aside0.mk (below_step HB.out hb); have K16 := Aside0.mk (blk_below K1.out hb); have K26 := Aside0.mk (blk_below K2b.out hb); clear hb ho K1 K2b HB x0 x1 x2 x3 x4 x5 x6 x7 f0; have K1 := K16; have K2b := K26; have HB := HB6; clear K16 K26 HB6; obtain ⟨x0, x1, x2, x3, x4, x5, x6, x7⟩ := good_cells K1.out; have f0 : ∀ j, _ := blk_frozen K1.out; obtain ⟨Ao, co, eo⟩ := Kd.R_slice HO.out; subst eo))
      have K1n := Aside0.mk (show (w5.setCell ⟨g1, 7, none⟩ (.slice Ao d2.length co)).heap[g1]? = some (.cells #[.string t0, .int .i64 kd, .int .i64 md, .int .i64 u, .int .i64 g, .int .i64 t, .string ln, .slice Ao d2.length co] 28 (0, 0)) from blk_set K1.out 7 _)
      have K2n := Aside0.mk (show (w5.setCell ⟨g1, 7, none⟩ (.slice Ao d2.length co)).heap[g2]? = _ from (Below.heap_setCell _ _ _ _ N12.out).trans K2b.out)
      have HBn := Aside0.mk (show Below w.heap.size w (w5.setCell ⟨g1, 7, none⟩ (.slice Ao d2.length co)) from below_set HB.out G1.out)
      have HOn := Aside0.mk (Kd.R_types (Kd.R_far (p := ⟨g1, 7, none⟩) (Kd.R_types (Kd.R_types HO.out K1.out (by decide)) K2b.out (by decide)) (fun _ hk => hk.1.2) (.slice Ao d2.length co)) K2n.out (by decide))
      generalize w5.setCell ⟨g1, 7, none⟩ (.slice Ao d2.length co) = w6 at K1n K2n HBn HOn ⊢
      clear K1 K2b HB x0 x1 x2 x3 x4 x5 x6 x7 f0
      have K1 := K1n
      have K2b := K2n
      have HB := HBn
      clear K1n K2n HBn
      obtain ⟨x0, x1, x2, x3, x4, x5, x6, x7⟩ := good_cells K1.out
      have f0 : ∀ j, _ := blk_frozen K1.out
      go_wp2_with (first | ((with_reducible refine gate_store (t := 28) (p := 2) (v := .tmp 36) rfl ?_); refine ev_set31 _ rfl (.tmp 2) (.tmp 36) rfl rfl g2 _ _ _ _ _ _ _ _ t0 ln kd md u g t Ao d2.length co rfl rfl K2b.out (fun w8 b1 b2 => ?_)))
      refine bodyPost_ret (results_ct rfl _ _ g2 28 #[.string t0, .int .i64 kd, .int .i64 md, .int .i64 u, .int .i64 g, .int .i64 t, .string ln, .slice Ao d2.length co] (0, 0) _ rfl b1 Tryz.underlying28 rfl (by kernel_rfl)) rfl ?_
      exact ⟨_, _, rfl, fun _ => ⟨by simp, Kd.R_mono (Kd.R_grown HOn.out b2 (fun k hk e => hk.2 (by injection e))) (fun _ _ => trivial)⟩, HB.out.trans ⟨b2.os, b2.tape, b2.output, b2.size, fun k hk => b2.block k (Nat.lt_of_lt_of_le hk (below_size HB.out)) (fun e => by injection e with e; have := G2.out; omega)⟩⟩
  · replace H := (if_neg (show ¬ (some q1).isNone = true by simp)).symm.trans H
    simp only [Option.some.injEq, Prod.mk.injEq] at H
    obtain ⟨rfl, rfl, rfl, rfl, rfl, rfl, rfl, rfl, rfl⟩ := H
    go_enter Tryz.func43, Tryz.ntmps43
    go_upto_region 3 with (first | ((with_reducible refine gate_dst (N := 1) rfl ?_); refine box_event ?hg (N := 1) ?hd (cs := #[.string p, .int .i64 kd, .int .i64 md, .int .i64 u, .int .i64 g, .int .i64 t, .string ln, .slice A7 d.length c7]) (t := 28) ?hr ?_; (case hd => rfl); (case hg => rfl); (case hr => first | (go_simp; done) | (go_simp; rfl)); intro g1 hg w1 hbox hb; have HB := Aside0.mk hb; have K1 := Aside0.mk hbox; have G1 := Aside0.mk (show w.heap.size ≤ g1 by omega); clear hb hbox hg) | ((with_reducible refine gate_dst (N := 2) rfl ?_); refine box_event ?hg (N := 2) ?hd (cs := #[.string (⟨#[]⟩ : ByteArray), .int .i64 0, .int .i64 0, .int .i64 0, .int .i64 0, .int .i64 0, .string (⟨#[]⟩ : ByteArray), .slice none 0 0]) (t := 28) ?hr ?_; (case hd => rfl); (case hg => rfl); (case hr => first | (go_simp; done) | (go_simp; rfl)); intro g2 hg w2 hbox hb; have HB2 := Aside0.mk (below_step HB.out hb); have K1b := Aside0.mk (blk_below K1.out hb); have K2 := Aside0.mk hbox; have G2 := Aside0.mk (show w.heap.size ≤ g2 by rw [hg]; exact below_size HB.out); have N12 := Aside0.mk (show g2 ≠ g1 by have := (Array.getElem?_eq_some_iff.1 K1.out).1; omega); clear hb hbox hg HB K1; obtain ⟨x0, x1, x2, x3, x4, x5, x6, x7⟩ := good_cells K1b.out) | (go_at_call 56; refine (path_Normal.calls k p t0 _ _ (HGL.out.of HB2.out) A2.out).mono ?_; rintro e w3 ⟨rfl, hb⟩; have HB := Aside0.mk (below_step HB2.out hb); have K1 := Aside0.mk (blk_below K1b.out hb); have K2b := Aside0.mk (blk_below K2.out hb); clear hb HB2 K1b K2 x0 x1 x2 x3 x4 x5 x6 x7; try simp only [errW_none, errW_some]))
    obtain ⟨x0, x1, x2, x3, x4, x5, x6, x7⟩ := good_cells K1.out
    have f0 : ∀ j, _ := blk_frozen K1.out
    go_wp2_with (first | ((with_reducible refine gate_store (t := 28) (p := 2) (v := .tmp 14) rfl ?_); refine ev_set31 _ rfl (.tmp 2) (.tmp 14) rfl rfl g2 _ _ _ _ _ _ _ _ p ln kd md u g t A7 d.length c7 rfl rfl K2b.out (fun w8 b1 b2 => ?_)))
    refine bodyPost_ret (results_ct rfl _ _ g2 28 #[.string p, .int .i64 kd, .int .i64 md, .int .i64 u, .int .i64 g, .int .i64 t, .string ln, .slice A7 d.length c7] (0, 0) _ rfl b1 Tryz.underlying28 rfl (by kernel_rfl)) rfl ?_
    first | exact ⟨_, _, rfl, fun e => (by simp at e), HB.out.trans ⟨b2.os, b2.tape, b2.output, b2.size, fun k hk => b2.block k (Nat.lt_of_lt_of_le hk (below_size HB.out)) (fun e => by injection e with e; have := G2.out; omega)⟩⟩ | exact ⟨⟨_, _, rfl⟩, HB.out.trans ⟨b2.os, b2.tape, b2.output, b2.size, fun k hk => b2.block k (Nat.lt_of_lt_of_le hk (below_size HB.out)) (fun e => by injection e with e; have := G2.out; omega)⟩⟩
end Go.Proofs.YtfkbmjfhakooiaaGreatDoor.TR
