/- The walk of PaxEncodes. Conditions: as the theorem says. -/
import Derived.Test.YtcengaholljddaaDoorPPaxx4
import Derived.Test.YtcengaholljddaaDoorPPaxx6
import Derived.Test.YtcengaholljddaaDoorPPaxx7
import Derived.Test.YtcengaholljddaaDoorPPaxx8
import Derived.Test.YtcengaholljddaaDoorPPaxx9
import Derived.Test.YtcengaholljddaaDoorMarks
import Derived.Test.YtcengaholljddaaDoorMine
import Derived.Test.YtcengaholljddaaDoorPX10
namespace Go.Proofs.YtcengaholljddaaDoor.PPax
open Go.RowKit Go.Proofs.YtcengaholljddaaDoorW.PrintWords Go.Proofs.YtcengaholljddaaDoorW.PrintLast Go.Proofs.YtcengaholljddaaDoorW.PrintMore
set_option linter.unusedVariables false
set_option linter.unusedSimpArgs false
namespace OE
set_option maxHeartbeats 8000000 in
set_option maxRecDepth 100000 in
theorem walk_large (k : Nat) (A0 : Option Addr) (c : Nat) (l : List S44) (key : ByteArray) (w : World) (hGl : Gl w)
    (hC : Kd.C k44 w A0 l.length l) (hc : l.length ≤ c) (h1 : amphoralaw11_alive.f k = some true) (h2 : amphoralaw11_large.f k l = some true) :
    Calls Tryd.prog 7 #[.slice A0 l.length c, .string key] w fun e w' => e = .returned (.bool true) ∧ Below w.heap.size w w' := by
  have hu24 := Tryd.underlying24
  have hu44 := Tryd.underlying44
  have HB := Aside0.mk (Below.refl w.heap.size w)
  have HGL := Aside0.mk hGl
  have HC := Aside0.mk hC
  have HL := Aside0.mk hc
  have A1 := Aside0.mk h1
  have A2 := Aside0.mk h2
  clear hC hc h1 h2 hGl
  go_enter Tryd.func7, Tryd.ntmps7
  go_wp2_with (first
    | (go_at_call 8; (with_reducible refine (amphoralaw11_alive.calls k true _ ?s1 A1.out).mono ?_); (case s1 => exact HGL.out); rintro e1 w1 ⟨rfl, hb⟩; have n0_ := Aside0.mk (below_step HB.out hb); clear HB hb; have HB := n0_; clear n0_)
    | (go_at_call 18; refine (amphoralaw11_large.calls k _ _ l true _ ?s1 HL.out ?s2 A2.out).mono ?_; (case s1 => exact Kd.C_below HC.out HB.out); (case s2 => exact HGL.out.of HB.out); rintro e2 w2 ⟨rfl, hb⟩; have n0_ := Aside0.mk (below_step HB.out hb); clear HB hb; have HB := n0_; clear n0_))
  go_ret
  exact ⟨by first | rfl | (simp; done) | (simp [*]; done), by repeat (first | (with_reducible first | exact HB.out | apply below_alloc | apply pw_below_drewN | apply below_drew1) | exact HB.out)⟩
set_option maxHeartbeats 8000000 in
set_option maxRecDepth 100000 in
theorem walk (k : Nat) (A0 : Option Addr) (c : Nat) (l : List S44) (key : ByteArray) (w : World) (hGl : Gl w) (b : List Int) (e : Option Int) (q : Int) (x : ByteArray) (t : Bool)
    (hC : Kd.C k44 w A0 l.length l) (hc : l.length ≤ c) (hl : l.length ≤ 262144) (hseen : PX.seen key l = (x, t))
    (h1 : amphoralaw11_alive.f k = some true) (h2 : amphoralaw11_large.f k l = some false) (h3 : pax_Encode.f k l = some (b, e)) (h4 : amphoraref11_Encode.f k l = some (b, q)) (h5 : amphoranum_Num.f e = some q)
    (h6 : pax_Find.f k l key = some (x, t)) (h7 : amphoraref11_Same.f k l l = some true) :
    Calls Tryd.prog 7 #[.slice A0 l.length c, .string key] w fun e w' => e = .returned (.bool true) ∧ Below w.heap.size w w' := by
  have hu24 := Tryd.underlying24
  have hu44 := Tryd.underlying44
  have HB := Aside0.mk (Below.refl w.heap.size w)
  have HGL := Aside0.mk hGl
  have HC := Aside0.mk hC
  have HL := Aside0.mk hc
  have HLL := Aside0.mk hl
  have HS := Aside0.mk hseen
  have A1 := Aside0.mk h1
  have A2 := Aside0.mk h2
  have A3 := Aside0.mk h3
  have A4 := Aside0.mk h4
  have A5 := Aside0.mk h5
  have A6 := Aside0.mk h6
  have A7 := Aside0.mk h7
  clear hC hc hl h1 h2 h3 h4 h5 h6 h7 hGl hseen
  go_enter Tryd.func7, Tryd.ntmps7
  go_wp2_with (first
    | (go_at_call 8; (with_reducible refine (amphoralaw11_alive.calls k true _ ?s1 A1.out).mono ?_); (case s1 => exact HGL.out); rintro e1 w1 ⟨rfl, hb⟩; have n0_ := Aside0.mk (below_step HB.out hb); clear HB hb; have HB := n0_; clear n0_)
    | (go_at_call 18; refine (amphoralaw11_large.calls k _ _ l false _ ?s1 HL.out ?s2 A2.out).mono ?_; (case s1 => exact Kd.C_below HC.out HB.out); (case s2 => exact HGL.out.of HB.out); rintro e2 w2 ⟨rfl, hb⟩; have n0_ := Aside0.mk (below_step HB.out hb); clear HB hb; have HB := n0_; clear n0_)
    | (go_at_call 21; refine (Mine.calls A0 c l _ ?s1 HL.out ?s2).mono ?_; (case s1 => exact Kd.C_below HC.out HB.out); (case s2 => have := HLL.out; omega); rintro e3 w3 ⟨g, rfl, hge, hat, hb⟩; have HM := Aside0.mk hat; have n0_ := Aside0.mk (below_step HB.out hb); clear HB hb hge hat; have HB := n0_; clear n0_)
    | (go_at_call 19; refine (pax_Encode.calls k _ _ l b e _ ?s1 ?s2 ?s3 A3.out).mono ?_; (case s1 => exact Mine.rowC (by have := HLL.out; omega) HM.out); (case s2 => omega); (case s3 => exact HGL.out.of HB.out); rintro e4 w4 ⟨v4, rfl, ho, hb⟩; have n0_ := Aside0.mk (below_step HB.out hb); have n1_ := Aside0.mk (Mine.At.below HM.out hb); clear HB HM hb; have HB := n0_; have HM := n1_; clear n0_ n1_; obtain ⟨A8, c8, eo, hc8, hC8⟩ := Kd.R_reads ho; subst eo; have R8 := Aside0.mk hC8; clear hC8 hc8 ho)
    | (go_at_call 22; refine (amphoraref11_Encode.calls k _ _ l b q _ ?s1 HL.out ?s3 A4.out).mono ?_; (case s1 => exact Kd.C_below HC.out HB.out); (case s3 => exact HGL.out.of HB.out); rintro e5 w5 ⟨v5, rfl, ho, hb⟩; have n0_ := Aside0.mk (below_step HB.out hb); have n1_ := Aside0.mk (Mine.At.below HM.out hb); have n2_ := Aside0.mk (Kd.C_below R8.out hb); clear HB HM R8 hb; have HB := n0_; have HM := n1_; have R8 := n2_; clear n0_ n1_ n2_; obtain ⟨A9, c9, eo, hc9, hC9⟩ := Kd.R_reads ho; subst eo; have R9 := Aside0.mk hC9; clear hC9 hc9 ho)
    | (go_at_call 23; refine (pax_Find.calls k _ _ l key x t _ ?s1 ?s2 ?s3 A6.out).mono ?_; (case s1 => exact Mine.rowC (by have := HLL.out; omega) HM.out); (case s2 => omega); (case s3 => exact HGL.out.of HB.out); rintro e6 w6 ⟨rfl, hb⟩; have n0_ := Aside0.mk (below_step HB.out hb); have n1_ := Aside0.mk (Mine.At.below HM.out hb); have n2_ := Aside0.mk (Kd.C_below R8.out hb); have n3_ := Aside0.mk (Kd.C_below R9.out hb); clear HB HM R8 R9 hb; have HB := n0_; have HM := n1_; have R8 := n2_; have R9 := n3_; clear n0_ n1_ n2_ n3_; have HC6 := Aside0.mk (Kd.C_below HC.out HB.out)))
  go_loopg [12, 13, 40] (l.length + 1) (fun kq v12 v13 v40 w' => ∃ i : Nat, v12 = .string (PX.seen key (l.take i)).1 ∧ v13 = .bool (PX.seen key (l.take i)).2 ∧ v40 = .int .i64 (i : Int) ∧ Aside0 (i + kq = l.length + 1) ∧ Aside0 (i ≤ l.length) ∧ Aside0 (Below w6.heap.size w6 w'))
  case atStart => exact ⟨0, rfl, rfl, rfl, ⟨by omega⟩, ⟨by omega⟩, ⟨by repeat (first | exact Below.refl _ _ | apply below_alloc | apply pw_below_drewN | apply below_drew1)⟩⟩
  case round =>
    obtain ⟨i, rfl, rfl, rfl, HI, HJ, HW⟩ := hrel
    cases gk with
    | zero => exact absurd HI.out (by have := HJ.out; omega)
    | succ k1 =>
      by_cases c3 : (i : Int) < (l.length : Int)
      · have hi : i < l.length := by omega
        have hsn := PX.seen_snoc key l i hi
        have c3b0 : decide ((i : Int) < (l.length : Int)) = true := decide_eq_true c3
        have hw1 : wrap64 ((i : Int) + 1) = ((i + 1 : Nat) : Int) := by unfold wrap64; have := HLL.out; omega
        obtain ⟨ad, ea, hx0, hx1⟩ := at_T44 HC6.out (i : Int) (by omega) (by omega)
        subst ea
        replace hx0 := (HW.out.cell (World.block_lt_of_cell? w6 _ hx0)).trans hx0
        replace hx1 := (HW.out.cell (World.block_lt_of_cell? w6 _ hx1)).trans hx1
        have HI2 := HI.out
        obtain ⟨sx, st, hst⟩ : ∃ sx st, PX.seen key (l.take i) = (sx, st) := ⟨_, _, rfl⟩
        rw [hst] at hsn
        simp only [hst]
        obtain ⟨rd, hrd⟩ : ∃ rd, rd_T44 l (i : Int) = rd := ⟨_, rfl⟩
        rw [hrd] at hx0 hx1 hsn
        simp only [Int.toNat_natCast] at hx0 hx1
        have p1 := eq_true (show (0 : Int) ≤ (i : Int) by omega)
        have p2 := eq_true c3
        cases st with
        | true =>
          have hsn2 : PX.seen key (l.take (i + 1)) = (sx, true) := by rw [hsn]; unfold PX.step; rw [if_neg (by simp)]
          go_wp2_with (first | ((with_reducible refine gate_dst (N := 15) rfl ?_); refine box_event ?hg (N := 15) ?hd (cs := #[.string (⟨#[]⟩ : ByteArray), .string (⟨#[]⟩ : ByteArray)]) (t := 44) ?hr ?_; (case hd => rfl); (case hg => rfl); (case hr => first | (go_simp; done) | (go_simp; rfl)); intro gb hg w7 hbox hb; have n0_ := Aside0.mk (below_step (by repeat (first | (with_reducible first | exact HW.out | apply below_alloc | apply pw_below_drewN | apply below_drew1) | exact HW.out)) hb); have BK := Aside0.mk hbox; have GE := Aside0.mk ((by rw [hg]; exact (below_size (by repeat (first | (with_reducible first | exact HW.out | apply below_alloc | apply pw_below_drewN | apply below_drew1) | exact HW.out))) : w6.heap.size ≤ gb)); clear HW; have HW := n0_; clear n0_; clear hb hbox hg; have hcz0 : w7.cell? ⟨gb, 0, none⟩ = some (.string (⟨#[]⟩ : ByteArray)) := (blk_cell BK.out 0).trans rfl; have hcz1 : w7.cell? ⟨gb, 1, none⟩ = some (.string (⟨#[]⟩ : ByteArray)) := (blk_cell BK.out 1).trans rfl; have hfz0 := blk_frozen BK.out 0; have hfz1 := blk_frozen BK.out 1))
          go_roundg k1
          case measure => omega
          case rel => exact ⟨i + 1, (by rw [hsn2]), (by rw [hsn2]), (by first | rfl | (simp [hw1]; done)), ⟨by omega⟩, ⟨by omega⟩, ⟨by repeat (first | (with_reducible first | exact HW.out | apply below_alloc | apply pw_below_drewN | apply below_drew1 | refine below_set ?_ GE.out) | exact HW.out)⟩⟩
        | false =>
          by_cases c6 : rd.f0.toList = key.toList
          · have c6b0 : (rd.f0.toList == key.toList) = true := beq_iff_eq.mpr c6
            have hsn2 : PX.seen key (l.take (i + 1)) = (rd.f1, true) := by rw [hsn]; unfold PX.step; rw [if_pos (by simp [c6])]
            clear c6
            go_wp2_with (first | ((with_reducible refine gate_dst (N := 15) rfl ?_); refine box_event ?hg (N := 15) ?hd (cs := #[.string (⟨#[]⟩ : ByteArray), .string (⟨#[]⟩ : ByteArray)]) (t := 44) ?hr ?_; (case hd => rfl); (case hg => rfl); (case hr => first | (go_simp; done) | (go_simp; rfl)); intro gb hg w7 hbox hb; have n0_ := Aside0.mk (below_step (by repeat (first | (with_reducible first | exact HW.out | apply below_alloc | apply pw_below_drewN | apply below_drew1) | exact HW.out)) hb); have BK := Aside0.mk hbox; have GE := Aside0.mk ((by rw [hg]; exact (below_size (by repeat (first | (with_reducible first | exact HW.out | apply below_alloc | apply pw_below_drewN | apply below_drew1) | exact HW.out))) : w6.heap.size ≤ gb)); clear HW; have HW := n0_; clear n0_; clear hb hbox hg; have hcz0 : w7.cell? ⟨gb, 0, none⟩ = some (.string (⟨#[]⟩ : ByteArray)) := (blk_cell BK.out 0).trans rfl; have hcz1 : w7.cell? ⟨gb, 1, none⟩ = some (.string (⟨#[]⟩ : ByteArray)) := (blk_cell BK.out 1).trans rfl; have hfz0 := blk_frozen BK.out 0; have hfz1 := blk_frozen BK.out 1))
            go_roundg k1
            case measure => omega
            case rel => exact ⟨i + 1, (by rw [hsn2]), (by rw [hsn2]), (by first | rfl | (simp [hw1]; done)), ⟨by omega⟩, ⟨by omega⟩, ⟨by repeat (first | (with_reducible first | exact HW.out | apply below_alloc | apply pw_below_drewN | apply below_drew1 | refine below_set ?_ GE.out) | exact HW.out)⟩⟩
          · have c6b0 : (rd.f0.toList == key.toList) = false := beq_eq_false_iff_ne.mpr c6
            have hsn2 : PX.seen key (l.take (i + 1)) = (sx, false) := by rw [hsn]; unfold PX.step; rw [if_neg (by simp [c6])]
            clear c6
            go_wp2_with (first | ((with_reducible refine gate_dst (N := 15) rfl ?_); refine box_event ?hg (N := 15) ?hd (cs := #[.string (⟨#[]⟩ : ByteArray), .string (⟨#[]⟩ : ByteArray)]) (t := 44) ?hr ?_; (case hd => rfl); (case hg => rfl); (case hr => first | (go_simp; done) | (go_simp; rfl)); intro gb hg w7 hbox hb; have n0_ := Aside0.mk (below_step (by repeat (first | (with_reducible first | exact HW.out | apply below_alloc | apply pw_below_drewN | apply below_drew1) | exact HW.out)) hb); have BK := Aside0.mk hbox; have GE := Aside0.mk ((by rw [hg]; exact (below_size (by repeat (first | (with_reducible first | exact HW.out | apply below_alloc | apply pw_below_drewN | apply below_drew1) | exact HW.out))) : w6.heap.size ≤ gb)); clear HW; have HW := n0_; clear n0_; clear hb hbox hg; have hcz0 : w7.cell? ⟨gb, 0, none⟩ = some (.string (⟨#[]⟩ : ByteArray)) := (blk_cell BK.out 0).trans rfl; have hcz1 : w7.cell? ⟨gb, 1, none⟩ = some (.string (⟨#[]⟩ : ByteArray)) := (blk_cell BK.out 1).trans rfl; have hfz0 := blk_frozen BK.out 0; have hfz1 := blk_frozen BK.out 1))
            go_roundg k1
            case measure => omega
            case rel => exact ⟨i + 1, (by rw [hsn2]), (by rw [hsn2]), (by first | rfl | (simp [hw1]; done)), ⟨by omega⟩, ⟨by omega⟩, ⟨by repeat (first | (with_reducible first | exact HW.out | apply below_alloc | apply pw_below_drewN | apply below_drew1 | refine below_set ?_ GE.out) | exact HW.out)⟩⟩
      · have hi : i = l.length := by have := HJ.out; omega
        subst hi
        have c3b0 : decide ((l.length : Int) < (l.length : Int)) = false := decide_eq_false c3
        have hst : PX.seen key (l.take l.length) = (x, t) := by rw [List.take_length]; exact HS.out
        simp only [hst]
        have n0_ := Aside0.mk (below_step HB.out HW.out)
        have n1_ := Aside0.mk (Mine.At.below HM.out HW.out)
        have n2_ := Aside0.mk (Kd.C_below HC6.out HW.out)
        have hcv1 : ∀ m : Nat, (convert 31 9 (.slice A8 b.length c8)).run Tryd.prog (wr.drewN m) = .ok (.string (strOfNums b)) (wr.drewN m) := fun m => Kd.C_string (P := Tryd.prog) Tryd.underlying31 Tryd.underlying5 Tryd.underlying9 (Kd.C_drewN (Kd.C_below R8.out HW.out) m)
        have hcv2 : ∀ m : Nat, (convert 31 9 (.slice A9 b.length c9)).run Tryd.prog (wr.drewN m) = .ok (.string (strOfNums b)) (wr.drewN m) := fun m => Kd.C_string (P := Tryd.prog) Tryd.underlying31 Tryd.underlying5 Tryd.underlying9 (Kd.C_drewN (Kd.C_below R9.out HW.out) m)
        have hcv3 := Kd.C_string (P := Tryd.prog) (c := c8) Tryd.underlying31 Tryd.underlying5 Tryd.underlying9 (Kd.C_below R8.out HW.out)
        have hcv4 := Kd.C_string (P := Tryd.prog) (c := c9) Tryd.underlying31 Tryd.underlying5 Tryd.underlying9 (Kd.C_below R9.out HW.out)
        have hcell : wr.cell? ⟨g, l.length * 2 + 0, none⟩ = some (.string (⟨#[109, 97, 114, 107]⟩ : ByteArray)) := Mine.row_cell (l := l ++ [Mine.mark]) n1_.out l.length Mine.mark (by simp) 0 _ rfl
        have hcell' : wr.cell? ⟨g, l.length * 2, none⟩ = some (.string (⟨#[109, 97, 114, 107]⟩ : ByteArray)) := hcell
        have hcut := fun W => Mine.cut_to W (some ⟨g, 0, none⟩) l.length (l.length + 1) (l.length + 1) (by omega) (by have := HLL.out; omega)
        have hw1 : wrap64 ((l.length : Int) + 1) = (l.length : Int) + 1 := by unfold wrap64; have := HLL.out; omega
        clear HB HM HC6 HW R8 R9
        have HB := n0_
        have HM := n1_
        have HC6 := n2_
        clear n0_ n1_ n2_
        generalize strOfNums b = sb at *
        go_wp2_with (first
          | (go_at_call 11; (with_reducible refine (amphoranum_Num.calls e q _ ?s1 A5.out).mono ?_); (case s1 => exact HGL.out.of (by first | exact HB.out | (apply pw_below_drewN; exact HB.out))); rintro e6 w6 ⟨rfl, ⟨nd6, rfl⟩⟩)
          | (go_at_call 15; refine (amphoraref11_Same.calls k (some ⟨g, 0, none⟩) (l.length + 1) l A0 c l true _ ?s1 ?s2 ?s3 ?s4 ?s5 A7.out).mono ?_; (case s1 => exact Mine.rowC (m := [Mine.mark]) (by have := HLL.out; omega) HM.out); (case s2 => omega); (case s3 => exact Kd.C_drewN HC6.out _); (case s4 => exact HL.out); (case s5 => exact HGL.out.of (by repeat (first | exact HB.out | apply pw_below_drewN))); rintro e5 w5 ⟨rfl, ⟨nd5, rfl⟩⟩))
        go_ret
        exact ⟨by first | rfl | (simp; done) | (simp [*]; done), by repeat (first | (with_reducible first | exact HB.out | apply below_alloc | apply pw_below_drewN | apply below_drew1) | exact HB.out)⟩
end OE
end Go.Proofs.YtcengaholljddaaDoor.PPax
