/- The walk of RabinCuts. Conditions: as the theorem says. -/
import Derived.Test.YtoofafgnlgaajaaOAid
import Derived.Test.YtoofafgnlgaajaaPRabinx9
import Derived.Test.YtoofafgnlgaajaaMarks
import Derived.KernelRfl
namespace Go.Proofs.Ytoofafgnlgaajaa.RW
open Go.RowKit Go.Proofs.Ytoofafgnlgaajaa.PRabin Go.Proofs.YtoofafgnlgaajaaW.PrintWords Go.Proofs.YtoofafgnlgaajaaW.PrintLast Go.Proofs.YtoofafgnlgaajaaW.PrintMore
set_option linter.unusedVariables false
set_option linter.unusedSimpArgs false
theorem box5 {g : Nat} {W W1 : World} {cs : Array Value} {t : TypeId} (h : W.heap[g]? = some (.cells cs t (0, 0))) (hb : Below W.heap.size W W1) : W1.heap[g]? = some (.cells cs t (0, 0)) := (hb.block g (blk_lt h)).trans h
theorem cells5 {g : Nat} {W : World} {v0 v1 v2 v3 v4 : Value} (h : W.heap[g]? = some (.cells #[v0, v1, v2, v3, v4] 24 (0, 0))) :
    W.cell? ⟨g, 0, none⟩ = some v0 ∧ W.cell? ⟨g, 1, none⟩ = some v1 ∧ W.cell? ⟨g, 2, none⟩ = some v2 ∧ W.cell? ⟨g, 3, none⟩ = some v3 ∧ W.cell? ⟨g, 4, none⟩ = some v4 :=
  ⟨blk_cell h 0, blk_cell h 1, blk_cell h 2, blk_cell h 3, blk_cell h 4⟩
set_option maxHeartbeats 4000000 in
set_option maxRecDepth 100000 in
theorem cuts_large (p a1 a2 a3 a4 : Int) (A2 : Option Addr) (c2 : Nat) (l2 : List Int) (w : World) (h2 : Kd.C (Kd.int .u8) w A2 l2.length l2) (hc2 : l2.length ≤ c2) (hl : (l2.length : Int) > 1500) :
    Calls Try.prog 3 #[.agg #[.int .u64 p, .int .i64 a1, .int .i64 a2, .int .i64 a3, .int .i64 a4], .slice A2 l2.length c2] w fun e w' => e = .returned (.bool true) ∧ Below w.heap.size w w' := by
  have HA := Aside0.mk (fun W : World => amphoralaw07_alive.calls 2000 true W alive_f)
  have H2 := Aside0.mk h2
  have HC2 := Aside0.mk hc2
  have HL := Aside0.mk (show amphoralaw07_large.f l2 = some true by unfold amphoralaw07_large.f; rw [decide_eq_true hl])
  clear h2 hc2 hl
  go_enter Try.func3, Try.ntmps3
  go_wp2_with (first
    | (go_at_call 10; (with_reducible refine (HA.out _).mono ?_); rintro e1 w2 ⟨rfl, hb⟩; have HB := Aside0.mk (below_step (below_alloc (Below.refl w.heap.size w) _) hb); clear hb)
    | (go_at_call 11; refine (amphoralaw07_large.calls A2 c2 l2 true _ (Kd.C_below H2.out HB.out) HC2.out HL.out).mono ?_; rintro e1 w3 ⟨rfl, hd⟩; have HB3 := Aside0.mk (below_step HB.out hd.below); clear hd))
  go_ret
  exact ⟨rfl, HB3.out⟩
set_option maxHeartbeats 4000000 in
set_option maxRecDepth 100000 in
theorem cuts_main (k : Nat) (p a1 a2 a3 a4 : Int) (A2 : Option Addr) (c2 : Nat) (l2 : List Int) (r : List Int) (eo : Option Int) (n : Int) (w : World) (h2 : Kd.C (Kd.int .u8) w A2 l2.length l2) (hc2 : l2.length ≤ c2) (hl : ¬ (l2.length : Int) > 1500)
    (q1 : rabin_Cut.f k p a1 a2 a3 a4 l2 = some (r, eo)) (q2 : amphoraref07_Cut.f k p a1 a2 a3 a4 l2 = some (r, n)) (q3 : amphoranum_Num.f eo = some n) (q4 : rabin_Check.f k p a1 a2 a3 a4 = some eo) (q5 : amphoranum_Ints.f k r r = some true) :
    Calls Try.prog 3 #[.agg #[.int .u64 p, .int .i64 a1, .int .i64 a2, .int .i64 a3, .int .i64 a4], .slice A2 l2.length c2] w fun e w' => e = .returned (.bool true) ∧ Below w.heap.size w w' := by
  have hu24 := Try.underlying24
  have HA := Aside0.mk (fun W : World => amphoralaw07_alive.calls 2000 true W alive_f)
  have H2 := Aside0.mk h2
  have HC2 := Aside0.mk hc2
  have HL := Aside0.mk (show amphoralaw07_large.f l2 = some false by unfold amphoralaw07_large.f; rw [decide_eq_false hl])
  have HLN := Aside0.mk (show l2.length ≤ 1500 by omega)
  have Q1 := Aside0.mk q1
  have Q2 := Aside0.mk q2
  have Q3 := Aside0.mk q3
  have Q4 := Aside0.mk q4
  have Q5 := Aside0.mk q5
  have ce : (n == n) = true := beq_iff_eq.mpr rfl
  clear h2 hc2 hl q1 q2 q3 q4 q5
  obtain ⟨ev, hev⟩ : ∃ ev, ev = errW eo := ⟨_, rfl⟩
  have HEV := Aside0.mk hev
  clear hev
  go_enter Try.func3, Try.ntmps3
  go_wp2_with (first
    | (go_at_call 10; (with_reducible refine (HA.out _).mono ?_); rintro e1 w2 ⟨rfl, hb⟩; have HB := Aside0.mk (below_step (below_alloc (Below.refl w.heap.size w) _) hb); have BK := Aside0.mk (box5 (heap_alloc_new w _) hb); clear hb)
    | (go_at_call 11; refine (amphoralaw07_large.calls A2 c2 l2 false _ (Kd.C_below H2.out HB.out) HC2.out HL.out).mono ?_; rintro e1 w3 ⟨rfl, hd⟩; have HB3 := Aside0.mk (below_step HB.out hd.below); have BK3 := Aside0.mk (box5 BK.out hd.below); clear hd HB BK)
    | (go_at_call 12; refine (Marks.copy_calls A2 c2 l2 _ (Kd.C_below H2.out HB3.out) HC2.out (by have := HLN.out; omega)).mono ?_; rintro e1 w4 ⟨gm, rfl, hgm, hat, hb⟩; have HB4 := Aside0.mk (below_step HB3.out hb); have BK4 := Aside0.mk (box5 BK3.out hb); have AT4 := Aside0.mk hat; clear hb hat hgm HB3 BK3; obtain ⟨j0, j1, j2, j3, j4⟩ := cells5 BK4.out)
    | (go_at_call 13; refine (rabin_Cut.calls k p a1 a2 a3 a4 (some ⟨gm, 0, none⟩) (l2.length + 2) l2 r eo _ (Marks.cellsC (m := [165, 90]) (by have := HLN.out; omega) AT4.out) (by omega) Q1.out).mono ?_; rintro e1 w5 ⟨v5, rfl, hR, hb⟩; rw [← HEV.out]; obtain ⟨A5, c5, rfl, hc5, hC5⟩ := Kd.R_reads hR; have R5 := Aside0.mk hC5; have C5 := Aside0.mk hc5; have HB5 := Aside0.mk (below_step HB4.out hb); have BK5 := Aside0.mk (box5 BK4.out hb); have AT5 := Aside0.mk (AT4.out.below hb); clear hb hR hc5 hC5 j0 j1 j2 j3 j4 HB4 BK4 AT4; obtain ⟨j0, j1, j2, j3, j4⟩ := cells5 BK5.out)
    | (go_at_call 14; refine (amphoraref07_Cut.calls k p a1 a2 a3 a4 A2 c2 l2 r n _ (Kd.C_below H2.out HB5.out) HC2.out Q2.out).mono ?_; rintro e1 w6 ⟨v6, rfl, hR, hb⟩; obtain ⟨A6, c6, rfl, hc6, hC6⟩ := Kd.R_reads hR; have R6 := Aside0.mk hC6; have C6 := Aside0.mk hc6; have R56 := Aside0.mk (Kd.C_below R5.out hb); have HB6 := Aside0.mk (below_step HB5.out hb); have BK6 := Aside0.mk (box5 BK5.out hb); have AT6 := Aside0.mk (AT5.out.below hb); clear hb hR hc6 hC6 j0 j1 j2 j3 j4 HB5 BK5 AT5 R5)
    | (go_at_call 15; refine (amphoranum_Ints.calls k A5 c5 r A6 c6 r true _ R56.out C5.out R6.out C6.out Q5.out).mono ?_; rintro e1 w7 ⟨rfl, hd⟩; have HB7 := Aside0.mk (below_step HB6.out hd.below); have BK7 := Aside0.mk (box5 BK6.out hd.below); have AT7 := Aside0.mk (AT6.out.below hd.below); clear hd HB6 BK6 AT6 R56 R6)
    | (go_at_call 16; rw [HEV.out]; refine (amphoranum_Num.calls eo n _ Q3.out).mono ?_; rintro e1 w8 ⟨rfl, hd⟩; rw [← HEV.out]; have HB8 := Aside0.mk (below_step HB7.out hd.below); have BK8 := Aside0.mk (box5 BK7.out hd.below); have AT8 := Aside0.mk (AT7.out.below hd.below); clear hd HB7 BK7 AT7; obtain ⟨j0, j1, j2, j3, j4⟩ := cells5 BK8.out)
    | (go_at_call 17; refine (rabin_Check.calls k p a1 a2 a3 a4 eo _ Q4.out).mono ?_; rintro e1 w9 ⟨rfl, hb⟩; rw [← HEV.out]; have HB9 := Aside0.mk (below_step HB8.out hb); have AT9 := Aside0.mk (AT8.out.below hb); clear hb j0 j1 j2 j3 j4 HB8 BK8 AT8)
    | (go_at_call 16; rw [HEV.out]; refine (amphoranum_Num.calls eo n _ Q3.out).mono ?_; rintro e1 w10 ⟨rfl, hd⟩; have HB10 := Aside0.mk (below_step HB9.out hd.below); have AT10 := Aside0.mk (AT9.out.below hd.below); clear hd HB9 AT9)
    | (go_at_call 18; refine (Marks.kept_calls gm c2 A2 l2 _ AT10.out (Kd.C_below H2.out HB10.out) HC2.out (by have := HLN.out; omega)).mono ?_; rintro e1 w11 ⟨rfl, hd⟩; have HB11 := Aside0.mk (below_step HB10.out hd.below); clear hd))
  go_ret
  exact ⟨rfl, HB11.out⟩
end Go.Proofs.Ytoofafgnlgaajaa.RW
