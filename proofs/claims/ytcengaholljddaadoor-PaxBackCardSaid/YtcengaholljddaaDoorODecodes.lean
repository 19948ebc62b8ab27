/- The walk of PaxDecodes. Conditions: as the theorem says. -/
import Derived.Test.YtcengaholljddaaDoorPPaxx4
import Derived.Test.YtcengaholljddaaDoorPPaxx6
import Derived.Test.YtcengaholljddaaDoorMarks
namespace Go.Proofs.YtcengaholljddaaDoor.PPax
open Go.RowKit Go.Proofs.YtcengaholljddaaDoorW.PrintWords Go.Proofs.YtcengaholljddaaDoorW.PrintLast Go.Proofs.YtcengaholljddaaDoorW.PrintMore
set_option linter.unusedVariables false
set_option linter.unusedSimpArgs false
namespace OD
theorem V_of_C {w : World} {A : Option Addr} {c : Nat} {l : List Int} (h : Kd.C (Kd.int .u8) w A l.length l) (hc : l.length ≤ c) (base : Nat) : Kd.V (Kd.int .u8) 5 w base (fun _ => True) (.slice A l.length c) l :=
  Kd.V_mk hc (fun W' hk => Kd.Heap.C (Kd.heap_int .u8) (fun k hk' => hk k trivial hk') h)
set_option maxHeartbeats 8000000 in
set_option maxRecDepth 100000 in
theorem walk (k : Nat) (A0 : Option Addr) (c : Nat) (l : List Int) (w : World) (hGl : Gl w) (res : List S44) (e : Option Int) (q : Int)
    (hC : Kd.C (Kd.int .u8) w A0 l.length l) (hc : l.length ≤ c) (hl : l.length ≤ 140737488355000)
    (h1 : amphoralaw11_alive.f k = some true) (h2 : pax_Decode.f k l = some (res, e)) (h3 : amphoraref11_Decode.f k l = some (res, q)) (h4 : amphoranum_Num.f e = some q) (h5 : amphoraref11_Same.f k res res = some true) :
    Calls Tryd.prog 4 #[.slice A0 l.length c] w fun e w' => e = .returned (.bool true) ∧ Below w.heap.size w w' := by
  have hu24 := Tryd.underlying24
  have hu44 := Tryd.underlying44
  have HB := Aside0.mk (Below.refl w.heap.size w)
  have HGL := Aside0.mk hGl
  have HC := Aside0.mk hC
  have HL := Aside0.mk hc
  have HLL := Aside0.mk hl
  have A1 := Aside0.mk h1
  have A2 := Aside0.mk h2
  have A3 := Aside0.mk h3
  have A4 := Aside0.mk h4
  have A5 := Aside0.mk h5
  clear hC hc hl h1 h2 h3 h4 h5 hGl
  go_enter Tryd.func4, Tryd.ntmps4
  go_wp2_with (first
    | (go_at_call 8; (with_reducible refine (amphoralaw11_alive.calls k true _ ?s1 A1.out).mono ?_); (case s1 => exact HGL.out); rintro e1 w1 ⟨rfl, hb⟩; have n0_ := Aside0.mk (below_step HB.out hb); clear HB hb; have HB := n0_; clear n0_)
    | (go_at_call 12; refine (Marks.copy_calls A0 c l _ ?s1 HL.out HLL.out).mono ?_; (case s1 => exact Kd.C_below HC.out HB.out); rintro e2 w2 ⟨gc, rfl, hge, hat, hb⟩; have HM := Aside0.mk hat; have n0_ := Aside0.mk (below_step HB.out hb); clear HB hb hge hat; have HB := n0_; clear n0_)
    | (go_at_call 13; refine (pax_Decode.calls k (fun _ => True) _ _ l res e _ ?s1 ?s2 A2.out).mono ?_; (case s1 => exact V_of_C (Marks.cellsC (by have := HLL.out; omega) HM.out) (by omega) _); (case s2 => exact HGL.out.of HB.out); rintro e3 w3 ⟨v3, rfl, ho, hb⟩; have n0_ := Aside0.mk (below_step HB.out hb); have n1_ := Aside0.mk (Marks.At.below HM.out hb); clear HB HM hb; have HB := n0_; have HM := n1_; clear n0_ n1_; obtain ⟨A6, c6, eo, hc6, hC6⟩ := Kd.R_reads ho; subst eo; have R6 := Aside0.mk hC6; have L6 := Aside0.mk hc6; clear hC6 hc6 ho)
    | (go_at_call 14; refine (amphoraref11_Decode.calls k (fun _ => True) _ _ l res q _ ?s1 ?s2 A3.out).mono ?_; (case s1 => exact V_of_C (Kd.C_below HC.out HB.out) HL.out _); (case s2 => exact HGL.out.of HB.out); rintro e4 w4 ⟨v4, rfl, ho, hb⟩; have n0_ := Aside0.mk (below_step HB.out hb); have n1_ := Aside0.mk (Marks.At.below HM.out hb); have n2_ := Aside0.mk (Kd.C_below R6.out hb); clear HB HM R6 hb; have HB := n0_; have HM := n1_; have R6 := n2_; clear n0_ n1_ n2_; obtain ⟨A7, c7, eo, hc7, hC7⟩ := Kd.R_reads ho; subst eo; have R7 := Aside0.mk hC7; have L7 := Aside0.mk hc7; clear hC7 hc7 ho)
    | (go_at_call 15; refine (amphoraref11_Same.calls k A6 c6 res A7 c7 res true _ ?s1 ?s2 ?s3 ?s4 ?s5 A5.out).mono ?_; (case s1 => exact R6.out); (case s2 => exact L6.out); (case s3 => exact R7.out); (case s4 => exact L7.out); (case s5 => exact HGL.out.of HB.out); rintro e5 w5 ⟨rfl, ⟨nd5, rfl⟩⟩)
    | (go_at_call 11; (with_reducible refine (amphoranum_Num.calls e q _ ?s1 A4.out).mono ?_); (case s1 => exact HGL.out.of (by first | exact HB.out | (apply pw_below_drewN; exact HB.out))); rintro e6 w6 ⟨rfl, ⟨nd6, rfl⟩⟩)
    | (go_at_call 16; refine (Marks.kept_calls gc c A0 l _ ?s1 ?s2 HL.out HLL.out).mono ?_; (case s1 => exact HM.out); (case s2 => exact Kd.C_below HC.out (by repeat (first | exact HB.out | apply pw_below_drewN))); rintro e7 w7 ⟨rfl, ⟨⟨nd7, rfl⟩⟩⟩))
  go_ret
  exact ⟨by first | rfl | (simp; done) | (simp [*]; done), by repeat (first | (with_reducible first | exact HB.out | apply below_alloc | apply pw_below_drewN | apply below_drew1) | exact HB.out)⟩
end OD
end Go.Proofs.YtcengaholljddaaDoor.PPax
