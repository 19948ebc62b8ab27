/- The walk of the statement PolyProducts of layer 6. Conditions: as each theorem says. -/
import Derived.Test.YtabgknnnhhgliaaPPolyx3
import Derived.Test.YtabgknnnhhgliaaPPolyx5
import Derived.LaidEql
import Derived.Deep.RegionWith
namespace Go.Proofs.Ytabgknnnhhgliaa.OPolyProducts
open Go.RowKit Go.Proofs.Ytabgknnnhhgliaa.PPoly Go.Proofs.YtabgknnnhhgliaaW.PrintWords Go.Proofs.YtabgknnnhhgliaaW.PrintLast Go.Proofs.YtabgknnnhhgliaaW.PrintMore
set_option linter.unusedVariables false
set_option linter.unusedSimpArgs false
theorem run_equalIn_iface_int {P : Program} (w : World) (d : Nat) {ti tn : TypeId} {ms : Array (String × TypeId)} {i : TypeInfo} {k : IntKind} (a b : Int)
    (hi : P.underlying ti = some (.interface ms)) (hn : P.underlying tn = some (.int k)) (hinfo : P.info? tn = some i) (hcomp : i.comparable = true) :
    (Op.equalIn (d + 2) ti (.iface tn (.int k a)) (.iface tn (.int k b))).run P w = .ok (a == b) w := by
  simp [Op.equalIn, run_underlying hi, run_underlying hn, typeInfo, hinfo, hcomp]
theorem run_eql_iface_int {P : Program} (w : World) {ti tn : TypeId} {ms : Array (String × TypeId)} {i : TypeInfo} {k : IntKind} (a b : Int)
    (hi : P.underlying ti = some (.interface ms)) (hn : P.underlying tn = some (.int k)) (hinfo : P.info? tn = some i) (hcomp : i.comparable = true) :
    (binOp .eql ti (.iface tn (.int k a)) (.iface tn (.int k b))).run P w = .ok (.bool (a == b)) w := by
  simp only [binOp]
  simp [Op.equal, Op.maxDepth, run_equalIn_iface_int w 9998 a b hi hn hinfo hcomp]
theorem comp39 : ((Try.prog.info? 39).map (·.comparable)) = some true := by kernel_rfl
theorem eql39 (w : World) (a b : Int) : (binOp .eql 35 (.iface 39 (.int .i64 a)) (.iface 39 (.int .i64 b))).run Try.prog w = .ok (.bool (a == b)) w := by
  obtain ⟨i, h1, h2⟩ := Option.map_eq_some_iff.1 comp39
  exact run_eql_iface_int w a b Try.underlying35 Try.underlying39 h1 h2
theorem C_list (W : World) (l : List Int) (h : l.length ≤ 9223372036854775807) : Kd.C (Kd.int .u64) (W.alloc (.cells (nums .u64 l).toArray 22)) (some ⟨W.heap.size, 0, none⟩) l.length l := by
  have h := own_lit W W.heap.size 22 .u64 l (Nat.le_refl _) h
  have hR : Kd.R (Kd.int .u64) 22 (W.alloc (.cells (nums .u64 l).toArray 22)) W.heap.size (fun _ => True) (.slice (some ⟨W.heap.size, 0, none⟩) l.length l.length) l := Kd.R_of_own h (fun _ _ => trivial)
  exact (Kd.R_reads' hR).2.2
theorem sum_three (k : Nat) (x y z r : Int) (W : World) (A : Option Addr) (hC : Kd.C (Kd.int .u64) W A 3 [x, y, z]) (h : poly_Sum.f k [x, y, z] = some r) :
    Calls Try.prog 20 #[.slice A 3 3] W fun e w' => e = .returned (.int .u64 r) ∧ Drawn0 W w' := poly_Sum.calls k A 3 [x, y, z] r W hC (Nat.le_refl _) h
theorem sum_none (k : Nat) (r : Int) (W : World) (h : poly_Sum.f k [] = some r) :
    Calls Try.prog 20 #[.slice none 0 0] W fun e w' => e = .returned (.int .u64 r) ∧ Drawn0 W w' := poly_Sum.calls k none 0 [] r W ⟨rfl, by simp, (fun h => absurd h (by simp))⟩ (Nat.le_refl _) h
set_option maxHeartbeats 8000000 in
set_option maxRecDepth 100000 in
theorem products_yes (k : Nat) (a b m hi lo d r : Int) (w : World) (h1 : amphoralaw06_alive.f k = some true) (h2 : poly_Mul.f k a b = some (hi, lo)) (h3 : amphoraref06_Mul.f k a b = some (hi, lo))
    (h4 : poly_Deg.f a = some d) (h5 : amphoraref06_Deg.f k a = some d) (h6 : poly_Sum.f k [a, b, m] = some (Go.bits .xor .u64 (Go.bits .xor .u64 a b) m)) (h7 : poly_Sum.f k [] = some 0)
    (h8 : poly_Mod.f k a b m = some (r, none)) (h9 : amphoraref06_Mod.f k a b m = some r) (hm : m ≠ 0) :
    Calls Try.prog 7 #[.int .u64 a, .int .u64 b, .int .u64 m] w fun e w' => e = .returned (.bool true) ∧ Below w.heap.size w w' := by
  have HB := Aside0.mk (Below.refl w.heap.size w)
  have A1 := Aside0.mk h1
  have A2 := Aside0.mk h2
  have A3 := Aside0.mk h3
  have A4 := Aside0.mk h4
  have A5 := Aside0.mk h5
  have A6 := Aside0.mk h6
  have A7 := Aside0.mk h7
  have A8 := Aside0.mk h8
  have A9 := Aside0.mk h9
  have hm0 : (m == 0) = false := beq_eq_false_iff_ne.mpr hm
  clear h1 h2 h3 h4 h5 h6 h7 h8 h9 hm
  go_enter Try.func7, Try.ntmps7
  go_wp2_with (first
    | (go_at_call 9; (with_reducible refine (amphoralaw06_alive.calls k true _ A1.out).mono ?_); rintro e w1 ⟨rfl, hb⟩; have n0_ := Aside0.mk (below_step HB.out hb); clear HB hb; have HB := n0_; clear n0_)
    | (go_at_call 15; (with_reducible refine (poly_Mul.calls k a b hi lo _ A2.out).mono ?_); rintro e w' ⟨rfl, ⟨nd, rfl⟩⟩)
    | (go_at_call 18; (with_reducible refine (amphoraref06_Mul.calls k a b hi lo _ A3.out).mono ?_); rintro e w' ⟨rfl, ⟨nd, rfl⟩⟩)
    | (go_at_call 19; (with_reducible refine (poly_Deg.calls a d _ A4.out).mono ?_); rintro e w' ⟨rfl, ⟨nd, rfl⟩⟩)
    | (go_at_call 12; (with_reducible refine (amphoraref06_Deg.calls k a d _ A5.out).mono ?_); rintro e w' ⟨rfl, ⟨nd, rfl⟩⟩)
    | (go_at_call_of 20 (Value.slice none 0 0); (with_reducible refine (sum_none k 0 _ A7.out).mono ?_); rintro e w' ⟨rfl, ⟨nd, rfl⟩⟩)
    | (go_at_call 20; (with_reducible refine (sum_three k a b m _ _ _ ?s1 A6.out).mono ?_); (case s1 => exact C_list _ [a, b, m] (by simp)); rintro e w' ⟨rfl, ⟨nd, rfl⟩⟩)
    | (go_at_call 17; (with_reducible refine (poly_Mod.calls k a b m r none _ A8.out).mono ?_); rintro e w' ⟨rfl, ⟨nd, rfl⟩⟩; (try simp only [errW_none, errW_some]))
    | (go_at_call 21; (with_reducible refine (amphoraref06_Mod.calls k a b m r _ A9.out).mono ?_); rintro e w' ⟨rfl, ⟨nd, rfl⟩⟩))
  go_ret
  exact ⟨by first | rfl | (simp; done) | (simp [*]; done), by repeat (first | (with_reducible first | exact HB.out | apply below_alloc | apply pw_below_drewN | apply below_drew1) | exact HB.out)⟩
set_option maxHeartbeats 8000000 in
set_option maxRecDepth 100000 in
theorem products_no (k : Nat) (a b hi lo d : Int) (w : World) (h1 : amphoralaw06_alive.f k = some true) (h2 : poly_Mul.f k a b = some (hi, lo)) (h3 : amphoraref06_Mul.f k a b = some (hi, lo))
    (h4 : poly_Deg.f a = some d) (h5 : amphoraref06_Deg.f k a = some d) (h6 : poly_Sum.f k [a, b, 0] = some (Go.bits .xor .u64 (Go.bits .xor .u64 a b) 0)) (h7 : poly_Sum.f k [] = some 0)
    (h8 : poly_Mod.f k a b 0 = some (0, some 27)) :
    Calls Try.prog 7 #[.int .u64 a, .int .u64 b, .int .u64 0] w fun e w' => e = .returned (.bool true) ∧ Below w.heap.size w w' := by
  have HB := Aside0.mk (Below.refl w.heap.size w)
  have A1 := Aside0.mk h1
  have A2 := Aside0.mk h2
  have A3 := Aside0.mk h3
  have A4 := Aside0.mk h4
  have A5 := Aside0.mk h5
  have A6 := Aside0.mk h6
  have A7 := Aside0.mk h7
  have A8 := Aside0.mk h8
  clear h1 h2 h3 h4 h5 h6 h7 h8
  have he := fun (w : World) => eql39 w 27 27
  go_enter Try.func7, Try.ntmps7
  go_wp2_with (first
    | (go_at_call 9; (with_reducible refine (amphoralaw06_alive.calls k true _ A1.out).mono ?_); rintro e w1 ⟨rfl, hb⟩; have n0_ := Aside0.mk (below_step HB.out hb); clear HB hb; have HB := n0_; clear n0_)
    | (go_at_call 15; (with_reducible refine (poly_Mul.calls k a b hi lo _ A2.out).mono ?_); rintro e w' ⟨rfl, ⟨nd, rfl⟩⟩)
    | (go_at_call 18; (with_reducible refine (amphoraref06_Mul.calls k a b hi lo _ A3.out).mono ?_); rintro e w' ⟨rfl, ⟨nd, rfl⟩⟩)
    | (go_at_call 19; (with_reducible refine (poly_Deg.calls a d _ A4.out).mono ?_); rintro e w' ⟨rfl, ⟨nd, rfl⟩⟩)
    | (go_at_call 12; (with_reducible refine (amphoraref06_Deg.calls k a d _ A5.out).mono ?_); rintro e w' ⟨rfl, ⟨nd, rfl⟩⟩)
    | (go_at_call_of 20 (Value.slice none 0 0); (with_reducible refine (sum_none k 0 _ A7.out).mono ?_); rintro e w' ⟨rfl, ⟨nd, rfl⟩⟩)
    | (go_at_call 20; (with_reducible refine (sum_three k a b 0 _ _ _ ?s1 A6.out).mono ?_); (case s1 => exact C_list _ [a, b, 0] (by simp)); rintro e w' ⟨rfl, ⟨nd, rfl⟩⟩)
    | (go_at_call 17; (with_reducible refine (poly_Mod.calls k a b 0 0 (some 27) _ A8.out).mono ?_); rintro e w' ⟨rfl, ⟨nd, rfl⟩⟩; (try simp only [errW_none, errW_some])))
  go_ret
  exact ⟨by first | rfl | (simp; done) | (simp [*]; done), by repeat (first | (with_reducible first | exact HB.out | apply below_alloc | apply pw_below_drewN | apply below_drew1) | exact HB.out)⟩
end Go.Proofs.Ytabgknnnhhgliaa.OPolyProducts
