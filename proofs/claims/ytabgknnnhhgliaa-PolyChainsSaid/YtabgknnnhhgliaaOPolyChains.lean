/- The walk of the statement PolyChains of layer 6. Conditions: as each theorem says. -/
import Derived.Test.YtabgknnnhhgliaaPPolyx3
import Derived.Test.YtabgknnnhhgliaaPPolyx5
import Derived.LaidEql
import Derived.Deep.RegionWith
namespace Go.Proofs.Ytabgknnnhhgliaa.OPolyChains
open Go.RowKit Go.Proofs.Ytabgknnnhhgliaa.PPoly Go.Proofs.YtabgknnnhhgliaaW.PrintWords Go.Proofs.YtabgknnnhhgliaaW.PrintLast Go.Proofs.YtabgknnnhhgliaaW.PrintMore
set_option linter.unusedVariables false
set_option linter.unusedSimpArgs false
theorem run_equalIn_iface_int {P : Program} (w : World) (d : Nat) {ti tn : TypeId} {ms : Array (String × TypeId)} {i : TypeInfo} {k : IntKind} (a b : Int)
    (hi : P.underlying ti = some (.interface ms)) (hn : P.underlying tn = some (.int k)) (hinfo : P.info? tn = some i) (hcomp : i.comparable = true) :
    (Op.equalIn (d + 2) ti (.iface tn (.int k a)) (.iface tn (.int k b))).run P w = .ok (a == b) w := by
  simp [Op.equalIn, run_underlying hi, run_underlying hn, typeInfo, hinfo, hcomp]
theorem run_eql_iface_int {P : Program} (w : World) {ti tn : TypeId} {ms : Array (String × TypeId)} {i : TypeInfo} {k : IntKind} (a b : Int)
    (hi : P.underlying ti = some (.interface ms)) (hn : P.underlying tn = some (.int k)) (hinfo : P.info? tn = some i) (hcomp : i.comparable = true) :
    (binOp .eql ti (.iface tn (.int k a)) (.iface tn (.int k b))).run P w = .ok (.bool (a == b)) w := by
  simp only [binOp]
  simp [Op.equal, Op.maxDepth, run_equalIn_iface_int w 9998 a b hi hn hinfo hcomp]
theorem comp39 : ((Try.prog.info? 39).map (·.comparable)) = some true := by kernel_rfl
theorem eql39 (w : World) (a b : Int) : (binOp .eql 35 (.iface 39 (.int .i64 a)) (.iface 39 (.int .i64 b))).run Try.prog w = .ok (.bool (a == b)) w := by
  obtain ⟨i, h1, h2⟩ := Option.map_eq_some_iff.1 comp39
  exact run_eql_iface_int w a b Try.underlying35 Try.underlying39 h1 h2
theorem info22 : (Try.prog.info? 22).map (fun i => (i.zero, i.size, i.bytes)) = some (some (.int .u64 0), 1, 8) := by kernel_rfl
theorem make_run (c : Nat) (hc : c ≤ 1000000) (W : World) : (Instr.makeSlice 41 (.int .i64 0) (.int .i64 (c : Int))).run Try.prog W = .ok (.slice (some ⟨W.heap.size, 0, none⟩) 0 c) (W.alloc (.cells (madeCells #[.int .u64 0] c) 22)) := by
  have h22 := info22
  obtain ⟨i, hi, h⟩ := Option.map_eq_some_iff.1 h22
  simp only [Prod.mk.injEq] at h
  have := run_make (P := Try.prog) W 41 22 i (.int .u64 0) Try.underlying41 hi h.1 .i64 .i64 0 (c : Int) (Int.le_refl _) (by omega) (by rw [h.2.2]; omega) (by omega)
  rw [h.2.1, Nat.mul_one] at this
  exact this
theorem alloc_at' (w : World) (o : Obj) : (w.alloc o).heap[w.heap.size]? = some o := by
  show (w.heap.push o)[w.heap.size]? = some o
  exact Array.getElem?_push_size
theorem made_R (c : Nat) (hc : c ≤ 1000000) (W : World) (base : Nat) (hb : base ≤ W.heap.size) : Kd.R (Kd.int .u64) 22 (W.alloc (.cells (madeCells #[.int .u64 0] c) 22)) base (fun _ => True) (.slice (some ⟨W.heap.size, 0, none⟩) 0 c) [] := by
  refine Kd.R_of_own (enc := fun x => Value.int .u64 x) ?_ (fun _ _ => trivial)
  refine ⟨rfl, .inr ⟨W.heap.size, c, _, rfl, hb, alloc_at' W _, Nat.zero_le _, by unfold maxLen; omega, by simp [size_madeCells], by simp [encs]⟩⟩
/-- What stands side by side of a slice's cells: 77 behind all. -/
theorem C_front {W : World} {A : Option Addr} {l : List Int} {x : Int} (h : Kd.C (Kd.int .u64) W A (l ++ [x]).length (l ++ [x])) : Kd.C (Kd.int .u64) W A l.length l := by
  obtain ⟨h1, h2, h3⟩ := h
  refine ⟨rfl, by simp at h2; omega, fun hn => ?_⟩
  obtain ⟨ad, e, hj⟩ := h3 (by simp)
  refine ⟨ad, e, fun j p hp => hj j p ?_⟩
  rw [List.getElem?_append_left (by exact (List.getElem?_eq_some_iff.1 hp).1)]
  exact hp
theorem C_last {W : World} {A : Option Addr} {l : List Int} {x : Int} (h : Kd.C (Kd.int .u64) W A (l ++ [x]).length (l ++ [x])) : ∃ ad, A = some ad ∧ W.cell? (ad.add l.length) = some (.int .u64 x) := by
  obtain ⟨ad, e, hx⟩ := Kd.at_int h (l.length : Int) (by omega) (by simp; omega)
  refine ⟨ad, e, ?_⟩
  rw [Int.toNat_natCast] at hx
  rw [hx]; congr 2; simp [rd]
theorem C_one (W : World) (x : Int) : Kd.C (Kd.int .u64) (W.alloc (.cells #[.int .u64 x] 22)) (some ⟨W.heap.size, 0, none⟩) 1 [x] := by
  have h := own_lit W W.heap.size 22 .u64 [x] (Nat.le_refl _) (by simp)
  have hR : Kd.R (Kd.int .u64) 22 (W.alloc (.cells (nums .u64 [x]).toArray 22)) W.heap.size (fun _ => True) (.slice (some ⟨W.heap.size, 0, none⟩) [x].length [x].length) [x] := Kd.R_of_own h (fun _ _ => trivial)
  exact (Kd.R_reads' hR).2.2
set_option maxHeartbeats 8000000 in
set_option maxRecDepth 100000 in
theorem chains_long (k : Nat) (m n : Int) (A : Option Addr) (c : Nat) (l : List Int) (w : World) (h1 : amphoralaw06_alive.f k = some true) (hl : 200 < l.length) :
    Calls Try.prog 8 #[.int .u64 m, .slice A l.length c, .int .i64 n] w fun e w' => e = .returned (.bool true) ∧ Below w.heap.size w w' := by
  have HB := Aside0.mk (Below.refl w.heap.size w)
  have A1 := Aside0.mk h1
  clear h1
  have hl0 : decide (200 < (l.length : Int)) = true := decide_eq_true (by omega)
  go_enter Try.func8, Try.ntmps8
  go_wp2_with (first
    | (go_at_call 9; (with_reducible refine (amphoralaw06_alive.calls k true _ A1.out).mono ?_); rintro e w1 ⟨rfl, hb⟩; have n0_ := Aside0.mk (below_step HB.out hb); clear HB hb; have HB := n0_; clear n0_))
  go_ret
  exact ⟨by first | rfl | (simp; done) | (simp [*]; done), by repeat (first | (with_reducible first | exact HB.out | apply below_alloc | apply pw_below_drewN | apply below_drew1) | exact HB.out)⟩
set_option maxHeartbeats 8000000 in
set_option maxRecDepth 100000 in
theorem chains_short (k : Nat) (m n x z : Int) (E E2 : Option Int) (t t2 : Int) (G : Nat → Int) (A : Option Addr) (c : Nat) (l : List Int) (w : World) (hr : Kd.C (Kd.int .u64) w A l.length l) (hc : l.length ≤ c) (h1 : amphoralaw06_alive.f k = some true) (hl : l.length ≤ 200)
    (h2 : poly_MulMod.f k m l = some (x, E)) (h3 : amphoraref06_MulMod.f k m l = some (x, t)) (h4 : poly_Power.f k n m = some (z, E2)) (h5 : amphoraref06_Power.f k n m = some (z, t2)) (h6 : amphoranum_Num.f E = some t) (h7 : amphoranum_Num.f E2 = some t2)
    (h8 : G 0 = 0) (h9 : ∀ i, i < l.length → amphoraref06_Gcd.f k (G i) (rd l (i : Int)) = some (G (i + 1))) (h10 : poly_Gcd.f k l = some (G l.length)) :
    Calls Try.prog 8 #[.int .u64 m, .slice A l.length c, .int .i64 n] w fun e w' => e = .returned (.bool true) ∧ Below w.heap.size w w' := by
  have HB := Aside0.mk (Below.refl w.heap.size w)
  have A1 := Aside0.mk h1
  have A2 := Aside0.mk h2
  have A3 := Aside0.mk h3
  have A4 := Aside0.mk h4
  have A5 := Aside0.mk h5
  have A6 := Aside0.mk h6
  have A7 := Aside0.mk h7
  have A8 := Aside0.mk h8
  have A9 := Aside0.mk h9
  have A10 := Aside0.mk h10
  have HR := Aside0.mk hr
  have HC := Aside0.mk hc
  have HL := Aside0.mk hl
  clear h1 h2 h3 h4 h5 h6 h7 h8 h9 h10 hr hc
  have hl0 : decide (200 < (l.length : Int)) = false := decide_eq_false (by omega)
  have hmk := make_run (l.length + 1) (by omega)
  rw [show ((l.length + 1 : Nat) : Int) = (l.length : Int) + 1 from by omega] at hmk
  go_enter Try.func8, Try.ntmps8
  go_upto_region 12 with (first
    | (go_at_call 9; (with_reducible refine (amphoralaw06_alive.calls k true _ A1.out).mono ?_); rintro e w1 ⟨rfl, hb⟩; have n0_ := Aside0.mk (below_step HB.out hb); clear HB hb; have HB := n0_; clear n0_)
    | ((with_reducible refine gate_builtin (b := .append) (xs := #[.tmp 26, .tmp 27]) rfl ?_); at_builtin; refine Kd.R_append_row (fun x => Value.int .u64 x) 0 (h1 := fun _ => rfl) (w0 := w) w.heap.size rfl (.tmp 26) (.tmp 27) 41 22 (.int .u64 0) 8 rfl Try.underlying41 info22 rfl (by omega) _ [] l A l.length c (fun _ => True) rfl rfl (fun _ _ => trivial) ?aO ?aR ?aB ?aS ?aL ?_; (case aO => exact made_R (l.length + 1) (by have := HL.out; omega) _ w.heap.size (below_size HB.out)); (case aR => exact Kd.C_below HR.out (below_alloc HB.out _)); (case aB => exact below_alloc HB.out _); (case aS => exact below_size (below_alloc HB.out _)); (case aL => have := HL.out; simp; omega); intro v1 w2 hown hb2 hg_ hat_; clear hg_ hat_ HB; rw [List.nil_append] at hown; have HB := Aside0.mk hb2; obtain ⟨A1o, c1o, ev⟩ := Kd.R_slice hown; subst ev; have HO := Aside0.mk hown; clear hb2 hown)
    | ((with_reducible refine gate_builtin (b := .append) (xs := #[.tmp 28, .tmp 29]) rfl ?_); at_builtin; go_loud ((refine Kd.R_append (Kd.int .u64) (w0 := w) w.heap.size rfl (.tmp 28) (.tmp 29) 41 22 (.int .u64 0) 8 rfl Try.underlying41 info22 rfl (by decide) (by omega) _ l 77 [.int .u64 77] (fun _ => True) (fun _ => False) rfl rfl rfl (fun _ h => h.elim) (fun _ _ => trivial) HO.out HB.out (below_size HB.out) ?aL ?_); (case aL => have := HL.out; omega); intro v2 w3 hown hb2 hg_ hat_; clear hg_ hat_ HB HO; have HB := Aside0.mk hb2; obtain ⟨Ao, co, ev, hle, hcc⟩ := Kd.R_reads hown; have ll : (l ++ [77]).length = l.length + 1 := (by simp); rw [ll] at ev hle; subst ev; have hF := Aside0.mk hcc; have hco : (l.length : Int) + 1 ≤ (co : Int) := (by omega); have hco' : (l.length : Int) ≤ (co : Int) := (by omega); have HCO := Aside0.mk hle; obtain ⟨ad, eAo, hlast⟩ := C_last hcc; subst eAo; clear hown hb2 hcc hle ll; have H77 := Aside0.mk hlast; clear hlast))
    | (go_at_call 22; (with_reducible refine (poly_MulMod.calls k m _ _ l x E _ ?s1 ?s2 A2.out).mono ?_); (case s1 => repeat (first | exact C_front hF.out | (with_reducible refine Kd.C_drewN ?_ _))); (case s2 => have := HCO.out; omega); rintro e w' ⟨rfl, ⟨nd, rfl⟩⟩)
    | (go_at_call 23; (with_reducible refine (amphoraref06_MulMod.calls k m A c l x t _ ?s1 HC.out A3.out).mono ?_); (case s1 => repeat (first | exact Kd.C_below HR.out HB.out | (with_reducible refine Kd.C_drewN ?_ _))); rintro e w' ⟨rfl, ⟨nd, rfl⟩⟩)
    | (go_at_call 24; (with_reducible refine (poly_Power.calls k n m z E2 _ A4.out).mono ?_); rintro e w' ⟨rfl, ⟨nd, rfl⟩⟩)
    | (go_at_call 25; (with_reducible refine (amphoraref06_Power.calls k n m z t2 _ A5.out).mono ?_); rintro e w' ⟨rfl, ⟨nd, rfl⟩⟩)
    | (go_at_call_of 26 (errW E); (with_reducible refine (amphoranum_Num.calls E t _ A6.out).mono ?_); rintro e w' ⟨rfl, ⟨nd, rfl⟩⟩)
    | (go_at_call_of 26 (errW E2); (with_reducible refine (amphoranum_Num.calls E2 t2 _ A7.out).mono ?_); rintro e w' ⟨rfl, ⟨nd, rfl⟩⟩; have hz77 := H77.out))
  generalize hW : w3.drewN _ = W0
  have n0 : Kd.C (Kd.int .u64) W0 A l.length l := by rw [← hW]; exact Kd.C_drewN (Kd.C_below HR.out HB.out) _
  have n1 : Kd.C (Kd.int .u64) W0 (some ad) l.length l := by rw [← hW]; exact Kd.C_drewN (C_front hF.out) _
  have n2 : Below w.heap.size w W0 := by rw [← hW]; exact pw_below_drewN HB.out _
  clear hW HB HR hF H77 hmk
  try clear hz77
  have HR := Aside0.mk n0
  have HF := Aside0.mk n1
  have HB := Aside0.mk n2
  clear n0 n1 n2
  go_wp2
  go_loopg [16, 92] (l.length + 1) (fun kq v16 v92 w' => ∃ i : Nat, v16 = .int .u64 (G i) ∧ v92 = .int .i64 (i : Int) ∧ Aside0 (i ≤ l.length) ∧ Aside0 (kq + i = l.length + 1) ∧ Drawn0 W0 w')
  case atStart => exact ⟨0, by rw [A8.out], rfl, ⟨Nat.zero_le _⟩, ⟨by omega⟩, Drawn0.refl _⟩
  case round =>
    obtain ⟨i, rfl, rfl, HI, HK, ⟨m1, rfl⟩⟩ := hrel
    cases gk with
    | zero => exact absurd HK.out (by have := HI.out; omega)
    | succ k1 =>
      by_cases c5 : i < l.length
      · have c5b0 : decide ((i : Int) < (l.length : Int)) = true := decide_eq_true (by omega)
        have c5b1 : decide (i < l.length) = true := decide_eq_true c5
        have q1 : (0 : Int) ≤ (i : Int) := by omega
        have q2 : (i : Int) < (l.length : Int) := by omega
        obtain ⟨ad1, e1, hx1⟩ := Kd.at_int HF.out (i : Int) q1 q2
        obtain ⟨ad2, e2, hx2⟩ := Kd.at_int HR.out (i : Int) q1 q2
        have hg := A9.out i c5
        generalize rd l (i : Int) = q at hx1 hx2 hg
        have A11 := Aside0.mk hg
        clear hg
        cases e1
        cases e2
        rw [Int.toNat_natCast] at hx1 hx2
        go_wp2
        go_quiet (fail)
        go_wp2_with (go_at_call 27; (with_reducible refine (amphoraref06_Gcd.calls k (G i) q (G (i + 1)) _ A11.out).mono ?_); rintro e w' ⟨rfl, ⟨nd, rfl⟩⟩)
        go_roundg k1
        case measure => omega
        case rel => exact ⟨i + 1, rfl, (by first | rfl | (simp; done) | (simp [*]; done) | go_num), ⟨by omega⟩, ⟨by have := HK.out; omega⟩, by repeat (first | exact Drawn0.refl _ | apply Drawn0.step)⟩
      · have c5b0 : decide ((i : Int) < (l.length : Int)) = false := decide_eq_false (by omega)
        have c5b1 : decide (i < l.length) = false := decide_eq_false c5
        have ei : i = l.length := by have := HI.out; omega
        subst ei
        clear c5 HI HK
        go_wp2_with (go_at_call 16; (with_reducible refine (poly_Gcd.calls k (some ad) co l (G l.length) _ ?s1 ?s2 A10.out).mono ?_); (case s1 => exact Kd.C_drewN HF.out _); (case s2 => have := HCO.out; omega); rintro e w' ⟨rfl, ⟨nd, rfl⟩⟩)
        go_ret
        exact ⟨by first | rfl | (simp; done) | (simp [*]; done), by repeat (first | (with_reducible first | exact HB.out | apply below_alloc | apply pw_below_drewN | apply below_drew1) | exact HB.out)⟩
end Go.Proofs.Ytabgknnnhhgliaa.OPolyChains
