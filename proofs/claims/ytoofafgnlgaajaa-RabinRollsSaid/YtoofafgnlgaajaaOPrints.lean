/- The walk of RabinPrints. Conditions: as the theorem says. -/
import Derived.Test.YtoofafgnlgaajaaOAid
import Derived.Test.YtoofafgnlgaajaaPRabinx5
import Derived.KernelRfl
namespace Go.Proofs.Ytoofafgnlgaajaa.RW
open Go.RowKit Go.Proofs.Ytoofafgnlgaajaa.PRabin Go.Proofs.YtoofafgnlgaajaaW.PrintWords Go.Proofs.YtoofafgnlgaajaaW.PrintLast Go.Proofs.YtoofafgnlgaajaaW.PrintMore
set_option linter.unusedVariables false
set_option linter.unusedSimpArgs false
set_option maxHeartbeats 4000000 in
set_option maxRecDepth 100000 in
theorem prints_large1 (p : Int) (A1 A2 : Option Addr) (c1 c2 : Nat) (l1 l2 : List Int) (w : World) (h1 : Kd.C (Kd.int .u8) w A1 l1.length l1) (hc1 : l1.length ≤ c1) (hl : (l1.length : Int) > 1500) :
    Calls Try.prog 4 #[.int .u64 p, .slice A1 l1.length c1, .slice A2 l2.length c2] w fun e w' => e = .returned (.bool true) ∧ Below w.heap.size w w' := by
  have HA := Aside0.mk (fun W : World => amphoralaw07_alive.calls 2000 true W alive_f)
  have H1 := Aside0.mk h1
  have HC1 := Aside0.mk hc1
  have HL := Aside0.mk (show amphoralaw07_large.f l1 = some true by unfold amphoralaw07_large.f; rw [decide_eq_true hl])
  clear h1 hc1 hl
  go_enter Try.func4, Try.ntmps4
  go_wp2_with (first
    | (go_at_call 10; (with_reducible refine (HA.out _).mono ?_); rintro e1 w2 ⟨rfl, hb⟩; have HB := Aside0.mk hb; clear hb)
    | (go_at_call 11; refine (amphoralaw07_large.calls A1 c1 l1 true _ (Kd.C_below H1.out HB.out) HC1.out HL.out).mono ?_; rintro e1 w3 ⟨rfl, ⟨nd, rfl⟩⟩))
  go_ret
  exact ⟨rfl, pw_below_drewN HB.out _⟩
set_option maxHeartbeats 4000000 in
set_option maxRecDepth 100000 in
theorem prints_large2 (p : Int) (A1 A2 : Option Addr) (c1 c2 : Nat) (l1 l2 : List Int) (w : World) (h1 : Kd.C (Kd.int .u8) w A1 l1.length l1) (hc1 : l1.length ≤ c1) (h2 : Kd.C (Kd.int .u8) w A2 l2.length l2) (hc2 : l2.length ≤ c2) (hl1 : ¬ (l1.length : Int) > 1500) (hl : (l2.length : Int) > 1500) :
    Calls Try.prog 4 #[.int .u64 p, .slice A1 l1.length c1, .slice A2 l2.length c2] w fun e w' => e = .returned (.bool true) ∧ Below w.heap.size w w' := by
  have HA := Aside0.mk (fun W : World => amphoralaw07_alive.calls 2000 true W alive_f)
  have H1 := Aside0.mk h1
  have HC1 := Aside0.mk hc1
  have H2 := Aside0.mk h2
  have HC2 := Aside0.mk hc2
  have HL := Aside0.mk (show amphoralaw07_large.f l1 = some false by unfold amphoralaw07_large.f; rw [decide_eq_false hl1])
  have HL2 := Aside0.mk (show amphoralaw07_large.f l2 = some true by unfold amphoralaw07_large.f; rw [decide_eq_true hl])
  obtain ⟨n1, hn1⟩ : ∃ n, n = l1.length := ⟨_, rfl⟩
  clear h1 hc1 h2 hc2 hl1 hl
  go_enter Try.func4, Try.ntmps4
  go_wp2_with (first
    | (go_at_call 10; (with_reducible refine (HA.out _).mono ?_); rintro e1 w2 ⟨rfl, hb⟩; have HB := Aside0.mk hb; clear hb)
    | (go_at_call 11; refine (amphoralaw07_large.calls A1 c1 l1 false _ (Kd.C_below H1.out HB.out) HC1.out HL.out).mono ?_; rintro e1 w3 ⟨rfl, ⟨nd, rfl⟩⟩)
    | (go_at_call 11; refine (amphoralaw07_large.calls A2 c2 l2 true _ (Kd.C_below H2.out (pw_below_drewN HB.out _)) HC2.out HL2.out).mono ?_; rintro e1 w4 ⟨rfl, ⟨nd2, rfl⟩⟩))
  go_ret
  exact ⟨rfl, pw_below_drewN HB.out _⟩
theorem run_equalIn_iface_int {P : Program} (w : World) (d : Nat) {ti tn : TypeId} {ms : Array (String × TypeId)} {i : TypeInfo} {k : IntKind} (a b : Int)
    (hi : P.underlying ti = some (.interface ms)) (hn : P.underlying tn = some (.int k)) (hinfo : P.info? tn = some i) (hcomp : i.comparable = true) :
    (Op.equalIn (d + 2) ti (.iface tn (.int k a)) (.iface tn (.int k b))).run P w = .ok (a == b) w := by
  simp [Op.equalIn, run_underlying hi, run_underlying hn, typeInfo, hinfo, hcomp]
theorem comp_err : ((Try.prog.info? 43).map (·.comparable)) = some true := by kernel_rfl
theorem eql_err31 (w : World) (a b : Int) : (binOp .eql 31 (.iface 43 (.int .i64 a)) (.iface 43 (.int .i64 b))).run Try.prog w = .ok (.bool (a == b)) w := by
  obtain ⟨i, h1, h2⟩ := Option.map_eq_some_iff.1 comp_err
  simp only [binOp]
  simp [Op.equal, Op.maxDepth, run_equalIn_iface_int w 9998 a b Try.underlying31 Try.underlying43 h1 h2]
theorem own_C {w : World} {base n c : Nat} {A : Option Addr} {l : List Int} (h : w.ownsRow base 5 1 (.slice A n c) n (nums .u8 l)) (hn : l.length = n) : n ≤ c ∧ Kd.C (Kd.int .u8) w A n l := by
  subst hn
  obtain ⟨_, h2, h3⟩ := Kd.R_reads' (Kd.R_of_own (enc := Value.int .u8) (h1 := fun _ => rfl) h (ok := fun _ => True) (fun _ _ => trivial))
  exact ⟨h2, h3⟩
theorem ref1_calls (W : World) (k : Nat) (p r : Int) (A : Option Addr) (n c base : Nat) (l : List Int) (h : W.ownsRow base 5 1 (.slice A n c) n (nums .u8 l)) (hn : l.length = n) (hq : amphoraref07_Print.f k p l = some r) :
    Calls Try.prog 20 #[.int .u64 p, .slice A n c] W fun e w' => e = .returned (.int .u64 r) ∧ Drawn0 W w' := by
  obtain ⟨h1, h2⟩ := own_C h hn
  subst hn
  exact amphoraref07_Print.calls k p A c l r W h2 h1 hq
theorem print2_calls (W : World) (k : Nat) (p r1 : Int) (r2 : Option Int) (A1 A2 : Option Addr) (c1 c2 : Nat) (l1 l2 : List Int) (h1 : Kd.C (Kd.int .u8) W A1 l1.length l1) (hc1 : l1.length ≤ c1) (h2 : Kd.C (Kd.int .u8) W A2 l2.length l2) (hc2 : l2.length ≤ c2) (h : rabin_Print.f k p [l1, l2] = some (r1, r2)) :
    Calls Try.prog 19 #[.int .u64 p, .slice (some ⟨W.heap.size, 0, none⟩) 2 2] (W.alloc (.cells #[.slice A1 l1.length c1, .slice A2 l2.length c2] 25)) fun e w' => e = .returned (.tuple #[.int .u64 r1, errW r2]) ∧ Drawn0 (W.alloc (.cells #[.slice A1 l1.length c1, .slice A2 l2.length c2] 25)) w' :=
  rabin_Print.calls k p _ 2 [l1, l2] r1 r2 _ (C_parts2 h1 hc1 h2 hc2) (Nat.le_refl _) h
theorem print1_calls (W : World) (k : Nat) (p r1 : Int) (r2 : Option Int) (A1 : Option Addr) (c1 : Nat) (l1 : List Int) (h1 : Kd.C (Kd.int .u8) W A1 l1.length l1) (hc1 : l1.length ≤ c1) (h : rabin_Print.f k p [l1] = some (r1, r2)) :
    Calls Try.prog 19 #[.int .u64 p, .slice (some ⟨W.heap.size, 0, none⟩) 1 1] (W.alloc (.cells #[.slice A1 l1.length c1] 25)) fun e w' => e = .returned (.tuple #[.int .u64 r1, errW r2]) ∧ Drawn0 (W.alloc (.cells #[.slice A1 l1.length c1] 25)) w' :=
  rabin_Print.calls k p _ 1 [l1] r1 r2 _ (C_parts1 h1 hc1) (Nat.le_refl _) h
set_option maxHeartbeats 4000000 in
set_option maxRecDepth 100000 in
theorem prints_zero (A1 A2 : Option Addr) (c1 c2 : Nat) (l1 l2 : List Int) (w : World) (h1 : Kd.C (Kd.int .u8) w A1 l1.length l1) (hc1 : l1.length ≤ c1) (h2 : Kd.C (Kd.int .u8) w A2 l2.length l2) (hc2 : l2.length ≤ c2) (hl1 : ¬ (l1.length : Int) > 1500) (hl2 : ¬ (l2.length : Int) > 1500) :
    Calls Try.prog 4 #[.int .u64 0, .slice A1 l1.length c1, .slice A2 l2.length c2] w fun e w' => e = .returned (.bool true) ∧ Below w.heap.size w w' := by
  have hu31 := Try.underlying31
  have hu43 := Try.underlying43
  have HA := Aside0.mk (fun W : World => amphoralaw07_alive.calls 2000 true W alive_f)
  have H1 := Aside0.mk h1
  have HC1 := Aside0.mk hc1
  have H2 := Aside0.mk h2
  have HC2 := Aside0.mk hc2
  have HL := Aside0.mk (show amphoralaw07_large.f l1 = some false by unfold amphoralaw07_large.f; rw [decide_eq_false hl1])
  have HL2 := Aside0.mk (show amphoralaw07_large.f l2 = some false by unfold amphoralaw07_large.f; rw [decide_eq_false hl2])
  have heq : ∀ W : World, (binOp .eql 31 (.iface 43 (.int .i64 27)) (.iface 43 (.int .i64 27))).run Try.prog W = .ok (.bool true) W := fun W => eql_err31 W 27 27
  have HP := Aside0.mk (show rabin_Print.f 0 0 [l1, l2] = some (0, some 27) by unfold rabin_Print.f; rw [if_pos rfl])
  clear h1 hc1 h2 hc2 hl1 hl2
  go_enter Try.func4, Try.ntmps4
  go_wp2_with (first
    | (go_at_call 10; (with_reducible refine (HA.out _).mono ?_); rintro e1 w2 ⟨rfl, hb⟩; have HB := Aside0.mk hb; clear hb)
    | (go_at_call 11; refine (amphoralaw07_large.calls A1 c1 l1 false _ (Kd.C_below H1.out HB.out) HC1.out HL.out).mono ?_; rintro e1 w3 ⟨rfl, ⟨nd, rfl⟩⟩; have HB3 := Aside0.mk (pw_below_drewN HB.out nd); clear HL)
    | (go_at_call 11; refine (amphoralaw07_large.calls A2 c2 l2 false _ (Kd.C_below H2.out HB3.out) HC2.out HL2.out).mono ?_; rintro e1 w4 ⟨rfl, ⟨nd2, rfl⟩⟩; have HB4 := Aside0.mk (pw_below_drewN HB.out (nd + nd2)); clear HL2)
    | (go_at_call 19; refine (print2_calls (w2.drewN (nd + nd2)) 0 0 0 (some 27) A1 A2 c1 c2 l1 l2 (Kd.C_below H1.out HB4.out) HC1.out (Kd.C_below H2.out HB4.out) HC2.out HP.out).mono ?_; rintro e1 w5 ⟨rfl, ⟨nd3, rfl⟩⟩; rw [errW_some]))
  go_ret
  exact ⟨rfl, pw_below_drewN (below_alloc HB4.out _) _⟩
set_option maxHeartbeats 800000 in
set_option maxRecDepth 100000 in
theorem prints_main (k : Nat) (p x : Int) (A1 A2 : Option Addr) (c1 c2 : Nat) (l1 l2 : List Int) (w : World) (h1 : Kd.C (Kd.int .u8) w A1 l1.length l1) (hc1 : l1.length ≤ c1) (h2 : Kd.C (Kd.int .u8) w A2 l2.length l2) (hc2 : l2.length ≤ c2) (hl1 : ¬ (l1.length : Int) > 1500) (hl2 : ¬ (l2.length : Int) > 1500)
    (hp : p ≠ 0) (hP : rabin_Print.f k p [l1, l2] = some (x, none)) (hQ : amphoraref07_Print.f k p (l1 ++ l2) = some x) :
    Calls Try.prog 4 #[.int .u64 p, .slice A1 l1.length c1, .slice A2 l2.length c2] w fun e w' => e = .returned (.bool true) ∧ Below w.heap.size w w' := by
  have hu31 := Try.underlying31
  have hu43 := Try.underlying43
  have HA := Aside0.mk (fun W : World => amphoralaw07_alive.calls 2000 true W alive_f)
  have H1 := Aside0.mk h1
  have HC1 := Aside0.mk hc1
  have H2 := Aside0.mk h2
  have HC2 := Aside0.mk hc2
  have HL := Aside0.mk (show amphoralaw07_large.f l1 = some false by unfold amphoralaw07_large.f; rw [decide_eq_false hl1])
  have HL2 := Aside0.mk (show amphoralaw07_large.f l2 = some false by unfold amphoralaw07_large.f; rw [decide_eq_false hl2])
  have HP := Aside0.mk hP
  have HQ := Aside0.mk hQ
  have HLS := Aside0.mk (show l1.length ≤ 1500 ∧ l2.length ≤ 1500 by omega)
  have cp := beq_eq_false_iff_ne.mpr hp
  have ce : (x == x) = true := beq_iff_eq.mpr rfl
  clear h1 hc1 h2 hc2 hl1 hl2 hP hQ hp
  go_enter Try.func4, Try.ntmps4
  go_wp2_with (first
    | (go_at_call 10; (with_reducible refine (HA.out _).mono ?_); rintro e1 w2 ⟨rfl, hb⟩; have HB := Aside0.mk hb; clear hb)
    | (go_at_call 11; refine (amphoralaw07_large.calls A1 c1 l1 false _ (Kd.C_below H1.out HB.out) HC1.out HL.out).mono ?_; rintro e1 w3 ⟨rfl, ⟨nd, rfl⟩⟩; have HB3 := Aside0.mk (pw_below_drewN HB.out nd); clear HL)
    | (go_at_call 11; refine (amphoralaw07_large.calls A2 c2 l2 false _ (Kd.C_below H2.out HB3.out) HC2.out HL2.out).mono ?_; rintro e1 w4 ⟨rfl, ⟨nd2, rfl⟩⟩; have HB4 := Aside0.mk (pw_below_drewN HB.out (nd + nd2)); clear HL2)
    | (go_at_call 19; refine (print2_calls (w2.drewN (nd + nd2)) k p x none A1 A2 c1 c2 l1 l2 (Kd.C_below H1.out HB4.out) HC1.out (Kd.C_below H2.out HB4.out) HC2.out HP.out).mono ?_; rintro e1 w5 ⟨rfl, ⟨nd3, rfl⟩⟩; rw [errW_none];
        obtain ⟨W6, hW6⟩ : ∃ W6, W6 = ((w2.drewN (nd + nd2)).alloc (.cells #[.slice A1 l1.length c1, .slice A2 l2.length c2] 25)).drewN nd3 := ⟨_, rfl⟩; have HB6 := Aside0.mk (show Below w.heap.size w W6 by rw [hW6]; exact pw_below_drewN (below_alloc HB4.out _) _); rw [← hW6]; clear hW6)
    | (at_builtin; have HW7 := Aside0.mk (show (W6.alloc (.cells #[] 5)).ownsRow W6.heap.size 5 1 (.slice (some ⟨W6.heap.size, 0, none⟩) 0 0) 0 [] from ⟨rfl, .inr ⟨W6.heap.size, 0, #[], rfl, Nat.le_refl _, heap_alloc_new W6 _, Nat.le_refl _, by simp [maxLen], rfl, rfl⟩⟩);
        refine ev_append_c rfl (.tmp 35) (.tmp 36) rfl W6.heap.size (.slice (some ⟨W6.heap.size, 0, none⟩) 0 0) 0 [] rfl HW7.out A1 l1.length c1 l1 rfl (Kd.C_below H1.out (below_alloc HB6.out _)) (by have := HLS.out; omega) (by rw [World.size_alloc]; exact Nat.le_succ _) ?_;
        intro v7 w7 o7 g7 a7; have HO7 := Aside0.mk o7; have HS7 := Aside0.mk (show W6.heap.size ≤ w7.heap.size from Nat.le_trans (by rw [World.size_alloc]; exact Nat.le_succ _) g7.size); have HB7 := Aside0.mk (pw_below_grown (below_alloc HB6.out _) _ (by have := HB6.out.size; rw [World.size_alloc]; omega) g7 (fun q hq => Nat.le_trans HB6.out.size (own_base HW7.out q hq))); clear o7 g7 a7)
    | (at_builtin; refine ev_append_c rfl (.tmp 37) (.tmp 38) rfl W6.heap.size v7 _ _ rfl HO7.out A2 l2.length c2 l2 rfl (Kd.C_below H2.out HB7.out) (by have := HLS.out; omega) HS7.out ?_;
        intro v8 w8 o8 g8 a8; obtain ⟨A8, c8, rfl, _⟩ := Apart.form o8; have HO8 := Aside0.mk o8; have HB8 := Aside0.mk (pw_below_grown HB7.out _ HB7.out.size g8 (fun q hq => Nat.le_trans HB6.out.size (own_base HO7.out q hq))); clear o8 g8 a8)
    | (go_at_call 20; refine (ref1_calls w8 k p x A8 (l1.length + l2.length) c8 W6.heap.size (l1 ++ l2) (by have h0_ := HO8.out; rw [Nat.zero_add, List.nil_append, ← nums_append] at h0_; exact h0_) (List.length_append ..) HQ.out).mono ?_; rintro e1 w9 ⟨rfl, ⟨nd9, rfl⟩⟩))
  go_ret
  exact ⟨rfl, pw_below_drewN HB8.out _⟩
end Go.Proofs.Ytoofafgnlgaajaa.RW
