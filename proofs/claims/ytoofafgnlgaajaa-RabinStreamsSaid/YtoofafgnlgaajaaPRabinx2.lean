/- Printed for this claim by a copy of the kit's print.py that takes functions walked by our own texts. Conditions: none. -/
import Derived.Test.YtoofafgnlgaajaaPRabinx0
import Derived.Test.YtoofafgnlgaajaaPRabinx1
namespace Go.Proofs.Ytoofafgnlgaajaa.PRabin
open Go.RowKit Go.Proofs.YtoofafgnlgaajaaW.PrintWords Go.Proofs.YtoofafgnlgaajaaW.PrintLast Go.Proofs.YtoofafgnlgaajaaW.PrintMore
attribute [local go_sem] max2_int min2_int max_two min_two max_three min_three max_four min_four   -- for this text's walks alone
set_option linter.unusedVariables false
set_option linter.unusedSimpArgs false

/-! ### poly_Irreducible: function 32 -/
/-- The closure's loop: p, how often, the value, the round. -/
def poly_sq.l0 : Nat → Int → Int → Int → Int → Option (Int)
  | 0, _, _, _, _ => none
  | k + 1, x0, x1, x4, x8 => if x8 < x1 then ((poly_mulMod.f k x0 x4 x4).bind fun t1 => (poly_sq.l0 k x0 x1 t1 (wrap64 (x8 + 1)))) else (some x4)
/-- The closure: x^(2^times) by p. -/
def poly_sq.f (k : Nat) (a0 : Int) (a1 : Int) : Option (Int) := (poly_mod.f k 0 2 a0).bind fun t1 => (poly_sq.l0 k a0 a1 t1 0)
def poly_Irreducible.l0 : Nat → Int → Int → List Int → Int → Option (Bool)
  | 0, _, _, _, _ => none
  | k + 1, x0, x3, x13, x15 => if x15 < (x13.length : Int) then (if 0 ≤ x15 then (if rd x13 x15 = 0 then none else ((poly_sq.f k x0 (wrap64 (Int.tdiv x3 (rd x13 x15)))).bind fun t1 => ((poly_mod.f k 0 2 x0).bind fun t2 => ((poly_Gcd.f k [x0, Go.bits .xor .u64 t1 t2]).bind fun t3 => (if t3 = 1 then (poly_Irreducible.l0 k x0 x3 x13 (wrap64 (x15 + 1))) else (some false)))))) else (none)) else ((poly_sq.f k x0 x3).bind fun t4 => ((poly_mod.f k 0 2 x0).bind fun t5 => (some (t4 == t5))))
def poly_Irreducible.f (k : Nat) (a0 : Int) : Option (Bool) := (poly_Deg.f a0).bind fun t1 => (if t1 < 1 then (some false) else ((poly_primes.f k t1).bind fun t2 => (poly_Irreducible.l0 k a0 t1 t2 0)))
theorem poly_sq.mono_l : ∀ k, (∀ y0 y1 y2 y3, LeO (poly_sq.l0 k y0 y1 y2 y3) (poly_sq.l0 (k + 1) y0 y1 y2 y3))
  | 0 => fun _ _ _ _ r h => by simp [poly_sq.l0] at h
  | k + 1 => by
    have ih0 := poly_sq.mono_l k
    intro y0 y1 y2 y3
    unfold poly_sq.l0
    refine LeO.ite (LeO.bind (poly_mulMod.mono _ _ _ _) (fun _ => ih0 _ _ _ _)) (LeO.refl _)
theorem poly_sq.mono : ∀ a0 a1 k, LeO (poly_sq.f k a0 a1) (poly_sq.f (k + 1) a0 a1) := by
  intro a0 a1 k
  unfold poly_sq.f
  exact LeO.bind (poly_mod.mono _ _ _ _) (fun _ => poly_sq.mono_l k _ _ _ _)
theorem poly_Irreducible.mono_l : ∀ k, (∀ y0 y1 y2 y3, LeO (poly_Irreducible.l0 k y0 y1 y2 y3) (poly_Irreducible.l0 (k + 1) y0 y1 y2 y3))
  | 0 => fun _ _ _ _ r h => by simp [poly_Irreducible.l0] at h
  | k + 1 => by
    have ih0 := poly_Irreducible.mono_l k
    intro y0 y1 y2 y3
    unfold poly_Irreducible.l0
    refine LeO.ite (LeO.ite (LeO.ite (LeO.refl _) (LeO.bind (poly_sq.mono _ _ _) (fun _ => LeO.bind (poly_mod.mono _ _ _ _) (fun _ => LeO.bind (poly_Gcd.mono _ _) (fun _ => LeO.ite (ih0 _ _ _ _) (LeO.refl _)))))) (LeO.refl _)) ?_
    exact LeO.bind (poly_sq.mono _ _ _) (fun _ => LeO.bind (poly_mod.mono _ _ _ _) (fun _ => LeO.refl _))
theorem poly_Irreducible.mono : ∀ a0 k, LeO (poly_Irreducible.f k a0) (poly_Irreducible.f (k + 1) a0) := by
  intro a0 k
  unfold poly_Irreducible.f
  exact LeO.bind (LeO.refl _) (fun _ => LeO.ite (LeO.refl _) (LeO.bind (poly_primes.mono _ _) (fun _ => poly_Irreducible.mono_l k _ _ _ _)))
set_option maxHeartbeats 8000000 in
set_option maxRecDepth 100000 in
theorem poly_sq.calls (k : Nat) (p n r : Int) (b : Nat) (w : World) (hc : w.cell? ⟨b, 0, none⟩ = some (.int .u64 p)) (hf : w.frozen? ⟨b, 0, none⟩ = false) (h : poly_sq.f k p n = some r) :
    Calls Try.prog 43 #[.int .i64 n, .pointer (some ⟨b, 0, none⟩)] w fun e w' => e = .returned (.int .u64 r) ∧ Drawn0 w w' := by
  unfold poly_sq.f at h
  obtain ⟨x0, A0, H⟩ := Option.bind_eq_some_iff.mp h
  clear h
  have A1 := Aside0.mk A0
  have H' := Aside0.mk H
  clear A0 H
  go_enter Try.func43, Try.ntmps43
  go_wp2_with (first | ((with_reducible refine gate_callee (f := 44) rfl ?_); refine goesL_ (some 6) rfl rfl Try.func44 (by kernel_rfl) rfl #[.int .u64 0, .int .u64 2, .int .u64 p] rfl (by (try simp only [List.map_toArray, List.map_cons, List.map_nil]); first | done | rfl | (simp only [List.length_drop, List.length_take]; rfl)) ?_; (with_reducible refine (poly_mod.calls k 0 2 p x0 _ A1.out).mono ?_); rintro e w' ⟨rfl, ⟨nd, rfl⟩⟩; refine ⟨_, rfl, ?_⟩))
  go_loopg [4, 8] k (fun kq v4 v8 w' => ∃ (x4 : Int) (x8 : Int), v4 = .int .u64 x4 ∧ v8 = .int .i64 x8 ∧ Aside0 (poly_sq.l0 kq p n x4 x8 = some r) ∧ Aside0 (kq ≤ k) ∧ Drawn0 w w')
  case atStart => exact ⟨x0, 0, rfl, rfl, H', ⟨Nat.le_refl _⟩, by repeat (first | exact Drawn0.refl _ | apply Drawn0.step)⟩
  case round =>
    clear H'
    obtain ⟨x4, x8, rfl, rfl, HA, HK1, ⟨m1, rfl⟩⟩ := hrel
    cases gk with
    | zero => exact absurd HA.out (by simp [poly_sq.l0])
    | succ k1 =>
      have H := HA.out
      clear HA
      simp only [poly_sq.l0] at H
      by_cases c5 : x8 < n
      · rw [if_pos c5] at H
        have c5b0 : decide (x8 < n) = true := decide_eq_true c5
        clear c5
        replace H := Option.bind_eq_some_iff.mp H
        obtain ⟨t1, A80, H⟩ := H
        have A8 := Aside0.mk A80
        clear A80
        have H' := Aside0.mk H
        clear H
        go_wp2_with (first | ((with_reducible refine gate_callee (f := 45) rfl ?_); refine goesL_ (some 13) rfl rfl Try.func45 (by kernel_rfl) rfl #[.int .u64 p, .int .u64 x4, .int .u64 x4] rfl (by (try simp only [List.map_toArray, List.map_cons, List.map_nil]); first | done | rfl | (simp only [List.length_drop, List.length_take]; rfl)) ?_; (with_reducible refine (poly_mulMod.calls k1 p x4 x4 t1 _ A8.out).mono ?_); rintro e w' ⟨rfl, ⟨nd, rfl⟩⟩; refine ⟨_, rfl, ?_⟩))
        go_roundg k1
        case measure => have := HK1.out; omega
        case rel => exact ⟨t1, (wrap64 (x8 + 1)), (by first | rfl | (simp; done) | (simp [*]; done)), (by first | rfl | (simp; done) | (simp [*]; done)), H', ⟨by have := HK1.out; omega⟩, by repeat (first | exact Drawn0.refl _ | apply Drawn0.step)⟩
      · rw [if_neg c5] at H
        have c5b0 : decide (x8 < n) = false := decide_eq_false c5
        clear c5
        obtain rfl := Option.some.inj H
        go_wp2
        go_ret
        exact ⟨by first | rfl | (simp; done) | (simp [*]; done), by repeat (first | exact Drawn0.refl _ | apply Drawn0.step)⟩
theorem C_pair (W : World) (x y : Int) : Kd.C (Kd.int .u64) (W.alloc (.cells #[.int .u64 x, .int .u64 y] 22)) (some ⟨W.heap.size, 0, none⟩) [x, y].length [x, y] := by
  have h := own_lit W W.heap.size 22 .u64 [x, y] (Nat.le_refl _) (by simp)
  have hR : Kd.R (Kd.int .u64) 22 (W.alloc (.cells (nums .u64 [x, y]).toArray 22)) W.heap.size (fun _ => True) (.slice (some ⟨W.heap.size, 0, none⟩) [x, y].length [x, y].length) [x, y] := Kd.R_of_own h (fun _ _ => trivial)
  exact (Kd.R_reads' hR).2.2
theorem alloc_at (w : World) (o : Obj) : (w.alloc o).heap[w.heap.size]? = some o := by
  show (w.heap.push o)[w.heap.size]? = some o
  exact Array.getElem?_push_size
theorem gcd_pair (k : Nat) (x y r : Int) (W : World) (A : Option Addr) (hC : Kd.C (Kd.int .u64) W A 2 [x, y]) (h : poly_Gcd.f k [x, y] = some r) :
    Calls Try.prog 47 #[.slice A 2 2] W fun e w' => e = .returned (.int .u64 r) ∧ Drawn0 W w' := poly_Gcd.calls k A 2 [x, y] r W hC (Nat.le_refl _) h
set_option maxHeartbeats 8000000 in
set_option maxRecDepth 100000 in
theorem poly_Irreducible.calls (k : Nat) (a0 : Int) (r : Bool) (w : World) (h : poly_Irreducible.f k a0 = some r) :
    Calls Try.prog 32 #[.int .u64 a0] w fun e w' => e = .returned (.bool r) ∧ Below w.heap.size w w' := by
  have HB := Aside0.mk (Below.refl w.heap.size w)
  unfold poly_Irreducible.f at h
  obtain ⟨n, A0, H⟩ := Option.bind_eq_some_iff.mp h
  clear h
  have A1 := Aside0.mk A0
  clear A0
  by_cases c1 : n < 1
  · rw [if_pos c1] at H
    have c1b0 : decide (n < 1) = true := decide_eq_true c1
    clear c1
    obtain rfl := Option.some.inj H
    go_enter Try.func32, Try.ntmps32
    go_wp2_with (first | ((with_reducible refine gate_callee (f := 31) rfl ?_); refine goesL_ (some 8) rfl rfl Try.func31 (by kernel_rfl) rfl #[.int .u64 a0] rfl (by (try simp only [List.map_toArray, List.map_cons, List.map_nil]); first | done | rfl | (simp only [List.length_drop, List.length_take]; rfl)) ?_; (with_reducible refine (poly_Deg.calls a0 n _ A1.out).mono ?_); rintro e w' ⟨rfl, ⟨nd, rfl⟩⟩; refine ⟨_, rfl, ?_⟩))
    go_ret
    exact ⟨by first | rfl | (simp; done) | (simp [*]; done), by repeat (first | (with_reducible first | exact HB.out | apply below_alloc | apply pw_below_drewN | apply below_drew1) | exact HB.out)⟩
  · rw [if_neg c1] at H
    have c1b0 : decide (n < 1) = false := decide_eq_false c1
    clear c1
    obtain ⟨l, A2, H⟩ := Option.bind_eq_some_iff.mp H
    have A3 := Aside0.mk A2
    clear A2
    have H' := Aside0.mk H
    clear H
    go_enter Try.func32, Try.ntmps32
    go_wp2_with (first | ((with_reducible refine gate_callee (f := 31) rfl ?_); refine goesL_ (some 8) rfl rfl Try.func31 (by kernel_rfl) rfl #[.int .u64 a0] rfl (by (try simp only [List.map_toArray, List.map_cons, List.map_nil]); first | done | rfl | (simp only [List.length_drop, List.length_take]; rfl)) ?_; (with_reducible refine (poly_Deg.calls a0 n _ A1.out).mono ?_); rintro e w' ⟨rfl, ⟨nd, rfl⟩⟩; refine ⟨_, rfl, ?_⟩) | ((with_reducible refine gate_callee (f := 46) rfl ?_); refine goesL_ (some 13) rfl rfl Try.func46 (by kernel_rfl) rfl #[.int .i64 n] rfl (by (try simp only [List.map_toArray, List.map_cons, List.map_nil]); first | done | rfl | (simp only [List.length_drop, List.length_take]; rfl)) ?_; (with_reducible refine (poly_primes.calls k n l _ A3.out).mono ?_); rintro e w1 ⟨v0, rfl, hown, hb⟩; refine ⟨_, rfl, ?_⟩; obtain ⟨A, c, rfl, hlc, hC⟩ := Kd.R_reads hown; have hbk : w1.heap[w.heap.size]? = some (.cells #[.int .u64 a0] 22 (0, 0)) := blk_below (blk_drewN (alloc_at w _) _) hb; have hB1 : Below w.heap.size w w1 := below_step (by repeat (first | (with_reducible first | exact HB.out | apply below_alloc | apply pw_below_drewN | apply below_drew1) | exact HB.out)) hb; clear hb hown; have BK := Aside0.mk hbk; have HC := Aside0.mk hC; have HL := Aside0.mk hlc; clear hbk hC hlc HB; have HB := Aside0.mk hB1; clear hB1))
    generalize w.heap.size = g at BK
    go_loopg [15] k (fun kq v15 w' => ∃ x15 : Int, v15 = .int .i64 x15 ∧ Aside0 (poly_Irreducible.l0 kq a0 n l x15 = some r) ∧ Aside0 (kq ≤ k) ∧ Aside0 (w'.heap[g]? = some (.cells #[.int .u64 a0] 22 (0, 0))) ∧ Aside0 (Kd.C (Kd.int .i64) w' A l.length l) ∧ Aside0 (Below w.heap.size w w'))
    case atStart => exact ⟨0, by first | rfl | simp, H', ⟨Nat.le_refl _⟩, BK, HC, HB⟩
    case round =>
      clear H' BK HC HB
      obtain ⟨x15, rfl, HA, HK1, BK, HC, HB⟩ := hrel
      cases gk with
      | zero => exact absurd HA.out (by simp [poly_Irreducible.l0])
      | succ k1 =>
        have H := HA.out
        clear HA
        simp only [poly_Irreducible.l0] at H
        have hz := (blk_cell BK.out 0).trans (show _ = some (Value.int .u64 a0) from rfl)
        have hfz := blk_frozen BK.out 0
        by_cases c5 : x15 < (l.length : Int)
        · rw [if_pos c5] at H
          have c5b0 : decide (x15 < (l.length : Int)) = true := decide_eq_true c5
          by_cases c6 : 0 ≤ x15
          · rw [if_pos c6] at H
            have c6b0 : decide (0 ≤ x15) = true := decide_eq_true c6
            obtain ⟨ad, ead, hx⟩ := Kd.at_int HC.out x15 c6 c5
            obtain ⟨q, hq⟩ : ∃ q, rd l x15 = q := ⟨_, rfl⟩
            rw [hq] at H hx
            clear hq
            cases ead
            by_cases c7 : q = 0
            · rw [if_pos c7] at H; cases H
            rw [if_neg c7] at H
            have c7b0 : (q == 0) = false := beq_eq_false_iff_ne.mpr c7
            obtain ⟨t1, A1', H⟩ := Option.bind_eq_some_iff.mp H
            obtain ⟨t2, A2', H⟩ := Option.bind_eq_some_iff.mp H
            obtain ⟨t3, A3', H⟩ := Option.bind_eq_some_iff.mp H
            rw [← i64_w] at A1'
            have B1 := Aside0.mk A1'
            have B2 := Aside0.mk A2'
            have B3 := Aside0.mk A3'
            clear A1' A2' A3'
            by_cases c8 : t3 = 1
            · rw [if_pos c8] at H
              have H' := Aside0.mk H
              clear H
              have c8b0 : (t3 != 1) = false := bne_eq_false_iff_eq.mpr c8
              replace c5 := eq_true c5
              replace c6 := eq_true c6
              go_wp2
              go_region_with (first
                | (go_at_call 43; (with_reducible refine (poly_sq.calls k1 a0 (IntKind.i64.wrap (Int.tdiv n q)) t1 _ _ ?s1 ?s2 B1.out).mono ?_); (case s1 => go_simp); (case s2 => go_simp); rintro e w' ⟨rfl, ⟨nd, rfl⟩⟩)
                | (go_at_call 44; (with_reducible refine (poly_mod.calls k1 0 2 a0 t2 _ B2.out).mono ?_); rintro e w' ⟨rfl, ⟨nd, rfl⟩⟩)
                | (go_at_call 47; (with_reducible refine (gcd_pair k1 a0 (Go.bits .xor .u64 t1 t2) t3 _ _ ?s1 B3.out).mono ?_); (case s1 => exact C_pair _ _ _); rintro e w' ⟨rfl, ⟨nd, rfl⟩⟩))
              all_goals
                clear c8
                go_wp2
                go_roundg k1
                case measure => have := HK1.out; omega
                case rel => exact ⟨wrap64 (x15 + 1), (by first | rfl | (simp; done) | (simp [*]; done)), H', ⟨by have := HK1.out; omega⟩, ⟨by repeat (first | exact BK.out | refine blk_drewN ?_ _ | refine blk_drew ?_ | refine blk_alloc ?_ _)⟩, ⟨by repeat (first | exact HC.out | (with_reducible refine Kd.C_alloc ?_ _) | (with_reducible refine Kd.C_drewN ?_ _) | (with_reducible refine Kd.C_drew ?_))⟩, ⟨by repeat (first | (with_reducible first | exact HB.out | apply below_alloc | apply pw_below_drewN | apply below_drew1) | exact HB.out)⟩⟩
            · rw [if_neg c8] at H
              obtain rfl := Option.some.inj H
              have c8b0 : (t3 != 1) = true := bne_iff_ne.mpr c8
              clear c8 H
              replace c5 := eq_true c5
              replace c6 := eq_true c6
              go_wp2
              go_region_with (first
                | (go_at_call 43; (with_reducible refine (poly_sq.calls k1 a0 (IntKind.i64.wrap (Int.tdiv n q)) t1 _ _ ?s1 ?s2 B1.out).mono ?_); (case s1 => go_simp); (case s2 => go_simp); rintro e w' ⟨rfl, ⟨nd, rfl⟩⟩)
                | (go_at_call 44; (with_reducible refine (poly_mod.calls k1 0 2 a0 t2 _ B2.out).mono ?_); rintro e w' ⟨rfl, ⟨nd, rfl⟩⟩)
                | (go_at_call 47; (with_reducible refine (gcd_pair k1 a0 (Go.bits .xor .u64 t1 t2) t3 _ _ ?s1 B3.out).mono ?_); (case s1 => exact C_pair _ _ _); rintro e w' ⟨rfl, ⟨nd, rfl⟩⟩))
              all_goals
                go_wp2
                go_ret
                exact ⟨by first | rfl | (simp; done) | (simp [*]; done), by repeat (first | (with_reducible first | exact HB.out | apply below_alloc | apply pw_below_drewN | apply below_drew1) | exact HB.out)⟩
          · rw [if_neg c6] at H; cases H
        · rw [if_neg c5] at H
          have c5b0 : decide (x15 < (l.length : Int)) = false := decide_eq_false c5
          clear c5
          obtain ⟨t4, A4', H⟩ := Option.bind_eq_some_iff.mp H
          obtain ⟨t5, A5', H⟩ := Option.bind_eq_some_iff.mp H
          have B4 := Aside0.mk A4'
          have B5 := Aside0.mk A5'
          clear A4' A5'
          obtain rfl := Option.some.inj H
          clear H
          go_wp2
          go_region_with (first
            | (go_at_call 43; (with_reducible refine (poly_sq.calls k1 a0 n t4 _ _ ?s1 ?s2 B4.out).mono ?_); (case s1 => go_simp); (case s2 => go_simp); rintro e w' ⟨rfl, ⟨nd, rfl⟩⟩)
            | (go_at_call 44; (with_reducible refine (poly_mod.calls k1 0 2 a0 t5 _ B5.out).mono ?_); rintro e w' ⟨rfl, ⟨nd, rfl⟩⟩))
          all_goals
            go_wp2
            go_ret
            exact ⟨by first | rfl | (simp; done) | (simp [*]; done), by repeat (first | (with_reducible first | exact HB.out | apply below_alloc | apply pw_below_drewN | apply below_drew1) | exact HB.out)⟩


/-! ### rabin_Check: function 17 -/
mutual
def rabin_Check.j0 : Nat → Int → Bool → Int → Int → Int → Int → Int → Option (Option Int)
  | 0, _, _, _, _, _, _, _ => none
  | k + 1, x3, x7, x114000, x114001, x114002, x114003, x114004 => if x7 = true then (some (some 11)) else (if x114001 < 1 then (rabin_Check.j1 k x3 true x114000 x114001 x114002 x114003 x114004) else (rabin_Check.j1 k x3 (decide (x114001 > 64)) x114000 x114001 x114002 x114003 x114004))
def rabin_Check.j1 : Nat → Int → Bool → Int → Int → Int → Int → Int → Option (Option Int)
  | 0, _, _, _, _, _, _, _ => none
  | k + 1, x3, x20, x114000, x114001, x114002, x114003, x114004 => if x20 = true then (some (some 11)) else (if x114002 < x114001 then (rabin_Check.j2 k x3 true x114000 x114001 x114002 x114003 x114004) else (if x114003 < x114002 then (rabin_Check.j2 k x3 true x114000 x114001 x114002 x114003 x114004) else (rabin_Check.j2 k x3 (decide (x114003 > 65536)) x114000 x114001 x114002 x114003 x114004)))
def rabin_Check.j2 : Nat → Int → Bool → Int → Int → Int → Int → Int → Option (Option Int)
  | 0, _, _, _, _, _, _, _ => none
  | k + 1, x3, x29, x114000, x114001, x114002, x114003, x114004 => if x29 = true then (some (some 11)) else (if x114004 < 0 then (some (some 11)) else (if x114004 > x3 then (some (some 11)) else (if x114004 > 20 then (some (some 11)) else (some none))))
end
def rabin_Check.f (k : Nat) (a0_0 : Int) (a0_1 : Int) (a0_2 : Int) (a0_3 : Int) (a0_4 : Int) : Option (Option Int) := (poly_Deg.f a0_0).bind fun t114 => (if t114 < 8 then (rabin_Check.j0 k t114 true a0_0 a0_1 a0_2 a0_3 a0_4) else (if t114 > 55 then (rabin_Check.j0 k t114 true a0_0 a0_1 a0_2 a0_3 a0_4) else ((poly_Irreducible.f k a0_0).bind fun t115 => (rabin_Check.j0 k t114 (!t115) a0_0 a0_1 a0_2 a0_3 a0_4))))
theorem rabin_Check.mono_l : ∀ k, (∀ y0 y1 y2 y3 y4 y5 y6, LeO (rabin_Check.j0 k y0 y1 y2 y3 y4 y5 y6) (rabin_Check.j0 (k + 1) y0 y1 y2 y3 y4 y5 y6)) ∧ (∀ y0 y1 y2 y3 y4 y5 y6, LeO (rabin_Check.j1 k y0 y1 y2 y3 y4 y5 y6) (rabin_Check.j1 (k + 1) y0 y1 y2 y3 y4 y5 y6)) ∧ (∀ y0 y1 y2 y3 y4 y5 y6, LeO (rabin_Check.j2 k y0 y1 y2 y3 y4 y5 y6) (rabin_Check.j2 (k + 1) y0 y1 y2 y3 y4 y5 y6))
  | 0 => ⟨fun _ _ _ _ _ _ _ r h => by simp [rabin_Check.j0] at h, fun _ _ _ _ _ _ _ r h => by simp [rabin_Check.j1] at h, fun _ _ _ _ _ _ _ r h => by simp [rabin_Check.j2] at h⟩
  | k + 1 => by
    obtain ⟨ih0, ih1, ih2⟩ := rabin_Check.mono_l k
    refine ⟨?_, ?_, ?_⟩
    · intro y0 y1 y2 y3 y4 y5 y6
      unfold rabin_Check.j0
      repeat' first
      | (with_reducible exact ih0 _ _ _ _ _ _ _)
      | (with_reducible exact ih1 _ _ _ _ _ _ _)
      | (with_reducible exact ih2 _ _ _ _ _ _ _)
      | (with_reducible exact poly_Irreducible.mono _ _)
      | (with_reducible exact LeO.refl _)
      | (with_reducible exact LeO.none _)
      | (with_reducible refine LeO.ite ?_ ?_)
      | (with_reducible refine LeO.bind ?_ (fun _ => ?_))
      | exact ih0 _ _ _ _ _ _ _
      | exact ih1 _ _ _ _ _ _ _
      | exact ih2 _ _ _ _ _ _ _
      | exact poly_Irreducible.mono _ _
      | exact LeO.none _
      | refine LeO.ite ?_ ?_
      | refine LeO.bind ?_ (fun _ => ?_)
    · intro y0 y1 y2 y3 y4 y5 y6
      unfold rabin_Check.j1
      repeat' first
      | (with_reducible exact ih0 _ _ _ _ _ _ _)
      | (with_reducible exact ih1 _ _ _ _ _ _ _)
      | (with_reducible exact ih2 _ _ _ _ _ _ _)
      | (with_reducible exact poly_Irreducible.mono _ _)
      | (with_reducible exact LeO.refl _)
      | (with_reducible exact LeO.none _)
      | (with_reducible refine LeO.ite ?_ ?_)
      | (with_reducible refine LeO.bind ?_ (fun _ => ?_))
      | exact ih0 _ _ _ _ _ _ _
      | exact ih1 _ _ _ _ _ _ _
      | exact ih2 _ _ _ _ _ _ _
      | exact poly_Irreducible.mono _ _
      | exact LeO.none _
      | refine LeO.ite ?_ ?_
      | refine LeO.bind ?_ (fun _ => ?_)
    · intro y0 y1 y2 y3 y4 y5 y6
      unfold rabin_Check.j2
      repeat' first
      | (with_reducible exact ih0 _ _ _ _ _ _ _)
      | (with_reducible exact ih1 _ _ _ _ _ _ _)
      | (with_reducible exact ih2 _ _ _ _ _ _ _)
      | (with_reducible exact poly_Irreducible.mono _ _)
      | (with_reducible exact LeO.refl _)
      | (with_reducible exact LeO.none _)
      | (with_reducible refine LeO.ite ?_ ?_)
      | (with_reducible refine LeO.bind ?_ (fun _ => ?_))
      | exact ih0 _ _ _ _ _ _ _
      | exact ih1 _ _ _ _ _ _ _
      | exact ih2 _ _ _ _ _ _ _
      | exact poly_Irreducible.mono _ _
      | exact LeO.none _
      | refine LeO.ite ?_ ?_
      | refine LeO.bind ?_ (fun _ => ?_)
theorem rabin_Check.mono : ∀ a0 a1 a2 a3 a4 k, LeO (rabin_Check.f k a0 a1 a2 a3 a4) (rabin_Check.f (k + 1) a0 a1 a2 a3 a4) := by
  intro a0 a1 a2 a3 a4 k
  obtain ⟨ih0, ih1, ih2⟩ := rabin_Check.mono_l k
  unfold rabin_Check.f
  repeat' first
      | (with_reducible exact ih0 _ _ _ _ _ _ _)
      | (with_reducible exact ih1 _ _ _ _ _ _ _)
      | (with_reducible exact ih2 _ _ _ _ _ _ _)
      | (with_reducible exact poly_Irreducible.mono _ _)
      | (with_reducible exact LeO.refl _)
      | (with_reducible exact LeO.none _)
      | (with_reducible refine LeO.ite ?_ ?_)
      | (with_reducible refine LeO.bind ?_ (fun _ => ?_))
      | exact ih0 _ _ _ _ _ _ _
      | exact ih1 _ _ _ _ _ _ _
      | exact ih2 _ _ _ _ _ _ _
      | exact poly_Irreducible.mono _ _
      | exact LeO.none _
      | refine LeO.ite ?_ ?_
      | refine LeO.bind ?_ (fun _ => ?_)
set_option maxHeartbeats 8000000 in
set_option maxRecDepth 100000 in
theorem rabin_Check.calls (k : Nat) (a0_0 : Int) (a0_1 : Int) (a0_2 : Int) (a0_3 : Int) (a0_4 : Int) (r : Option Int) (w : World) (h : rabin_Check.f k a0_0 a0_1 a0_2 a0_3 a0_4 = some r) :
    Calls Try.prog 17 #[.agg #[.int .u64 a0_0, .int .i64 a0_1, .int .i64 a0_2, .int .i64 a0_3, .int .i64 a0_4]] w fun e w' => e = .returned (errW r) ∧ Below w.heap.size w w' := by
  have hu24 := Try.underlying24
  have hu31 := Try.underlying31
  have hu43 := Try.underlying43
  have HB := Aside0.mk (Below.refl w.heap.size w)
  have H : ((poly_Deg.f a0_0).bind fun t114 => (if t114 < 8 then (rabin_Check.j0 k t114 true a0_0 a0_1 a0_2 a0_3 a0_4) else (if t114 > 55 then (rabin_Check.j0 k t114 true a0_0 a0_1 a0_2 a0_3 a0_4) else ((poly_Irreducible.f k a0_0).bind fun t115 => (rabin_Check.j0 k t114 (!t115) a0_0 a0_1 a0_2 a0_3 a0_4))))) = some r := h
  clear h
  replace H := Option.bind_eq_some_iff.mp H
  obtain ⟨t114, A20, H⟩ := H
  replace H : (if t114 < 8 then (rabin_Check.j0 k t114 true a0_0 a0_1 a0_2 a0_3 a0_4) else (if t114 > 55 then (rabin_Check.j0 k t114 true a0_0 a0_1 a0_2 a0_3 a0_4) else ((poly_Irreducible.f k a0_0).bind fun t115 => (rabin_Check.j0 k t114 (!t115) a0_0 a0_1 a0_2 a0_3 a0_4)))) = some r := H
  have A2 := Aside0.mk A20
  clear A20
  have HC3 := Aside0.mk H
  clear H
  go_enter Try.func17, Try.ntmps17
  go_upto_region 3 with (first | ((with_reducible refine gate_dst (N := 1) rfl ?_); refine box_event ?hg (N := 1) ?hd (cs := #[.int .u64 a0_0, .int .i64 a0_1, .int .i64 a0_2, .int .i64 a0_3, .int .i64 a0_4]) (t := 24) ?hr ?_; (case hd => rfl); (case hg => rfl); (case hr => first | (go_simp; done) | (go_simp; rfl)); intro gb113 hg w4 hbox hb; have n0_ := Aside0.mk (below_step (by repeat (first | (with_reducible first | exact HB.out | apply below_alloc | apply pw_below_drewN | apply below_drew1) | exact HB.out)) hb); have n1_ := Aside0.mk (hbox); have n2_ := Aside0.mk ((by rw [hg]; exact (below_size (by repeat (first | (with_reducible first | exact HB.out | apply below_alloc | apply pw_below_drewN | apply below_drew1) | exact HB.out))) : w.heap.size ≤ gb113)); have n3_ := Aside0.mk ((by rw [hg]; exact (below_size (by repeat (first | (with_reducible first | exact HB.out | apply below_alloc | apply pw_below_drewN | apply below_drew1) | exact HB.out))) : w.heap.size ≤ gb113)); clear HB; have HB := n0_; have BK113 := n1_; have GW113 := n2_; have GE113 := n3_; clear n0_ n1_ n2_ n3_; clear hb hbox hg; have hcz5_0 : w4.cell? ⟨gb113, 0, none⟩ = some (.int .u64 a0_0) := (blk_cell BK113.out 0).trans rfl; have hcz5_1 : w4.cell? ⟨gb113, 1, none⟩ = some (.int .i64 a0_1) := (blk_cell BK113.out 1).trans rfl; have hcz5_2 : w4.cell? ⟨gb113, 2, none⟩ = some (.int .i64 a0_2) := (blk_cell BK113.out 2).trans rfl; have hcz5_3 : w4.cell? ⟨gb113, 3, none⟩ = some (.int .i64 a0_3) := (blk_cell BK113.out 3).trans rfl; have hcz5_4 : w4.cell? ⟨gb113, 4, none⟩ = some (.int .i64 a0_4) := (blk_cell BK113.out 4).trans rfl; have hfz5_0 := blk_frozen BK113.out 0; have hfz5_1 := blk_frozen BK113.out 1; have hfz5_2 := blk_frozen BK113.out 2; have hfz5_3 := blk_frozen BK113.out 3; have hfz5_4 := blk_frozen BK113.out 4) | ((with_reducible refine gate_callee (f := 31) rfl ?_); refine goesL_ (some 6) rfl rfl Try.func31 (by kernel_rfl) rfl #[.int .u64 a0_0] rfl (by (try simp only [List.map_toArray, List.map_cons, List.map_nil]); first | done | rfl | (simp only [List.length_drop, List.length_take]; rfl)) ?_; (with_reducible refine (poly_Deg.calls a0_0 t114 _ A2.out).mono ?_); rintro e w' ⟨rfl, ⟨nd, rfl⟩⟩; refine ⟨_, rfl, ?_⟩))
  (try simp only [Act.put, List.setIfInBounds_toArray, List.set_cons_zero, List.set_cons_succ])
  go_cut [7] (fun v7 wc => ∃ (kq : Nat) (x7_2 : Bool), v7 = .bool x7_2 ∧ Aside0 (rabin_Check.j0 kq t114 x7_2 a0_0 a0_1 a0_2 a0_3 a0_4 = some r) ∧ Aside0 (kq ≤ k) ∧ Aside0 (wc.heap[gb113]? = some (.cells #[.int .u64 a0_0, .int .i64 a0_1, .int .i64 a0_2, .int .i64 a0_3, .int .i64 a0_4] 24 (0, 0))) ∧ Aside0 (Below w.heap.size w wc))
  case first =>
    have H := HC3.out
    clear HC3
    by_cases c6 : t114 < 8
    · rw [if_pos c6] at H
      have c6b0 : decide (t114 < 8) = true := decide_eq_true c6
      clear c6
      (first | rw [c6b0] | (simp only [i64_w, i32_w]; rw [c6b0]) | rw [c6b1] | skip)
      have H' := Aside0.mk H
      clear H
      go_wp2
      go_meet
      case rel => exact ⟨_, (true), (by first | rfl | (simp; done) | (simp [*]; done)), H', ⟨by first | omega | exact Nat.le_refl _⟩, ⟨by (with_reducible repeat (first | refine blk_drewN ?_ _ | refine blk_drew ?_ | refine blk_alloc ?_ _)); exact BK113.out⟩, ⟨by repeat (first | (with_reducible first | exact HB.out | apply below_alloc | apply pw_below_drewN | apply below_drew1 | refine below_set ?_ GE113.out) | exact HB.out)⟩⟩
    · rw [if_neg c6] at H
      have c6b0 : decide (t114 < 8) = false := decide_eq_false c6
      clear c6
      (first | rw [c6b0] | (simp only [i64_w, i32_w]; rw [c6b0]) | rw [c6b1] | skip)
      by_cases c7 : t114 > 55
      · rw [if_pos c7] at H
        have c7b0 : decide (55 < t114) = true := decide_eq_true c7
        clear c7
        have H' := Aside0.mk H
        clear H
        go_wp2
        go_meet
        case rel => exact ⟨_, (true), (by first | rfl | (simp; done) | (simp [*]; done)), H', ⟨by first | omega | exact Nat.le_refl _⟩, ⟨by (with_reducible repeat (first | refine blk_drewN ?_ _ | refine blk_drew ?_ | refine blk_alloc ?_ _)); exact BK113.out⟩, ⟨by repeat (first | (with_reducible first | exact HB.out | apply below_alloc | apply pw_below_drewN | apply below_drew1 | refine below_set ?_ GE113.out) | exact HB.out)⟩⟩
      · rw [if_neg c7] at H
        have c7b0 : decide (55 < t114) = false := decide_eq_false c7
        clear c7
        replace H := Option.bind_eq_some_iff.mp H
        obtain ⟨t115, A80, H⟩ := H
        replace H : (rabin_Check.j0 k t114 (!t115) a0_0 a0_1 a0_2 a0_3 a0_4) = some r := H
        have A8 := Aside0.mk A80
        clear A80
        have H' := Aside0.mk H
        clear H
        have hcz9_0 : w4.cell? ⟨gb113, 0, none⟩ = some (.int .u64 a0_0) := (blk_cell BK113.out 0).trans rfl
        have hcz9_1 : w4.cell? ⟨gb113, 1, none⟩ = some (.int .i64 a0_1) := (blk_cell BK113.out 1).trans rfl
        have hcz9_2 : w4.cell? ⟨gb113, 2, none⟩ = some (.int .i64 a0_2) := (blk_cell BK113.out 2).trans rfl
        have hcz9_3 : w4.cell? ⟨gb113, 3, none⟩ = some (.int .i64 a0_3) := (blk_cell BK113.out 3).trans rfl
        have hcz9_4 : w4.cell? ⟨gb113, 4, none⟩ = some (.int .i64 a0_4) := (blk_cell BK113.out 4).trans rfl
        have hfz9_0 := blk_frozen BK113.out 0
        have hfz9_1 := blk_frozen BK113.out 1
        have hfz9_2 := blk_frozen BK113.out 2
        have hfz9_3 := blk_frozen BK113.out 3
        have hfz9_4 := blk_frozen BK113.out 4
        go_wp2_with (first | (go_at_call 32; (with_reducible refine (poly_Irreducible.calls k a0_0 t115 _ A8.out).mono ?_); rintro e w10 ⟨rfl, hb⟩; have n0_ := Aside0.mk (blk_below (g := gb113) (o := .cells #[.int .u64 a0_0, .int .i64 a0_1, .int .i64 a0_2, .int .i64 a0_3, .int .i64 a0_4] 24 (0, 0)) (by (with_reducible repeat (first | refine blk_drewN ?_ _ | refine blk_drew ?_ | refine blk_alloc ?_ _)); exact BK113.out) hb); have n1_ := Aside0.mk (below_step (by repeat (first | (with_reducible first | exact HB.out | apply below_alloc | apply pw_below_drewN | apply below_drew1 | refine below_set ?_ GE113.out) | exact HB.out)) hb); clear BK113; clear HB; have BK113 := n0_; have HB := n1_; clear n0_ n1_; (try clear hb); (try clear hb2); (try clear hk); (try clear hi)))
        go_meet
        case rel => exact ⟨_, (!t115), (by first | rfl | (simp; done) | (simp [*]; done)), H', ⟨by first | omega | exact Nat.le_refl _⟩, ⟨by (with_reducible repeat (first | refine blk_drewN ?_ _ | refine blk_drew ?_ | refine blk_alloc ?_ _)); exact BK113.out⟩, ⟨by repeat (first | (with_reducible first | exact HB.out | apply below_alloc | apply pw_below_drewN | apply below_drew1 | refine below_set ?_ GE113.out) | exact HB.out)⟩⟩
  case rest =>
    clear HC3
    try clear c1
    try clear p2
    try clear c3
    try clear c6
    try clear c6b0
    try clear c7
    try clear c7b0
    try clear hcz5_0
    try clear hcz5_1
    try clear hcz5_2
    try clear hcz5_3
    try clear hcz5_4
    try clear hcz9_0
    try clear hcz9_1
    try clear hcz9_2
    try clear hcz9_3
    try clear hcz9_4
    try clear hfz5_0
    try clear hfz5_1
    try clear hfz5_2
    try clear hfz5_3
    try clear hfz5_4
    try clear hfz9_0
    try clear hfz9_1
    try clear hfz9_2
    try clear hfz9_3
    try clear hfz9_4
    obtain ⟨kq, x7_2, rfl, HA, HJ2, BK113, HB⟩ := hcut
    cases kq with
    | zero => exact absurd HA.out (by simp [rabin_Check.j0])
    | succ kj2 =>
      have H := HA.out
      clear HA
      simp only [rabin_Check.j0] at H
      by_cases c11 : x7_2 = true
      · subst c11
        have H1 : (some (some 11)) = some r := by rw [if_pos rfl] at H; exact H
        clear H
        have H := H1
        clear H1
        obtain rfl := Option.some.inj H
        go_wp2
        go_ret
        exact ⟨by first | rfl | (simp [errW_none, errW_some] <;> rfl) | (simp [*, errW_none, errW_some] <;> rfl), by repeat (first | (with_reducible first | exact HB.out | apply below_alloc | apply pw_below_drewN | apply below_drew1 | refine below_set ?_ GE113.out) | exact HB.out)⟩
      · replace c11 := Bool.eq_false_iff.mpr c11
        subst c11
        have H1 : (if a0_1 < 1 then (rabin_Check.j1 kj2 t114 true a0_0 a0_1 a0_2 a0_3 a0_4) else (rabin_Check.j1 kj2 t114 (decide (a0_1 > 64)) a0_0 a0_1 a0_2 a0_3 a0_4)) = some r := by rw [if_neg (show ¬ (false = true) by decide)] at H; exact H
        clear H
        have H := H1
        clear H1
        have HC12 := Aside0.mk H
        clear H
        go_upto_region 4 with (fail)
        go_cut [20] (fun v20 wc => ∃ (kq : Nat) (x20_11 : Bool), v20 = .bool x20_11 ∧ Aside0 (rabin_Check.j1 kq t114 x20_11 a0_0 a0_1 a0_2 a0_3 a0_4 = some r) ∧ Aside0 (kq ≤ kj2) ∧ Aside0 (wc.heap[gb113]? = some (.cells #[.int .u64 a0_0, .int .i64 a0_1, .int .i64 a0_2, .int .i64 a0_3, .int .i64 a0_4] 24 (0, 0))) ∧ Aside0 (Below w.heap.size w wc))
        case first =>
          have H := HC12.out
          clear HC12
          by_cases c13 : a0_1 < 1
          · rw [if_pos c13] at H
            have c13b0 : decide (a0_1 < 1) = true := decide_eq_true c13
            clear c13
            (first | rw [c13b0] | (simp only [i64_w, i32_w]; rw [c13b0]) | rw [c13b1] | skip)
            have H' := Aside0.mk H
            clear H
            have hcz14_0 : wc.cell? ⟨gb113, 0, none⟩ = some (.int .u64 a0_0) := (blk_cell BK113.out 0).trans rfl
            have hcz14_1 : wc.cell? ⟨gb113, 1, none⟩ = some (.int .i64 a0_1) := (blk_cell BK113.out 1).trans rfl
            have hcz14_2 : wc.cell? ⟨gb113, 2, none⟩ = some (.int .i64 a0_2) := (blk_cell BK113.out 2).trans rfl
            have hcz14_3 : wc.cell? ⟨gb113, 3, none⟩ = some (.int .i64 a0_3) := (blk_cell BK113.out 3).trans rfl
            have hcz14_4 : wc.cell? ⟨gb113, 4, none⟩ = some (.int .i64 a0_4) := (blk_cell BK113.out 4).trans rfl
            have hfz14_0 := blk_frozen BK113.out 0
            have hfz14_1 := blk_frozen BK113.out 1
            have hfz14_2 := blk_frozen BK113.out 2
            have hfz14_3 := blk_frozen BK113.out 3
            have hfz14_4 := blk_frozen BK113.out 4
            go_wp2
            go_meet
            case rel => exact ⟨_, (true), (by first | rfl | (simp; done) | (simp [*]; done)), H', ⟨by have := HJ2.out; first | omega | exact Nat.le_refl _⟩, ⟨by (with_reducible repeat (first | refine blk_drewN ?_ _ | refine blk_drew ?_ | refine blk_alloc ?_ _)); exact BK113.out⟩, ⟨by repeat (first | (with_reducible first | exact HB.out | apply below_alloc | apply pw_below_drewN | apply below_drew1 | refine below_set ?_ GE113.out) | exact HB.out)⟩⟩
          · rw [if_neg c13] at H
            have c13b0 : decide (a0_1 < 1) = false := decide_eq_false c13
            clear c13
            (first | rw [c13b0] | (simp only [i64_w, i32_w]; rw [c13b0]) | rw [c13b1] | skip)
            have H' := Aside0.mk H
            clear H
            have hcz15_0 : wc.cell? ⟨gb113, 0, none⟩ = some (.int .u64 a0_0) := (blk_cell BK113.out 0).trans rfl
            have hcz15_1 : wc.cell? ⟨gb113, 1, none⟩ = some (.int .i64 a0_1) := (blk_cell BK113.out 1).trans rfl
            have hcz15_2 : wc.cell? ⟨gb113, 2, none⟩ = some (.int .i64 a0_2) := (blk_cell BK113.out 2).trans rfl
            have hcz15_3 : wc.cell? ⟨gb113, 3, none⟩ = some (.int .i64 a0_3) := (blk_cell BK113.out 3).trans rfl
            have hcz15_4 : wc.cell? ⟨gb113, 4, none⟩ = some (.int .i64 a0_4) := (blk_cell BK113.out 4).trans rfl
            have hfz15_0 := blk_frozen BK113.out 0
            have hfz15_1 := blk_frozen BK113.out 1
            have hfz15_2 := blk_frozen BK113.out 2
            have hfz15_3 := blk_frozen BK113.out 3
            have hfz15_4 := blk_frozen BK113.out 4
            go_wp2
            go_meet
            case rel => exact ⟨_, (decide (a0_1 > 64)), (by first | rfl | (simp; done) | (simp [*]; done)), H', ⟨by have := HJ2.out; first | omega | exact Nat.le_refl _⟩, ⟨by (with_reducible repeat (first | refine blk_drewN ?_ _ | refine blk_drew ?_ | refine blk_alloc ?_ _)); exact BK113.out⟩, ⟨by repeat (first | (with_reducible first | exact HB.out | apply below_alloc | apply pw_below_drewN | apply below_drew1 | refine below_set ?_ GE113.out) | exact HB.out)⟩⟩
        case rest =>
          clear HC12
          try clear c1
          try clear p2
          try clear c3
          try clear c6
          try clear c6b0
          try clear c7
          try clear c7b0
          try clear c11
          try clear c13
          try clear c13b0
          try clear hcz14_0
          try clear hcz14_1
          try clear hcz14_2
          try clear hcz14_3
          try clear hcz14_4
          try clear hcz15_0
          try clear hcz15_1
          try clear hcz15_2
          try clear hcz15_3
          try clear hcz15_4
          try clear hcz5_0
          try clear hcz5_1
          try clear hcz5_2
          try clear hcz5_3
          try clear hcz5_4
          try clear hcz9_0
          try clear hcz9_1
          try clear hcz9_2
          try clear hcz9_3
          try clear hcz9_4
          try clear hfz14_0
          try clear hfz14_1
          try clear hfz14_2
          try clear hfz14_3
          try clear hfz14_4
          try clear hfz15_0
          try clear hfz15_1
          try clear hfz15_2
          try clear hfz15_3
          try clear hfz15_4
          try clear hfz5_0
          try clear hfz5_1
          try clear hfz5_2
          try clear hfz5_3
          try clear hfz5_4
          try clear hfz9_0
          try clear hfz9_1
          try clear hfz9_2
          try clear hfz9_3
          try clear hfz9_4
          try clear p2
          obtain ⟨kq, x20_11, rfl, HA, HJ11, BK113, HB⟩ := hcut
          cases kq with
          | zero => exact absurd HA.out (by simp [rabin_Check.j1])
          | succ kj11 =>
            have H := HA.out
            clear HA
            simp only [rabin_Check.j1] at H
            by_cases c16 : x20_11 = true
            · subst c16
              have H1 : (some (some 11)) = some r := by rw [if_pos rfl] at H; exact H
              clear H
              have H := H1
              clear H1
              obtain rfl := Option.some.inj H
              go_wp2
              go_ret
              exact ⟨by first | rfl | (simp [errW_none, errW_some] <;> rfl) | (simp [*, errW_none, errW_some] <;> rfl), by repeat (first | (with_reducible first | exact HB.out | apply below_alloc | apply pw_below_drewN | apply below_drew1 | refine below_set ?_ GE113.out) | exact HB.out)⟩
            · replace c16 := Bool.eq_false_iff.mpr c16
              subst c16
              have H1 : (if a0_2 < a0_1 then (rabin_Check.j2 kj11 t114 true a0_0 a0_1 a0_2 a0_3 a0_4) else (if a0_3 < a0_2 then (rabin_Check.j2 kj11 t114 true a0_0 a0_1 a0_2 a0_3 a0_4) else (rabin_Check.j2 kj11 t114 (decide (a0_3 > 65536)) a0_0 a0_1 a0_2 a0_3 a0_4))) = some r := by rw [if_neg (show ¬ (false = true) by decide)] at H; exact H
              clear H
              have H := H1
              clear H1
              have HC17 := Aside0.mk H
              clear H
              go_upto_region 5 with (fail)
              go_cut [29] (fun v29 wc => ∃ (kq : Nat) (x29_16 : Bool), v29 = .bool x29_16 ∧ Aside0 (rabin_Check.j2 kq t114 x29_16 a0_0 a0_1 a0_2 a0_3 a0_4 = some r) ∧ Aside0 (kq ≤ kj11) ∧ Aside0 (wc.heap[gb113]? = some (.cells #[.int .u64 a0_0, .int .i64 a0_1, .int .i64 a0_2, .int .i64 a0_3, .int .i64 a0_4] 24 (0, 0))) ∧ Aside0 (Below w.heap.size w wc))
              case first =>
                have H := HC17.out
                clear HC17
                by_cases c18 : a0_2 < a0_1
                · rw [if_pos c18] at H
                  have c18b0 : decide (a0_2 < a0_1) = true := decide_eq_true c18
                  clear c18
                  (first | rw [c18b0] | (simp only [i64_w, i32_w]; rw [c18b0]) | rw [c18b1] | skip)
                  have H' := Aside0.mk H
                  clear H
                  have hcz19_0 : wc.cell? ⟨gb113, 0, none⟩ = some (.int .u64 a0_0) := (blk_cell BK113.out 0).trans rfl
                  have hcz19_1 : wc.cell? ⟨gb113, 1, none⟩ = some (.int .i64 a0_1) := (blk_cell BK113.out 1).trans rfl
                  have hcz19_2 : wc.cell? ⟨gb113, 2, none⟩ = some (.int .i64 a0_2) := (blk_cell BK113.out 2).trans rfl
                  have hcz19_3 : wc.cell? ⟨gb113, 3, none⟩ = some (.int .i64 a0_3) := (blk_cell BK113.out 3).trans rfl
                  have hcz19_4 : wc.cell? ⟨gb113, 4, none⟩ = some (.int .i64 a0_4) := (blk_cell BK113.out 4).trans rfl
                  have hfz19_0 := blk_frozen BK113.out 0
                  have hfz19_1 := blk_frozen BK113.out 1
                  have hfz19_2 := blk_frozen BK113.out 2
                  have hfz19_3 := blk_frozen BK113.out 3
                  have hfz19_4 := blk_frozen BK113.out 4
                  go_wp2
                  go_meet
                  case rel => exact ⟨_, (true), (by first | rfl | (simp; done) | (simp [*]; done)), H', ⟨by have := HJ2.out; have := HJ11.out; first | omega | exact Nat.le_refl _⟩, ⟨by (with_reducible repeat (first | refine blk_drewN ?_ _ | refine blk_drew ?_ | refine blk_alloc ?_ _)); exact BK113.out⟩, ⟨by repeat (first | (with_reducible first | exact HB.out | apply below_alloc | apply pw_below_drewN | apply below_drew1 | refine below_set ?_ GE113.out) | exact HB.out)⟩⟩
                · rw [if_neg c18] at H
                  have c18b0 : decide (a0_2 < a0_1) = false := decide_eq_false c18
                  clear c18
                  (first | rw [c18b0] | (simp only [i64_w, i32_w]; rw [c18b0]) | rw [c18b1] | skip)
                  by_cases c20 : a0_3 < a0_2
                  · rw [if_pos c20] at H
                    have c20b0 : decide (a0_3 < a0_2) = true := decide_eq_true c20
                    clear c20
                    have H' := Aside0.mk H
                    clear H
                    have hcz21_0 : wc.cell? ⟨gb113, 0, none⟩ = some (.int .u64 a0_0) := (blk_cell BK113.out 0).trans rfl
                    have hcz21_1 : wc.cell? ⟨gb113, 1, none⟩ = some (.int .i64 a0_1) := (blk_cell BK113.out 1).trans rfl
                    have hcz21_2 : wc.cell? ⟨gb113, 2, none⟩ = some (.int .i64 a0_2) := (blk_cell BK113.out 2).trans rfl
                    have hcz21_3 : wc.cell? ⟨gb113, 3, none⟩ = some (.int .i64 a0_3) := (blk_cell BK113.out 3).trans rfl
                    have hcz21_4 : wc.cell? ⟨gb113, 4, none⟩ = some (.int .i64 a0_4) := (blk_cell BK113.out 4).trans rfl
                    have hfz21_0 := blk_frozen BK113.out 0
                    have hfz21_1 := blk_frozen BK113.out 1
                    have hfz21_2 := blk_frozen BK113.out 2
                    have hfz21_3 := blk_frozen BK113.out 3
                    have hfz21_4 := blk_frozen BK113.out 4
                    go_wp2
                    go_meet
                    case rel => exact ⟨_, (true), (by first | rfl | (simp; done) | (simp [*]; done)), H', ⟨by have := HJ2.out; have := HJ11.out; first | omega | exact Nat.le_refl _⟩, ⟨by (with_reducible repeat (first | refine blk_drewN ?_ _ | refine blk_drew ?_ | refine blk_alloc ?_ _)); exact BK113.out⟩, ⟨by repeat (first | (with_reducible first | exact HB.out | apply below_alloc | apply pw_below_drewN | apply below_drew1 | refine below_set ?_ GE113.out) | exact HB.out)⟩⟩
                  · rw [if_neg c20] at H
                    have c20b0 : decide (a0_3 < a0_2) = false := decide_eq_false c20
                    clear c20
                    have H' := Aside0.mk H
                    clear H
                    have hcz22_0 : wc.cell? ⟨gb113, 0, none⟩ = some (.int .u64 a0_0) := (blk_cell BK113.out 0).trans rfl
                    have hcz22_1 : wc.cell? ⟨gb113, 1, none⟩ = some (.int .i64 a0_1) := (blk_cell BK113.out 1).trans rfl
                    have hcz22_2 : wc.cell? ⟨gb113, 2, none⟩ = some (.int .i64 a0_2) := (blk_cell BK113.out 2).trans rfl
                    have hcz22_3 : wc.cell? ⟨gb113, 3, none⟩ = some (.int .i64 a0_3) := (blk_cell BK113.out 3).trans rfl
                    have hcz22_4 : wc.cell? ⟨gb113, 4, none⟩ = some (.int .i64 a0_4) := (blk_cell BK113.out 4).trans rfl
                    have hfz22_0 := blk_frozen BK113.out 0
                    have hfz22_1 := blk_frozen BK113.out 1
                    have hfz22_2 := blk_frozen BK113.out 2
                    have hfz22_3 := blk_frozen BK113.out 3
                    have hfz22_4 := blk_frozen BK113.out 4
                    go_wp2
                    go_meet
                    case rel => exact ⟨_, (decide (a0_3 > 65536)), (by first | rfl | (simp; done) | (simp [*]; done)), H', ⟨by have := HJ2.out; have := HJ11.out; first | omega | exact Nat.le_refl _⟩, ⟨by (with_reducible repeat (first | refine blk_drewN ?_ _ | refine blk_drew ?_ | refine blk_alloc ?_ _)); exact BK113.out⟩, ⟨by repeat (first | (with_reducible first | exact HB.out | apply below_alloc | apply pw_below_drewN | apply below_drew1 | refine below_set ?_ GE113.out) | exact HB.out)⟩⟩
              case rest =>
                clear HC17
                try clear c1
                try clear c2
                try clear p2
                try clear c3
                try clear c6
                try clear c6b0
                try clear c7
                try clear c7b0
                try clear c11
                try clear c13
                try clear c13b0
                try clear c16
                try clear c17
                try clear c18
                try clear c18b0
                try clear c20
                try clear c20b0
                try clear hcz14_0
                try clear hcz14_1
                try clear hcz14_2
                try clear hcz14_3
                try clear hcz14_4
                try clear hcz15_0
                try clear hcz15_1
                try clear hcz15_2
                try clear hcz15_3
                try clear hcz15_4
                try clear hcz19_0
                try clear hcz19_1
                try clear hcz19_2
                try clear hcz19_3
                try clear hcz19_4
                try clear hcz21_0
                try clear hcz21_1
                try clear hcz21_2
                try clear hcz21_3
                try clear hcz21_4
                try clear hcz22_0
                try clear hcz22_1
                try clear hcz22_2
                try clear hcz22_3
                try clear hcz22_4
                try clear hcz5_0
                try clear hcz5_1
                try clear hcz5_2
                try clear hcz5_3
                try clear hcz5_4
                try clear hcz9_0
                try clear hcz9_1
                try clear hcz9_2
                try clear hcz9_3
                try clear hcz9_4
                try clear hfz14_0
                try clear hfz14_1
                try clear hfz14_2
                try clear hfz14_3
                try clear hfz14_4
                try clear hfz15_0
                try clear hfz15_1
                try clear hfz15_2
                try clear hfz15_3
                try clear hfz15_4
                try clear hfz19_0
                try clear hfz19_1
                try clear hfz19_2
                try clear hfz19_3
                try clear hfz19_4
                try clear hfz21_0
                try clear hfz21_1
                try clear hfz21_2
                try clear hfz21_3
                try clear hfz21_4
                try clear hfz22_0
                try clear hfz22_1
                try clear hfz22_2
                try clear hfz22_3
                try clear hfz22_4
                try clear hfz5_0
                try clear hfz5_1
                try clear hfz5_2
                try clear hfz5_3
                try clear hfz5_4
                try clear hfz9_0
                try clear hfz9_1
                try clear hfz9_2
                try clear hfz9_3
                try clear hfz9_4
                try clear p2
                obtain ⟨kq, x29_16, rfl, HA, HJ16, BK113, HB⟩ := hcut
                cases kq with
                | zero => exact absurd HA.out (by simp [rabin_Check.j2])
                | succ kj16 =>
                  have H := HA.out
                  clear HA
                  simp only [rabin_Check.j2] at H
                  by_cases c23 : x29_16 = true
                  · subst c23
                    have H1 : (some (some 11)) = some r := by rw [if_pos rfl] at H; exact H
                    clear H
                    have H := H1
                    clear H1
                    obtain rfl := Option.some.inj H
                    go_wp2
                    go_ret
                    exact ⟨by first | rfl | (simp [errW_none, errW_some] <;> rfl) | (simp [*, errW_none, errW_some] <;> rfl), by repeat (first | (with_reducible first | exact HB.out | apply below_alloc | apply pw_below_drewN | apply below_drew1 | refine below_set ?_ GE113.out) | exact HB.out)⟩
                  · replace c23 := Bool.eq_false_iff.mpr c23
                    subst c23
                    have H1 : (if a0_4 < 0 then (some (some 11)) else (if a0_4 > t114 then (some (some 11)) else (if a0_4 > 20 then (some (some 11)) else (some none)))) = some r := by rw [if_neg (show ¬ (false = true) by decide)] at H; exact H
                    clear H
                    have H := H1
                    clear H1
                    by_cases c24 : a0_4 < 0
                    · rw [if_pos c24] at H
                      have c24b0 : decide (a0_4 < 0) = true := decide_eq_true c24
                      clear c24
                      obtain rfl := Option.some.inj H
                      have hcz25_0 : wc.cell? ⟨gb113, 0, none⟩ = some (.int .u64 a0_0) := (blk_cell BK113.out 0).trans rfl
                      have hcz25_1 : wc.cell? ⟨gb113, 1, none⟩ = some (.int .i64 a0_1) := (blk_cell BK113.out 1).trans rfl
                      have hcz25_2 : wc.cell? ⟨gb113, 2, none⟩ = some (.int .i64 a0_2) := (blk_cell BK113.out 2).trans rfl
                      have hcz25_3 : wc.cell? ⟨gb113, 3, none⟩ = some (.int .i64 a0_3) := (blk_cell BK113.out 3).trans rfl
                      have hcz25_4 : wc.cell? ⟨gb113, 4, none⟩ = some (.int .i64 a0_4) := (blk_cell BK113.out 4).trans rfl
                      have hfz25_0 := blk_frozen BK113.out 0
                      have hfz25_1 := blk_frozen BK113.out 1
                      have hfz25_2 := blk_frozen BK113.out 2
                      have hfz25_3 := blk_frozen BK113.out 3
                      have hfz25_4 := blk_frozen BK113.out 4
                      go_wp2
                      go_ret
                      exact ⟨by first | rfl | (simp [errW_none, errW_some] <;> rfl) | (simp [*, errW_none, errW_some] <;> rfl), by repeat (first | (with_reducible first | exact HB.out | apply below_alloc | apply pw_below_drewN | apply below_drew1 | refine below_set ?_ GE113.out) | exact HB.out)⟩
                    · rw [if_neg c24] at H
                      have c24b0 : decide (a0_4 < 0) = false := decide_eq_false c24
                      clear c24
                      by_cases c26 : a0_4 > t114
                      · rw [if_pos c26] at H
                        have c26b0 : decide (t114 < a0_4) = true := decide_eq_true c26
                        clear c26
                        obtain rfl := Option.some.inj H
                        have hcz27_0 : wc.cell? ⟨gb113, 0, none⟩ = some (.int .u64 a0_0) := (blk_cell BK113.out 0).trans rfl
                        have hcz27_1 : wc.cell? ⟨gb113, 1, none⟩ = some (.int .i64 a0_1) := (blk_cell BK113.out 1).trans rfl
                        have hcz27_2 : wc.cell? ⟨gb113, 2, none⟩ = some (.int .i64 a0_2) := (blk_cell BK113.out 2).trans rfl
                        have hcz27_3 : wc.cell? ⟨gb113, 3, none⟩ = some (.int .i64 a0_3) := (blk_cell BK113.out 3).trans rfl
                        have hcz27_4 : wc.cell? ⟨gb113, 4, none⟩ = some (.int .i64 a0_4) := (blk_cell BK113.out 4).trans rfl
                        have hfz27_0 := blk_frozen BK113.out 0
                        have hfz27_1 := blk_frozen BK113.out 1
                        have hfz27_2 := blk_frozen BK113.out 2
                        have hfz27_3 := blk_frozen BK113.out 3
                        have hfz27_4 := blk_frozen BK113.out 4
                        go_wp2
                        go_ret
                        exact ⟨by first | rfl | (simp [errW_none, errW_some] <;> rfl) | (simp [*, errW_none, errW_some] <;> rfl), by repeat (first | (with_reducible first | exact HB.out | apply below_alloc | apply pw_below_drewN | apply below_drew1 | refine below_set ?_ GE113.out) | exact HB.out)⟩
                      · rw [if_neg c26] at H
                        have c26b0 : decide (t114 < a0_4) = false := decide_eq_false c26
                        clear c26
                        by_cases c28 : a0_4 > 20
                        · rw [if_pos c28] at H
                          have c28b0 : decide (20 < a0_4) = true := decide_eq_true c28
                          clear c28
                          obtain rfl := Option.some.inj H
                          have hcz29_0 : wc.cell? ⟨gb113, 0, none⟩ = some (.int .u64 a0_0) := (blk_cell BK113.out 0).trans rfl
                          have hcz29_1 : wc.cell? ⟨gb113, 1, none⟩ = some (.int .i64 a0_1) := (blk_cell BK113.out 1).trans rfl
                          have hcz29_2 : wc.cell? ⟨gb113, 2, none⟩ = some (.int .i64 a0_2) := (blk_cell BK113.out 2).trans rfl
                          have hcz29_3 : wc.cell? ⟨gb113, 3, none⟩ = some (.int .i64 a0_3) := (blk_cell BK113.out 3).trans rfl
                          have hcz29_4 : wc.cell? ⟨gb113, 4, none⟩ = some (.int .i64 a0_4) := (blk_cell BK113.out 4).trans rfl
                          have hfz29_0 := blk_frozen BK113.out 0
                          have hfz29_1 := blk_frozen BK113.out 1
                          have hfz29_2 := blk_frozen BK113.out 2
                          have hfz29_3 := blk_frozen BK113.out 3
                          have hfz29_4 := blk_frozen BK113.out 4
                          go_wp2
                          go_ret
                          exact ⟨by first | rfl | (simp [errW_none, errW_some] <;> rfl) | (simp [*, errW_none, errW_some] <;> rfl), by repeat (first | (with_reducible first | exact HB.out | apply below_alloc | apply pw_below_drewN | apply below_drew1 | refine below_set ?_ GE113.out) | exact HB.out)⟩
                        · rw [if_neg c28] at H
                          have c28b0 : decide (20 < a0_4) = false := decide_eq_false c28
                          clear c28
                          obtain rfl := Option.some.inj H
                          have hcz30_0 : wc.cell? ⟨gb113, 0, none⟩ = some (.int .u64 a0_0) := (blk_cell BK113.out 0).trans rfl
                          have hcz30_1 : wc.cell? ⟨gb113, 1, none⟩ = some (.int .i64 a0_1) := (blk_cell BK113.out 1).trans rfl
                          have hcz30_2 : wc.cell? ⟨gb113, 2, none⟩ = some (.int .i64 a0_2) := (blk_cell BK113.out 2).trans rfl
                          have hcz30_3 : wc.cell? ⟨gb113, 3, none⟩ = some (.int .i64 a0_3) := (blk_cell BK113.out 3).trans rfl
                          have hcz30_4 : wc.cell? ⟨gb113, 4, none⟩ = some (.int .i64 a0_4) := (blk_cell BK113.out 4).trans rfl
                          have hfz30_0 := blk_frozen BK113.out 0
                          have hfz30_1 := blk_frozen BK113.out 1
                          have hfz30_2 := blk_frozen BK113.out 2
                          have hfz30_3 := blk_frozen BK113.out 3
                          have hfz30_4 := blk_frozen BK113.out 4
                          go_wp2
                          go_ret
                          exact ⟨by first | rfl | (simp [errW_none, errW_some] <;> rfl) | (simp [*, errW_none, errW_some] <;> rfl), by repeat (first | (with_reducible first | exact HB.out | apply below_alloc | apply pw_below_drewN | apply below_drew1 | refine below_set ?_ GE113.out) | exact HB.out)⟩

end Go.Proofs.Ytoofafgnlgaajaa.PRabin
