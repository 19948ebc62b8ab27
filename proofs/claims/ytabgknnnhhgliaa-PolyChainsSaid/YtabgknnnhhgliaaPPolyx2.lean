/- Printed for this claim by a copy of the kit's print.py that takes functions walked by our own texts. Conditions: none. -/
import Derived.Test.YtabgknnnhhgliaaPPolyx0
import Derived.Test.YtabgknnnhhgliaaPPolyx1
namespace Go.Proofs.Ytabgknnnhhgliaa.PPoly
open Go.RowKit Go.Proofs.YtabgknnnhhgliaaW.PrintWords Go.Proofs.YtabgknnnhhgliaaW.PrintLast Go.Proofs.YtabgknnnhhgliaaW.PrintMore
attribute [local go_sem] max2_int min2_int max_two min_two max_three min_three max_four min_four   -- for this text's walks alone
set_option linter.unusedVariables false
set_option linter.unusedSimpArgs false

/-! ### poly_Irreducible: function 10 -/
/-- The closure's loop: p, how often, the value, the round. -/
def poly_sq.l0 : Nat → Int → Int → Int → Int → Option (Int)
  | 0, _, _, _, _ => none
  | k + 1, x0, x1, x4, x8 => if x8 < x1 then ((poly_mulMod.f k x0 x4 x4).bind fun t1 => (poly_sq.l0 k x0 x1 t1 (wrap64 (x8 + 1)))) else (some x4)
/-- The closure: x^(2^times) by p. -/
def poly_sq.f (k : Nat) (a0 : Int) (a1 : Int) : Option (Int) := (poly_mod.f k 0 2 a0).bind fun t1 => (poly_sq.l0 k a0 a1 t1 0)
def poly_Irreducible.l0 : Nat → Int → Int → List Int → Int → Option (Bool)
  | 0, _, _, _, _ => none
  | k + 1, x0, x3, x13, x15 => if x15 < (x13.length : Int) then (if 0 ≤ x15 then (if rd x13 x15 = 0 then none else ((poly_sq.f k x0 (wrap64 (Int.tdiv x3 (rd x13 x15)))).bind fun t1 => ((poly_mod.f k 0 2 x0).bind fun t2 => ((poly_Gcd.f k [x0, Go.bits .xor .u64 t1 t2]).bind fun t3 => (if t3 = 1 then (poly_Irreducible.l0 k x0 x3 x13 (wrap64 (x15 + 1))) else (some false)))))) else (none)) else ((poly_sq.f k x0 x3).bind fun t4 => ((poly_mod.f k 0 2 x0).bind fun t5 => (some (t4 == t5))))
def poly_Irreducible.f (k : Nat) (a0 : Int) : Option (Bool) := (poly_Deg.f a0).bind fun t1 => (if t1 < 1 then (some false) else ((poly_primes.f k t1).bind fun t2 => (poly_Irreducible.l0 k a0 t1 t2 0)))
theorem poly_sq.mono_l : ∀ k, (∀ y0 y1 y2 y3, LeO (poly_sq.l0 k y0 y1 y2 y3) (poly_sq.l0 (k + 1) y0 y1 y2 y3))
  | 0 => fun _ _ _ _ r h => by simp [poly_sq.l0] at h
  | k + 1 => by
    have ih0 := poly_sq.mono_l k
    intro y0 y1 y2 y3
    unfold poly_sq.l0
    refine LeO.ite (LeO.bind (poly_mulMod.mono _ _ _ _) (fun _ => ih0 _ _ _ _)) (LeO.refl _)
theorem poly_sq.mono : ∀ a0 a1 k, LeO (poly_sq.f k a0 a1) (poly_sq.f (k + 1) a0 a1) := by
  intro a0 a1 k
  unfold poly_sq.f
  exact LeO.bind (poly_mod.mono _ _ _ _) (fun _ => poly_sq.mono_l k _ _ _ _)
theorem poly_Irreducible.mono_l : ∀ k, (∀ y0 y1 y2 y3, LeO (poly_Irreducible.l0 k y0 y1 y2 y3) (poly_Irreducible.l0 (k + 1) y0 y1 y2 y3))
  | 0 => fun _ _ _ _ r h => by simp [poly_Irreducible.l0] at h
  | k + 1 => by
    have ih0 := poly_Irreducible.mono_l k
    intro y0 y1 y2 y3
    unfold poly_Irreducible.l0
    refine LeO.ite (LeO.ite (LeO.ite (LeO.refl _) (LeO.bind (poly_sq.mono _ _ _) (fun _ => LeO.bind (poly_mod.mono _ _ _ _) (fun _ => LeO.bind (poly_Gcd.mono _ _) (fun _ => LeO.ite (ih0 _ _ _ _) (LeO.refl _)))))) (LeO.refl _)) ?_
    exact LeO.bind (poly_sq.mono _ _ _) (fun _ => LeO.bind (poly_mod.mono _ _ _ _) (fun _ => LeO.refl _))
theorem poly_Irreducible.mono : ∀ a0 k, LeO (poly_Irreducible.f k a0) (poly_Irreducible.f (k + 1) a0) := by
  intro a0 k
  unfold poly_Irreducible.f
  exact LeO.bind (LeO.refl _) (fun _ => LeO.ite (LeO.refl _) (LeO.bind (poly_primes.mono _ _) (fun _ => poly_Irreducible.mono_l k _ _ _ _)))
set_option maxHeartbeats 8000000 in
set_option maxRecDepth 100000 in
theorem poly_sq.calls (k : Nat) (p n r : Int) (b : Nat) (w : World) (hc : w.cell? ⟨b, 0, none⟩ = some (.int .u64 p)) (hf : w.frozen? ⟨b, 0, none⟩ = false) (h : poly_sq.f k p n = some r) :
    Calls Try.prog 28 #[.int .i64 n, .pointer (some ⟨b, 0, none⟩)] w fun e w' => e = .returned (.int .u64 r) ∧ Drawn0 w w' := by
  unfold poly_sq.f at h
  obtain ⟨x0, A0, H⟩ := Option.bind_eq_some_iff.mp h
  clear h
  have A1 := Aside0.mk A0
  have H' := Aside0.mk H
  clear A0 H
  go_enter Try.func28, Try.ntmps28
  go_wp2_with (first | ((with_reducible refine gate_callee (f := 29) rfl ?_); refine goesL_ (some 6) rfl rfl Try.func29 (by kernel_rfl) rfl #[.int .u64 0, .int .u64 2, .int .u64 p] rfl (by (try simp only [List.map_toArray, List.map_cons, List.map_nil]); first | done | rfl | (simp only [List.length_drop, List.length_take]; rfl)) ?_; (with_reducible refine (poly_mod.calls k 0 2 p x0 _ A1.out).mono ?_); rintro e w' ⟨rfl, ⟨nd, rfl⟩⟩; refine ⟨_, rfl, ?_⟩))
  go_loopg [4, 8] k (fun kq v4 v8 w' => ∃ (x4 : Int) (x8 : Int), v4 = .int .u64 x4 ∧ v8 = .int .i64 x8 ∧ Aside0 (poly_sq.l0 kq p n x4 x8 = some r) ∧ Aside0 (kq ≤ k) ∧ Drawn0 w w')
  case atStart => exact ⟨x0, 0, rfl, rfl, H', ⟨Nat.le_refl _⟩, by repeat (first | exact Drawn0.refl _ | apply Drawn0.step)⟩
  case round =>
    clear H'
    obtain ⟨x4, x8, rfl, rfl, HA, HK1, ⟨m1, rfl⟩⟩ := hrel
    cases gk with
    | zero => exact absurd HA.out (by simp [poly_sq.l0])
    | succ k1 =>
      have H := HA.out
      clear HA
      simp only [poly_sq.l0] at H
      by_cases c5 : x8 < n
      · rw [if_pos c5] at H
        have c5b0 : decide (x8 < n) = true := decide_eq_true c5
        clear c5
        replace H := Option.bind_eq_some_iff.mp H
        obtain ⟨t1, A80, H⟩ := H
        have A8 := Aside0.mk A80
        clear A80
        have H' := Aside0.mk H
        clear H
        go_wp2_with (first | ((with_reducible refine gate_callee (f := 30) rfl ?_); refine goesL_ (some 13) rfl rfl Try.func30 (by kernel_rfl) rfl #[.int .u64 p, .int .u64 x4, .int .u64 x4] rfl (by (try simp only [List.map_toArray, List.map_cons, List.map_nil]); first | done | rfl | (simp only [List.length_drop, List.length_take]; rfl)) ?_; (with_reducible refine (poly_mulMod.calls k1 p x4 x4 t1 _ A8.out).mono ?_); rintro e w' ⟨rfl, ⟨nd, rfl⟩⟩; refine ⟨_, rfl, ?_⟩))
        go_roundg k1
        case measure => have := HK1.out; omega
        case rel => exact ⟨t1, (wrap64 (x8 + 1)), (by first | rfl | (simp; done) | (simp [*]; done)), (by first | rfl | (simp; done) | (simp [*]; done)), H', ⟨by have := HK1.out; omega⟩, by repeat (first | exact Drawn0.refl _ | apply Drawn0.step)⟩
      · rw [if_neg c5] at H
        have c5b0 : decide (x8 < n) = false := decide_eq_false c5
        clear c5
        obtain rfl := Option.some.inj H
        go_wp2
        go_ret
        exact ⟨by first | rfl | (simp; done) | (simp [*]; done), by repeat (first | exact Drawn0.refl _ | apply Drawn0.step)⟩
theorem C_pair (W : World) (x y : Int) : Kd.C (Kd.int .u64) (W.alloc (.cells #[.int .u64 x, .int .u64 y] 22)) (some ⟨W.heap.size, 0, none⟩) [x, y].length [x, y] := by
  have h := own_lit W W.heap.size 22 .u64 [x, y] (Nat.le_refl _) (by simp)
  have hR : Kd.R (Kd.int .u64) 22 (W.alloc (.cells (nums .u64 [x, y]).toArray 22)) W.heap.size (fun _ => True) (.slice (some ⟨W.heap.size, 0, none⟩) [x, y].length [x, y].length) [x, y] := Kd.R_of_own h (fun _ _ => trivial)
  exact (Kd.R_reads' hR).2.2
theorem alloc_at (w : World) (o : Obj) : (w.alloc o).heap[w.heap.size]? = some o := by
  show (w.heap.push o)[w.heap.size]? = some o
  exact Array.getElem?_push_size
theorem gcd_pair (k : Nat) (x y r : Int) (W : World) (A : Option Addr) (hC : Kd.C (Kd.int .u64) W A 2 [x, y]) (h : poly_Gcd.f k [x, y] = some r) :
    Calls Try.prog 16 #[.slice A 2 2] W fun e w' => e = .returned (.int .u64 r) ∧ Drawn0 W w' := poly_Gcd.calls k A 2 [x, y] r W hC (Nat.le_refl _) h
set_option maxHeartbeats 8000000 in
set_option maxRecDepth 100000 in
theorem poly_Irreducible.calls (k : Nat) (a0 : Int) (r : Bool) (w : World) (h : poly_Irreducible.f k a0 = some r) :
    Calls Try.prog 10 #[.int .u64 a0] w fun e w' => e = .returned (.bool r) ∧ Below w.heap.size w w' := by
  have HB := Aside0.mk (Below.refl w.heap.size w)
  unfold poly_Irreducible.f at h
  obtain ⟨n, A0, H⟩ := Option.bind_eq_some_iff.mp h
  clear h
  have A1 := Aside0.mk A0
  clear A0
  by_cases c1 : n < 1
  · rw [if_pos c1] at H
    have c1b0 : decide (n < 1) = true := decide_eq_true c1
    clear c1
    obtain rfl := Option.some.inj H
    go_enter Try.func10, Try.ntmps10
    go_wp2_with (first | ((with_reducible refine gate_callee (f := 19) rfl ?_); refine goesL_ (some 8) rfl rfl Try.func19 (by kernel_rfl) rfl #[.int .u64 a0] rfl (by (try simp only [List.map_toArray, List.map_cons, List.map_nil]); first | done | rfl | (simp only [List.length_drop, List.length_take]; rfl)) ?_; (with_reducible refine (poly_Deg.calls a0 n _ A1.out).mono ?_); rintro e w' ⟨rfl, ⟨nd, rfl⟩⟩; refine ⟨_, rfl, ?_⟩))
    go_ret
    exact ⟨by first | rfl | (simp; done) | (simp [*]; done), by repeat (first | (with_reducible first | exact HB.out | apply below_alloc | apply pw_below_drewN | apply below_drew1) | exact HB.out)⟩
  · rw [if_neg c1] at H
    have c1b0 : decide (n < 1) = false := decide_eq_false c1
    clear c1
    obtain ⟨l, A2, H⟩ := Option.bind_eq_some_iff.mp H
    have A3 := Aside0.mk A2
    clear A2
    have H' := Aside0.mk H
    clear H
    go_enter Try.func10, Try.ntmps10
    go_wp2_with (first | ((with_reducible refine gate_callee (f := 19) rfl ?_); refine goesL_ (some 8) rfl rfl Try.func19 (by kernel_rfl) rfl #[.int .u64 a0] rfl (by (try simp only [List.map_toArray, List.map_cons, List.map_nil]); first | done | rfl | (simp only [List.length_drop, List.length_take]; rfl)) ?_; (with_reducible refine (poly_Deg.calls a0 n _ A1.out).mono ?_); rintro e w' ⟨rfl, ⟨nd, rfl⟩⟩; refine ⟨_, rfl, ?_⟩) | ((with_reducible refine gate_callee (f := 31) rfl ?_); refine goesL_ (some 13) rfl rfl Try.func31 (by kernel_rfl) rfl #[.int .i64 n] rfl (by (try simp only [List.map_toArray, List.map_cons, List.map_nil]); first | done | rfl | (simp only [List.length_drop, List.length_take]; rfl)) ?_; (with_reducible refine (poly_primes.calls k n l _ A3.out).mono ?_); rintro e w1 ⟨v0, rfl, hown, hb⟩; refine ⟨_, rfl, ?_⟩; obtain ⟨A, c, rfl, hlc, hC⟩ := Kd.R_reads hown; have hbk : w1.heap[w.heap.size]? = some (.cells #[.int .u64 a0] 22 (0, 0)) := blk_below (blk_drewN (alloc_at w _) _) hb; have hB1 : Below w.heap.size w w1 := below_step (by repeat (first | (with_reducible first | exact HB.out | apply below_alloc | apply pw_below_drewN | apply below_drew1) | exact HB.out)) hb; clear hb hown; have BK := Aside0.mk hbk; have HC := Aside0.mk hC; have HL := Aside0.mk hlc; clear hbk hC hlc HB; have HB := Aside0.mk hB1; clear hB1))
    generalize w.heap.size = g at BK
    go_loopg [15] k (fun kq v15 w' => ∃ x15 : Int, v15 = .int .i64 x15 ∧ Aside0 (poly_Irreducible.l0 kq a0 n l x15 = some r) ∧ Aside0 (kq ≤ k) ∧ Aside0 (w'.heap[g]? = some (.cells #[.int .u64 a0] 22 (0, 0))) ∧ Aside0 (Kd.C (Kd.int .i64) w' A l.length l) ∧ Aside0 (Below w.heap.size w w'))
    case atStart => exact ⟨0, by first | rfl | simp, H', ⟨Nat.le_refl _⟩, BK, HC, HB⟩
    case round =>
      clear H' BK HC HB
      obtain ⟨x15, rfl, HA, HK1, BK, HC, HB⟩ := hrel
      cases gk with
      | zero => exact absurd HA.out (by simp [poly_Irreducible.l0])
      | succ k1 =>
        have H := HA.out
        clear HA
        simp only [poly_Irreducible.l0] at H
        have hz := (blk_cell BK.out 0).trans (show _ = some (Value.int .u64 a0) from rfl)
        have hfz := blk_frozen BK.out 0
        by_cases c5 : x15 < (l.length : Int)
        · rw [if_pos c5] at H
          have c5b0 : decide (x15 < (l.length : Int)) = true := decide_eq_true c5
          by_cases c6 : 0 ≤ x15
          · rw [if_pos c6] at H
            have c6b0 : decide (0 ≤ x15) = true := decide_eq_true c6
            obtain ⟨ad, ead, hx⟩ := Kd.at_int HC.out x15 c6 c5
            obtain ⟨q, hq⟩ : ∃ q, rd l x15 = q := ⟨_, rfl⟩
            rw [hq] at H hx
            clear hq
            cases ead
            by_cases c7 : q = 0
            · rw [if_pos c7] at H; cases H
            rw [if_neg c7] at H
            have c7b0 : (q == 0) = false := beq_eq_false_iff_ne.mpr c7
            obtain ⟨t1, A1', H⟩ := Option.bind_eq_some_iff.mp H
            obtain ⟨t2, A2', H⟩ := Option.bind_eq_some_iff.mp H
            obtain ⟨t3, A3', H⟩ := Option.bind_eq_some_iff.mp H
            rw [← i64_w] at A1'
            have B1 := Aside0.mk A1'
            have B2 := Aside0.mk A2'
            have B3 := Aside0.mk A3'
            clear A1' A2' A3'
            by_cases c8 : t3 = 1
            · rw [if_pos c8] at H
              have H' := Aside0.mk H
              clear H
              have c8b0 : (t3 != 1) = false := bne_eq_false_iff_eq.mpr c8
              replace c5 := eq_true c5
              replace c6 := eq_true c6
              go_wp2
              go_region_with (first
                | (go_at_call 28; (with_reducible refine (poly_sq.calls k1 a0 (IntKind.i64.wrap (Int.tdiv n q)) t1 _ _ ?s1 ?s2 B1.out).mono ?_); (case s1 => go_simp); (case s2 => go_simp); rintro e w' ⟨rfl, ⟨nd, rfl⟩⟩)
                | (go_at_call 29; (with_reducible refine (poly_mod.calls k1 0 2 a0 t2 _ B2.out).mono ?_); rintro e w' ⟨rfl, ⟨nd, rfl⟩⟩)
                | (go_at_call 16; (with_reducible refine (gcd_pair k1 a0 (Go.bits .xor .u64 t1 t2) t3 _ _ ?s1 B3.out).mono ?_); (case s1 => exact C_pair _ _ _); rintro e w' ⟨rfl, ⟨nd, rfl⟩⟩))
              all_goals
                clear c8
                go_wp2
                go_roundg k1
                case measure => have := HK1.out; omega
                case rel => exact ⟨wrap64 (x15 + 1), (by first | rfl | (simp; done) | (simp [*]; done)), H', ⟨by have := HK1.out; omega⟩, ⟨by repeat (first | exact BK.out | refine blk_drewN ?_ _ | refine blk_drew ?_ | refine blk_alloc ?_ _)⟩, ⟨by repeat (first | exact HC.out | (with_reducible refine Kd.C_alloc ?_ _) | (with_reducible refine Kd.C_drewN ?_ _) | (with_reducible refine Kd.C_drew ?_))⟩, ⟨by repeat (first | (with_reducible first | exact HB.out | apply below_alloc | apply pw_below_drewN | apply below_drew1) | exact HB.out)⟩⟩
            · rw [if_neg c8] at H
              obtain rfl := Option.some.inj H
              have c8b0 : (t3 != 1) = true := bne_iff_ne.mpr c8
              clear c8 H
              replace c5 := eq_true c5
              replace c6 := eq_true c6
              go_wp2
              go_region_with (first
                | (go_at_call 28; (with_reducible refine (poly_sq.calls k1 a0 (IntKind.i64.wrap (Int.tdiv n q)) t1 _ _ ?s1 ?s2 B1.out).mono ?_); (case s1 => go_simp); (case s2 => go_simp); rintro e w' ⟨rfl, ⟨nd, rfl⟩⟩)
                | (go_at_call 29; (with_reducible refine (poly_mod.calls k1 0 2 a0 t2 _ B2.out).mono ?_); rintro e w' ⟨rfl, ⟨nd, rfl⟩⟩)
                | (go_at_call 16; (with_reducible refine (gcd_pair k1 a0 (Go.bits .xor .u64 t1 t2) t3 _ _ ?s1 B3.out).mono ?_); (case s1 => exact C_pair _ _ _); rintro e w' ⟨rfl, ⟨nd, rfl⟩⟩))
              all_goals
                go_wp2
                go_ret
                exact ⟨by first | rfl | (simp; done) | (simp [*]; done), by repeat (first | (with_reducible first | exact HB.out | apply below_alloc | apply pw_below_drewN | apply below_drew1) | exact HB.out)⟩
          · rw [if_neg c6] at H; cases H
        · rw [if_neg c5] at H
          have c5b0 : decide (x15 < (l.length : Int)) = false := decide_eq_false c5
          clear c5
          obtain ⟨t4, A4', H⟩ := Option.bind_eq_some_iff.mp H
          obtain ⟨t5, A5', H⟩ := Option.bind_eq_some_iff.mp H
          have B4 := Aside0.mk A4'
          have B5 := Aside0.mk A5'
          clear A4' A5'
          obtain rfl := Option.some.inj H
          clear H
          go_wp2
          go_region_with (first
            | (go_at_call 28; (with_reducible refine (poly_sq.calls k1 a0 n t4 _ _ ?s1 ?s2 B4.out).mono ?_); (case s1 => go_simp); (case s2 => go_simp); rintro e w' ⟨rfl, ⟨nd, rfl⟩⟩)
            | (go_at_call 29; (with_reducible refine (poly_mod.calls k1 0 2 a0 t5 _ B5.out).mono ?_); rintro e w' ⟨rfl, ⟨nd, rfl⟩⟩))
          all_goals
            go_wp2
            go_ret
            exact ⟨by first | rfl | (simp; done) | (simp [*]; done), by repeat (first | (with_reducible first | exact HB.out | apply below_alloc | apply pw_below_drewN | apply below_drew1) | exact HB.out)⟩


/-! ### poly_MulMod: function 22 -/
def poly_MulMod.l0 : Nat → Int → Int → List Int → Int → Int → Option (Int × Option Int)
  | 0, _, _, _, _, _ => none
  | k + 1, x0, x6, x14, x15, x16 => if x16 < x15 then (if 0 ≤ x16 then (if x16 < (x14.length : Int) then ((poly_mulMod.f k x0 x6 (rd x14 x16)).bind fun t115 => (poly_MulMod.l0 k x0 t115 x14 x15 (wrap64 (x16 + 1)))) else (none)) else (none)) else (some (x6, none))
def poly_MulMod.f (k : Nat) (a0 : Int) (l1 : List Int) : Option (Int × Option Int) := if a0 = 0 then (some (0, some 27)) else ((poly_mod.f k 0 1 a0).bind fun t113 => (poly_MulMod.l0 k a0 t113 l1 (l1.length : Int) 0))
theorem poly_MulMod.mono_l : ∀ k, (∀ y0 y1 y2 y3 y4, LeO (poly_MulMod.l0 k y0 y1 y2 y3 y4) (poly_MulMod.l0 (k + 1) y0 y1 y2 y3 y4))
  | 0 => fun _ _ _ _ _ r h => by simp [poly_MulMod.l0] at h
  | k + 1 => by
    have ih0 := poly_MulMod.mono_l k
    · intro y0 y1 y2 y3 y4
      unfold poly_MulMod.l0
      repeat' first
      | (with_reducible exact ih0 _ _ _ _ _)
      | (with_reducible exact poly_mod.mono _ _ _ _)
      | (with_reducible exact poly_mulMod.mono _ _ _ _)
      | (with_reducible exact LeO.refl _)
      | (with_reducible exact LeO.none _)
      | (with_reducible refine LeO.ite ?_ ?_)
      | (with_reducible refine LeO.bind ?_ (fun _ => ?_))
      | exact ih0 _ _ _ _ _
      | exact poly_mod.mono _ _ _ _
      | exact poly_mulMod.mono _ _ _ _
      | exact LeO.none _
      | refine LeO.ite ?_ ?_
      | refine LeO.bind ?_ (fun _ => ?_)
theorem poly_MulMod.mono : ∀ a0 a1 k, LeO (poly_MulMod.f k a0 a1) (poly_MulMod.f (k + 1) a0 a1) := by
  intro a0 a1 k
  have ih0 := poly_MulMod.mono_l k
  unfold poly_MulMod.f
  repeat' first
      | (with_reducible exact ih0 _ _ _ _ _)
      | (with_reducible exact poly_mod.mono _ _ _ _)
      | (with_reducible exact poly_mulMod.mono _ _ _ _)
      | (with_reducible exact LeO.refl _)
      | (with_reducible exact LeO.none _)
      | (with_reducible refine LeO.ite ?_ ?_)
      | (with_reducible refine LeO.bind ?_ (fun _ => ?_))
      | exact ih0 _ _ _ _ _
      | exact poly_mod.mono _ _ _ _
      | exact poly_mulMod.mono _ _ _ _
      | exact LeO.none _
      | refine LeO.ite ?_ ?_
      | refine LeO.bind ?_ (fun _ => ?_)
set_option maxHeartbeats 8000000 in
set_option maxRecDepth 100000 in
theorem poly_MulMod.calls (k : Nat) (a0 : Int) (A1 : Option Addr) (c1 : Nat) (l1 : List Int) (r1 : Int) (r2 : Option Int) (w : World) (hr1 : Kd.C (Kd.int .u64) w A1 l1.length l1) (hc1 : l1.length ≤ c1) (h : poly_MulMod.f k a0 l1 = some (r1, r2)) :
    Calls Try.prog 22 #[.int .u64 a0, .slice A1 l1.length c1] w fun e w' => e = .returned (.tuple #[.int .u64 r1, errW r2]) ∧ Drawn0 w w' := by
  have hu35 := Try.underlying35
  have hu39 := Try.underlying39
  have HR1 := Aside0.mk hr1
  have HC1 := Aside0.mk hc1
  clear hr1 hc1
  have H : (if a0 = 0 then (some (0, some 27)) else ((poly_mod.f k 0 1 a0).bind fun t113 => (poly_MulMod.l0 k a0 t113 l1 (l1.length : Int) 0))) = some (r1, r2) := h
  clear h
  by_cases c3 : a0 = 0
  · rw [if_pos c3] at H
    have c3b0 : (a0 == 0) = true := beq_iff_eq.mpr c3
    have c3b1 : (a0 != 0) = false := bne_eq_false_iff_eq.mpr c3
    clear c3
    simp only [Option.some.injEq, Prod.mk.injEq] at H
    obtain ⟨rfl, rfl⟩ := H
    go_enter Try.func22, Try.ntmps22
    go_wp2
    go_ret2
    exact ⟨by first | rfl | (simp; done) | (simp [*]; done), by repeat (first | exact Drawn0.refl _ | apply Drawn0.step)⟩
  · rw [if_neg c3] at H
    have c3b0 : (a0 == 0) = false := beq_eq_false_iff_ne.mpr c3
    have c3b1 : (a0 != 0) = true := bne_iff_ne.mpr c3
    replace H := Option.bind_eq_some_iff.mp H
    obtain ⟨t113, A40, H⟩ := H
    replace H : (poly_MulMod.l0 k a0 t113 l1 (l1.length : Int) 0) = some (r1, r2) := H
    have A4 := Aside0.mk A40
    clear A40
    have H' := Aside0.mk H
    clear H
    go_enter Try.func22, Try.ntmps22
    go_wp2_with (first | ((with_reducible refine gate_callee (f := 29) rfl ?_); refine goesL_ (some 13) rfl rfl Try.func29 (by kernel_rfl) rfl #[.int .u64 0, .int .u64 1, .int .u64 a0] rfl (by (try simp only [List.map_toArray, List.map_cons, List.map_nil]); first | done | rfl | (simp only [List.length_drop, List.length_take]; rfl)) ?_; (with_reducible refine (poly_mod.calls k 0 1 a0 t113 _ A4.out).mono ?_); rintro e w' ⟨rfl, ⟨nd, rfl⟩⟩; refine ⟨_, rfl, ?_⟩))
    go_loopg [6, 16] k (fun kq v6 v16 w' => ∃ (x6_1 : Int) (x16_1 : Int), v6 = .int .u64 x6_1 ∧ v16 = .int .i64 x16_1 ∧ Aside0 (poly_MulMod.l0 kq a0 x6_1 l1 (l1.length : Int) x16_1 = some (r1, r2)) ∧ Aside0 (kq ≤ k) ∧ Drawn0 w w')
    case atStart => exact ⟨(t113), (0), (by first | rfl | (simp; done) | (simp [*]; done)), (by first | rfl | (simp; done) | (simp [*]; done)), H', ⟨Nat.le_refl _⟩, by repeat (first | exact Drawn0.refl _ | apply Drawn0.step)⟩
    case round =>
      clear H'
      try clear c1
      try clear c2
      try clear p2
      try clear c3
      try clear c3b0
      try clear c3b1
      obtain ⟨x6_1, x16_1, rfl, rfl, HA, HK1, ⟨m1, rfl⟩⟩ := hrel
      cases gk with
      | zero => exact absurd HA.out (by simp [poly_MulMod.l0])
      | succ k1 =>
        have H := HA.out
        clear HA
        simp only [poly_MulMod.l0] at H
        by_cases c5 : x16_1 < (l1.length : Int)
        · rw [if_pos c5] at H
          have c5b0 : decide (x16_1 < (l1.length : Int)) = true := decide_eq_true c5
          clear c5
          by_cases c6 : 0 ≤ x16_1
          · rw [if_pos c6] at H
            have c6b0 : decide (0 ≤ x16_1) = true := decide_eq_true c6
            clear c6
            by_cases c7 : x16_1 < (l1.length : Int)
            · rw [if_pos c7] at H
              have c7b0 : decide (x16_1 < (l1.length : Int)) = true := decide_eq_true c7
              clear c7
              replace H := Option.bind_eq_some_iff.mp H
              obtain ⟨t115, A80, H⟩ := H
              replace H : (poly_MulMod.l0 k1 a0 t115 l1 (l1.length : Int) (wrap64 (x16_1 + 1))) = some (r1, r2) := H
              have A8 := Aside0.mk A80
              clear A80
              have H' := Aside0.mk H
              clear H
              have p114 : 0 ≤ (x16_1 : Int) := of_decide_eq_true (by first | (with_reducible assumption) | assumption)
              have q114 : x16_1 < (l1.length : Int) := of_decide_eq_true (by first | (with_reducible assumption) | assumption)
              obtain ⟨ad114, e114, hx114_0⟩ := Kd.at_int HR1.out x16_1 p114 q114
              cases e114
              replace p114 := eq_true p114
              replace q114 := eq_true q114
              go_wp2_with (first | ((with_reducible refine gate_callee (f := 30) rfl ?_); refine goesL_ (some 23) rfl rfl Try.func30 (by kernel_rfl) rfl #[.int .u64 a0, .int .u64 x6_1, .int .u64 (rd l1 x16_1)] rfl (by (try simp only [List.map_toArray, List.map_cons, List.map_nil]); first | done | rfl | (simp only [List.length_drop, List.length_take]; rfl)) ?_; (with_reducible refine (poly_mulMod.calls k1 a0 x6_1 (rd l1 x16_1) t115 _ A8.out).mono ?_); rintro e w' ⟨rfl, ⟨nd, rfl⟩⟩; refine ⟨_, rfl, ?_⟩))
              go_roundg k1
              case measure => have := HK1.out; omega
              case rel => exact ⟨(t115), (wrap64 (x16_1 + 1)), (by first | rfl | (simp; done) | (simp [*]; done)), (by first | rfl | (simp; done) | (simp [*]; done)), H', ⟨by have := HK1.out; omega⟩, by repeat (first | exact Drawn0.refl _ | apply Drawn0.step)⟩
            · rw [if_neg c7] at H
              exact absurd H (by simp)
          · rw [if_neg c6] at H
            exact absurd H (by simp)
        · rw [if_neg c5] at H
          have c5b0 : decide (x16_1 < (l1.length : Int)) = false := decide_eq_false c5
          clear c5
          simp only [Option.some.injEq, Prod.mk.injEq] at H
          obtain ⟨rfl, rfl⟩ := H
          go_wp2
          go_ret2
          exact ⟨by first | rfl | (simp; done) | (simp [*]; done), by repeat (first | exact Drawn0.refl _ | apply Drawn0.step)⟩

/-! ### amphoralaw06_alive: function 9 -/
def amphoralaw06_alive.f (k : Nat)  : Option (Bool) := (poly_MulMod.f k 283 (([87, 131] : List Int))).bind fun bt119 => (if bt119.1 = 193 then (if bt119.2.isNone = true then ((poly_Irreducible.f k 283).bind fun t122 => (if t122 = true then ((poly_Deg.f 283).bind fun t123 => (some (t123 == 8))) else (some false))) else (some false)) else (some false))
theorem amphoralaw06_alive.mono : ∀ k, LeO (amphoralaw06_alive.f k ) (amphoralaw06_alive.f (k + 1) ) := by
  intro  k
  unfold amphoralaw06_alive.f
  repeat' first
      | (with_reducible exact poly_Irreducible.mono _ _)
      | (with_reducible exact poly_MulMod.mono _ _ _)
      | (with_reducible exact LeO.refl _)
      | (with_reducible exact LeO.none _)
      | (with_reducible refine LeO.ite ?_ ?_)
      | (with_reducible refine LeO.bind ?_ (fun _ => ?_))
      | exact poly_Irreducible.mono _ _
      | exact poly_MulMod.mono _ _ _
      | exact LeO.none _
      | refine LeO.ite ?_ ?_
      | refine LeO.bind ?_ (fun _ => ?_)
set_option maxHeartbeats 8000000 in
set_option maxRecDepth 100000 in
theorem amphoralaw06_alive.calls (k : Nat)  (r : Bool) (w : World) (h : amphoralaw06_alive.f k  = some r) :
    Calls Try.prog 9 #[] w fun e w' => e = .returned (.bool r) ∧ Below w.heap.size w w' := by
  have hu35 := Try.underlying35
  have hu39 := Try.underlying39
  have HB := Aside0.mk (Below.refl w.heap.size w)
  have H : ((poly_MulMod.f k 283 (([87, 131] : List Int))).bind fun bt119 => (if bt119.1 = 193 then (if bt119.2.isNone = true then ((poly_Irreducible.f k 283).bind fun t122 => (if t122 = true then ((poly_Deg.f 283).bind fun t123 => (some (t123 == 8))) else (some false))) else (some false)) else (some false))) = some r := h
  clear h
  obtain ⟨y116, hy116⟩ : ∃ y_ : List Int, y_ = (([87, 131] : List Int)) := ⟨_, rfl⟩
  replace H : ((poly_MulMod.f k 283 y116).bind fun bt119 => (if bt119.1 = 193 then (if bt119.2.isNone = true then ((poly_Irreducible.f k 283).bind fun t122 => (if t122 = true then ((poly_Deg.f 283).bind fun t123 => (some (t123 == 8))) else (some false))) else (some false)) else (some false))) = some r := by first | (rw [hy116]; with_reducible exact H) | (have H2_ := (Option.bind_some _ _).symm.trans H; rw [hy116]; with_reducible exact H2_) | (have H2_ := (Option.bind_some _ _).symm.trans H; with_reducible exact H2_) | with_reducible exact H | (rw [hy116]; exact H) | exact H
  have Ny116 := Aside0.mk hy116
  clear hy116
  replace H := Option.bind_eq_some_iff.mp H
  obtain ⟨⟨t119, t120⟩, A10, H⟩ := H
  replace H : (if t119 = 193 then (if t120.isNone = true then ((poly_Irreducible.f k 283).bind fun t122 => (if t122 = true then ((poly_Deg.f 283).bind fun t123 => (some (t123 == 8))) else (some false))) else (some false)) else (some false)) = some r := H
  have A1 := Aside0.mk A10
  clear A10
  by_cases c2 : t119 = 193
  · rw [if_pos c2] at H
    have c2b0 : (t119 == 193) = true := beq_iff_eq.mpr c2
    have c2b1 : (t119 != 193) = false := bne_eq_false_iff_eq.mpr c2
    clear c2
    rcases t120 with _ | q121
    · have H1 : ((poly_Irreducible.f k 283).bind fun t122 => (if t122 = true then ((poly_Deg.f 283).bind fun t123 => (some (t123 == 8))) else (some false))) = some r := by rw [if_pos (show (none : Option Int).isNone = true by rfl)] at H; exact H
      clear H
      have H := H1
      clear H1
      try simp only [errW_none, errW_some]
      replace H := Option.bind_eq_some_iff.mp H
      obtain ⟨t122, A30, H⟩ := H
      replace H : (if t122 = true then ((poly_Deg.f 283).bind fun t123 => (some (t123 == 8))) else (some false)) = some r := H
      have A3 := Aside0.mk A30
      clear A30
      by_cases c4 : t122 = true
      · subst c4
        have H1 : ((poly_Deg.f 283).bind fun t123 => (some (t123 == 8))) = some r := by rw [if_pos rfl] at H; exact H
        clear H
        have H := H1
        clear H1
        replace H := Option.bind_eq_some_iff.mp H
        obtain ⟨t123, A50, H⟩ := H
        replace H : (some (t123 == 8)) = some r := H
        have A5 := Aside0.mk A50
        clear A50
        obtain rfl := Option.some.inj H
        go_enter Try.func9, Try.ntmps9
        go_wp2_with (first | ((with_reducible refine gate_dst (N := 4) rfl ?_); refine Kd.R_lit (Kd.int .u64) _ 22 ?hg (N := 4) ?hd (xs := ([87, 131] : List Int)) (inner := [.int .u64 87, .int .u64 131]) (ok := fun _ => True) (okp := fun _ => True) ?hr ?hp (fun _ hk => hk) trivial (Below.refl _ _) (Nat.le_refl _) (by simp) ?_; (case hd => rfl); (case hg => rfl); (case hr => first | (go_simp; done) | (go_simp; rfl)); (case hp => exact (Reps.one (show Kd.M (Kd.int .u64) _ _ _ 87 [.int .u64 87] from rfl) (Reps.one (show Kd.M (Kd.int .u64) _ _ _ 131 [.int .u64 131] from rfl) (Reps.none _ _)))); intro v117 w6 ho7 hb hg_ hnew_; clear hg_ hnew_; (first | rw [← Ny116.out] at ho7 | (simp only [Int.reduceToNat] at ho7; rw [← Ny116.out] at ho7)); have n0_ := Aside0.mk (Kd.R_lower ho7 (below_size (by repeat (first | (with_reducible first | exact HB.out | apply below_alloc | apply pw_below_drewN | apply below_drew1) | exact HB.out)))); have n1_ := Aside0.mk (below_step (by repeat (first | (with_reducible first | exact HB.out | apply below_alloc | apply pw_below_drewN | apply below_drew1) | exact HB.out)) hb); clear HB; have HO118 := n0_; have HB := n1_; clear n0_ n1_; clear hb ho7; obtain ⟨Ao8, co8, eo8⟩ := Kd.R_slice HO118.out; subst eo8) | ((with_reducible refine gate_callee (f := 22) rfl ?_); refine goesL_ (some 5) rfl rfl Try.func22 (by kernel_rfl) rfl #[.int .u64 283, .slice Ao8 y116.length co8] rfl (by (try simp only [List.map_toArray, List.map_cons, List.map_nil]); first | done | rfl | (simp only [List.length_drop, List.length_take]; rfl)) ?_; (with_reducible refine (poly_MulMod.calls k 283 _ _ y116 t119 none _ ?side1 ?side2 A1.out).mono ?_); (case side1 => repeat (first | exact (Kd.R_reads' HO118.out).2.2 | (with_reducible refine Kd.C_alloc ?_ _) | (with_reducible refine Kd.C_drewN ?_ _) | (with_reducible refine Kd.C_drew ?_))); (case side2 => exact (Kd.R_reads' HO118.out).2.1); rintro e w' ⟨rfl, ⟨nd, rfl⟩⟩; refine ⟨_, rfl, ?_⟩; (try simp only [errW_none, errW_some])) | (go_at_call 10; (with_reducible refine (poly_Irreducible.calls k 283 true _ A3.out).mono ?_); rintro e w9 ⟨rfl, hb⟩; have n0_ := Aside0.mk (Kd.R_below (by (with_reducible repeat (first | apply Kd.R_alloc | apply Kd.R_drewN | apply Kd.R_drew)); exact HO118.out) hb); have n1_ := Aside0.mk (below_step (by repeat (first | (with_reducible first | exact HB.out | apply below_alloc | apply pw_below_drewN | apply below_drew1) | exact HB.out)) hb); clear HO118; clear HB; have HO118 := n0_; have HB := n1_; clear n0_ n1_; (try clear hb); (try clear hb2); (try clear hk); (try clear hi)) | (go_at_call 19; (with_reducible refine (poly_Deg.calls 283 t123 _ A5.out).mono ?_); rintro e w' ⟨rfl, ⟨nd, rfl⟩⟩))
        go_ret
        exact ⟨by first | rfl | (simp [errW_none, errW_some] <;> rfl) | (simp [*, errW_none, errW_some] <;> rfl), by repeat (first | (with_reducible first | exact HB.out | apply below_alloc | apply pw_below_drewN | apply below_drew1) | exact HB.out)⟩
      · replace c4 := Bool.eq_false_iff.mpr c4
        subst c4
        have H1 : (some false) = some r := by rw [if_neg (show ¬ (false = true) by decide)] at H; exact H
        clear H
        have H := H1
        clear H1
        obtain rfl := Option.some.inj H
        go_enter Try.func9, Try.ntmps9
        go_wp2_with (first | ((with_reducible refine gate_dst (N := 4) rfl ?_); refine Kd.R_lit (Kd.int .u64) _ 22 ?hg (N := 4) ?hd (xs := ([87, 131] : List Int)) (inner := [.int .u64 87, .int .u64 131]) (ok := fun _ => True) (okp := fun _ => True) ?hr ?hp (fun _ hk => hk) trivial (Below.refl _ _) (Nat.le_refl _) (by simp) ?_; (case hd => rfl); (case hg => rfl); (case hr => first | (go_simp; done) | (go_simp; rfl)); (case hp => exact (Reps.one (show Kd.M (Kd.int .u64) _ _ _ 87 [.int .u64 87] from rfl) (Reps.one (show Kd.M (Kd.int .u64) _ _ _ 131 [.int .u64 131] from rfl) (Reps.none _ _)))); intro v117 w10 ho11 hb hg_ hnew_; clear hg_ hnew_; (first | rw [← Ny116.out] at ho11 | (simp only [Int.reduceToNat] at ho11; rw [← Ny116.out] at ho11)); have n0_ := Aside0.mk (Kd.R_lower ho11 (below_size (by repeat (first | (with_reducible first | exact HB.out | apply below_alloc | apply pw_below_drewN | apply below_drew1) | exact HB.out)))); have n1_ := Aside0.mk (below_step (by repeat (first | (with_reducible first | exact HB.out | apply below_alloc | apply pw_below_drewN | apply below_drew1) | exact HB.out)) hb); clear HB; have HO118 := n0_; have HB := n1_; clear n0_ n1_; clear hb ho11; obtain ⟨Ao12, co12, eo12⟩ := Kd.R_slice HO118.out; subst eo12) | ((with_reducible refine gate_callee (f := 22) rfl ?_); refine goesL_ (some 5) rfl rfl Try.func22 (by kernel_rfl) rfl #[.int .u64 283, .slice Ao12 y116.length co12] rfl (by (try simp only [List.map_toArray, List.map_cons, List.map_nil]); first | done | rfl | (simp only [List.length_drop, List.length_take]; rfl)) ?_; (with_reducible refine (poly_MulMod.calls k 283 _ _ y116 t119 none _ ?side1 ?side2 A1.out).mono ?_); (case side1 => repeat (first | exact (Kd.R_reads' HO118.out).2.2 | (with_reducible refine Kd.C_alloc ?_ _) | (with_reducible refine Kd.C_drewN ?_ _) | (with_reducible refine Kd.C_drew ?_))); (case side2 => exact (Kd.R_reads' HO118.out).2.1); rintro e w' ⟨rfl, ⟨nd, rfl⟩⟩; refine ⟨_, rfl, ?_⟩; (try simp only [errW_none, errW_some])) | (go_at_call 10; (with_reducible refine (poly_Irreducible.calls k 283 false _ A3.out).mono ?_); rintro e w13 ⟨rfl, hb⟩; have n0_ := Aside0.mk (Kd.R_below (by (with_reducible repeat (first | apply Kd.R_alloc | apply Kd.R_drewN | apply Kd.R_drew)); exact HO118.out) hb); have n1_ := Aside0.mk (below_step (by repeat (first | (with_reducible first | exact HB.out | apply below_alloc | apply pw_below_drewN | apply below_drew1) | exact HB.out)) hb); clear HO118; clear HB; have HO118 := n0_; have HB := n1_; clear n0_ n1_; (try clear hb); (try clear hb2); (try clear hk); (try clear hi)))
        go_ret
        exact ⟨by first | rfl | (simp [errW_none, errW_some] <;> rfl) | (simp [*, errW_none, errW_some] <;> rfl), by repeat (first | (with_reducible first | exact HB.out | apply below_alloc | apply pw_below_drewN | apply below_drew1) | exact HB.out)⟩
    · have H1 : (some false) = some r := by rw [if_neg (show ¬ (some q121).isNone = true by simp)] at H; exact H
      clear H
      have H := H1
      clear H1
      try simp only [errW_none, errW_some]
      obtain rfl := Option.some.inj H
      go_enter Try.func9, Try.ntmps9
      go_wp2_with (first | ((with_reducible refine gate_dst (N := 4) rfl ?_); refine Kd.R_lit (Kd.int .u64) _ 22 ?hg (N := 4) ?hd (xs := ([87, 131] : List Int)) (inner := [.int .u64 87, .int .u64 131]) (ok := fun _ => True) (okp := fun _ => True) ?hr ?hp (fun _ hk => hk) trivial (Below.refl _ _) (Nat.le_refl _) (by simp) ?_; (case hd => rfl); (case hg => rfl); (case hr => first | (go_simp; done) | (go_simp; rfl)); (case hp => exact (Reps.one (show Kd.M (Kd.int .u64) _ _ _ 87 [.int .u64 87] from rfl) (Reps.one (show Kd.M (Kd.int .u64) _ _ _ 131 [.int .u64 131] from rfl) (Reps.none _ _)))); intro v117 w14 ho15 hb hg_ hnew_; clear hg_ hnew_; (first | rw [← Ny116.out] at ho15 | (simp only [Int.reduceToNat] at ho15; rw [← Ny116.out] at ho15)); have n0_ := Aside0.mk (Kd.R_lower ho15 (below_size (by repeat (first | (with_reducible first | exact HB.out | apply below_alloc | apply pw_below_drewN | apply below_drew1) | exact HB.out)))); have n1_ := Aside0.mk (below_step (by repeat (first | (with_reducible first | exact HB.out | apply below_alloc | apply pw_below_drewN | apply below_drew1) | exact HB.out)) hb); clear HB; have HO118 := n0_; have HB := n1_; clear n0_ n1_; clear hb ho15; obtain ⟨Ao16, co16, eo16⟩ := Kd.R_slice HO118.out; subst eo16) | ((with_reducible refine gate_callee (f := 22) rfl ?_); refine goesL_ (some 5) rfl rfl Try.func22 (by kernel_rfl) rfl #[.int .u64 283, .slice Ao16 y116.length co16] rfl (by (try simp only [List.map_toArray, List.map_cons, List.map_nil]); first | done | rfl | (simp only [List.length_drop, List.length_take]; rfl)) ?_; (with_reducible refine (poly_MulMod.calls k 283 _ _ y116 t119 (some q121) _ ?side1 ?side2 A1.out).mono ?_); (case side1 => repeat (first | exact (Kd.R_reads' HO118.out).2.2 | (with_reducible refine Kd.C_alloc ?_ _) | (with_reducible refine Kd.C_drewN ?_ _) | (with_reducible refine Kd.C_drew ?_))); (case side2 => exact (Kd.R_reads' HO118.out).2.1); rintro e w' ⟨rfl, ⟨nd, rfl⟩⟩; refine ⟨_, rfl, ?_⟩; (try simp only [errW_none, errW_some])))
      go_ret
      exact ⟨by first | rfl | (simp [errW_none, errW_some] <;> rfl) | (simp [*, errW_none, errW_some] <;> rfl), by repeat (first | (with_reducible first | exact HB.out | apply below_alloc | apply pw_below_drewN | apply below_drew1) | exact HB.out)⟩
  · rw [if_neg c2] at H
    have c2b0 : (t119 == 193) = false := beq_eq_false_iff_ne.mpr c2
    have c2b1 : (t119 != 193) = true := bne_iff_ne.mpr c2
    obtain rfl := Option.some.inj H
    go_enter Try.func9, Try.ntmps9
    go_wp2_with (first | ((with_reducible refine gate_dst (N := 4) rfl ?_); refine Kd.R_lit (Kd.int .u64) _ 22 ?hg (N := 4) ?hd (xs := ([87, 131] : List Int)) (inner := [.int .u64 87, .int .u64 131]) (ok := fun _ => True) (okp := fun _ => True) ?hr ?hp (fun _ hk => hk) trivial (Below.refl _ _) (Nat.le_refl _) (by simp) ?_; (case hd => rfl); (case hg => rfl); (case hr => first | (go_simp; done) | (go_simp; rfl)); (case hp => exact (Reps.one (show Kd.M (Kd.int .u64) _ _ _ 87 [.int .u64 87] from rfl) (Reps.one (show Kd.M (Kd.int .u64) _ _ _ 131 [.int .u64 131] from rfl) (Reps.none _ _)))); intro v117 w17 ho18 hb hg_ hnew_; clear hg_ hnew_; (first | rw [← Ny116.out] at ho18 | (simp only [Int.reduceToNat] at ho18; rw [← Ny116.out] at ho18)); have n0_ := Aside0.mk (Kd.R_lower ho18 (below_size (by repeat (first | (with_reducible first | exact HB.out | apply below_alloc | apply pw_below_drewN | apply below_drew1) | exact HB.out)))); have n1_ := Aside0.mk (below_step (by repeat (first | (with_reducible first | exact HB.out | apply below_alloc | apply pw_below_drewN | apply below_drew1) | exact HB.out)) hb); clear HB; have HO118 := n0_; have HB := n1_; clear n0_ n1_; clear hb ho18; obtain ⟨Ao19, co19, eo19⟩ := Kd.R_slice HO118.out; subst eo19) | ((with_reducible refine gate_callee (f := 22) rfl ?_); refine goesL_ (some 5) rfl rfl Try.func22 (by kernel_rfl) rfl #[.int .u64 283, .slice Ao19 y116.length co19] rfl (by (try simp only [List.map_toArray, List.map_cons, List.map_nil]); first | done | rfl | (simp only [List.length_drop, List.length_take]; rfl)) ?_; (with_reducible refine (poly_MulMod.calls k 283 _ _ y116 t119 t120 _ ?side1 ?side2 A1.out).mono ?_); (case side1 => repeat (first | exact (Kd.R_reads' HO118.out).2.2 | (with_reducible refine Kd.C_alloc ?_ _) | (with_reducible refine Kd.C_drewN ?_ _) | (with_reducible refine Kd.C_drew ?_))); (case side2 => exact (Kd.R_reads' HO118.out).2.1); rintro e w' ⟨rfl, ⟨nd, rfl⟩⟩; refine ⟨_, rfl, ?_⟩; (try simp only [errW_none, errW_some])))
    go_ret
    exact ⟨by first | rfl | (simp [errW_none, errW_some] <;> rfl) | (simp [*, errW_none, errW_some] <;> rfl), by repeat (first | (with_reducible first | exact HB.out | apply below_alloc | apply pw_below_drewN | apply below_drew1) | exact HB.out)⟩

/-! ### amphoraref06_Deg: function 12 -/
def amphoraref06_Deg.l0 : Nat → Int → Int → Option (Int)
  | 0, _, _ => none
  | k + 1, x0, x3 => if x0 = 0 then (some x3) else (amphoraref06_Deg.l0 k (x0 / 2) (wrap64 (x3 + 1)))
def amphoraref06_Deg.f (k : Nat) (a0 : Int) : Option (Int) := amphoraref06_Deg.l0 k a0 (-1)
theorem amphoraref06_Deg.mono_l : ∀ k, (∀ y0 y1, LeO (amphoraref06_Deg.l0 k y0 y1) (amphoraref06_Deg.l0 (k + 1) y0 y1))
  | 0 => fun _ _ r h => by simp [amphoraref06_Deg.l0] at h
  | k + 1 => by
    have ih0 := amphoraref06_Deg.mono_l k
    · intro y0 y1
      unfold amphoraref06_Deg.l0
      repeat' first
      | (with_reducible exact ih0 _ _)
      | (with_reducible exact LeO.refl _)
      | (with_reducible exact LeO.none _)
      | (with_reducible refine LeO.ite ?_ ?_)
      | (with_reducible refine LeO.bind ?_ (fun _ => ?_))
      | exact ih0 _ _
      | exact LeO.none _
      | refine LeO.ite ?_ ?_
      | refine LeO.bind ?_ (fun _ => ?_)
theorem amphoraref06_Deg.mono : ∀ a0 k, LeO (amphoraref06_Deg.f k a0) (amphoraref06_Deg.f (k + 1) a0) := by
  intro a0 k
  have ih0 := amphoraref06_Deg.mono_l k
  unfold amphoraref06_Deg.f
  repeat' first
      | (with_reducible exact ih0 _ _)
      | (with_reducible exact LeO.refl _)
      | (with_reducible exact LeO.none _)
      | (with_reducible refine LeO.ite ?_ ?_)
      | (with_reducible refine LeO.bind ?_ (fun _ => ?_))
      | exact ih0 _ _
      | exact LeO.none _
      | refine LeO.ite ?_ ?_
      | refine LeO.bind ?_ (fun _ => ?_)
set_option maxHeartbeats 8000000 in
set_option maxRecDepth 100000 in
theorem amphoraref06_Deg.calls (k : Nat) (a0 : Int) (r : Int) (w : World) (h : amphoraref06_Deg.f k a0 = some r) :
    Calls Try.prog 12 #[.int .u64 a0] w fun e w' => e = .returned (.int .i64 r) ∧ Drawn0 w w' := by
  have H : (amphoraref06_Deg.l0 k a0 (-1)) = some r := h
  clear h
  have H' := Aside0.mk H
  clear H
  go_enter Try.func12, Try.ntmps12
  go_wp2
  go_loopg [0, 3] k (fun kq v0 v3 w' => ∃ (x0_1 : Int) (x3_1 : Int), v0 = .int .u64 x0_1 ∧ v3 = .int .i64 x3_1 ∧ Aside0 (amphoraref06_Deg.l0 kq x0_1 x3_1 = some r) ∧ Aside0 (kq ≤ k) ∧ Drawn0 w w')
  case atStart => exact ⟨(a0), ((-1)), (by first | rfl | (simp; done) | (simp [*]; done)), (by first | rfl | (simp; done) | (simp [*]; done)), H', ⟨Nat.le_refl _⟩, by repeat (first | exact Drawn0.refl _ | apply Drawn0.step)⟩
  case round =>
    clear H'
    try clear c1
    obtain ⟨x0_1, x3_1, rfl, rfl, HA, HK1, ⟨m1, rfl⟩⟩ := hrel
    cases gk with
    | zero => exact absurd HA.out (by simp [amphoraref06_Deg.l0])
    | succ k1 =>
      have H := HA.out
      clear HA
      simp only [amphoraref06_Deg.l0] at H
      by_cases c2 : x0_1 = 0
      · rw [if_pos c2] at H
        have c2b0 : (x0_1 == 0) = true := beq_iff_eq.mpr c2
        have c2b1 : (x0_1 != 0) = false := bne_eq_false_iff_eq.mpr c2
        clear c2
        obtain rfl := Option.some.inj H
        go_wp2
        go_ret
        exact ⟨by first | rfl | (simp; done) | (simp [*]; done), by repeat (first | exact Drawn0.refl _ | apply Drawn0.step)⟩
      · rw [if_neg c2] at H
        have c2b0 : (x0_1 == 0) = false := beq_eq_false_iff_ne.mpr c2
        have c2b1 : (x0_1 != 0) = true := bne_iff_ne.mpr c2
        have H' := Aside0.mk H
        clear H
        go_wp2
        go_roundg k1
        case measure => have := HK1.out; omega
        case rel => exact ⟨(x0_1 / 2), (wrap64 (x3_1 + 1)), (by first | rfl | (simp; done) | (simp [*]; done)), (by first | rfl | (simp; done) | (simp [*]; done)), H', ⟨by have := HK1.out; omega⟩, by repeat (first | exact Drawn0.refl _ | apply Drawn0.step)⟩

/-! ### amphoraref06_Mul: function 18 -/
def amphoraref06_Mul.l0 : Nat → Int → Int → Int → Int → Int → Option (Int × Int)
  | 0, _, _, _, _, _ => none
  | k + 1, x0, x1, x6, x7, x8 => if x8 < 64 then (if (x1 / 9223372036854775808) = 1 then (amphoraref06_Mul.l0 k x0 (IntKind.u64.wrap (x1 * 2)) (Go.bits .or .u64 (IntKind.u64.wrap (x6 * 2)) (x7 / 9223372036854775808)) (Go.bits .xor .u64 (IntKind.u64.wrap (x7 * 2)) x0) (wrap64 (x8 + 1))) else (amphoraref06_Mul.l0 k x0 (IntKind.u64.wrap (x1 * 2)) (Go.bits .or .u64 (IntKind.u64.wrap (x6 * 2)) (x7 / 9223372036854775808)) (IntKind.u64.wrap (x7 * 2)) (wrap64 (x8 + 1)))) else (some (x6, x7))
def amphoraref06_Mul.f (k : Nat) (a0 : Int) (a1 : Int) : Option (Int × Int) := amphoraref06_Mul.l0 k a0 a1 0 0 0
theorem amphoraref06_Mul.mono_l : ∀ k, (∀ y0 y1 y2 y3 y4, LeO (amphoraref06_Mul.l0 k y0 y1 y2 y3 y4) (amphoraref06_Mul.l0 (k + 1) y0 y1 y2 y3 y4))
  | 0 => fun _ _ _ _ _ r h => by simp [amphoraref06_Mul.l0] at h
  | k + 1 => by
    have ih0 := amphoraref06_Mul.mono_l k
    · intro y0 y1 y2 y3 y4
      unfold amphoraref06_Mul.l0
      repeat' first
      | (with_reducible exact ih0 _ _ _ _ _)
      | (with_reducible exact LeO.refl _)
      | (with_reducible exact LeO.none _)
      | (with_reducible refine LeO.ite ?_ ?_)
      | (with_reducible refine LeO.bind ?_ (fun _ => ?_))
      | exact ih0 _ _ _ _ _
      | exact LeO.none _
      | refine LeO.ite ?_ ?_
      | refine LeO.bind ?_ (fun _ => ?_)
theorem amphoraref06_Mul.mono : ∀ a0 a1 k, LeO (amphoraref06_Mul.f k a0 a1) (amphoraref06_Mul.f (k + 1) a0 a1) := by
  intro a0 a1 k
  have ih0 := amphoraref06_Mul.mono_l k
  unfold amphoraref06_Mul.f
  repeat' first
      | (with_reducible exact ih0 _ _ _ _ _)
      | (with_reducible exact LeO.refl _)
      | (with_reducible exact LeO.none _)
      | (with_reducible refine LeO.ite ?_ ?_)
      | (with_reducible refine LeO.bind ?_ (fun _ => ?_))
      | exact ih0 _ _ _ _ _
      | exact LeO.none _
      | refine LeO.ite ?_ ?_
      | refine LeO.bind ?_ (fun _ => ?_)
set_option maxHeartbeats 8000000 in
set_option maxRecDepth 100000 in
theorem amphoraref06_Mul.calls (k : Nat) (a0 : Int) (a1 : Int) (r1 : Int) (r2 : Int) (w : World) (h : amphoraref06_Mul.f k a0 a1 = some (r1, r2)) :
    Calls Try.prog 18 #[.int .u64 a0, .int .u64 a1] w fun e w' => e = .returned (.tuple #[.int .u64 r1, .int .u64 r2]) ∧ Drawn0 w w' := by
  have H : (amphoraref06_Mul.l0 k a0 a1 0 0 0) = some (r1, r2) := h
  clear h
  have H' := Aside0.mk H
  clear H
  go_enter Try.func18, Try.ntmps18
  go_wp2
  go_loopg [1, 6, 7, 8] k (fun kq v1 v6 v7 v8 w' => ∃ (x1_1 : Int) (x6_1 : Int) (x7_1 : Int) (x8_1 : Int), v1 = .int .u64 x1_1 ∧ v6 = .int .u64 x6_1 ∧ v7 = .int .u64 x7_1 ∧ v8 = .int .i64 x8_1 ∧ Aside0 (amphoraref06_Mul.l0 kq a0 x1_1 x6_1 x7_1 x8_1 = some (r1, r2)) ∧ Aside0 (kq ≤ k) ∧ Drawn0 w w')
  case atStart => exact ⟨(a1), (0), (0), (0), (by first | rfl | (simp; done) | (simp [*]; done)), (by first | rfl | (simp; done) | (simp [*]; done)), (by first | rfl | (simp; done) | (simp [*]; done)), (by first | rfl | (simp; done) | (simp [*]; done)), H', ⟨Nat.le_refl _⟩, by repeat (first | exact Drawn0.refl _ | apply Drawn0.step)⟩
  case round =>
    clear H'
    try clear c1
    try clear p2
    obtain ⟨x1_1, x6_1, x7_1, x8_1, rfl, rfl, rfl, rfl, HA, HK1, ⟨m1, rfl⟩⟩ := hrel
    cases gk with
    | zero => exact absurd HA.out (by simp [amphoraref06_Mul.l0])
    | succ k1 =>
      have H := HA.out
      clear HA
      simp only [amphoraref06_Mul.l0] at H
      by_cases c3 : x8_1 < 64
      · rw [if_pos c3] at H
        have c3b0 : decide (x8_1 < 64) = true := decide_eq_true c3
        clear c3
        by_cases c4 : (x1_1 / 9223372036854775808) = 1
        · rw [if_pos c4] at H
          have c4b0 : ((x1_1 / 9223372036854775808) == 1) = true := beq_iff_eq.mpr c4
          have c4b1 : ((x1_1 / 9223372036854775808) != 1) = false := bne_eq_false_iff_eq.mpr c4
          clear c4
          have H' := Aside0.mk H
          clear H
          go_wp2
          go_roundg k1
          case measure => have := HK1.out; omega
          case rel => exact ⟨(IntKind.u64.wrap (x1_1 * 2)), (Go.bits .or .u64 (IntKind.u64.wrap (x6_1 * 2)) (x7_1 / 9223372036854775808)), (Go.bits .xor .u64 (IntKind.u64.wrap (x7_1 * 2)) a0), (wrap64 (x8_1 + 1)), (by first | rfl | (simp; done) | (simp [*]; done)), (by first | rfl | (simp; done) | (simp [*]; done)), (by first | rfl | (simp; done) | (simp [*]; done)), (by first | rfl | (simp; done) | (simp [*]; done)), H', ⟨by have := HK1.out; omega⟩, by repeat (first | exact Drawn0.refl _ | apply Drawn0.step)⟩
        · rw [if_neg c4] at H
          have c4b0 : ((x1_1 / 9223372036854775808) == 1) = false := beq_eq_false_iff_ne.mpr c4
          have c4b1 : ((x1_1 / 9223372036854775808) != 1) = true := bne_iff_ne.mpr c4
          have H' := Aside0.mk H
          clear H
          go_wp2
          go_roundg k1
          case measure => have := HK1.out; omega
          case rel => exact ⟨(IntKind.u64.wrap (x1_1 * 2)), (Go.bits .or .u64 (IntKind.u64.wrap (x6_1 * 2)) (x7_1 / 9223372036854775808)), (IntKind.u64.wrap (x7_1 * 2)), (wrap64 (x8_1 + 1)), (by first | rfl | (simp; done) | (simp [*]; done)), (by first | rfl | (simp; done) | (simp [*]; done)), (by first | rfl | (simp; done) | (simp [*]; done)), (by first | rfl | (simp; done) | (simp [*]; done)), H', ⟨by have := HK1.out; omega⟩, by repeat (first | exact Drawn0.refl _ | apply Drawn0.step)⟩
      · rw [if_neg c3] at H
        have c3b0 : decide (x8_1 < 64) = false := decide_eq_false c3
        clear c3
        simp only [Option.some.injEq, Prod.mk.injEq] at H
        obtain ⟨rfl, rfl⟩ := H
        go_wp2
        go_ret2
        exact ⟨by first | rfl | (simp; done) | (simp [*]; done), by repeat (first | exact Drawn0.refl _ | apply Drawn0.step)⟩

/-! ### amphoraref06_Mod: function 21 -/
def amphoraref06_Mod.l0 : Nat → Int → Int → Int → Int → Int → Int → Option (Int)
  | 0, _, _, _, _, _, _ => none
  | k + 1, x0, x1, x2, x7, x8, x9 => if x9 < 128 then (if x7 = 0 then (amphoraref06_Mod.l0 k (Go.bits .or .u64 (IntKind.u64.wrap (x0 * 2)) (x1 / 9223372036854775808)) (IntKind.u64.wrap (x1 * 2)) x2 x7 x8 (wrap64 (x9 + 1))) else (if 0 ≤ (IntKind.u64.wrap (x7 - 1)) then (if (Go.bits .and .u64 (shr .u64 x8 (IntKind.u64.wrap (x7 - 1))) 1) = 1 then (amphoraref06_Mod.l0 k (Go.bits .or .u64 (IntKind.u64.wrap (x0 * 2)) (x1 / 9223372036854775808)) (IntKind.u64.wrap (x1 * 2)) x2 x7 (Go.bits .xor .u64 (Go.bits .or .u64 (IntKind.u64.wrap (x8 * 2)) (x0 / 9223372036854775808)) x2) (wrap64 (x9 + 1))) else (amphoraref06_Mod.l0 k (Go.bits .or .u64 (IntKind.u64.wrap (x0 * 2)) (x1 / 9223372036854775808)) (IntKind.u64.wrap (x1 * 2)) x2 x7 (Go.bits .or .u64 (IntKind.u64.wrap (x8 * 2)) (x0 / 9223372036854775808)) (wrap64 (x9 + 1)))) else (none))) else (some x8)
def amphoraref06_Mod.f (k : Nat) (a0 : Int) (a1 : Int) (a2 : Int) : Option (Int) := (amphoraref06_Deg.f k a2).bind fun t124 => (amphoraref06_Mod.l0 k a0 a1 a2 (IntKind.u64.wrap (t124)) 0 0)
theorem amphoraref06_Mod.mono_l : ∀ k, (∀ y0 y1 y2 y3 y4 y5, LeO (amphoraref06_Mod.l0 k y0 y1 y2 y3 y4 y5) (amphoraref06_Mod.l0 (k + 1) y0 y1 y2 y3 y4 y5))
  | 0 => fun _ _ _ _ _ _ r h => by simp [amphoraref06_Mod.l0] at h
  | k + 1 => by
    have ih0 := amphoraref06_Mod.mono_l k
    · intro y0 y1 y2 y3 y4 y5
      unfold amphoraref06_Mod.l0
      repeat' first
      | (with_reducible exact ih0 _ _ _ _ _ _)
      | (with_reducible exact amphoraref06_Deg.mono _ _)
      | (with_reducible exact LeO.refl _)
      | (with_reducible exact LeO.none _)
      | (with_reducible refine LeO.ite ?_ ?_)
      | (with_reducible refine LeO.bind ?_ (fun _ => ?_))
      | exact ih0 _ _ _ _ _ _
      | exact amphoraref06_Deg.mono _ _
      | exact LeO.none _
      | refine LeO.ite ?_ ?_
      | refine LeO.bind ?_ (fun _ => ?_)
theorem amphoraref06_Mod.mono : ∀ a0 a1 a2 k, LeO (amphoraref06_Mod.f k a0 a1 a2) (amphoraref06_Mod.f (k + 1) a0 a1 a2) := by
  intro a0 a1 a2 k
  have ih0 := amphoraref06_Mod.mono_l k
  unfold amphoraref06_Mod.f
  repeat' first
      | (with_reducible exact ih0 _ _ _ _ _ _)
      | (with_reducible exact amphoraref06_Deg.mono _ _)
      | (with_reducible exact LeO.refl _)
      | (with_reducible exact LeO.none _)
      | (with_reducible refine LeO.ite ?_ ?_)
      | (with_reducible refine LeO.bind ?_ (fun _ => ?_))
      | exact ih0 _ _ _ _ _ _
      | exact amphoraref06_Deg.mono _ _
      | exact LeO.none _
      | refine LeO.ite ?_ ?_
      | refine LeO.bind ?_ (fun _ => ?_)
set_option maxHeartbeats 8000000 in
set_option maxRecDepth 100000 in
theorem amphoraref06_Mod.calls (k : Nat) (a0 : Int) (a1 : Int) (a2 : Int) (r : Int) (w : World) (h : amphoraref06_Mod.f k a0 a1 a2 = some r) :
    Calls Try.prog 21 #[.int .u64 a0, .int .u64 a1, .int .u64 a2] w fun e w' => e = .returned (.int .u64 r) ∧ Drawn0 w w' := by
  have H : ((amphoraref06_Deg.f k a2).bind fun t124 => (amphoraref06_Mod.l0 k a0 a1 a2 (IntKind.u64.wrap (t124)) 0 0)) = some r := h
  clear h
  replace H := Option.bind_eq_some_iff.mp H
  obtain ⟨t124, A40, H⟩ := H
  replace H : (amphoraref06_Mod.l0 k a0 a1 a2 (IntKind.u64.wrap (t124)) 0 0) = some r := H
  have A4 := Aside0.mk A40
  clear A40
  have H' := Aside0.mk H
  clear H
  go_enter Try.func21, Try.ntmps21
  go_wp2_with (first | ((with_reducible refine gate_callee (f := 12) rfl ?_); refine goesL_ (some 13) rfl rfl Try.func12 (by kernel_rfl) rfl #[.int .u64 a2] rfl (by (try simp only [List.map_toArray, List.map_cons, List.map_nil]); first | done | rfl | (simp only [List.length_drop, List.length_take]; rfl)) ?_; (with_reducible refine (amphoraref06_Deg.calls k a2 t124 _ A4.out).mono ?_); rintro e w' ⟨rfl, ⟨nd, rfl⟩⟩; refine ⟨_, rfl, ?_⟩))
  go_loopg [0, 1, 8, 9] k (fun kq v0 v1 v8 v9 w' => ∃ (x0_1 : Int) (x1_1 : Int) (x8_1 : Int) (x9_1 : Int), v0 = .int .u64 x0_1 ∧ v1 = .int .u64 x1_1 ∧ v8 = .int .u64 x8_1 ∧ v9 = .int .i64 x9_1 ∧ Aside0 (amphoraref06_Mod.l0 kq x0_1 x1_1 a2 (IntKind.u64.wrap (t124)) x8_1 x9_1 = some r) ∧ Aside0 (kq ≤ k) ∧ Drawn0 w w')
  case atStart => exact ⟨(a0), (a1), (0), (0), (by first | rfl | (simp; done) | (simp [*]; done)), (by first | rfl | (simp; done) | (simp [*]; done)), (by first | rfl | (simp; done) | (simp [*]; done)), (by first | rfl | (simp; done) | (simp [*]; done)), H', ⟨Nat.le_refl _⟩, by repeat (first | exact Drawn0.refl _ | apply Drawn0.step)⟩
  case round =>
    clear H'
    try clear c1
    try clear c2
    try clear p2
    obtain ⟨x0_1, x1_1, x8_1, x9_1, rfl, rfl, rfl, rfl, HA, HK1, ⟨m1, rfl⟩⟩ := hrel
    cases gk with
    | zero => exact absurd HA.out (by simp [amphoraref06_Mod.l0])
    | succ k1 =>
      have H := HA.out
      clear HA
      simp only [amphoraref06_Mod.l0] at H
      by_cases c5 : x9_1 < 128
      · rw [if_pos c5] at H
        have c5b0 : decide (x9_1 < 128) = true := decide_eq_true c5
        clear c5
        by_cases c6 : (IntKind.u64.wrap (t124)) = 0
        · rw [if_pos c6] at H
          have c6b0 : ((IntKind.u64.wrap (t124)) == 0) = true := beq_iff_eq.mpr c6
          have c6b1 : ((IntKind.u64.wrap (t124)) != 0) = false := bne_eq_false_iff_eq.mpr c6
          clear c6
          have H' := Aside0.mk H
          clear H
          go_wp2
          go_roundg k1
          case measure => have := HK1.out; omega
          case rel => exact ⟨(Go.bits .or .u64 (IntKind.u64.wrap (x0_1 * 2)) (x1_1 / 9223372036854775808)), (IntKind.u64.wrap (x1_1 * 2)), (x8_1), (wrap64 (x9_1 + 1)), (by first | rfl | (simp; done) | (simp [*]; done)), (by first | rfl | (simp; done) | (simp [*]; done)), (by first | rfl | (simp; done) | (simp [*]; done)), (by first | rfl | (simp; done) | (simp [*]; done)), H', ⟨by have := HK1.out; omega⟩, by repeat (first | exact Drawn0.refl _ | apply Drawn0.step)⟩
        · rw [if_neg c6] at H
          have c6b0 : ((IntKind.u64.wrap (t124)) == 0) = false := beq_eq_false_iff_ne.mpr c6
          have c6b1 : ((IntKind.u64.wrap (t124)) != 0) = true := bne_iff_ne.mpr c6
          obtain ⟨ji7, hji7⟩ : ∃ j_ : Int, (IntKind.u64.wrap ((IntKind.u64.wrap (t124)) - 1)) = j_ := ⟨_, rfl⟩
          replace H : (if 0 ≤ (ji7) then (if (Go.bits .and .u64 (shr .u64 x8_1 (ji7)) 1) = 1 then (amphoraref06_Mod.l0 k1 (Go.bits .or .u64 (IntKind.u64.wrap (x0_1 * 2)) (x1_1 / 9223372036854775808)) (IntKind.u64.wrap (x1_1 * 2)) a2 (IntKind.u64.wrap (t124)) (Go.bits .xor .u64 (Go.bits .or .u64 (IntKind.u64.wrap (x8_1 * 2)) (x0_1 / 9223372036854775808)) a2) (wrap64 (x9_1 + 1))) else (amphoraref06_Mod.l0 k1 (Go.bits .or .u64 (IntKind.u64.wrap (x0_1 * 2)) (x1_1 / 9223372036854775808)) (IntKind.u64.wrap (x1_1 * 2)) a2 (IntKind.u64.wrap (t124)) (Go.bits .or .u64 (IntKind.u64.wrap (x8_1 * 2)) (x0_1 / 9223372036854775808)) (wrap64 (x9_1 + 1)))) else (none)) = some r := by first | (rw [hji7] at H; exact H) | (simp only [hji7] at H ⊢; exact H)
          by_cases c8 : 0 ≤ (ji7)
          · rw [if_pos c8] at H
            have c8b0 := eq_true c8
            have c8b1 : decide (0 ≤ (ji7)) = true := decide_eq_true c8
            clear c8
            obtain ⟨ji9, hji9⟩ : ∃ j_ : Int, (shr .u64 x8_1 (ji7)) = j_ := ⟨_, rfl⟩
            replace H : (if (Go.bits .and .u64 (ji9) 1) = 1 then (amphoraref06_Mod.l0 k1 (Go.bits .or .u64 (IntKind.u64.wrap (x0_1 * 2)) (x1_1 / 9223372036854775808)) (IntKind.u64.wrap (x1_1 * 2)) a2 (IntKind.u64.wrap (t124)) (Go.bits .xor .u64 (Go.bits .or .u64 (IntKind.u64.wrap (x8_1 * 2)) (x0_1 / 9223372036854775808)) a2) (wrap64 (x9_1 + 1))) else (amphoraref06_Mod.l0 k1 (Go.bits .or .u64 (IntKind.u64.wrap (x0_1 * 2)) (x1_1 / 9223372036854775808)) (IntKind.u64.wrap (x1_1 * 2)) a2 (IntKind.u64.wrap (t124)) (Go.bits .or .u64 (IntKind.u64.wrap (x8_1 * 2)) (x0_1 / 9223372036854775808)) (wrap64 (x9_1 + 1)))) = some r := by first | (rw [hji9] at H; exact H) | (simp only [hji9] at H ⊢; exact H)
            have hji9_ : (x8_1 / 2 ^ min (ji7).toNat 64) = ji9 := hji9
            have hji9z : (ji7) ≤ 64 → (x8_1 / 2 ^ (ji7).toNat) = ji9 := shr_small hji9
            by_cases c10 : (Go.bits .and .u64 (ji9) 1) = 1
            · rw [if_pos c10] at H
              have c10b0 : ((Go.bits .and .u64 (ji9) 1) == 1) = true := beq_iff_eq.mpr c10
              have c10b1 : ((Go.bits .and .u64 (ji9) 1) != 1) = false := bne_eq_false_iff_eq.mpr c10
              clear c10
              have H' := Aside0.mk H
              clear H
              go_wp2
              go_roundg k1
              case measure => have := HK1.out; omega
              case rel => exact ⟨(Go.bits .or .u64 (IntKind.u64.wrap (x0_1 * 2)) (x1_1 / 9223372036854775808)), (IntKind.u64.wrap (x1_1 * 2)), (Go.bits .xor .u64 (Go.bits .or .u64 (IntKind.u64.wrap (x8_1 * 2)) (x0_1 / 9223372036854775808)) a2), (wrap64 (x9_1 + 1)), (by first | rfl | (simp; done) | (simp [*]; done)), (by first | rfl | (simp; done) | (simp [*]; done)), (by first | rfl | (simp; done) | (simp [*]; done)), (by first | rfl | (simp; done) | (simp [*]; done)), H', ⟨by have := HK1.out; omega⟩, by repeat (first | exact Drawn0.refl _ | apply Drawn0.step)⟩
            · rw [if_neg c10] at H
              have c10b0 : ((Go.bits .and .u64 (ji9) 1) == 1) = false := beq_eq_false_iff_ne.mpr c10
              have c10b1 : ((Go.bits .and .u64 (ji9) 1) != 1) = true := bne_iff_ne.mpr c10
              have H' := Aside0.mk H
              clear H
              go_wp2
              go_roundg k1
              case measure => have := HK1.out; omega
              case rel => exact ⟨(Go.bits .or .u64 (IntKind.u64.wrap (x0_1 * 2)) (x1_1 / 9223372036854775808)), (IntKind.u64.wrap (x1_1 * 2)), (Go.bits .or .u64 (IntKind.u64.wrap (x8_1 * 2)) (x0_1 / 9223372036854775808)), (wrap64 (x9_1 + 1)), (by first | rfl | (simp; done) | (simp [*]; done)), (by first | rfl | (simp; done) | (simp [*]; done)), (by first | rfl | (simp; done) | (simp [*]; done)), (by first | rfl | (simp; done) | (simp [*]; done)), H', ⟨by have := HK1.out; omega⟩, by repeat (first | exact Drawn0.refl _ | apply Drawn0.step)⟩
          · rw [if_neg c8] at H
            exact absurd H (by simp)
      · rw [if_neg c5] at H
        have c5b0 : decide (x9_1 < 128) = false := decide_eq_false c5
        clear c5
        obtain rfl := Option.some.inj H
        go_wp2
        go_ret
        exact ⟨by first | rfl | (simp; done) | (simp [*]; done), by repeat (first | exact Drawn0.refl _ | apply Drawn0.step)⟩

/-! ### amphoraref06_Gcd: function 27 -/
def amphoraref06_Gcd.l0 : Nat → Int → Int → Option (Int)
  | 0, _, _ => none
  | k + 1, x0, x1 => if x1 = 0 then (some x0) else ((amphoraref06_Mod.f k 0 x0 x1).bind fun t125 => (amphoraref06_Gcd.l0 k x1 t125))
def amphoraref06_Gcd.f (k : Nat) (a0 : Int) (a1 : Int) : Option (Int) := amphoraref06_Gcd.l0 k a0 a1
theorem amphoraref06_Gcd.mono_l : ∀ k, (∀ y0 y1, LeO (amphoraref06_Gcd.l0 k y0 y1) (amphoraref06_Gcd.l0 (k + 1) y0 y1))
  | 0 => fun _ _ r h => by simp [amphoraref06_Gcd.l0] at h
  | k + 1 => by
    have ih0 := amphoraref06_Gcd.mono_l k
    · intro y0 y1
      unfold amphoraref06_Gcd.l0
      repeat' first
      | (with_reducible exact ih0 _ _)
      | (with_reducible exact amphoraref06_Mod.mono _ _ _ _)
      | (with_reducible exact LeO.refl _)
      | (with_reducible exact LeO.none _)
      | (with_reducible refine LeO.ite ?_ ?_)
      | (with_reducible refine LeO.bind ?_ (fun _ => ?_))
      | exact ih0 _ _
      | exact amphoraref06_Mod.mono _ _ _ _
      | exact LeO.none _
      | refine LeO.ite ?_ ?_
      | refine LeO.bind ?_ (fun _ => ?_)
theorem amphoraref06_Gcd.mono : ∀ a0 a1 k, LeO (amphoraref06_Gcd.f k a0 a1) (amphoraref06_Gcd.f (k + 1) a0 a1) := by
  intro a0 a1 k
  have ih0 := amphoraref06_Gcd.mono_l k
  unfold amphoraref06_Gcd.f
  repeat' first
      | (with_reducible exact ih0 _ _)
      | (with_reducible exact amphoraref06_Mod.mono _ _ _ _)
      | (with_reducible exact LeO.refl _)
      | (with_reducible exact LeO.none _)
      | (with_reducible refine LeO.ite ?_ ?_)
      | (with_reducible refine LeO.bind ?_ (fun _ => ?_))
      | exact ih0 _ _
      | exact amphoraref06_Mod.mono _ _ _ _
      | exact LeO.none _
      | refine LeO.ite ?_ ?_
      | refine LeO.bind ?_ (fun _ => ?_)
set_option maxHeartbeats 8000000 in
set_option maxRecDepth 100000 in
theorem amphoraref06_Gcd.calls (k : Nat) (a0 : Int) (a1 : Int) (r : Int) (w : World) (h : amphoraref06_Gcd.f k a0 a1 = some r) :
    Calls Try.prog 27 #[.int .u64 a0, .int .u64 a1] w fun e w' => e = .returned (.int .u64 r) ∧ Drawn0 w w' := by
  have H : (amphoraref06_Gcd.l0 k a0 a1) = some r := h
  clear h
  have H' := Aside0.mk H
  clear H
  go_enter Try.func27, Try.ntmps27
  go_wp2
  go_loopg [0, 1] k (fun kq v0 v1 w' => ∃ (x0_1 : Int) (x1_1 : Int), v0 = .int .u64 x0_1 ∧ v1 = .int .u64 x1_1 ∧ Aside0 (amphoraref06_Gcd.l0 kq x0_1 x1_1 = some r) ∧ Aside0 (kq ≤ k) ∧ Drawn0 w w')
  case atStart => exact ⟨(a0), (a1), (by first | rfl | (simp; done) | (simp [*]; done)), (by first | rfl | (simp; done) | (simp [*]; done)), H', ⟨Nat.le_refl _⟩, by repeat (first | exact Drawn0.refl _ | apply Drawn0.step)⟩
  case round =>
    clear H'
    try clear c2
    try clear p2
    obtain ⟨x0_1, x1_1, rfl, rfl, HA, HK1, ⟨m1, rfl⟩⟩ := hrel
    cases gk with
    | zero => exact absurd HA.out (by simp [amphoraref06_Gcd.l0])
    | succ k1 =>
      have H := HA.out
      clear HA
      simp only [amphoraref06_Gcd.l0] at H
      by_cases c3 : x1_1 = 0
      · rw [if_pos c3] at H
        have c3b0 : (x1_1 == 0) = true := beq_iff_eq.mpr c3
        have c3b1 : (x1_1 != 0) = false := bne_eq_false_iff_eq.mpr c3
        clear c3
        obtain rfl := Option.some.inj H
        go_wp2
        go_ret
        exact ⟨by first | rfl | (simp; done) | (simp [*]; done), by repeat (first | exact Drawn0.refl _ | apply Drawn0.step)⟩
      · rw [if_neg c3] at H
        have c3b0 : (x1_1 == 0) = false := beq_eq_false_iff_ne.mpr c3
        have c3b1 : (x1_1 != 0) = true := bne_iff_ne.mpr c3
        replace H := Option.bind_eq_some_iff.mp H
        obtain ⟨t125, A40, H⟩ := H
        replace H : (amphoraref06_Gcd.l0 k1 x1_1 t125) = some r := H
        have A4 := Aside0.mk A40
        clear A40
        have H' := Aside0.mk H
        clear H
        go_wp2_with (first | ((with_reducible refine gate_callee (f := 21) rfl ?_); refine goesL_ (some 10) rfl rfl Try.func21 (by kernel_rfl) rfl #[.int .u64 0, .int .u64 x0_1, .int .u64 x1_1] rfl (by (try simp only [List.map_toArray, List.map_cons, List.map_nil]); first | done | rfl | (simp only [List.length_drop, List.length_take]; rfl)) ?_; (with_reducible refine (amphoraref06_Mod.calls k1 0 x0_1 x1_1 t125 _ A4.out).mono ?_); rintro e w' ⟨rfl, ⟨nd, rfl⟩⟩; refine ⟨_, rfl, ?_⟩))
        go_roundg k1
        case measure => have := HK1.out; omega
        case rel => exact ⟨(x1_1), (t125), (by first | rfl | (simp; done) | (simp [*]; done)), (by first | rfl | (simp; done) | (simp [*]; done)), H', ⟨by have := HK1.out; omega⟩, by repeat (first | exact Drawn0.refl _ | apply Drawn0.step)⟩

end Go.Proofs.Ytabgknnnhhgliaa.PPoly
