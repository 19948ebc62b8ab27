/- rabin's End, New, and what a nil chunker answers, walked. Conditions: as each theorem says. -/
import Derived.Test.YtoofafgnlgaajaaRW6
namespace Go.Proofs.Ytoofafgnlgaajaa.RW
open Go.RowKit Go.Proofs.Ytoofafgnlgaajaa.PRabin Go.Proofs.YtoofafgnlgaajaaW.PrintWords Go.Proofs.YtoofafgnlgaajaaW.PrintLast Go.Proofs.YtoofafgnlgaajaaW.PrintMore
set_option linter.unusedVariables false
set_option linter.unusedSimpArgs false
def endW (σ : WS) : WS := if σ.rest.length = 0 then ⟨σ.s, [], []⟩ else ⟨σ.s.reset, [], [σ.rest]⟩
set_option maxHeartbeats 4000000 in
set_option maxRecDepth 100000 in
theorem end_calls (B c b g : Nat) (S : Set5) (s : RS) (v : Value) (rest : List Nat) (w : World) (hB : B ≤ w.heap.size) (h : ChAt w B c b g S s v rest) :
    Calls Try.prog 28 #[.pointer (some ⟨c, 0, none⟩)] w fun e w' => ∃ v' V0 V, e = .returned V0 ∧ ((rest.length = 0 ∧ V0 = .slice none 0 0) ∨ (rest.length ≠ 0 ∧ V0 = .slice (some ⟨w.heap.size, 0, none⟩) 1 1)) ∧ Inv w w' B c b g S v (endW ⟨s, rest, []⟩) v' V0 V := by
  have I0 : Inv w w B c b g S v ⟨s, rest, []⟩ v (.slice none 0 0) (fun _ => .slice none 0 0) :=
    ⟨hB, h, OutAt.nil _ _ _ _ _, fun j hj => absurd hj (Nat.not_lt_zero _), fun k hk => .inl hk, fun j hj => absurd hj (Nat.not_lt_zero _), Ex.refl _ w⟩
  obtain ⟨A, cp, rfl, _⟩ := Apart.form h.own
  obtain ⟨_, _, _, k5, k6, f6⟩ := ck_cells h.ck
  obtain ⟨r, hr⟩ : ∃ r, r = rest.length := ⟨_, rfl⟩
  have HR := Aside0.mk hr
  have hck := h.ck
  rw [← hr] at k6 I0 hck ⊢
  have I0' := Aside0.mk I0
  clear I0 h hr
  by_cases c1 : r = 0
  · have e1 : endW ⟨s, rest, []⟩ = ⟨s, rest, []⟩ := by
      have h0 : rest = [] := List.eq_nil_of_length_eq_zero (by have := HR.out; omega)
      rw [h0]; rfl
    have E1 := Aside0.mk e1
    clear e1
    subst c1
    have d1 : (((0 : Nat) : Int) == 0) = true := rfl
    go_enter Try.func28, Try.ntmps28
    go_wp2
    go_ret
    rw [E1.out]
    exact ⟨.slice A 0 cp, .slice none 0 0, fun _ => .slice none 0 0, rfl, (by simp), I0'.out⟩
  · have e1 : endW ⟨s, rest, []⟩ = ⟨s.reset, [], [rest]⟩ := by unfold endW; rw [← HR.out, if_neg c1]
    have E1 := Aside0.mk e1
    have d1 : ((r : Int) == 0) = false := beq_eq_false_iff_ne.mpr (by omega)
    have d2 := decide_eq_false (show ¬ (r : Int) = 0 by omega)
    have d3 := eq_false (show ¬ (r : Int) = 0 by omega)
    have d4 := eq_false c1
    have hrow : World.ownsRow (w.alloc (.cells #[.slice A r cp] 25)) w.heap.size 25 1 (.slice (some ⟨w.heap.size, 0, none⟩) 1 1) 1 [.slice A r cp] :=
      ⟨rfl, .inr ⟨w.heap.size, 1, #[.slice A r cp], rfl, Nat.le_refl _, heap_alloc_new w _, Nat.le_refl _, by simp [maxLen], rfl, rfl⟩⟩
    have H8 := Aside0.mk (I0'.out.flushed (w1 := w.alloc (.cells #[.slice A r cp] 25)) (V1 := .slice (some ⟨w.heap.size, 0, none⟩) 1 1) hrow (World.grownBy_alloc w _ _) (.inr ⟨_, rfl, Nat.le_refl _⟩))
    obtain ⟨_, _, _, j5, j6, g6⟩ := ck_cells (blk_alloc hck (.cells #[.slice A r cp] 25))
    clear e1 I0' hrow c1 hck
    go_enter Try.func28, Try.ntmps28
    go_wp2_with (first | (go_at_call 41; refine (reset_calls b g _ _ H8.out.ch.ro).mono ?_; rintro e1 w8 ⟨⟨vv, rfl⟩, hR, hE⟩; have H9 := Aside0.mk (H8.out.rolled hR (hE.imp (fun k hk => .inl hk))); clear hR hE H8))
    go_ret
    rw [E1.out]
    exact ⟨_, _, _, rfl, .inr ⟨fun e => by rw [d4] at e; exact e, rfl⟩, H9.out⟩
theorem write_nil (A1 : Option Addr) (n c1 : Nat) (w : World) : Calls Try.prog 25 #[.pointer none, .slice A1 n c1] w fun e w' => e = .returned (.slice none 0 0) ∧ w' = w := by
  go_enter Try.func25, Try.ntmps25
  go_wp2
  go_ret
  exact ⟨rfl, rfl⟩
theorem end_nil (w : World) : Calls Try.prog 28 #[.pointer none] w fun e w' => e = .returned (.slice none 0 0) ∧ w' = w := by
  go_enter Try.func28, Try.ntmps28
  go_wp2
  go_ret
  exact ⟨rfl, rfl⟩
theorem left_nil (w : World) : Calls Try.prog 27 #[.pointer none] w fun e w' => e = .returned (.int .i64 0) ∧ w' = w := by
  go_enter Try.func27, Try.ntmps27
  go_wp2
  go_ret
  exact ⟨rfl, rfl⟩
set_option maxHeartbeats 4000000 in
set_option maxRecDepth 100000 in
theorem new_bad (k : Nat) (a0 a1 a2 a3 a4 x : Int) (w : World) (h : rabin_Check.f k a0 a1 a2 a3 a4 = some (some x)) :
    Calls Try.prog 23 #[.agg #[.int .u64 a0, .int .i64 a1, .int .i64 a2, .int .i64 a3, .int .i64 a4]] w fun e w' => e = .returned (.tuple #[.pointer none, errW (some x)]) ∧ Below w.heap.size w w' := by
  have hu31 := Try.underlying31
  have hu43 := Try.underlying43
  have HC := Aside0.mk (fun W : World => rabin_Check.calls k a0 a1 a2 a3 a4 (some x) W h)
  rw [errW_some] at HC ⊢
  clear h
  go_enter Try.func23, Try.ntmps23
  go_wp2_with (first | (go_at_call 17; (with_reducible refine (HC.out _).mono ?_); rintro e1 w2 ⟨rfl, hb⟩; have HB := Aside0.mk (below_step (below_alloc (Below.refl w.heap.size w) _) hb); clear hb))
  go_ret2
  exact ⟨rfl, HB.out⟩
theorem zero72 : ∀ W, (zeroValue 72).run Try.prog W = .ok (.agg #[.int .u64 0, .int .i64 0, .int .i64 0, .int .i64 0, .int .i64 0, .pointer none, .slice none 0 0]) W := by
  have h : (Try.prog.info? 72).map (fun i => i.zero) = some (some (.agg #[.int .u64 0, .int .i64 0, .int .i64 0, .int .i64 0, .int .i64 0, .pointer none, .slice none 0 0])) := by kernel_rfl
  obtain ⟨it, h1, h2⟩ := Option.map_eq_some_iff.1 h
  intro W
  simp [zeroValue, typeInfo, h1, h2]
theorem held5 {n : Nat} {W1 a : World} {v0 v1 v2 v3 v4 : Value} (hk : W1.heap[n]? = some (.cells #[v0, v1, v2, v3, v4] 24 (0, 0))) (h : Below (n + 1) W1 a) :
    Below (n + 1) W1 a ∧ a.cell? ⟨n, 0, none⟩ = some v0 ∧ a.cell? ⟨n, 1, none⟩ = some v1 ∧ a.cell? ⟨n, 2, none⟩ = some v2 ∧ a.cell? ⟨n, 3, none⟩ = some v3 ∧ a.cell? ⟨n, 4, none⟩ = some v4 := by
  have h1 := (h.block n (Nat.lt_succ_self n)).trans hk
  exact ⟨h, blk_cell h1 0, blk_cell h1 1, blk_cell h1 2, blk_cell h1 3, blk_cell h1 4⟩
theorem held5_call {n : Nat} {W1 a b : World} {v0 v1 v2 v3 v4 : Value} {q : Prop} (hk : W1.heap[n]? = some (.cells #[v0, v1, v2, v3, v4] 24 (0, 0))) (h : Below (n + 1) W1 a ∧ q) (hb : Below a.heap.size a b) :
    Below (n + 1) W1 b ∧ b.cell? ⟨n, 0, none⟩ = some v0 ∧ b.cell? ⟨n, 1, none⟩ = some v1 ∧ b.cell? ⟨n, 2, none⟩ = some v2 ∧ b.cell? ⟨n, 3, none⟩ = some v3 ∧ b.cell? ⟨n, 4, none⟩ = some v4 := by
  have hl := blk_lt ((h.1.block n (Nat.lt_succ_self n)).trans hk)
  exact held5 hk (below_then h.1 hl hb)
theorem held5_alloc {n : Nat} {W1 a : World} {v0 v1 v2 v3 v4 : Value} {q : Prop} (hk : W1.heap[n]? = some (.cells #[v0, v1, v2, v3, v4] 24 (0, 0))) (h : Below (n + 1) W1 a ∧ q) (o : Obj) :
    Below (n + 1) W1 (a.alloc o) ∧ (a.alloc o).cell? ⟨n, 0, none⟩ = some v0 ∧ (a.alloc o).cell? ⟨n, 1, none⟩ = some v1 ∧ (a.alloc o).cell? ⟨n, 2, none⟩ = some v2 ∧ (a.alloc o).cell? ⟨n, 3, none⟩ = some v3 ∧ (a.alloc o).cell? ⟨n, 4, none⟩ = some v4 :=
  held5_call hk h (below_alloc (Below.refl _ _) _)
theorem new_fin {w w3 : World} {cb rb rg n0 p W mn mx bt : Nat} {s : RS} {e : Ending} (hB : Below w.heap.size w (w3.alloc (.cells (ckCells ⟨p, W, mn, mx, bt⟩ rb (.slice none 0 0)) 72))) (hc : cb = w3.heap.size) (h0 : w.heap.size ≤ cb) (h1 : w.heap.size ≤ rb) (h2 : w.heap.size ≤ rg) (hR : RoAt w3 rb rg s) (he : e = .returned (.tuple #[.pointer (some ⟨cb, 0, none⟩), .nilIface])) :
    ∃ c b g, w.heap.size ≤ c ∧ w.heap.size ≤ b ∧ w.heap.size ≤ g ∧ e = .returned (.tuple #[.pointer (some ⟨c, 0, none⟩), .nilIface]) ∧ Below w.heap.size w (w3.alloc (.cells (ckCells ⟨p, W, mn, mx, bt⟩ rb (.slice none 0 0)) 72)) ∧
      ChAt (w3.alloc (.cells (ckCells ⟨p, W, mn, mx, bt⟩ rb (.slice none 0 0)) 72)) w.heap.size c b g ⟨p, W, mn, mx, bt⟩ s (.slice none 0 0) [] := by
  subst hc
  obtain ⟨_, hb0, _⟩ := hR.blk
  exact ⟨_, _, _, h0, h1, h2, he, hB, heap_alloc_new w3 _, hR.move (Below.heap_alloc w3 _ _ (blk_lt hb0)) (Below.heap_alloc w3 _ _ (blk_lt hR.win)), World.ownsRow_nil _ _ _ _, by simp [Value.ownBlock]⟩
set_option maxHeartbeats 4000000 in
set_option maxRecDepth 100000 in
theorem new_good (k k1 k2 p d W mn mx bt : Nat) (T T2 : Nat → Nat) (w : World) (h : rabin_Check.f k (p : Int) (W : Int) (mn : Int) (mx : Int) (bt : Int) = some none) (hD : poly_Deg.f (p : Int) = some (d : Int)) (hT : Shifts k1 p d T) (hT2 : Shifts k2 p ((8 * W : Nat) : Int) T2) (hW : W ≤ 64) :
    Calls Try.prog 23 #[.agg #[.int .u64 (p : Int), .int .i64 (W : Int), .int .i64 (mn : Int), .int .i64 (mx : Int), .int .i64 (bt : Int)]] w fun e w' => ∃ c b g, w.heap.size ≤ c ∧ w.heap.size ≤ b ∧ w.heap.size ≤ g ∧ e = .returned (.tuple #[.pointer (some ⟨c, 0, none⟩), errW none]) ∧ Below w.heap.size w w' ∧
      ChAt w' w.heap.size c b g ⟨p, W, mn, mx, bt⟩ ⟨p, d, (List.range 256).map T, (List.range 256).map T2, List.replicate W 0, 0, false, 0⟩ (.slice none 0 0) [] := by
  have hu31 := Try.underlying31
  have hu43 := Try.underlying43
  have HC := Aside0.mk (fun W' : World => rabin_Check.calls k _ _ _ _ _ none W' h)
  have HRo := Aside0.mk (fun W' : World => newRoller_calls k1 k2 p d W mn mx bt T T2 W' hD hT hT2 hW)
  have hz := zero72
  rw [errW_none] at HC ⊢
  clear h hD hT hT2
  go_enter Try.func23, Try.ntmps23
  go_upto_region 4 with (first | (go_at_call 17; (with_reducible refine (HC.out _).mono ?_); rintro e1 w2 ⟨rfl, hb⟩; have HB := Aside0.mk hb; clear hb))
  obtain ⟨n, hn⟩ : ∃ n, n = w.heap.size := ⟨_, rfl⟩
  obtain ⟨W1, hW1⟩ : ∃ W1, W1 = w.alloc (.cells #[.int .u64 (p : Int), .int .i64 (W : Int), .int .i64 (mn : Int), .int .i64 (mx : Int), .int .i64 (bt : Int)] 24) := ⟨_, rfl⟩
  have hk : W1.heap[n]? = some (.cells #[.int .u64 (p : Int), .int .i64 (W : Int), .int .i64 (mn : Int), .int .i64 (mx : Int), .int .i64 (bt : Int)] 24 (0, 0)) := by rw [hW1, hn]; exact heap_alloc_new w _
  have hsz : W1.heap.size = n + 1 := by rw [hW1, hn, World.size_alloc]
  have B0 : Below (n + 1) W1 w2 := by have h1 := HB.out; rw [← hW1, hsz] at h1; exact h1
  have HK := Aside0.mk hk
  have HW1 := Aside0.mk hW1
  have HN := Aside0.mk hn
  have HSZ := Aside0.mk hsz
  have S0 := Aside0.mk (held5 hk (pw_below_drewN B0 1))
  rw [← hn]
  have HRo := Aside0.mk (fun W' : World => (HRo.out W'))
  clear hk hn hW1 HB B0 hsz
  go_region_held3 (fun W' => Below (n + 1) W1 W' ∧ W'.cell? ⟨n, 0, none⟩ = some (.int .u64 (p : Int)) ∧ W'.cell? ⟨n, 1, none⟩ = some (.int .i64 (W : Int)) ∧ W'.cell? ⟨n, 2, none⟩ = some (.int .i64 (mn : Int)) ∧ W'.cell? ⟨n, 3, none⟩ = some (.int .i64 (mx : Int)) ∧ W'.cell? ⟨n, 4, none⟩ = some (.int .i64 (bt : Int)))
    (first | exact S0.out | exact held5_call HK.out (by assumption) (by assumption) | exact held5_alloc HK.out (by assumption) _)
    (first | ((go_at_call 36; refine (HRo.out _).mono ?_; rintro e1 w3 ⟨rb, rg, hrb, hrg, rfl, hb3, hR⟩)))
  rename_i hH
  go_wp2
  go_ret2
  have z1 : W1.heap.size ≤ w2.drew.heap.size := S0.out.1.size
  have z2 := hb3.size
  rw [HSZ.out, HN.out] at z1
  have B1 : Below w.heap.size w W1 := by rw [HW1.out]; exact below_alloc (Below.refl _ _) _
  have hF := below_then B1 (by rw [HSZ.out, HN.out]; exact Nat.le_succ _) (show Below W1.heap.size W1 _ by rw [HSZ.out]; exact hH.1)
  exact new_fin (p := p) (W := W) (mn := mn) (mx := mx) (bt := bt) (n0 := 0) hF rfl (by omega) (by omega) (by omega) hR rfl
end Go.Proofs.Ytoofafgnlgaajaa.RW
