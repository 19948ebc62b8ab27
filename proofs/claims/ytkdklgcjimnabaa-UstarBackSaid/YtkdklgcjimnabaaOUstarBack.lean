/- The walk of UstarBack. Conditions: as the theorem says. -/
import Derived.Test.YtkdklgcjimnabaaPUstarx4
import Derived.Test.YtkdklgcjimnabaaPUstarx5
import Derived.Test.YtkdklgcjimnabaaPUstarx6
import Derived.Test.YtkdklgcjimnabaaApart2
namespace Go.Proofs.Ytkdklgcjimnabaa.PUstar
open Go.RowKit Go.Proofs.YtkdklgcjimnabaaW.PrintWords Go.Proofs.YtkdklgcjimnabaaW.PrintLast Go.Proofs.YtkdklgcjimnabaaW.PrintMore
set_option linter.unusedVariables false
set_option linter.unusedSimpArgs false
attribute [local go_sem high] eqA26
namespace OB
/-- A header's cells. -/
def hc (p : ByteArray) (m u g s t ty : Int) (lk : ByteArray) : Array Value := #[.string p, .int .i64 m, .int .i64 u, .int .i64 g, .int .i64 s, .int .i64 t, .int .u8 ty, .string lk]
def set8 (w : World) (b : Nat) (a0 a1 a2 a3 a4 a5 a6 a7 : Value) : World := (((((((w.setCell ⟨b, 0, none⟩ a0).setCell ⟨b, 1, none⟩ a1).setCell ⟨b, 2, none⟩ a2).setCell ⟨b, 3, none⟩ a3).setCell ⟨b, 4, none⟩ a4).setCell ⟨b, 5, none⟩ a5).setCell ⟨b, 6, none⟩ a6).setCell ⟨b, 7, none⟩ a7
theorem put8 {w : World} {b : Nat} (h : w.heap[b]? = some (.cells (hc ⟨#[]⟩ 0 0 0 0 0 0 ⟨#[]⟩) 26 (0, 0))) (p : ByteArray) (m u g s t ty : Int) (lk : ByteArray) :
    (set8 w b (.string p) (.int .i64 m) (.int .i64 u) (.int .i64 g) (.int .i64 s) (.int .i64 t) (.int .u8 ty) (.string lk)).heap[b]? = some (.cells (hc p m u g s t ty lk) 26 (0, 0)) := by
  unfold set8
  refine blk_put (cs := hc p m u g s t ty ⟨#[]⟩) ?_ 7 _ rfl
  refine blk_put (cs := hc p m u g s t 0 ⟨#[]⟩) ?_ 6 _ rfl
  refine blk_put (cs := hc p m u g s 0 0 ⟨#[]⟩) ?_ 5 _ rfl
  refine blk_put (cs := hc p m u g 0 0 0 ⟨#[]⟩) ?_ 4 _ rfl
  refine blk_put (cs := hc p m u 0 0 0 0 ⟨#[]⟩) ?_ 3 _ rfl
  refine blk_put (cs := hc p m 0 0 0 0 0 ⟨#[]⟩) ?_ 2 _ rfl
  refine blk_put (cs := hc p 0 0 0 0 0 0 ⟨#[]⟩) ?_ 1 _ rfl
  exact blk_put (cs := hc ⟨#[]⟩ 0 0 0 0 0 0 ⟨#[]⟩) h 0 _ rfl
theorem far8 {w : World} {b : Nat} {c : Nat} {t0 : TypeId} {cs : Array Value} (h : w.heap[c]? = some (.cells cs t0 (0, 0))) (hne : c ≠ b) (a0 a1 a2 a3 a4 a5 a6 a7 : Value) :
    (set8 w b a0 a1 a2 a3 a4 a5 a6 a7).heap[c]? = some (.cells cs t0 (0, 0)) :=
  blk_far (blk_far (blk_far (blk_far (blk_far (blk_far (blk_far (blk_far h hne _) hne _) hne _) hne _) hne _) hne _) hne _) hne _
theorem below8 {w W : World} {b : Nat} (h : Below w.heap.size w W) (hb : w.heap.size ≤ b) (a0 a1 a2 a3 a4 a5 a6 a7 : Value) :
    Below w.heap.size w (set8 W b a0 a1 a2 a3 a4 a5 a6 a7) :=
  below_set (below_set (below_set (below_set (below_set (below_set (below_set (below_set h hb) hb) hb) hb) hb) hb) hb) hb
theorem own8 {w : World} {base : Nat} {b n : Nat} {v : Value} {xs : List Value} {cs : Array Value} (h : w.ownsRow base 5 1 v n xs) (hb : w.heap[b]? = some (.cells cs 26 (0, 0))) (a0 a1 a2 a3 a4 a5 a6 a7 : Value) :
    (set8 w b a0 a1 a2 a3 a4 a5 a6 a7).ownsRow base 5 1 v n xs := by
  have hne : v.ownBlock ≠ some b := fun e => by
    obtain ⟨c, hc⟩ := Apart.own_typed' h e
    rw [hb] at hc
    simp at hc
  unfold set8
  exact Apart.far (Apart.far (Apart.far (Apart.far (Apart.far (Apart.far (Apart.far (Apart.far h b 0 a0 hne) b 1 a1 hne) b 2 a2 hne) b 3 a3 hne) b 4 a4 hne) b 5 a5 hne) b 6 a6 hne) b 7 a7 hne
theorem cells8 {W : World} {b : Nat} {p : ByteArray} {m u g s t ty : Int} {lk : ByteArray} (h : W.heap[b]? = some (.cells (hc p m u g s t ty lk) 26 (0, 0))) :
    W.cell? ⟨b, 0, none⟩ = some (.string p) ∧ W.cell? ⟨b, 1, none⟩ = some (.int .i64 m) ∧ W.cell? ⟨b, 2, none⟩ = some (.int .i64 u) ∧ W.cell? ⟨b, 3, none⟩ = some (.int .i64 g) ∧ W.cell? ⟨b, 4, none⟩ = some (.int .i64 s) ∧ W.cell? ⟨b, 5, none⟩ = some (.int .i64 t) ∧ W.cell? ⟨b, 6, none⟩ = some (.int .u8 ty) ∧ W.cell? ⟨b, 7, none⟩ = some (.string lk) :=
  ⟨(blk_cell h 0).trans rfl, (blk_cell h 1).trans rfl, (blk_cell h 2).trans rfl, (blk_cell h 3).trans rfl, (blk_cell h 4).trans rfl, (blk_cell h 5).trans rfl, (blk_cell h 6).trans rfl, (blk_cell h 7).trans rfl⟩
theorem grown_of_below {w W : World} (h : Below w.heap.size w W) : w.grownBy W none := ⟨h.os, h.tape, h.output, h.size, fun k hk _ => h.block k hk⟩
theorem own_below {w W : World} {base : Nat} {e : TypeId} {size n : Nat} {v : Value} {xs : List Value} (h : w.ownsRow base e size v n xs) (hb : Below w.heap.size w W) : W.ownsRow base e size v n xs := Apart.kept_none h (grown_of_below hb)
theorem own_low {w : World} {base base' : Nat} {e : TypeId} {size n : Nat} {v : Value} {xs : List Value} (h : w.ownsRow base e size v n xs) (hb : base' ≤ base) : w.ownsRow base' e size v n xs := by
  refine ⟨h.1, ?_⟩
  rcases h.2 with hn | ⟨g, cap, cur, hv, hg, rest⟩
  · exact .inl hn
  · exact .inr ⟨g, cap, cur, hv, Nat.le_trans hb hg, rest⟩
theorem reads {w : World} {base : Nat} {A : Option Addr} {n c : Nat} {x : List Int} (h : w.ownsRow base 5 1 (.slice A n c) x.length (nums .u8 x)) : x.length ≤ c ∧ Kd.C (Kd.int .u8) w A x.length x := by
  have hR : Kd.R (Kd.int .u8) 5 w base (fun _ => True) (.slice A n c) x := Kd.R_of_own (enc := Value.int .u8) (h1 := fun _ => rfl) h (fun _ _ => trivial)
  obtain ⟨h1, h2, h3⟩ := Kd.R_reads' hR
  subst h1
  exact ⟨h2, h3⟩
theorem ne_new {W w1 : World} {b : Nat} {e e' : TypeId} {s s' n n' : Nat} {u v : Value} {xs ys : List Value} (hx : W.ownsRow b e s u n xs) (hy : w1.ownsRow W.heap.size e' s' v n' ys) : Apart.Ne v u := fun k hk hk' => by
  have h1 := (hy.lt k hk).1
  have h2 := (hx.lt k hk').2
  omega
theorem apart2 (w W : World) (hB : Below w.heap.size w W) (vx vy : Value) (x : List Int) (hlen : x.length ≤ 262144)
    (hx : W.ownsRow w.heap.size 5 1 vx x.length (nums .u8 x)) (hy : W.ownsRow w.heap.size 5 1 vy x.length (nums .u8 x)) (hne : Apart.Ne vy vx) :
    Calls Try.prog 15 #[.slice (some ⟨W.heap.size, 0, none⟩) 2 2] (W.alloc (.cells #[vx, vy] 22)) fun e w' => e = .returned (.bool true) ∧ Below w.heap.size w w' := by
  have hs := hB.size
  have hg := Apart.grown_alloc W (.cells #[vx, vy] 22)
  have hsz : w.heap.size ≤ (W.alloc (.cells #[vx, vy] 22)).heap.size := Nat.le_trans hs hg.size
  refine (Apart.calls w.heap.size (some ⟨W.heap.size, 0, none⟩) 2 2 (fun j => if j = 0 then vx else vy) (fun _ => x) (W.alloc (.cells #[vx, vy] 22)) hsz (by omega) (fun _ _ => by omega) ?_ ?_ ?_).mono ?_
  · exact ⟨rfl, .inr ⟨W.heap.size, 2, #[vx, vy], rfl, hs, heap_alloc_new W _, Nat.le_refl _, by simp [maxLen], rfl, rfl⟩⟩
  · intro j hj
    by_cases h : j = 0
    · simp only [h, if_true]; exact Apart.kept_none hx hg
    · simp only [if_neg h]; exact Apart.kept_none hy hg
  · intro i j hi hj hij
    by_cases h0 : i = 0
    · have h1 : j ≠ 0 := by omega
      simp only [h0, if_true, if_neg h1]; exact hne.symm
    · have h1 : j = 0 := by omega
      simp only [if_neg h0, h1, if_true]; exact hne
  · rintro e w' ⟨rfl, hf⟩
    refine ⟨rfl, (below_alloc hB _).trans (hf.below w.heap.size hsz (fun j hj k hk => ?_))⟩
    by_cases h : j = 0
    · simp only [h, if_true] at hk; exact (hx.lt k hk).1
    · simp only [if_neg h] at hk; exact (hy.lt k hk).1
set_option maxHeartbeats 8000000 in
set_option maxRecDepth 100000 in
theorem walk_ee (k : Nat) (p : ByteArray) (m u g s t ty : Int) (lk : ByteArray) (Ab : Option Addr) (d : Nat) (b : List Int) (w : World)
    (hD : Kd.C (Kd.int .u8) w Ab b.length b) (hd : b.length ≤ d) (h1 : amphoralaw10_alive.f k = some true) (h3 : ustar_Encode.f k p m u g s t ty lk = some ([], some 14)) (h9 : ustar_Decode.f k b = some (⟨#[]⟩, 0, 0, 0, 0, 0, 0, ⟨#[]⟩, some 14)) :
    Calls Try.prog 4 #[.agg #[.string p, .int .i64 m, .int .i64 u, .int .i64 g, .int .i64 s, .int .i64 t, .int .u8 ty, .string lk], .slice Ab b.length d] w fun e w' => e = .returned (.bool true) ∧ Below w.heap.size w w' := by
  have hu26 := Try.underlying26
  have hu28 := Try.underlying28
  have hu40 := Try.underlying40
  have hcmp := eql_err28
  have HB := Aside0.mk (Below.refl w.heap.size w)
  have HD := Aside0.mk hD
  have HDL := Aside0.mk hd
  have A1 := Aside0.mk h1
  have A3 := Aside0.mk h3
  have B1 := Aside0.mk h9
  clear hD hd h1 h3 h9
  go_enter Try.func4, Try.ntmps4
  go_wp2_with (first
    | ((with_reducible refine gate_dst (N := 2) rfl ?_); refine box_event ?hg (N := 2) ?hd (cs := hc p m u g s t ty lk) (t := 26) ?hr ?_; (case hd => rfl); (case hg => rfl); (case hr => first | (go_simp; done) | (go_simp; rfl)); intro gb2 hg2 w0 hbox hb; have BK2 := Aside0.mk hbox; have n0_ := Aside0.mk (below_step HB.out hb); clear HB hb; have HB := n0_; clear n0_; clear hbox hg2)
    | (go_at_call 8; (with_reducible refine (amphoralaw10_alive.calls k true _ A1.out).mono ?_); rintro e1 w1 ⟨rfl, hb⟩; have n0_ := Aside0.mk (below_step HB.out hb); have n1_ := Aside0.mk (blk_below BK2.out hb); clear HB BK2 hb; have HB := n0_; have BK2 := n1_; clear n0_ n1_; obtain ⟨y2_0, y2_1, y2_2, y2_3, y2_4, y2_5, y2_6, y2_7⟩ := cells8 BK2.out)
    | (go_at_call 14; (with_reducible refine (ustar_Encode.calls k p m u g s t ty lk [] (some 14) _ A3.out).mono ?_); rintro e3 w3 ⟨v3, rfl, ho, hb⟩; have n0_ := Aside0.mk (below_step HB.out hb); have n1_ := Aside0.mk (blk_below BK2.out hb); clear HB BK2 hb; have HB := n0_; have BK2 := n1_; clear n0_ n1_; clear A3; obtain ⟨Ax, cx, eo, hcx, hCx⟩ := Kd.R_reads ho; subst eo; clear hCx hcx ho; (try simp only [errW_some]))
    | (go_at_call 10; (with_reducible refine (ustar_Decode.calls k _ _ b ⟨#[]⟩ 0 0 0 0 0 0 ⟨#[]⟩ (some 14) _ ?s1 HDL.out B1.out).mono ?_); (case s1 => exact Kd.C_below HD.out HB.out); rintro e10 w10 ⟨rfl, hb⟩; have n0_ := Aside0.mk (below_step HB.out hb); clear HB hb; have HB := n0_; clear n0_; clear B1; (try simp only [errW_none, errW_some]))
    | ((with_reducible refine gate_dst (N := 11) rfl ?_); refine box_event ?hg (N := 11) ?hd (cs := hc ⟨#[]⟩ 0 0 0 0 0 0 ⟨#[]⟩) (t := 26) ?hr ?_; (case hd => rfl); (case hg => rfl); (case hr => first | (go_simp; done) | (go_simp; rfl)); intro gb11 hg11 w5 hbox hb; have G11 := Aside0.mk (show w.heap.size ≤ gb11 by (rw [hg11]; exact below_size HB.out)); have BK11 := Aside0.mk hbox; have n0_ := Aside0.mk (below_step HB.out hb); clear HB hb; have HB := n0_; clear n0_; clear hg11 hbox; have fz0 := blk_frozen BK11.out 0; have fz1 := blk_frozen BK11.out 1; have fz2 := blk_frozen BK11.out 2; have fz3 := blk_frozen BK11.out 3; have fz4 := blk_frozen BK11.out 4; have fz5 := blk_frozen BK11.out 5; have fz6 := blk_frozen BK11.out 6; have fz7 := blk_frozen BK11.out 7; obtain ⟨z0, z1, z2, z3, z4, z5, z6, z7⟩ := cells8 BK11.out)
    | ((with_reducible refine gate_store (t := 26) (p := 11) rfl ?_); refine store_event (t := 26) (p := 11) (v := ?vo) (w1 := set8 w5 gb11 (.string ⟨#[]⟩) (.int .i64 0) (.int .i64 0) (.int .i64 0) (.int .i64 0) (.int .i64 0) (.int .u8 0) (.string ⟨#[]⟩)) ?hg ?ho ?hn ?hr ?_; (case ho => rfl); (case hg => rfl); (case hn => rfl); (case hr => unfold set8; first | (go_simp; done) | (go_simp; rfl)); intro w6 hw6; have n0_ : Aside0 (Below w.heap.size w w6) := ⟨by rw [hw6]; exact below8 HB.out G11.out _ _ _ _ _ _ _ _⟩; have m0_ : Aside0 (w6.heap[gb11]? = some (.cells (hc ⟨#[]⟩ 0 0 0 0 0 0 ⟨#[]⟩) 26 (0, 0))) := ⟨by rw [hw6]; exact put8 BK11.out _ _ _ _ _ _ _ _⟩; clear HB BK11  hw6 fz0 fz1 fz2 fz3 fz4 fz5 fz6 fz7 z0 z1 z2 z3 z4 z5 z6 z7; have HB := n0_; have BK11 := m0_; clear m0_ n0_; obtain ⟨y11_0, y11_1, y11_2, y11_3, y11_4, y11_5, y11_6, y11_7⟩ := cells8 BK11.out))
  go_ret
  exact ⟨by first | rfl | (simp; done) | (simp [*]; done), by repeat (first | (with_reducible first | exact HB.out | apply below_alloc | apply pw_below_drewN | apply below_drew1 | refine below_set ?_ G11.out))⟩
set_option maxHeartbeats 8000000 in
set_option maxRecDepth 100000 in
theorem walk_eo (p2 : ByteArray) (m2 u2 g2 s2 t2 ty2 : Int) (lk2 : ByteArray) (k : Nat) (p : ByteArray) (m u g s t ty : Int) (lk : ByteArray) (Ab : Option Addr) (d : Nat) (b : List Int) (w : World)
    (hD : Kd.C (Kd.int .u8) w Ab b.length b) (hd : b.length ≤ d) (h1 : amphoralaw10_alive.f k = some true) (h3 : ustar_Encode.f k p m u g s t ty lk = some ([], some 14)) (h9 : ustar_Decode.f k b = some (p2, m2, u2, g2, s2, t2, ty2, lk2, none)) (h10 : ustar_Encode.f k p2 m2 u2 g2 s2 t2 ty2 lk2 = some (b, none)) :
    Calls Try.prog 4 #[.agg #[.string p, .int .i64 m, .int .i64 u, .int .i64 g, .int .i64 s, .int .i64 t, .int .u8 ty, .string lk], .slice Ab b.length d] w fun e w' => e = .returned (.bool true) ∧ Below w.heap.size w w' := by
  have hu26 := Try.underlying26
  have hu28 := Try.underlying28
  have hu40 := Try.underlying40
  have hcmp := eql_err28
  have HB := Aside0.mk (Below.refl w.heap.size w)
  have HD := Aside0.mk hD
  have HDL := Aside0.mk hd
  have A1 := Aside0.mk h1
  have A3 := Aside0.mk h3
  have B1 := Aside0.mk h9
  have B2 := Aside0.mk h10
  clear hD hd h1 h3 h9 h10
  go_enter Try.func4, Try.ntmps4
  go_wp2_with (first
    | ((with_reducible refine gate_dst (N := 2) rfl ?_); refine box_event ?hg (N := 2) ?hd (cs := hc p m u g s t ty lk) (t := 26) ?hr ?_; (case hd => rfl); (case hg => rfl); (case hr => first | (go_simp; done) | (go_simp; rfl)); intro gb2 hg2 w0 hbox hb; have BK2 := Aside0.mk hbox; have n0_ := Aside0.mk (below_step HB.out hb); clear HB hb; have HB := n0_; clear n0_; clear hbox hg2)
    | (go_at_call 8; (with_reducible refine (amphoralaw10_alive.calls k true _ A1.out).mono ?_); rintro e1 w1 ⟨rfl, hb⟩; have n0_ := Aside0.mk (below_step HB.out hb); have n1_ := Aside0.mk (blk_below BK2.out hb); clear HB BK2 hb; have HB := n0_; have BK2 := n1_; clear n0_ n1_; obtain ⟨y2_0, y2_1, y2_2, y2_3, y2_4, y2_5, y2_6, y2_7⟩ := cells8 BK2.out)
    | (go_at_call 14; (with_reducible refine (ustar_Encode.calls k p m u g s t ty lk [] (some 14) _ A3.out).mono ?_); rintro e3 w3 ⟨v3, rfl, ho, hb⟩; have n0_ := Aside0.mk (below_step HB.out hb); have n1_ := Aside0.mk (blk_below BK2.out hb); clear HB BK2 hb; have HB := n0_; have BK2 := n1_; clear n0_ n1_; clear A3; obtain ⟨Ax, cx, eo, hcx, hCx⟩ := Kd.R_reads ho; subst eo; clear hCx hcx ho; (try simp only [errW_some]))
    | (go_at_call 10; (with_reducible refine (ustar_Decode.calls k _ _ b p2 m2 u2 g2 s2 t2 ty2 lk2 none _ ?s1 HDL.out B1.out).mono ?_); (case s1 => exact Kd.C_below HD.out HB.out); rintro e10 w10 ⟨rfl, hb⟩; have n0_ := Aside0.mk (below_step HB.out hb); clear HB hb; have HB := n0_; clear n0_; clear B1; (try simp only [errW_none, errW_some]))
    | ((with_reducible refine gate_dst (N := 11) rfl ?_); refine box_event ?hg (N := 11) ?hd (cs := hc ⟨#[]⟩ 0 0 0 0 0 0 ⟨#[]⟩) (t := 26) ?hr ?_; (case hd => rfl); (case hg => rfl); (case hr => first | (go_simp; done) | (go_simp; rfl)); intro gb11 hg11 w5 hbox hb; have G11 := Aside0.mk (show w.heap.size ≤ gb11 by (rw [hg11]; exact below_size HB.out)); have BK11 := Aside0.mk hbox; have n0_ := Aside0.mk (below_step HB.out hb); clear HB hb; have HB := n0_; clear n0_; clear hg11 hbox; have fz0 := blk_frozen BK11.out 0; have fz1 := blk_frozen BK11.out 1; have fz2 := blk_frozen BK11.out 2; have fz3 := blk_frozen BK11.out 3; have fz4 := blk_frozen BK11.out 4; have fz5 := blk_frozen BK11.out 5; have fz6 := blk_frozen BK11.out 6; have fz7 := blk_frozen BK11.out 7; obtain ⟨z0, z1, z2, z3, z4, z5, z6, z7⟩ := cells8 BK11.out)
    | ((with_reducible refine gate_store (t := 26) (p := 11) rfl ?_); refine store_event (t := 26) (p := 11) (v := ?vo) (w1 := set8 w5 gb11 (.string p2) (.int .i64 m2) (.int .i64 u2) (.int .i64 g2) (.int .i64 s2) (.int .i64 t2) (.int .u8 ty2) (.string lk2)) ?hg ?ho ?hn ?hr ?_; (case ho => rfl); (case hg => rfl); (case hn => rfl); (case hr => unfold set8; first | (go_simp; done) | (go_simp; rfl)); intro w6 hw6; have n0_ : Aside0 (Below w.heap.size w w6) := ⟨by rw [hw6]; exact below8 HB.out G11.out _ _ _ _ _ _ _ _⟩; have m0_ : Aside0 (w6.heap[gb11]? = some (.cells (hc p2 m2 u2 g2 s2 t2 ty2 lk2) 26 (0, 0))) := ⟨by rw [hw6]; exact put8 BK11.out _ _ _ _ _ _ _ _⟩; clear HB BK11  hw6 fz0 fz1 fz2 fz3 fz4 fz5 fz6 fz7 z0 z1 z2 z3 z4 z5 z6 z7; have HB := n0_; have BK11 := m0_; clear m0_ n0_; obtain ⟨y11_0, y11_1, y11_2, y11_3, y11_4, y11_5, y11_6, y11_7⟩ := cells8 BK11.out)
    | (go_at_call 14; (with_reducible refine (ustar_Encode.calls k p2 m2 u2 g2 s2 t2 ty2 lk2 b none _ B2.out).mono ?_); rintro e11 w11 ⟨v11, rfl, ho, hb⟩; have n0_ := Aside0.mk (below_step (by repeat (first | (with_reducible exact HB.out) | (with_reducible refine below_set ?_ G11.out))) hb); clear HB hb; have HB := n0_; clear n0_; obtain ⟨Av, cv, eo, hcv, hCv⟩ := Kd.R_reads ho; subst eo; have hcv1 : ∀ q : Nat, (convert 22 9 (.slice Av b.length cv)).run Try.prog (w11.drewN q) = .ok (.string (strOfNums b)) (w11.drewN q) := fun q => Kd.C_string (P := Try.prog) Try.underlying22 Try.underlying5 Try.underlying9 (Kd.C_drewN hCv q); have hcv2 : ∀ q : Nat, (convert 22 9 (.slice Ab b.length d)).run Try.prog (w11.drewN q) = .ok (.string (strOfNums b)) (w11.drewN q) := fun q => Kd.C_string (P := Try.prog) Try.underlying22 Try.underlying5 Try.underlying9 (Kd.C_drewN (Kd.C_below HD.out HB.out) q); have hcv3 := Kd.C_string (P := Try.prog) (c := cv) Try.underlying22 Try.underlying5 Try.underlying9 hCv; have hcv4 := Kd.C_string (P := Try.prog) (c := d) Try.underlying22 Try.underlying5 Try.underlying9 (Kd.C_below HD.out HB.out); clear hCv hcv ho; (try simp only [errW_none])))
  go_ret
  exact ⟨by first | rfl | (simp; done) | (simp [*]; done), by repeat (first | (with_reducible first | exact HB.out | apply below_alloc | apply pw_below_drewN | apply below_drew1 | refine below_set ?_ G11.out))⟩
set_option maxHeartbeats 8000000 in
set_option maxRecDepth 100000 in
theorem walk_oe (x : List Int) (k : Nat) (p : ByteArray) (m u g s t ty : Int) (lk : ByteArray) (Ab : Option Addr) (d : Nat) (b : List Int) (w : World)
    (hD : Kd.C (Kd.int .u8) w Ab b.length b) (hd : b.length ≤ d) (h1 : amphoralaw10_alive.f k = some true) (hx : x.length = 512) (h3 : ustar_Encode.f k p m u g s t ty lk = some (x, none)) (h4 : ustar_Decode.f k x = some (p, m, u, g, s, t, ty, lk, none)) (h9 : ustar_Decode.f k b = some (⟨#[]⟩, 0, 0, 0, 0, 0, 0, ⟨#[]⟩, some 14)) :
    Calls Try.prog 4 #[.agg #[.string p, .int .i64 m, .int .i64 u, .int .i64 g, .int .i64 s, .int .i64 t, .int .u8 ty, .string lk], .slice Ab b.length d] w fun e w' => e = .returned (.bool true) ∧ Below w.heap.size w w' := by
  have hu26 := Try.underlying26
  have hu28 := Try.underlying28
  have hu40 := Try.underlying40
  have hcmp := eql_err28
  have HB := Aside0.mk (Below.refl w.heap.size w)
  have HD := Aside0.mk hD
  have HDL := Aside0.mk hd
  have hxl : x.length ≤ 262144 := by omega
  have c512 : decide ((x.length : Int) = 512) = true := decide_eq_true (by omega)
  have p512 := eq_true (show (x.length : Int) = 512 by omega)
  have q512 : ((x.length : Int) != 512) = false := bne_eq_false_iff_eq.mpr (by omega)
  have r512 : ((x.length : Int) == 512) = true := beq_iff_eq.mpr (by omega)
  have A1 := Aside0.mk h1
  have A3 := Aside0.mk h3
  have A4 := Aside0.mk h4
  have A6 := Aside0.mk h3
  have HXX := Aside0.mk hxl
  have H512 := Aside0.mk hx
  have B1 := Aside0.mk h9
  clear hD hd h1 h3 h4 hxl hx h9
  go_enter Try.func4, Try.ntmps4
  go_wp2_with (first
    | ((with_reducible refine gate_dst (N := 2) rfl ?_); refine box_event ?hg (N := 2) ?hd (cs := hc p m u g s t ty lk) (t := 26) ?hr ?_; (case hd => rfl); (case hg => rfl); (case hr => first | (go_simp; done) | (go_simp; rfl)); intro gb2 hg2 w0 hbox hb; have BK2 := Aside0.mk hbox; have n0_ := Aside0.mk (below_step HB.out hb); clear HB hb; have HB := n0_; clear n0_; clear hbox hg2)
    | (go_at_call 8; (with_reducible refine (amphoralaw10_alive.calls k true _ A1.out).mono ?_); rintro e1 w1 ⟨rfl, hb⟩; have n0_ := Aside0.mk (below_step HB.out hb); have n1_ := Aside0.mk (blk_below BK2.out hb); clear HB BK2 hb; have HB := n0_; have BK2 := n1_; clear n0_ n1_; obtain ⟨y2_0, y2_1, y2_2, y2_3, y2_4, y2_5, y2_6, y2_7⟩ := cells8 BK2.out)
    | (go_at_call 14; (with_reducible refine (ustar_Encode.calls k p m u g s t ty lk x none _ A3.out).mono ?_); rintro e3 w3 ⟨v3, rfl, ho, hb⟩; have hbs := below_size HB.out; have n0_ := Aside0.mk (below_step HB.out hb); have n1_ := Aside0.mk (blk_below BK2.out hb); clear HB BK2 hb; have HB := n0_; have BK2 := n1_; clear n0_ n1_; clear A3; have HXR := Aside0.mk (own_low (Kd.own_of_R ho) hbs); obtain ⟨Ax, cx, eo, hcx, hCx⟩ := Kd.R_reads ho; subst eo; clear hCx hcx ho hbs; (try simp only [errW_none]))
    | (go_at_call 10; (with_reducible refine (ustar_Decode.calls k _ _ x p m u g s t ty lk none _ ?s1 ?s2 A4.out).mono ?_); (case s1 => exact (reads HXR.out).2); (case s2 => exact (reads HXR.out).1); rintro e4 w4 ⟨rfl, hb⟩; have n0_ := Aside0.mk (below_step HB.out hb); have n1_ := Aside0.mk (blk_below BK2.out hb); have n2_ := Aside0.mk (own_below HXR.out hb); clear HB BK2 HXR hb; have HB := n0_; have BK2 := n1_; have HXR := n2_; clear n0_ n1_ n2_; clear A4; (try simp only [errW_none]))
    | ((with_reducible refine gate_dst (N := 7) rfl ?_); refine box_event ?hg (N := 7) ?hd (cs := hc ⟨#[]⟩ 0 0 0 0 0 0 ⟨#[]⟩) (t := 26) ?hr ?_; (case hd => rfl); (case hg => rfl); (case hr => first | (go_simp; done) | (go_simp; rfl)); intro gb7 hg7 w5 hbox hb; have G7 := Aside0.mk (show w.heap.size ≤ gb7 by (rw [hg7]; exact below_size HB.out)); have N2 := Aside0.mk (show gb2 ≠ gb7 by (rw [hg7]; exact Nat.ne_of_lt (blk_lt BK2.out))); have BK7 := Aside0.mk hbox; have n0_ := Aside0.mk (below_step HB.out hb); have n1_ := Aside0.mk (blk_below BK2.out hb); have n2_ := Aside0.mk (own_below HXR.out hb); clear HB BK2 HXR hb; have HB := n0_; have BK2 := n1_; have HXR := n2_; clear n0_ n1_ n2_; clear hg7 hbox; have fz0 := blk_frozen BK7.out 0; have fz1 := blk_frozen BK7.out 1; have fz2 := blk_frozen BK7.out 2; have fz3 := blk_frozen BK7.out 3; have fz4 := blk_frozen BK7.out 4; have fz5 := blk_frozen BK7.out 5; have fz6 := blk_frozen BK7.out 6; have fz7 := blk_frozen BK7.out 7; obtain ⟨z0, z1, z2, z3, z4, z5, z6, z7⟩ := cells8 BK7.out)
    | ((with_reducible refine gate_store (t := 26) (p := 7) rfl ?_); refine store_event (t := 26) (p := 7) (v := ?vo) (w1 := set8 w5 gb7 (.string p) (.int .i64 m) (.int .i64 u) (.int .i64 g) (.int .i64 s) (.int .i64 t) (.int .u8 ty) (.string lk)) ?hg ?ho ?hn ?hr ?_; (case ho => rfl); (case hg => rfl); (case hn => rfl); (case hr => unfold set8; first | (go_simp; done) | (go_simp; rfl)); intro w6 hw6; have n0_ : Aside0 (Below w.heap.size w w6) := ⟨by rw [hw6]; exact below8 HB.out G7.out _ _ _ _ _ _ _ _⟩; have m0_ : Aside0 (w6.heap[gb7]? = some (.cells (hc p m u g s t ty lk) 26 (0, 0))) := ⟨by rw [hw6]; exact put8 BK7.out _ _ _ _ _ _ _ _⟩; have n1_ : Aside0 (w6.heap[gb2]? = some (.cells (hc p m u g s t ty lk) 26 (0, 0))) := ⟨by rw [hw6]; exact far8 BK2.out N2.out _ _ _ _ _ _ _ _⟩; have n2_ : Aside0 (w6.ownsRow w.heap.size 5 1 (.slice Ax x.length cx) x.length (nums .u8 x)) := ⟨by rw [hw6]; exact own8 HXR.out BK7.out _ _ _ _ _ _ _ _⟩; clear HB BK7 BK2 HXR hw6 fz0 fz1 fz2 fz3 fz4 fz5 fz6 fz7 z0 z1 z2 z3 z4 z5 z6 z7; have HB := n0_; have BK7 := m0_; have BK2 := n1_; have HXR := n2_; clear m0_ n0_ n1_ n2_; obtain ⟨y7_0, y7_1, y7_2, y7_3, y7_4, y7_5, y7_6, y7_7⟩ := cells8 BK7.out; obtain ⟨y2_0, y2_1, y2_2, y2_3, y2_4, y2_5, y2_6, y2_7⟩ := cells8 BK2.out)
    | (go_at_call 14; (with_reducible refine (ustar_Encode.calls k p m u g s t ty lk x none _ A6.out).mono ?_); rintro e6 w7 ⟨v6, rfl, ho, hb⟩; have hbs := below_size HB.out; have hne := ne_new HXR.out (Kd.own_of_R ho); clear BK7 BK2 G7 N2 y7_0 y7_1 y7_2 y7_3 y7_4 y7_5 y7_6 y7_7 y2_0 y2_1 y2_2 y2_3 y2_4 y2_5 y2_6 y2_7 c512 p512 q512 r512; have n0_ := Aside0.mk (below_step HB.out hb); have n1_ := Aside0.mk (own_below HXR.out hb); clear HB HXR hb; have HB := n0_; have HXR := n1_; clear n0_ n1_; clear A6; have HYR := Aside0.mk (own_low (Kd.own_of_R ho) hbs); obtain ⟨Ay, cy, eo, hcy, hCy⟩ := Kd.R_reads ho; subst eo; have HYN := Aside0.mk hne; clear hCy hcy ho hbs hne; (try simp only [errW_none]))
    | (go_at_call 15; refine (apart2 w _ HB.out _ _ x HXX.out HXR.out HYR.out HYN.out).mono ?_; rintro e9 w9 ⟨rfl, hb⟩; clear HB HXR HYR HYN; have HB := Aside0.mk hb; clear hb)
    | (go_at_call 10; (with_reducible refine (ustar_Decode.calls k _ _ b ⟨#[]⟩ 0 0 0 0 0 0 ⟨#[]⟩ (some 14) _ ?s1 HDL.out B1.out).mono ?_); (case s1 => exact Kd.C_below HD.out HB.out); rintro e10 w10 ⟨rfl, hb⟩; have n0_ := Aside0.mk (below_step HB.out hb); clear HB hb; have HB := n0_; clear n0_; clear B1; (try simp only [errW_none, errW_some]))
    | ((with_reducible refine gate_dst (N := 11) rfl ?_); refine box_event ?hg (N := 11) ?hd (cs := hc ⟨#[]⟩ 0 0 0 0 0 0 ⟨#[]⟩) (t := 26) ?hr ?_; (case hd => rfl); (case hg => rfl); (case hr => first | (go_simp; done) | (go_simp; rfl)); intro gb11 hg11 w5 hbox hb; have G11 := Aside0.mk (show w.heap.size ≤ gb11 by (rw [hg11]; exact below_size HB.out)); have BK11 := Aside0.mk hbox; have n0_ := Aside0.mk (below_step HB.out hb); clear HB hb; have HB := n0_; clear n0_; clear hg11 hbox; have fz0 := blk_frozen BK11.out 0; have fz1 := blk_frozen BK11.out 1; have fz2 := blk_frozen BK11.out 2; have fz3 := blk_frozen BK11.out 3; have fz4 := blk_frozen BK11.out 4; have fz5 := blk_frozen BK11.out 5; have fz6 := blk_frozen BK11.out 6; have fz7 := blk_frozen BK11.out 7; obtain ⟨z0, z1, z2, z3, z4, z5, z6, z7⟩ := cells8 BK11.out)
    | ((with_reducible refine gate_store (t := 26) (p := 11) rfl ?_); refine store_event (t := 26) (p := 11) (v := ?vo) (w1 := set8 w5 gb11 (.string ⟨#[]⟩) (.int .i64 0) (.int .i64 0) (.int .i64 0) (.int .i64 0) (.int .i64 0) (.int .u8 0) (.string ⟨#[]⟩)) ?hg ?ho ?hn ?hr ?_; (case ho => rfl); (case hg => rfl); (case hn => rfl); (case hr => unfold set8; first | (go_simp; done) | (go_simp; rfl)); intro w6 hw6; have n0_ : Aside0 (Below w.heap.size w w6) := ⟨by rw [hw6]; exact below8 HB.out G11.out _ _ _ _ _ _ _ _⟩; have m0_ : Aside0 (w6.heap[gb11]? = some (.cells (hc ⟨#[]⟩ 0 0 0 0 0 0 ⟨#[]⟩) 26 (0, 0))) := ⟨by rw [hw6]; exact put8 BK11.out _ _ _ _ _ _ _ _⟩; clear HB BK11  hw6 fz0 fz1 fz2 fz3 fz4 fz5 fz6 fz7 z0 z1 z2 z3 z4 z5 z6 z7; have HB := n0_; have BK11 := m0_; clear m0_ n0_; obtain ⟨y11_0, y11_1, y11_2, y11_3, y11_4, y11_5, y11_6, y11_7⟩ := cells8 BK11.out))
  go_ret
  exact ⟨by first | rfl | (simp; done) | (simp [*]; done), by repeat (first | (with_reducible first | exact HB.out | apply below_alloc | apply pw_below_drewN | apply below_drew1 | refine below_set ?_ G11.out))⟩
set_option maxHeartbeats 8000000 in
set_option maxRecDepth 100000 in
theorem walk_oo (x : List Int) (p2 : ByteArray) (m2 u2 g2 s2 t2 ty2 : Int) (lk2 : ByteArray) (k : Nat) (p : ByteArray) (m u g s t ty : Int) (lk : ByteArray) (Ab : Option Addr) (d : Nat) (b : List Int) (w : World)
    (hD : Kd.C (Kd.int .u8) w Ab b.length b) (hd : b.length ≤ d) (h1 : amphoralaw10_alive.f k = some true) (hx : x.length = 512) (h3 : ustar_Encode.f k p m u g s t ty lk = some (x, none)) (h4 : ustar_Decode.f k x = some (p, m, u, g, s, t, ty, lk, none)) (h9 : ustar_Decode.f k b = some (p2, m2, u2, g2, s2, t2, ty2, lk2, none)) (h10 : ustar_Encode.f k p2 m2 u2 g2 s2 t2 ty2 lk2 = some (b, none)) :
    Calls Try.prog 4 #[.agg #[.string p, .int .i64 m, .int .i64 u, .int .i64 g, .int .i64 s, .int .i64 t, .int .u8 ty, .string lk], .slice Ab b.length d] w fun e w' => e = .returned (.bool true) ∧ Below w.heap.size w w' := by
  have hu26 := Try.underlying26
  have hu28 := Try.underlying28
  have hu40 := Try.underlying40
  have hcmp := eql_err28
  have HB := Aside0.mk (Below.refl w.heap.size w)
  have HD := Aside0.mk hD
  have HDL := Aside0.mk hd
  have hxl : x.length ≤ 262144 := by omega
  have c512 : decide ((x.length : Int) = 512) = true := decide_eq_true (by omega)
  have p512 := eq_true (show (x.length : Int) = 512 by omega)
  have q512 : ((x.length : Int) != 512) = false := bne_eq_false_iff_eq.mpr (by omega)
  have r512 : ((x.length : Int) == 512) = true := beq_iff_eq.mpr (by omega)
  have A1 := Aside0.mk h1
  have A3 := Aside0.mk h3
  have A4 := Aside0.mk h4
  have A6 := Aside0.mk h3
  have HXX := Aside0.mk hxl
  have H512 := Aside0.mk hx
  have B1 := Aside0.mk h9
  have B2 := Aside0.mk h10
  clear hD hd h1 h3 h4 hxl hx h9 h10
  go_enter Try.func4, Try.ntmps4
  go_wp2_with (first
    | ((with_reducible refine gate_dst (N := 2) rfl ?_); refine box_event ?hg (N := 2) ?hd (cs := hc p m u g s t ty lk) (t := 26) ?hr ?_; (case hd => rfl); (case hg => rfl); (case hr => first | (go_simp; done) | (go_simp; rfl)); intro gb2 hg2 w0 hbox hb; have BK2 := Aside0.mk hbox; have n0_ := Aside0.mk (below_step HB.out hb); clear HB hb; have HB := n0_; clear n0_; clear hbox hg2)
    | (go_at_call 8; (with_reducible refine (amphoralaw10_alive.calls k true _ A1.out).mono ?_); rintro e1 w1 ⟨rfl, hb⟩; have n0_ := Aside0.mk (below_step HB.out hb); have n1_ := Aside0.mk (blk_below BK2.out hb); clear HB BK2 hb; have HB := n0_; have BK2 := n1_; clear n0_ n1_; obtain ⟨y2_0, y2_1, y2_2, y2_3, y2_4, y2_5, y2_6, y2_7⟩ := cells8 BK2.out)
    | (go_at_call 14; (with_reducible refine (ustar_Encode.calls k p m u g s t ty lk x none _ A3.out).mono ?_); rintro e3 w3 ⟨v3, rfl, ho, hb⟩; have hbs := below_size HB.out; have n0_ := Aside0.mk (below_step HB.out hb); have n1_ := Aside0.mk (blk_below BK2.out hb); clear HB BK2 hb; have HB := n0_; have BK2 := n1_; clear n0_ n1_; clear A3; have HXR := Aside0.mk (own_low (Kd.own_of_R ho) hbs); obtain ⟨Ax, cx, eo, hcx, hCx⟩ := Kd.R_reads ho; subst eo; clear hCx hcx ho hbs; (try simp only [errW_none]))
    | (go_at_call 10; (with_reducible refine (ustar_Decode.calls k _ _ x p m u g s t ty lk none _ ?s1 ?s2 A4.out).mono ?_); (case s1 => exact (reads HXR.out).2); (case s2 => exact (reads HXR.out).1); rintro e4 w4 ⟨rfl, hb⟩; have n0_ := Aside0.mk (below_step HB.out hb); have n1_ := Aside0.mk (blk_below BK2.out hb); have n2_ := Aside0.mk (own_below HXR.out hb); clear HB BK2 HXR hb; have HB := n0_; have BK2 := n1_; have HXR := n2_; clear n0_ n1_ n2_; clear A4; (try simp only [errW_none]))
    | ((with_reducible refine gate_dst (N := 7) rfl ?_); refine box_event ?hg (N := 7) ?hd (cs := hc ⟨#[]⟩ 0 0 0 0 0 0 ⟨#[]⟩) (t := 26) ?hr ?_; (case hd => rfl); (case hg => rfl); (case hr => first | (go_simp; done) | (go_simp; rfl)); intro gb7 hg7 w5 hbox hb; have G7 := Aside0.mk (show w.heap.size ≤ gb7 by (rw [hg7]; exact below_size HB.out)); have N2 := Aside0.mk (show gb2 ≠ gb7 by (rw [hg7]; exact Nat.ne_of_lt (blk_lt BK2.out))); have BK7 := Aside0.mk hbox; have n0_ := Aside0.mk (below_step HB.out hb); have n1_ := Aside0.mk (blk_below BK2.out hb); have n2_ := Aside0.mk (own_below HXR.out hb); clear HB BK2 HXR hb; have HB := n0_; have BK2 := n1_; have HXR := n2_; clear n0_ n1_ n2_; clear hg7 hbox; have fz0 := blk_frozen BK7.out 0; have fz1 := blk_frozen BK7.out 1; have fz2 := blk_frozen BK7.out 2; have fz3 := blk_frozen BK7.out 3; have fz4 := blk_frozen BK7.out 4; have fz5 := blk_frozen BK7.out 5; have fz6 := blk_frozen BK7.out 6; have fz7 := blk_frozen BK7.out 7; obtain ⟨z0, z1, z2, z3, z4, z5, z6, z7⟩ := cells8 BK7.out)
    | ((with_reducible refine gate_store (t := 26) (p := 7) rfl ?_); refine store_event (t := 26) (p := 7) (v := ?vo) (w1 := set8 w5 gb7 (.string p) (.int .i64 m) (.int .i64 u) (.int .i64 g) (.int .i64 s) (.int .i64 t) (.int .u8 ty) (.string lk)) ?hg ?ho ?hn ?hr ?_; (case ho => rfl); (case hg => rfl); (case hn => rfl); (case hr => unfold set8; first | (go_simp; done) | (go_simp; rfl)); intro w6 hw6; have n0_ : Aside0 (Below w.heap.size w w6) := ⟨by rw [hw6]; exact below8 HB.out G7.out _ _ _ _ _ _ _ _⟩; have m0_ : Aside0 (w6.heap[gb7]? = some (.cells (hc p m u g s t ty lk) 26 (0, 0))) := ⟨by rw [hw6]; exact put8 BK7.out _ _ _ _ _ _ _ _⟩; have n1_ : Aside0 (w6.heap[gb2]? = some (.cells (hc p m u g s t ty lk) 26 (0, 0))) := ⟨by rw [hw6]; exact far8 BK2.out N2.out _ _ _ _ _ _ _ _⟩; have n2_ : Aside0 (w6.ownsRow w.heap.size 5 1 (.slice Ax x.length cx) x.length (nums .u8 x)) := ⟨by rw [hw6]; exact own8 HXR.out BK7.out _ _ _ _ _ _ _ _⟩; clear HB BK7 BK2 HXR hw6 fz0 fz1 fz2 fz3 fz4 fz5 fz6 fz7 z0 z1 z2 z3 z4 z5 z6 z7; have HB := n0_; have BK7 := m0_; have BK2 := n1_; have HXR := n2_; clear m0_ n0_ n1_ n2_; obtain ⟨y7_0, y7_1, y7_2, y7_3, y7_4, y7_5, y7_6, y7_7⟩ := cells8 BK7.out; obtain ⟨y2_0, y2_1, y2_2, y2_3, y2_4, y2_5, y2_6, y2_7⟩ := cells8 BK2.out)
    | (go_at_call 14; (with_reducible refine (ustar_Encode.calls k p m u g s t ty lk x none _ A6.out).mono ?_); rintro e6 w7 ⟨v6, rfl, ho, hb⟩; have hbs := below_size HB.out; have hne := ne_new HXR.out (Kd.own_of_R ho); clear BK7 BK2 G7 N2 y7_0 y7_1 y7_2 y7_3 y7_4 y7_5 y7_6 y7_7 y2_0 y2_1 y2_2 y2_3 y2_4 y2_5 y2_6 y2_7 c512 p512 q512 r512; have n0_ := Aside0.mk (below_step HB.out hb); have n1_ := Aside0.mk (own_below HXR.out hb); clear HB HXR hb; have HB := n0_; have HXR := n1_; clear n0_ n1_; clear A6; have HYR := Aside0.mk (own_low (Kd.own_of_R ho) hbs); obtain ⟨Ay, cy, eo, hcy, hCy⟩ := Kd.R_reads ho; subst eo; have HYN := Aside0.mk hne; clear hCy hcy ho hbs hne; (try simp only [errW_none]))
    | (go_at_call 15; refine (apart2 w _ HB.out _ _ x HXX.out HXR.out HYR.out HYN.out).mono ?_; rintro e9 w9 ⟨rfl, hb⟩; clear HB HXR HYR HYN; have HB := Aside0.mk hb; clear hb)
    | (go_at_call 10; (with_reducible refine (ustar_Decode.calls k _ _ b p2 m2 u2 g2 s2 t2 ty2 lk2 none _ ?s1 HDL.out B1.out).mono ?_); (case s1 => exact Kd.C_below HD.out HB.out); rintro e10 w10 ⟨rfl, hb⟩; have n0_ := Aside0.mk (below_step HB.out hb); clear HB hb; have HB := n0_; clear n0_; clear B1; (try simp only [errW_none, errW_some]))
    | ((with_reducible refine gate_dst (N := 11) rfl ?_); refine box_event ?hg (N := 11) ?hd (cs := hc ⟨#[]⟩ 0 0 0 0 0 0 ⟨#[]⟩) (t := 26) ?hr ?_; (case hd => rfl); (case hg => rfl); (case hr => first | (go_simp; done) | (go_simp; rfl)); intro gb11 hg11 w5 hbox hb; have G11 := Aside0.mk (show w.heap.size ≤ gb11 by (rw [hg11]; exact below_size HB.out)); have BK11 := Aside0.mk hbox; have n0_ := Aside0.mk (below_step HB.out hb); clear HB hb; have HB := n0_; clear n0_; clear hg11 hbox; have fz0 := blk_frozen BK11.out 0; have fz1 := blk_frozen BK11.out 1; have fz2 := blk_frozen BK11.out 2; have fz3 := blk_frozen BK11.out 3; have fz4 := blk_frozen BK11.out 4; have fz5 := blk_frozen BK11.out 5; have fz6 := blk_frozen BK11.out 6; have fz7 := blk_frozen BK11.out 7; obtain ⟨z0, z1, z2, z3, z4, z5, z6, z7⟩ := cells8 BK11.out)
    | ((with_reducible refine gate_store (t := 26) (p := 11) rfl ?_); refine store_event (t := 26) (p := 11) (v := ?vo) (w1 := set8 w5 gb11 (.string p2) (.int .i64 m2) (.int .i64 u2) (.int .i64 g2) (.int .i64 s2) (.int .i64 t2) (.int .u8 ty2) (.string lk2)) ?hg ?ho ?hn ?hr ?_; (case ho => rfl); (case hg => rfl); (case hn => rfl); (case hr => unfold set8; first | (go_simp; done) | (go_simp; rfl)); intro w6 hw6; have n0_ : Aside0 (Below w.heap.size w w6) := ⟨by rw [hw6]; exact below8 HB.out G11.out _ _ _ _ _ _ _ _⟩; have m0_ : Aside0 (w6.heap[gb11]? = some (.cells (hc p2 m2 u2 g2 s2 t2 ty2 lk2) 26 (0, 0))) := ⟨by rw [hw6]; exact put8 BK11.out _ _ _ _ _ _ _ _⟩; clear HB BK11  hw6 fz0 fz1 fz2 fz3 fz4 fz5 fz6 fz7 z0 z1 z2 z3 z4 z5 z6 z7; have HB := n0_; have BK11 := m0_; clear m0_ n0_; obtain ⟨y11_0, y11_1, y11_2, y11_3, y11_4, y11_5, y11_6, y11_7⟩ := cells8 BK11.out)
    | (go_at_call 14; (with_reducible refine (ustar_Encode.calls k p2 m2 u2 g2 s2 t2 ty2 lk2 b none _ B2.out).mono ?_); rintro e11 w11 ⟨v11, rfl, ho, hb⟩; have n0_ := Aside0.mk (below_step (by repeat (first | (with_reducible exact HB.out) | (with_reducible refine below_set ?_ G11.out))) hb); clear HB hb; have HB := n0_; clear n0_; obtain ⟨Av, cv, eo, hcv, hCv⟩ := Kd.R_reads ho; subst eo; have hcv1 : ∀ q : Nat, (convert 22 9 (.slice Av b.length cv)).run Try.prog (w11.drewN q) = .ok (.string (strOfNums b)) (w11.drewN q) := fun q => Kd.C_string (P := Try.prog) Try.underlying22 Try.underlying5 Try.underlying9 (Kd.C_drewN hCv q); have hcv2 : ∀ q : Nat, (convert 22 9 (.slice Ab b.length d)).run Try.prog (w11.drewN q) = .ok (.string (strOfNums b)) (w11.drewN q) := fun q => Kd.C_string (P := Try.prog) Try.underlying22 Try.underlying5 Try.underlying9 (Kd.C_drewN (Kd.C_below HD.out HB.out) q); have hcv3 := Kd.C_string (P := Try.prog) (c := cv) Try.underlying22 Try.underlying5 Try.underlying9 hCv; have hcv4 := Kd.C_string (P := Try.prog) (c := d) Try.underlying22 Try.underlying5 Try.underlying9 (Kd.C_below HD.out HB.out); clear hCv hcv ho; (try simp only [errW_none])))
  go_ret
  exact ⟨by first | rfl | (simp; done) | (simp [*]; done), by repeat (first | (with_reducible first | exact HB.out | apply below_alloc | apply pw_below_drewN | apply below_drew1 | refine below_set ?_ G11.out))⟩
end OB
end Go.Proofs.Ytkdklgcjimnabaa.PUstar
