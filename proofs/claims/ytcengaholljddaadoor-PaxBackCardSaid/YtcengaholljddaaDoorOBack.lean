/- The walk of PaxBack. Conditions: as the theorem says. -/
import Derived.Test.YtcengaholljddaaDoorPPaxx4
import Derived.Test.YtcengaholljddaaDoorPPaxx6
import Derived.Test.YtcengaholljddaaDoorPPaxx7
import Derived.Test.YtcengaholljddaaDoorODecodes
import Derived.Test.YtcengaholljddaaDoorEqErr
import Derived.Test.YtcengaholljddaaDoorApart2
namespace Go.Proofs.YtcengaholljddaaDoor.PPax
open Go.RowKit Go.Proofs.YtcengaholljddaaDoorW.PrintWords Go.Proofs.YtcengaholljddaaDoorW.PrintLast Go.Proofs.YtcengaholljddaaDoorW.PrintMore
set_option linter.unusedVariables false
set_option linter.unusedSimpArgs false
namespace OB
theorem grown_of_below {w W : World} (h : Below w.heap.size w W) : w.grownBy W none := ⟨h.os, h.tape, h.output, h.size, fun k hk _ => h.block k hk⟩
theorem own_below {w W : World} {base : Nat} {e : TypeId} {size n : Nat} {v : Value} {xs : List Value} (h : w.ownsRow base e size v n xs) (hb : Below w.heap.size w W) : W.ownsRow base e size v n xs := Apart.kept_none h (grown_of_below hb)
theorem own_low {w : World} {base base' : Nat} {e : TypeId} {size n : Nat} {v : Value} {xs : List Value} (h : w.ownsRow base e size v n xs) (hb : base' ≤ base) : w.ownsRow base' e size v n xs := by
  refine ⟨h.1, ?_⟩
  rcases h.2 with hn | ⟨g, cap, cur, hv, hg, rest⟩
  · exact .inl hn
  · exact .inr ⟨g, cap, cur, hv, Nat.le_trans hb hg, rest⟩
theorem reads {w : World} {base : Nat} {A : Option Addr} {n c : Nat} {x : List Int} (h : w.ownsRow base 5 1 (.slice A n c) x.length (nums .u8 x)) : x.length ≤ c ∧ Kd.C (Kd.int .u8) w A x.length x := by
  have hR : Kd.R (Kd.int .u8) 5 w base (fun _ => True) (.slice A n c) x := Kd.R_of_own (enc := Value.int .u8) (h1 := fun _ => rfl) h (fun _ _ => trivial)
  obtain ⟨h1, h2, h3⟩ := Kd.R_reads' hR
  subst h1
  exact ⟨h2, h3⟩
theorem ne_new {W w1 : World} {b : Nat} {e e' : TypeId} {s s' n n' : Nat} {u v : Value} {xs ys : List Value} (hx : W.ownsRow b e s u n xs) (hy : w1.ownsRow W.heap.size e' s' v n' ys) : Apart.Ne v u := fun k hk hk' => by
  have h1 := (hy.lt k hk).1
  have h2 := (hx.lt k hk').2
  omega
theorem apart2 (w W : World) (hB : Below w.heap.size w W) (vx vy : Value) (x : List Int) (hlen : x.length ≤ 262144)
    (hx : W.ownsRow w.heap.size 5 1 vx x.length (nums .u8 x)) (hy : W.ownsRow w.heap.size 5 1 vy x.length (nums .u8 x)) (hne : Apart.Ne vy vx) :
    Calls Tryd.prog 20 #[.slice (some ⟨W.heap.size, 0, none⟩) 2 2] (W.alloc (.cells #[vx, vy] 31)) fun e w' => e = .returned (.bool true) ∧ Below w.heap.size w w' := by
  have hs := hB.size
  have hg := Apart.grown_alloc W (.cells #[vx, vy] 31)
  have hsz : w.heap.size ≤ (W.alloc (.cells #[vx, vy] 31)).heap.size := Nat.le_trans hs hg.size
  refine (Apart.calls w.heap.size (some ⟨W.heap.size, 0, none⟩) 2 2 (fun j => if j = 0 then vx else vy) (fun _ => x) (W.alloc (.cells #[vx, vy] 31)) hsz (by omega) (fun _ _ => by omega) ?_ ?_ ?_).mono ?_
  · exact ⟨rfl, .inr ⟨W.heap.size, 2, #[vx, vy], rfl, hs, heap_alloc_new W _, Nat.le_refl _, by simp [maxLen], rfl, rfl⟩⟩
  · intro j hj
    by_cases h : j = 0
    · simp only [h, if_true]; exact Apart.kept_none hx hg
    · simp only [if_neg h]; exact Apart.kept_none hy hg
  · intro i j hi hj hij
    by_cases h0 : i = 0
    · have h1 : j ≠ 0 := by omega
      simp only [h0, if_true, if_neg h1]; exact hne.symm
    · have h1 : j = 0 := by omega
      simp only [if_neg h0, h1, if_true]; exact hne
  · rintro e w' ⟨rfl, hf⟩
    refine ⟨rfl, (below_alloc hB _).trans (hf.below w.heap.size hsz (fun j hj k hk => ?_))⟩
    by_cases h : j = 0
    · simp only [h, if_true] at hk; exact (hx.lt k hk).1
    · simp only [if_neg h] at hk; exact (hy.lt k hk).1
/-- Behind some rounds of the loop that empties the records. -/
def LI (base : Nat) (W0 : World) (A : Option Addr) (n : Nat) (W : World) : Prop := (n = 0 ∧ W0.grownBy W none) ∨ ∃ g cur cur0, A = some ⟨g, 0, none⟩ ∧ base ≤ g ∧ W0.heap[g]? = some (.cells cur0 44 (0, 0)) ∧ W.heap[g]? = some (.cells cur 44 (0, 0)) ∧ n * 2 ≤ cur.size ∧ W0.grownBy W (some g)
theorem LI.start {base : Nat} {ok : Nat → Prop} {W : World} {A : Option Addr} {c : Nat} {l : List S44} (h : Kd.R k44 44 W base ok (.slice A l.length c) l) : LI base W A l.length W := by
  obtain ⟨inner, ho⟩ := Kd.R_own h
  rcases ho.2 with ⟨_, h0⟩ | ⟨g, cap, cur, he, hb, hg, hn, hm, hs, _⟩
  · exact .inl ⟨h0, ⟨rfl, rfl, rfl, Nat.le_refl _, fun _ _ _ => rfl⟩⟩
  · injection he with h1 h2 h3
    have hs : cur.size = cap * 2 := hs
    exact .inr ⟨g, cur, cur, h1, hb, hg, hg, by omega, ⟨rfl, rfl, rfl, Nat.le_refl _, fun _ _ _ => rfl⟩⟩
theorem grown_trans {a b c : World} {r : Option Nat} (h : a.grownBy b r) (k : b.grownBy c r) : a.grownBy c r :=
  ⟨k.os.trans h.os, k.tape.trans h.tape, k.output.trans h.output, Nat.le_trans h.size k.size, fun i hi hr => (k.block i (Nat.lt_of_lt_of_le hi h.size) hr).trans (h.block i hi hr)⟩
theorem LI.round {base : Nat} {W0 W : World} {A : Option Addr} {n : Nat} (h : LI base W0 A n W) {i : Nat} (hi : i < n) : ∃ g, A = some ⟨g, 0, none⟩ ∧ (∃ u, W.cell? ⟨g, i * 2, none⟩ = some u) ∧ (∃ u, W.cell? ⟨g, i * 2 + 1, none⟩ = some u) ∧ (∀ j, W.frozen? ⟨g, j, none⟩ = false) ∧
    ∀ a b : Value, LI base W0 A n ((W.setCell ⟨g, i * 2, none⟩ a).setCell ⟨g, i * 2 + 1, none⟩ b) := by
  rcases h with ⟨h0, _⟩ | ⟨g, cur, cur0, rfl, hb, h0, hg, hn, hgr⟩
  · omega
  · refine ⟨g, rfl, ⟨_, (blk_cell hg (i * 2)).trans (Array.getElem?_eq_getElem (by omega))⟩, ⟨_, (blk_cell hg (i * 2 + 1)).trans (Array.getElem?_eq_getElem (by omega))⟩, fun j => blk_frozen hg j, fun a b => .inr ⟨g, (cur.setIfInBounds (i * 2) a).setIfInBounds (i * 2 + 1) b, cur0, rfl, hb, h0, ?_, by simp only [Array.size_setIfInBounds]; exact hn, ?_⟩⟩
    · exact blk_put (blk_put hg (i * 2) a rfl) (i * 2 + 1) b rfl
    · exact grown_trans hgr (grown_trans (Apart.grown_set W g (i * 2) a) (Apart.grown_set _ g (i * 2 + 1) b))
theorem LI.own {base b : Nat} {W0 W : World} {A : Option Addr} {n m : Nat} {v : Value} {xs : List Value} (h : LI base W0 A n W) (hx : W0.ownsRow b 5 1 v m xs) : W.ownsRow b 5 1 v m xs := by
  rcases h with ⟨_, h0⟩ | ⟨g, cur, cur0, rfl, hb, h0, hg, hn, hgr⟩
  · exact Apart.kept_none hx h0
  · refine hx.kept hgr (.inr fun e => ?_)
    obtain ⟨c, hc⟩ := Apart.own_typed' hx e
    rw [h0] at hc
    simp at hc
theorem LI.below {base : Nat} {w W0 W : World} {A : Option Addr} {n : Nat} (h : LI base W0 A n W) (hb0 : Below base w W0) (hs : base ≤ W0.heap.size) : Below base w W := by
  rcases h with ⟨_, h0⟩ | ⟨g, cur, cur0, rfl, hb, h0, hg, hn, hgr⟩
  · exact hb0.trans ⟨h0.os, h0.tape, h0.output, h0.size, fun k hk => h0.block k (by omega) (by simp)⟩
  · exact hb0.trans ⟨hgr.os, hgr.tape, hgr.output, hgr.size, fun k hk => hgr.block k (by omega) (fun e => by injection e with e; omega)⟩
set_option maxHeartbeats 8000000 in
set_option maxRecDepth 100000 in
theorem walk_large (k : Nat) (A0 : Option Addr) (c : Nat) (l : List S44) (Ab : Option Addr) (d : Nat) (b : List Int) (w : World) (hGl : Gl w)
    (hC : Kd.C k44 w A0 l.length l) (hc : l.length ≤ c) (hD : Kd.C (Kd.int .u8) w Ab b.length b) (hd : b.length ≤ d)
    (h1 : amphoralaw11_alive.f k = some true) (h2 : amphoralaw11_large.f k l = some true) :
    Calls Tryd.prog 6 #[.slice A0 l.length c, .slice Ab b.length d] w fun e w' => e = .returned (.bool true) ∧ Below w.heap.size w w' := by
  have hu24 := Tryd.underlying24
  have hu44 := Tryd.underlying44
  have hu42 := Tryd.underlying42
  have hcmp := eql_err24
  have HB := Aside0.mk (Below.refl w.heap.size w)
  have HGL := Aside0.mk hGl
  have HC := Aside0.mk hC
  have HL := Aside0.mk hc
  have HD := Aside0.mk hD
  have HDL := Aside0.mk hd
  have A1 := Aside0.mk h1
  have A2 := Aside0.mk h2
  clear hC hc hD hd hGl h1 h2
  go_enter Tryd.func6, Tryd.ntmps6
  go_wp2_with (first
    | (go_at_call 8; (with_reducible refine (amphoralaw11_alive.calls k true _ ?s1 A1.out).mono ?_); (case s1 => exact HGL.out); rintro e1 w1 ⟨rfl, hb⟩; have n0_ := Aside0.mk (below_step HB.out hb); clear HB hb; have HB := n0_; clear n0_)
    | (go_at_call 18; refine (amphoralaw11_large.calls k _ _ l true _ ?s1 HL.out ?s2 A2.out).mono ?_; (case s1 => exact Kd.C_below HC.out HB.out); (case s2 => exact HGL.out.of HB.out); rintro e2 w2 ⟨rfl, hb⟩; have n0_ := Aside0.mk (below_step HB.out hb); clear HB hb; have HB := n0_; clear n0_))
  go_ret
  exact ⟨by first | rfl | (simp; done) | (simp [*]; done), by repeat (first | (with_reducible first | exact HB.out | apply below_alloc | apply pw_below_drewN | apply below_drew1) | exact HB.out)⟩
set_option maxHeartbeats 8000000 in
set_option maxRecDepth 100000 in
theorem walk_long (k : Nat) (A0 : Option Addr) (c : Nat) (l : List S44) (Ab : Option Addr) (d : Nat) (b : List Int) (w : World) (hGl : Gl w)
    (hC : Kd.C k44 w A0 l.length l) (hc : l.length ≤ c) (hD : Kd.C (Kd.int .u8) w Ab b.length b) (hd : b.length ≤ d)
    (h1 : amphoralaw11_alive.f k = some true) (h2 : amphoralaw11_large.f k l = some false) (hb : 262144 < b.length) :
    Calls Tryd.prog 6 #[.slice A0 l.length c, .slice Ab b.length d] w fun e w' => e = .returned (.bool true) ∧ Below w.heap.size w w' := by
  have hu24 := Tryd.underlying24
  have hu44 := Tryd.underlying44
  have hu42 := Tryd.underlying42
  have hcmp := eql_err24
  have HB := Aside0.mk (Below.refl w.heap.size w)
  have HGL := Aside0.mk hGl
  have HC := Aside0.mk hC
  have HL := Aside0.mk hc
  have HD := Aside0.mk hD
  have HDL := Aside0.mk hd
  have A1 := Aside0.mk h1
  have A2 := Aside0.mk h2
  clear hC hc hD hd hGl h1 h2
  have c0 : decide ((b.length : Int) > 262144) = true := decide_eq_true (by omega)
  have c1 := eq_true (show (262144 : Int) < (b.length : Int) by omega)
  go_enter Tryd.func6, Tryd.ntmps6
  go_wp2_with (first
    | (go_at_call 8; (with_reducible refine (amphoralaw11_alive.calls k true _ ?s1 A1.out).mono ?_); (case s1 => exact HGL.out); rintro e1 w1 ⟨rfl, hb⟩; have n0_ := Aside0.mk (below_step HB.out hb); clear HB hb; have HB := n0_; clear n0_)
    | (go_at_call 18; refine (amphoralaw11_large.calls k _ _ l false _ ?s1 HL.out ?s2 A2.out).mono ?_; (case s1 => exact Kd.C_below HC.out HB.out); (case s2 => exact HGL.out.of HB.out); rintro e2 w2 ⟨rfl, hb⟩; have n0_ := Aside0.mk (below_step HB.out hb); clear HB hb; have HB := n0_; clear n0_))
  go_ret
  exact ⟨by first | rfl | (simp; done) | (simp [*]; done), by repeat (first | (with_reducible first | exact HB.out | apply below_alloc | apply pw_below_drewN | apply below_drew1) | exact HB.out)⟩
set_option maxHeartbeats 8000000 in
set_option maxRecDepth 100000 in
theorem walk_ee (k : Nat) (A0 : Option Addr) (c : Nat) (l : List S44) (Ab : Option Addr) (d : Nat) (b : List Int) (w : World) (hGl : Gl w)
    (hC : Kd.C k44 w A0 l.length l) (hc : l.length ≤ c) (hD : Kd.C (Kd.int .u8) w Ab b.length b) (hd : b.length ≤ d)
    (h1 : amphoralaw11_alive.f k = some true) (h2 : amphoralaw11_large.f k l = some false) (hb : b.length ≤ 262144) (h3 : pax_Encode.f k l = some ([], some 15)) (h9 : pax_Decode.f k b = some ([], some 15)) :
    Calls Tryd.prog 6 #[.slice A0 l.length c, .slice Ab b.length d] w fun e w' => e = .returned (.bool true) ∧ Below w.heap.size w w' := by
  have hu24 := Tryd.underlying24
  have hu44 := Tryd.underlying44
  have hu42 := Tryd.underlying42
  have hcmp := eql_err24
  have HB := Aside0.mk (Below.refl w.heap.size w)
  have HGL := Aside0.mk hGl
  have HC := Aside0.mk hC
  have HL := Aside0.mk hc
  have HD := Aside0.mk hD
  have HDL := Aside0.mk hd
  have A1 := Aside0.mk h1
  have A2 := Aside0.mk h2
  have A3 := Aside0.mk h3
  have B1 := Aside0.mk h9
  clear hC hc hD hd hGl h1 h2 h3 h9
  have c0 : decide ((b.length : Int) > 262144) = false := decide_eq_false (by omega)
  have c1 := eq_false (show ¬ (262144 : Int) < (b.length : Int) by omega)
  go_enter Tryd.func6, Tryd.ntmps6
  go_wp2_with (first
    | (go_at_call 8; (with_reducible refine (amphoralaw11_alive.calls k true _ ?s1 A1.out).mono ?_); (case s1 => exact HGL.out); rintro e1 w1 ⟨rfl, hb⟩; have n0_ := Aside0.mk (below_step HB.out hb); clear HB hb; have HB := n0_; clear n0_)
    | (go_at_call 18; refine (amphoralaw11_large.calls k _ _ l false _ ?s1 HL.out ?s2 A2.out).mono ?_; (case s1 => exact Kd.C_below HC.out HB.out); (case s2 => exact HGL.out.of HB.out); rintro e2 w2 ⟨rfl, hb⟩; have n0_ := Aside0.mk (below_step HB.out hb); clear HB hb; have HB := n0_; clear n0_)
    | (go_at_call 19; refine (pax_Encode.calls k _ _ l [] (some 15) _ ?s1 HL.out ?s3 A3.out).mono ?_; (case s1 => exact Kd.C_below HC.out HB.out); (case s3 => exact HGL.out.of HB.out); rintro e3 w3 ⟨v3, rfl, ho, hb⟩; have n0_ := Aside0.mk (below_step HB.out hb); clear HB hb; have HB := n0_; clear n0_; clear A3 ho; (try simp only [errW_some]))
    | (go_at_call 13; refine (pax_Decode.calls k (fun _ => True) _ _ b [] (some 15) _ ?s1 ?s2 B1.out).mono ?_; (case s1 => exact OD.V_of_C (Kd.C_below HD.out HB.out) HDL.out _); (case s2 => exact HGL.out.of HB.out); rintro e10 w10 ⟨v10, rfl, ho, hb⟩; have n0_ := Aside0.mk (below_step HB.out hb); clear HB hb; have HB := n0_; clear n0_; obtain ⟨Az, cz, eo, hcz, hCz⟩ := Kd.R_reads ho; subst eo; clear hCz hcz ho; (try simp only [errW_some, List.length_nil])))
  go_ret
  exact ⟨by first | rfl | (simp; done) | (simp [*]; done), by repeat (first | (with_reducible first | exact HB.out | apply below_alloc | apply pw_below_drewN | apply below_drew1) | exact HB.out)⟩
set_option maxHeartbeats 8000000 in
set_option maxRecDepth 100000 in
theorem walk_eo (res : List S44) (k : Nat) (A0 : Option Addr) (c : Nat) (l : List S44) (Ab : Option Addr) (d : Nat) (b : List Int) (w : World) (hGl : Gl w)
    (hC : Kd.C k44 w A0 l.length l) (hc : l.length ≤ c) (hD : Kd.C (Kd.int .u8) w Ab b.length b) (hd : b.length ≤ d)
    (h1 : amphoralaw11_alive.f k = some true) (h2 : amphoralaw11_large.f k l = some false) (hb : b.length ≤ 262144) (h3 : pax_Encode.f k l = some ([], some 15)) (h9 : pax_Decode.f k b = some (res, none)) (h10 : pax_Encode.f k res = some (b, none)) :
    Calls Tryd.prog 6 #[.slice A0 l.length c, .slice Ab b.length d] w fun e w' => e = .returned (.bool true) ∧ Below w.heap.size w w' := by
  have hu24 := Tryd.underlying24
  have hu44 := Tryd.underlying44
  have hu42 := Tryd.underlying42
  have hcmp := eql_err24
  have HB := Aside0.mk (Below.refl w.heap.size w)
  have HGL := Aside0.mk hGl
  have HC := Aside0.mk hC
  have HL := Aside0.mk hc
  have HD := Aside0.mk hD
  have HDL := Aside0.mk hd
  have A1 := Aside0.mk h1
  have A2 := Aside0.mk h2
  have A3 := Aside0.mk h3
  have B1 := Aside0.mk h9
  have B2 := Aside0.mk h10
  clear hC hc hD hd hGl h1 h2 h3 h9 h10
  have c0 : decide ((b.length : Int) > 262144) = false := decide_eq_false (by omega)
  have c1 := eq_false (show ¬ (262144 : Int) < (b.length : Int) by omega)
  go_enter Tryd.func6, Tryd.ntmps6
  go_wp2_with (first
    | (go_at_call 8; (with_reducible refine (amphoralaw11_alive.calls k true _ ?s1 A1.out).mono ?_); (case s1 => exact HGL.out); rintro e1 w1 ⟨rfl, hb⟩; have n0_ := Aside0.mk (below_step HB.out hb); clear HB hb; have HB := n0_; clear n0_)
    | (go_at_call 18; refine (amphoralaw11_large.calls k _ _ l false _ ?s1 HL.out ?s2 A2.out).mono ?_; (case s1 => exact Kd.C_below HC.out HB.out); (case s2 => exact HGL.out.of HB.out); rintro e2 w2 ⟨rfl, hb⟩; have n0_ := Aside0.mk (below_step HB.out hb); clear HB hb; have HB := n0_; clear n0_)
    | (go_at_call 19; refine (pax_Encode.calls k _ _ l [] (some 15) _ ?s1 HL.out ?s3 A3.out).mono ?_; (case s1 => exact Kd.C_below HC.out HB.out); (case s3 => exact HGL.out.of HB.out); rintro e3 w3 ⟨v3, rfl, ho, hb⟩; have n0_ := Aside0.mk (below_step HB.out hb); clear HB hb; have HB := n0_; clear n0_; clear A3 ho; (try simp only [errW_some]))
    | (go_at_call 13; refine (pax_Decode.calls k (fun _ => True) _ _ b res none _ ?s1 ?s2 B1.out).mono ?_; (case s1 => exact OD.V_of_C (Kd.C_below HD.out HB.out) HDL.out _); (case s2 => exact HGL.out.of HB.out); rintro e10 w10 ⟨v10, rfl, ho, hb⟩; have n0_ := Aside0.mk (below_step HB.out hb); clear HB hb; have HB := n0_; clear n0_; obtain ⟨Az, cz, eo, hcz, hCz⟩ := Kd.R_reads ho; subst eo; have HZ := Aside0.mk hCz; have HZL := Aside0.mk hcz; clear hCz hcz ho; (try simp only [errW_none]))
    | (go_at_call 19; refine (pax_Encode.calls k _ _ res b none _ ?s1 HZL.out ?s3 B2.out).mono ?_; (case s1 => exact HZ.out); (case s3 => exact HGL.out.of HB.out); rintro e11 w11 ⟨v11, rfl, ho, hb⟩; have n0_ := Aside0.mk (below_step HB.out hb); clear HB hb; have HB := n0_; clear n0_; obtain ⟨Av, cv, eo, hcv, hCv⟩ := Kd.R_reads ho; subst eo; have hcv1 : ∀ m : Nat, (convert 31 9 (.slice Av b.length cv)).run Tryd.prog (w11.drewN m) = .ok (.string (strOfNums b)) (w11.drewN m) := fun m => Kd.C_string (P := Tryd.prog) Tryd.underlying31 Tryd.underlying5 Tryd.underlying9 (Kd.C_drewN hCv m); have hcv2 : ∀ m : Nat, (convert 31 9 (.slice Ab b.length d)).run Tryd.prog (w11.drewN m) = .ok (.string (strOfNums b)) (w11.drewN m) := fun m => Kd.C_string (P := Tryd.prog) Tryd.underlying31 Tryd.underlying5 Tryd.underlying9 (Kd.C_drewN (Kd.C_below HD.out HB.out) m); have hcv3 := Kd.C_string (P := Tryd.prog) (c := cv) Tryd.underlying31 Tryd.underlying5 Tryd.underlying9 hCv; have hcv4 := Kd.C_string (P := Tryd.prog) (c := d) Tryd.underlying31 Tryd.underlying5 Tryd.underlying9 (Kd.C_below HD.out HB.out); clear hCv hcv ho; (try simp only [errW_none])))
  go_ret
  exact ⟨by first | rfl | (simp; done) | (simp [*]; done), by repeat (first | (with_reducible first | exact HB.out | apply below_alloc | apply pw_below_drewN | apply below_drew1) | exact HB.out)⟩
set_option maxHeartbeats 8000000 in
set_option maxRecDepth 100000 in
theorem walk_oe (x : List Int) (k : Nat) (A0 : Option Addr) (c : Nat) (l : List S44) (Ab : Option Addr) (d : Nat) (b : List Int) (w : World) (hGl : Gl w)
    (hC : Kd.C k44 w A0 l.length l) (hc : l.length ≤ c) (hD : Kd.C (Kd.int .u8) w Ab b.length b) (hd : b.length ≤ d)
    (h1 : amphoralaw11_alive.f k = some true) (h2 : amphoralaw11_large.f k l = some false) (hb : b.length ≤ 262144) (hl : l.length ≤ 262144) (hx : x.length ≤ 262144) (h3 : pax_Encode.f k l = some (x, none)) (h4 : pax_Decode.f k x = some (l, none)) (h5 : amphoraref11_Same.f k l l = some true) (h9 : pax_Decode.f k b = some ([], some 15)) :
    Calls Tryd.prog 6 #[.slice A0 l.length c, .slice Ab b.length d] w fun e w' => e = .returned (.bool true) ∧ Below w.heap.size w w' := by
  have hu24 := Tryd.underlying24
  have hu44 := Tryd.underlying44
  have hu42 := Tryd.underlying42
  have hcmp := eql_err24
  have HB := Aside0.mk (Below.refl w.heap.size w)
  have HGL := Aside0.mk hGl
  have HC := Aside0.mk hC
  have HL := Aside0.mk hc
  have HD := Aside0.mk hD
  have HDL := Aside0.mk hd
  have A1 := Aside0.mk h1
  have A2 := Aside0.mk h2
  have A3 := Aside0.mk h3
  have A4 := Aside0.mk h4
  have A5 := Aside0.mk h5
  have A6 := Aside0.mk h3
  have A7 := Aside0.mk h4
  have A8 := Aside0.mk h5
  have HLL := Aside0.mk hl
  have HXX := Aside0.mk hx
  have B1 := Aside0.mk h9
  clear hC hc hD hd hGl h1 h2 h3 h4 h5 hl hx h9
  have c0 : decide ((b.length : Int) > 262144) = false := decide_eq_false (by omega)
  have c1 := eq_false (show ¬ (262144 : Int) < (b.length : Int) by omega)
  go_enter Tryd.func6, Tryd.ntmps6
  go_wp2_with (first
    | (go_at_call 8; (with_reducible refine (amphoralaw11_alive.calls k true _ ?s1 A1.out).mono ?_); (case s1 => exact HGL.out); rintro e1 w1 ⟨rfl, hb⟩; have n0_ := Aside0.mk (below_step HB.out hb); clear HB hb; have HB := n0_; clear n0_)
    | (go_at_call 18; refine (amphoralaw11_large.calls k _ _ l false _ ?s1 HL.out ?s2 A2.out).mono ?_; (case s1 => exact Kd.C_below HC.out HB.out); (case s2 => exact HGL.out.of HB.out); rintro e2 w2 ⟨rfl, hb⟩; have n0_ := Aside0.mk (below_step HB.out hb); clear HB hb; have HB := n0_; clear n0_)
    | (go_at_call 19; refine (pax_Encode.calls k _ _ l x none _ ?s1 HL.out ?s3 A3.out).mono ?_; (case s1 => exact Kd.C_below HC.out HB.out); (case s3 => exact HGL.out.of HB.out); rintro e3 w3 ⟨v3, rfl, ho, hb⟩; have hbs := below_size HB.out; have n0_ := Aside0.mk (below_step HB.out hb); clear HB hb; have HB := n0_; clear n0_; clear A3; have HXR := Aside0.mk (own_low (Kd.own_of_R ho) hbs); obtain ⟨Ax, cx, eo, hcx, hCx⟩ := Kd.R_reads ho; subst eo; clear hCx hcx ho hbs; (try simp only [errW_none]))
    | (go_at_call 13; refine (pax_Decode.calls k (fun _ => True) _ _ x l none _ ?s1 ?s2 A4.out).mono ?_; (case s1 => exact OD.V_of_C (reads HXR.out).2 (reads HXR.out).1 _); (case s2 => exact HGL.out.of HB.out); rintro e4 w4 ⟨v4, rfl, ho, hb⟩; have hbs := below_size HB.out; have n0_ := Aside0.mk (below_step HB.out hb); have n1_ := Aside0.mk (own_below HXR.out hb); clear HB HXR hb; have HB := n0_; have HXR := n1_; clear n0_ n1_; clear A4; obtain ⟨Ar, cr, eo, hcr, hCr⟩ := Kd.R_reads ho; subst eo; have HR := Aside0.mk (show Kd.R k44 44 w4 w.heap.size (fun _ => True) (.slice Ar l.length cr) l from Kd.R_lower (Kd.R_mono ho (fun _ _ => trivial)) hbs); have HRL := Aside0.mk hcr; clear hCr hcr ho hbs; (try simp only [errW_none]))
    | (go_at_call 15; refine (amphoraref11_Same.calls k _ _ l _ _ l true _ ?s1 ?s2 ?s3 ?s4 ?s5 A5.out).mono ?_; (case s1 => exact (Kd.R_reads' HR.out).2.2); (case s2 => exact HRL.out); (case s3 => exact Kd.C_below HC.out HB.out); (case s4 => exact HL.out); (case s5 => exact HGL.out.of HB.out); rintro e5 w5 ⟨rfl, hdr⟩; have hb := hdr.below; clear hdr; have n0_ := Aside0.mk (below_step HB.out hb); have n1_ := Aside0.mk (own_below HXR.out hb); have n2_ := Aside0.mk (Kd.R_below HR.out hb); clear HB HXR HR hb; have HB := n0_; have HXR := n1_; have HR := n2_; clear n0_ n1_ n2_; clear A5)
    | (go_at_call 19; refine (pax_Encode.calls k _ _ l x none _ ?s1 HL.out ?s3 A6.out).mono ?_; (case s1 => exact Kd.C_below HC.out HB.out); (case s3 => exact HGL.out.of HB.out); rintro e6 w6 ⟨v6, rfl, ho, hb⟩; have hbs := below_size HB.out; have hne := ne_new HXR.out (Kd.own_of_R ho); have n0_ := Aside0.mk (below_step HB.out hb); have n1_ := Aside0.mk (own_below HXR.out hb); have n2_ := Aside0.mk (Kd.R_below HR.out hb); clear HB HXR HR hb; have HB := n0_; have HXR := n1_; have HR := n2_; clear n0_ n1_ n2_; clear A6; have HYR := Aside0.mk (own_low (Kd.own_of_R ho) hbs); obtain ⟨Ay, cy, eo, hcy, hCy⟩ := Kd.R_reads ho; subst eo; have HYN := Aside0.mk hne; clear hCy hcy ho hbs hne; (try simp only [errW_none])))
  have HLI := Aside0.mk (LI.start HR.out)
  have HBS := Aside0.mk (below_size HB.out)
  clear HR
  go_loopg [53] (l.length + 1) (fun kq v53 w' => ∃ i : Nat, v53 = .int .i64 (i : Int) ∧ Aside0 (i + kq = l.length + 1) ∧ Aside0 (i ≤ l.length) ∧ Aside0 (LI w.heap.size w6 Ar l.length w'))
  case atStart => exact ⟨0, rfl, ⟨by omega⟩, ⟨by omega⟩, HLI⟩
  case round =>
    clear HLI
    obtain ⟨i, rfl, HI, HJ, HLI⟩ := hrel
    cases gk with
    | zero => exact absurd HI.out (by have := HJ.out; omega)
    | succ k1 =>
      by_cases c3 : (i : Int) < (l.length : Int)
      · have hi : i < l.length := by omega
        have c3b : decide ((i : Int) < (l.length : Int)) = true := decide_eq_true c3
        have hw1 : wrap64 ((i : Int) + 1) = ((i + 1 : Nat) : Int) := by unfold wrap64; have := HLL.out; omega
        obtain ⟨g, hA, ⟨u0, hu0⟩, ⟨u1, hu1⟩, hfz, hnext⟩ := HLI.out.round hi
        subst hA
        have hf0 := hfz (i * 2)
        have hf1 := hfz (i * 2 + 1)
        have p1 := eq_true (show (0 : Int) ≤ (i : Int) by omega)
        have p2 := eq_true c3
        have HNX := Aside0.mk (hnext (.string (⟨#[]⟩ : ByteArray)) (.string (⟨#[]⟩ : ByteArray)))
        clear hfz hnext
        go_wp2_with (first
          | ((with_reducible refine gate_store (t := 44) (p := 59) rfl ?_); refine store_event (t := 44) (p := 59) (v := ?vo) (w1 := ((wr.setCell ⟨g, i * 2, none⟩ (.string (⟨#[]⟩ : ByteArray))).setCell ⟨g, i * 2 + 1, none⟩ (.string (⟨#[]⟩ : ByteArray)))) ?hg ?ho ?hn ?hr ?_; (case ho => rfl); (case hg => rfl); (case hn => rfl); (case hr => first | (go_simp; done) | (go_simp; rfl)); intro w7 hw7; subst hw7))
        go_roundg k1
        case measure => omega
        case rel => exact ⟨i + 1, (by first | rfl | (simp [hw1]; done)), ⟨by have := HI.out; omega⟩, ⟨by omega⟩, HNX⟩
      · have hi : i = l.length := by have := HJ.out; omega
        subst hi
        have c3b : decide ((l.length : Int) < (l.length : Int)) = false := decide_eq_false c3
        have n0_ := Aside0.mk (HLI.out.below HB.out HBS.out)
        have n1_ := Aside0.mk (HLI.out.own HXR.out)
        have n2_ := Aside0.mk (HLI.out.own HYR.out)
        clear HB HXR HYR HLI HBS
        have HB := n0_
        have HXR := n1_
        have HYR := n2_
        clear n0_ n1_ n2_
        go_wp2_with (first
          | (go_at_call 13; refine (pax_Decode.calls k (fun _ => True) _ _ x l none _ ?s1 ?s2 A7.out).mono ?_; (case s1 => exact OD.V_of_C (reads HXR.out).2 (reads HXR.out).1 _); (case s2 => exact HGL.out.of HB.out); rintro e4 w4 ⟨v4, rfl, ho, hb⟩; have n0_ := Aside0.mk (below_step HB.out hb); have n1_ := Aside0.mk (own_below HXR.out hb); have n2_ := Aside0.mk (own_below HYR.out hb); clear HB HXR HYR hb; have HB := n0_; have HXR := n1_; have HYR := n2_; clear n0_ n1_ n2_; clear A7; obtain ⟨Aq, cq, eo, hcr, hCr⟩ := Kd.R_reads ho; subst eo; have HR2 := Aside0.mk hCr; have HR2L := Aside0.mk hcr; clear hCr hcr ho; (try simp only [errW_none]))
          | (go_at_call 15; refine (amphoraref11_Same.calls k _ _ l _ _ l true _ ?s1 ?s2 ?s3 ?s4 ?s5 A8.out).mono ?_; (case s1 => exact HR2.out); (case s2 => exact HR2L.out); (case s3 => exact Kd.C_below HC.out HB.out); (case s4 => exact HL.out); (case s5 => exact HGL.out.of HB.out); rintro e5 w5 ⟨rfl, hdr⟩; have hb := hdr.below; clear hdr; have n0_ := Aside0.mk (below_step HB.out hb); have n1_ := Aside0.mk (own_below HXR.out hb); have n2_ := Aside0.mk (own_below HYR.out hb); clear HB HXR HYR hb; have HB := n0_; have HXR := n1_; have HYR := n2_; clear n0_ n1_ n2_; clear A8)
          | (go_at_call 20; refine (apart2 w _ HB.out _ _ x HXX.out HXR.out HYR.out HYN.out).mono ?_; rintro e9 w9 ⟨rfl, hb⟩; clear HB HXR HYR HYN; have HB := Aside0.mk hb; clear hb)
          | (go_at_call 13; refine (pax_Decode.calls k (fun _ => True) _ _ b [] (some 15) _ ?s1 ?s2 B1.out).mono ?_; (case s1 => exact OD.V_of_C (Kd.C_below HD.out HB.out) HDL.out _); (case s2 => exact HGL.out.of HB.out); rintro e10 w10 ⟨v10, rfl, ho, hb⟩; have n0_ := Aside0.mk (below_step HB.out hb); clear HB hb; have HB := n0_; clear n0_; obtain ⟨Az, cz, eo, hcz, hCz⟩ := Kd.R_reads ho; subst eo; clear hCz hcz ho; (try simp only [errW_some, List.length_nil])))
        go_ret
        exact ⟨by first | rfl | (simp; done) | (simp [*]; done), by repeat (first | (with_reducible first | exact HB.out | apply below_alloc | apply pw_below_drewN | apply below_drew1) | exact HB.out)⟩
set_option maxHeartbeats 8000000 in
set_option maxRecDepth 100000 in
theorem walk_oo (res : List S44) (x : List Int) (k : Nat) (A0 : Option Addr) (c : Nat) (l : List S44) (Ab : Option Addr) (d : Nat) (b : List Int) (w : World) (hGl : Gl w)
    (hC : Kd.C k44 w A0 l.length l) (hc : l.length ≤ c) (hD : Kd.C (Kd.int .u8) w Ab b.length b) (hd : b.length ≤ d)
    (h1 : amphoralaw11_alive.f k = some true) (h2 : amphoralaw11_large.f k l = some false) (hb : b.length ≤ 262144) (hl : l.length ≤ 262144) (hx : x.length ≤ 262144) (h3 : pax_Encode.f k l = some (x, none)) (h4 : pax_Decode.f k x = some (l, none)) (h5 : amphoraref11_Same.f k l l = some true) (h9 : pax_Decode.f k b = some (res, none)) (h10 : pax_Encode.f k res = some (b, none)) :
    Calls Tryd.prog 6 #[.slice A0 l.length c, .slice Ab b.length d] w fun e w' => e = .returned (.bool true) ∧ Below w.heap.size w w' := by
  have hu24 := Tryd.underlying24
  have hu44 := Tryd.underlying44
  have hu42 := Tryd.underlying42
  have hcmp := eql_err24
  have HB := Aside0.mk (Below.refl w.heap.size w)
  have HGL := Aside0.mk hGl
  have HC := Aside0.mk hC
  have HL := Aside0.mk hc
  have HD := Aside0.mk hD
  have HDL := Aside0.mk hd
  have A1 := Aside0.mk h1
  have A2 := Aside0.mk h2
  have A3 := Aside0.mk h3
  have A4 := Aside0.mk h4
  have A5 := Aside0.mk h5
  have A6 := Aside0.mk h3
  have A7 := Aside0.mk h4
  have A8 := Aside0.mk h5
  have HLL := Aside0.mk hl
  have HXX := Aside0.mk hx
  have B1 := Aside0.mk h9
  have B2 := Aside0.mk h10
  clear hC hc hD hd hGl h1 h2 h3 h4 h5 hl hx h9 h10
  have c0 : decide ((b.length : Int) > 262144) = false := decide_eq_false (by omega)
  have c1 := eq_false (show ¬ (262144 : Int) < (b.length : Int) by omega)
  go_enter Tryd.func6, Tryd.ntmps6
  go_wp2_with (first
    | (go_at_call 8; (with_reducible refine (amphoralaw11_alive.calls k true _ ?s1 A1.out).mono ?_); (case s1 => exact HGL.out); rintro e1 w1 ⟨rfl, hb⟩; have n0_ := Aside0.mk (below_step HB.out hb); clear HB hb; have HB := n0_; clear n0_)
    | (go_at_call 18; refine (amphoralaw11_large.calls k _ _ l false _ ?s1 HL.out ?s2 A2.out).mono ?_; (case s1 => exact Kd.C_below HC.out HB.out); (case s2 => exact HGL.out.of HB.out); rintro e2 w2 ⟨rfl, hb⟩; have n0_ := Aside0.mk (below_step HB.out hb); clear HB hb; have HB := n0_; clear n0_)
    | (go_at_call 19; refine (pax_Encode.calls k _ _ l x none _ ?s1 HL.out ?s3 A3.out).mono ?_; (case s1 => exact Kd.C_below HC.out HB.out); (case s3 => exact HGL.out.of HB.out); rintro e3 w3 ⟨v3, rfl, ho, hb⟩; have hbs := below_size HB.out; have n0_ := Aside0.mk (below_step HB.out hb); clear HB hb; have HB := n0_; clear n0_; clear A3; have HXR := Aside0.mk (own_low (Kd.own_of_R ho) hbs); obtain ⟨Ax, cx, eo, hcx, hCx⟩ := Kd.R_reads ho; subst eo; clear hCx hcx ho hbs; (try simp only [errW_none]))
    | (go_at_call 13; refine (pax_Decode.calls k (fun _ => True) _ _ x l none _ ?s1 ?s2 A4.out).mono ?_; (case s1 => exact OD.V_of_C (reads HXR.out).2 (reads HXR.out).1 _); (case s2 => exact HGL.out.of HB.out); rintro e4 w4 ⟨v4, rfl, ho, hb⟩; have hbs := below_size HB.out; have n0_ := Aside0.mk (below_step HB.out hb); have n1_ := Aside0.mk (own_below HXR.out hb); clear HB HXR hb; have HB := n0_; have HXR := n1_; clear n0_ n1_; clear A4; obtain ⟨Ar, cr, eo, hcr, hCr⟩ := Kd.R_reads ho; subst eo; have HR := Aside0.mk (show Kd.R k44 44 w4 w.heap.size (fun _ => True) (.slice Ar l.length cr) l from Kd.R_lower (Kd.R_mono ho (fun _ _ => trivial)) hbs); have HRL := Aside0.mk hcr; clear hCr hcr ho hbs; (try simp only [errW_none]))
    | (go_at_call 15; refine (amphoraref11_Same.calls k _ _ l _ _ l true _ ?s1 ?s2 ?s3 ?s4 ?s5 A5.out).mono ?_; (case s1 => exact (Kd.R_reads' HR.out).2.2); (case s2 => exact HRL.out); (case s3 => exact Kd.C_below HC.out HB.out); (case s4 => exact HL.out); (case s5 => exact HGL.out.of HB.out); rintro e5 w5 ⟨rfl, hdr⟩; have hb := hdr.below; clear hdr; have n0_ := Aside0.mk (below_step HB.out hb); have n1_ := Aside0.mk (own_below HXR.out hb); have n2_ := Aside0.mk (Kd.R_below HR.out hb); clear HB HXR HR hb; have HB := n0_; have HXR := n1_; have HR := n2_; clear n0_ n1_ n2_; clear A5)
    | (go_at_call 19; refine (pax_Encode.calls k _ _ l x none _ ?s1 HL.out ?s3 A6.out).mono ?_; (case s1 => exact Kd.C_below HC.out HB.out); (case s3 => exact HGL.out.of HB.out); rintro e6 w6 ⟨v6, rfl, ho, hb⟩; have hbs := below_size HB.out; have hne := ne_new HXR.out (Kd.own_of_R ho); have n0_ := Aside0.mk (below_step HB.out hb); have n1_ := Aside0.mk (own_below HXR.out hb); have n2_ := Aside0.mk (Kd.R_below HR.out hb); clear HB HXR HR hb; have HB := n0_; have HXR := n1_; have HR := n2_; clear n0_ n1_ n2_; clear A6; have HYR := Aside0.mk (own_low (Kd.own_of_R ho) hbs); obtain ⟨Ay, cy, eo, hcy, hCy⟩ := Kd.R_reads ho; subst eo; have HYN := Aside0.mk hne; clear hCy hcy ho hbs hne; (try simp only [errW_none])))
  have HLI := Aside0.mk (LI.start HR.out)
  have HBS := Aside0.mk (below_size HB.out)
  clear HR
  go_loopg [53] (l.length + 1) (fun kq v53 w' => ∃ i : Nat, v53 = .int .i64 (i : Int) ∧ Aside0 (i + kq = l.length + 1) ∧ Aside0 (i ≤ l.length) ∧ Aside0 (LI w.heap.size w6 Ar l.length w'))
  case atStart => exact ⟨0, rfl, ⟨by omega⟩, ⟨by omega⟩, HLI⟩
  case round =>
    clear HLI
    obtain ⟨i, rfl, HI, HJ, HLI⟩ := hrel
    cases gk with
    | zero => exact absurd HI.out (by have := HJ.out; omega)
    | succ k1 =>
      by_cases c3 : (i : Int) < (l.length : Int)
      · have hi : i < l.length := by omega
        have c3b : decide ((i : Int) < (l.length : Int)) = true := decide_eq_true c3
        have hw1 : wrap64 ((i : Int) + 1) = ((i + 1 : Nat) : Int) := by unfold wrap64; have := HLL.out; omega
        obtain ⟨g, hA, ⟨u0, hu0⟩, ⟨u1, hu1⟩, hfz, hnext⟩ := HLI.out.round hi
        subst hA
        have hf0 := hfz (i * 2)
        have hf1 := hfz (i * 2 + 1)
        have p1 := eq_true (show (0 : Int) ≤ (i : Int) by omega)
        have p2 := eq_true c3
        have HNX := Aside0.mk (hnext (.string (⟨#[]⟩ : ByteArray)) (.string (⟨#[]⟩ : ByteArray)))
        clear hfz hnext
        go_wp2_with (first
          | ((with_reducible refine gate_store (t := 44) (p := 59) rfl ?_); refine store_event (t := 44) (p := 59) (v := ?vo) (w1 := ((wr.setCell ⟨g, i * 2, none⟩ (.string (⟨#[]⟩ : ByteArray))).setCell ⟨g, i * 2 + 1, none⟩ (.string (⟨#[]⟩ : ByteArray)))) ?hg ?ho ?hn ?hr ?_; (case ho => rfl); (case hg => rfl); (case hn => rfl); (case hr => first | (go_simp; done) | (go_simp; rfl)); intro w7 hw7; subst hw7))
        go_roundg k1
        case measure => omega
        case rel => exact ⟨i + 1, (by first | rfl | (simp [hw1]; done)), ⟨by have := HI.out; omega⟩, ⟨by omega⟩, HNX⟩
      · have hi : i = l.length := by have := HJ.out; omega
        subst hi
        have c3b : decide ((l.length : Int) < (l.length : Int)) = false := decide_eq_false c3
        have n0_ := Aside0.mk (HLI.out.below HB.out HBS.out)
        have n1_ := Aside0.mk (HLI.out.own HXR.out)
        have n2_ := Aside0.mk (HLI.out.own HYR.out)
        clear HB HXR HYR HLI HBS
        have HB := n0_
        have HXR := n1_
        have HYR := n2_
        clear n0_ n1_ n2_
        go_wp2_with (first
          | (go_at_call 13; refine (pax_Decode.calls k (fun _ => True) _ _ x l none _ ?s1 ?s2 A7.out).mono ?_; (case s1 => exact OD.V_of_C (reads HXR.out).2 (reads HXR.out).1 _); (case s2 => exact HGL.out.of HB.out); rintro e4 w4 ⟨v4, rfl, ho, hb⟩; have n0_ := Aside0.mk (below_step HB.out hb); have n1_ := Aside0.mk (own_below HXR.out hb); have n2_ := Aside0.mk (own_below HYR.out hb); clear HB HXR HYR hb; have HB := n0_; have HXR := n1_; have HYR := n2_; clear n0_ n1_ n2_; clear A7; obtain ⟨Aq, cq, eo, hcr, hCr⟩ := Kd.R_reads ho; subst eo; have HR2 := Aside0.mk hCr; have HR2L := Aside0.mk hcr; clear hCr hcr ho; (try simp only [errW_none]))
          | (go_at_call 15; refine (amphoraref11_Same.calls k _ _ l _ _ l true _ ?s1 ?s2 ?s3 ?s4 ?s5 A8.out).mono ?_; (case s1 => exact HR2.out); (case s2 => exact HR2L.out); (case s3 => exact Kd.C_below HC.out HB.out); (case s4 => exact HL.out); (case s5 => exact HGL.out.of HB.out); rintro e5 w5 ⟨rfl, hdr⟩; have hb := hdr.below; clear hdr; have n0_ := Aside0.mk (below_step HB.out hb); have n1_ := Aside0.mk (own_below HXR.out hb); have n2_ := Aside0.mk (own_below HYR.out hb); clear HB HXR HYR hb; have HB := n0_; have HXR := n1_; have HYR := n2_; clear n0_ n1_ n2_; clear A8)
          | (go_at_call 20; refine (apart2 w _ HB.out _ _ x HXX.out HXR.out HYR.out HYN.out).mono ?_; rintro e9 w9 ⟨rfl, hb⟩; clear HB HXR HYR HYN; have HB := Aside0.mk hb; clear hb)
          | (go_at_call 13; refine (pax_Decode.calls k (fun _ => True) _ _ b res none _ ?s1 ?s2 B1.out).mono ?_; (case s1 => exact OD.V_of_C (Kd.C_below HD.out HB.out) HDL.out _); (case s2 => exact HGL.out.of HB.out); rintro e10 w10 ⟨v10, rfl, ho, hb⟩; have n0_ := Aside0.mk (below_step HB.out hb); clear HB hb; have HB := n0_; clear n0_; obtain ⟨Az, cz, eo, hcz, hCz⟩ := Kd.R_reads ho; subst eo; have HZ := Aside0.mk hCz; have HZL := Aside0.mk hcz; clear hCz hcz ho; (try simp only [errW_none]))
          | (go_at_call 19; refine (pax_Encode.calls k _ _ res b none _ ?s1 HZL.out ?s3 B2.out).mono ?_; (case s1 => exact HZ.out); (case s3 => exact HGL.out.of HB.out); rintro e11 w11 ⟨v11, rfl, ho, hb⟩; have n0_ := Aside0.mk (below_step HB.out hb); clear HB hb; have HB := n0_; clear n0_; obtain ⟨Av, cv, eo, hcv, hCv⟩ := Kd.R_reads ho; subst eo; have hcv1 : ∀ m : Nat, (convert 31 9 (.slice Av b.length cv)).run Tryd.prog (w11.drewN m) = .ok (.string (strOfNums b)) (w11.drewN m) := fun m => Kd.C_string (P := Tryd.prog) Tryd.underlying31 Tryd.underlying5 Tryd.underlying9 (Kd.C_drewN hCv m); have hcv2 : ∀ m : Nat, (convert 31 9 (.slice Ab b.length d)).run Tryd.prog (w11.drewN m) = .ok (.string (strOfNums b)) (w11.drewN m) := fun m => Kd.C_string (P := Tryd.prog) Tryd.underlying31 Tryd.underlying5 Tryd.underlying9 (Kd.C_drewN (Kd.C_below HD.out HB.out) m); have hcv3 := Kd.C_string (P := Tryd.prog) (c := cv) Tryd.underlying31 Tryd.underlying5 Tryd.underlying9 hCv; have hcv4 := Kd.C_string (P := Tryd.prog) (c := d) Tryd.underlying31 Tryd.underlying5 Tryd.underlying9 (Kd.C_below HD.out HB.out); clear hCv hcv ho; (try simp only [errW_none])))
        go_ret
        exact ⟨by first | rfl | (simp; done) | (simp [*]; done), by repeat (first | (with_reducible first | exact HB.out | apply below_alloc | apply pw_below_drewN | apply below_drew1) | exact HB.out)⟩
end OB
end Go.Proofs.YtcengaholljddaaDoor.PPax
