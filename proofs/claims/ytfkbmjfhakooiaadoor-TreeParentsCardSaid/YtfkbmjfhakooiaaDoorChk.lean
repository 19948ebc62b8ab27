/- tree's checker: one entry, walked. Conditions: as each theorem says. -/
import Derived.Test.YtfkbmjfhakooiaaDoorMp
import Derived.Test.YtfkbmjfhakooiaaDoorPTreex2
import Derived.Deep.RegionHeld3
import Derived.StillTailTactics
import Derived.Deep.QuietTactic
import Derived.BigQuiet
namespace Go.Proofs.YtfkbmjfhakooiaaDoor.TR
open Go.RowKit Go.Proofs.YtfkbmjfhakooiaaDoor.PTree Go.Proofs.YtfkbmjfhakooiaaDoorW.PrintWords Go.Proofs.YtfkbmjfhakooiaaDoorW.PrintLast Go.Proofs.YtfkbmjfhakooiaaDoorW.PrintMore
set_option linter.unusedVariables false
set_option linter.unusedSimpArgs false
/-- What differs lies in the blocks X alone. -/
structure Ex (X : Nat → Prop) (w w' : World) : Prop where
  os : w'.os = w.os
  tape : w'.tape = w.tape
  output : w'.output = w.output
  size : w.heap.size ≤ w'.heap.size
  block : ∀ k, k < w.heap.size → ¬ X k → w'.heap[k]? = w.heap[k]?
theorem Ex.refl (X : Nat → Prop) (w : World) : Ex X w w := ⟨rfl, rfl, rfl, Nat.le_refl _, fun _ _ _ => rfl⟩
theorem Ex.trans {X : Nat → Prop} {a b c : World} (h : Ex X a b) (k : Ex X b c) : Ex X a c :=
  ⟨k.os.trans h.os, k.tape.trans h.tape, k.output.trans h.output, Nat.le_trans h.size k.size, fun i hi hx => (k.block i (Nat.lt_of_lt_of_le hi h.size) hx).trans (h.block i hi hx)⟩
theorem Ex.of_below {X : Nat → Prop} {a b : World} (h : Below a.heap.size a b) : Ex X a b := ⟨h.os, h.tape, h.output, h.size, fun i hi _ => h.block i hi⟩
theorem Ex.below {X : Nat → Prop} {a b : World} {B : Nat} (h : Ex X a b) (hB : B ≤ a.heap.size) (hx : ∀ k, X k → B ≤ k) : Below B a b := ⟨h.os, h.tape, h.output, h.size, fun i hi => h.block i (by omega) (fun hxi => by have := hx i hxi; omega)⟩
theorem Ex.set {X : Nat → Prop} {a b : World} (h : Ex X a b) (p : Addr) (v : Value) (hx : X p.block) : Ex X a (b.setCell p v) :=
  h.trans ⟨rfl, rfl, rfl, Nat.le_of_eq (by show _ = (b.heap.modify p.block _).size; rw [Array.size_modify]), fun i _ hi => Below.heap_setCell _ _ _ _ (fun e => hi (e ▸ hx))⟩
theorem Ex.grown {X : Nat → Prop} {w0 W w1 : World} {row : Option Nat} (h : Ex X w0 W) (hg : W.grownBy w1 row) (hr : ∀ k, row = some k → X k ∨ w0.heap.size ≤ k) : Ex X w0 w1 :=
  ⟨hg.os.trans h.os, hg.tape.trans h.tape, hg.output.trans h.output, Nat.le_trans h.size hg.size, fun k hk hx => (hg.block k (Nat.lt_of_lt_of_le hk h.size) (fun e => (hr k e.symm).elim hx (fun q => by omega))).trans (h.block k hk hx)⟩
theorem heapSet {W : World} {b : Nat} {cs : Array Value} {t : TypeId} {fr : Nat × Nat} (h : W.heap[b]? = some (.cells cs t fr)) (k : Nat) (v : Value) : (W.setCell ⟨b, k, none⟩ v).heap[b]? = some (.cells (cs.setIfInBounds k v) t fr) := by
  obtain ⟨hlt, hk⟩ := Array.getElem?_eq_some_iff.1 h
  show (W.heap.modify b _)[b]? = _
  rw [Array.getElem?_eq_getElem (by rw [Array.size_modify]; exact hlt), Array.getElem_modify_self, hk]
  rfl
/-- A checker lies in block q, its map in mb. -/
def CkAt (W : World) (q mb n : Nat) (M : ByteArray → Int) (last : ByteArray) (size : Int) : Prop :=
  W.heap[q]? = some (.cells #[.map (some mb), .string last, .int .i64 size] 73 (0, 0)) ∧ MapAt W mb n M
theorem CkAt.below {W W1 : World} {q mb n : Nat} {M : ByteArray → Int} {last : ByteArray} {size : Int} (h : CkAt W q mb n M last size) (hb : Below W.heap.size W W1) : CkAt W1 q mb n M last size :=
  ⟨blk_stay h.1 hb, h.2.below hb⟩
/-- The first error of an entry. -/
def entryR (good gf ne : Bool) (cmp : Int) (ok : Bool) (mp kd ml size dl : Int) : Option Int :=
  if good = false then some 12 else if (!gf || (ne && decide (cmp ≥ 0))) = true then some 13 else if (ok && (mp != 1)) = true then some 13 else if ((kd == 4) && (ml != 2)) = true then some 13 else if size + dl > 1048576 then some 18 else none
theorem ck_cells {W : World} {q : Nat} {v0 v1 v2 : Value} {t : TypeId} (h : W.heap[q]? = some (.cells #[v0, v1, v2] t (0, 0))) : W.cell? ⟨q, 0, none⟩ = some v0 ∧ W.cell? ⟨q, 1, none⟩ = some v1 ∧ W.cell? ⟨q, 2, none⟩ = some v2 :=
  ⟨blk_cell h 0, blk_cell h 1, blk_cell h 2⟩
/-- What a region of the checker reads. -/
theorem held {w1 W : World} {g0 q mb n z : Nat} {M : ByteArray → Int} {last p ln : ByteArray} {size kd md u g t : Int} {v7 : Value} (hk : w1.heap[g0]? = some (.cells #[.string p, .int .i64 kd, .int .i64 md, .int .i64 u, .int .i64 g, .int .i64 t, .string ln, v7] 31 (0, 0))) (hC : CkAt w1 q mb n M last size)
    (hz : ∀ W, MapAt W mb n M → W.heap[mb]? = w1.heap[mb]? → (Builtin.len_ #[59] 3 #[.map (some mb)]).run Tryd.prog W = .ok (.int .i64 (z : Int)) W) (h : Below w1.heap.size w1 W) :
    Below w1.heap.size w1 W ∧ W.cell? ⟨g0, 0, none⟩ = some (.string p) ∧ W.cell? ⟨g0, 1, none⟩ = some (.int .i64 kd) ∧ W.cell? ⟨g0, 2, none⟩ = some (.int .i64 md) ∧ W.cell? ⟨g0, 3, none⟩ = some (.int .i64 u) ∧ W.cell? ⟨g0, 4, none⟩ = some (.int .i64 g) ∧ W.cell? ⟨g0, 5, none⟩ = some (.int .i64 t) ∧ W.cell? ⟨g0, 6, none⟩ = some (.string ln) ∧ W.cell? ⟨g0, 7, none⟩ = some v7 ∧
      W.cell? ⟨q, 0, none⟩ = some (.map (some mb)) ∧ W.cell? ⟨q, 1, none⟩ = some (.string last) ∧ (Builtin.len_ #[59] 3 #[.map (some mb)]).run Tryd.prog W = .ok (.int .i64 (z : Int)) W := by
  obtain ⟨j0, j1, j2, j3, j4, j5, j6, j7⟩ := good_cells (blk_stay hk h)
  obtain ⟨k0, k1, _⟩ := ck_cells (blk_stay hC.1 h)
  exact ⟨h, j0, j1, j2, j3, j4, j5, j6, j7, k0, k1, hz W (hC.2.below h) (h.block mb hC.2.lt)⟩
theorem len_at {w1 : World} {mb n : Nat} {M : ByteArray → Int} (h : MapAt w1 mb n M) : ∃ z : Nat, (∀ W, MapAt W mb n M → W.heap[mb]? = w1.heap[mb]? → (Builtin.len_ #[59] 3 #[.map (some mb)]).run Tryd.prog W = .ok (.int .i64 (z : Int)) W) ∧ (n = 0 ↔ z = 0) := by
  obtain ⟨D, ⟨es, cl, h0, h1⟩, h2, h3, h4⟩ := h
  refine ⟨Maps.size D, fun W _ e => ?_, h4⟩
  have : W.ownsMap Tryd.prog 9 (plainElem Tryd.prog 3) mb n D := ⟨es, cl, e.trans h0, h1⟩
  exact this.len Tryd.underlying59 3
set_option maxHeartbeats 8000000 in
set_option maxRecDepth 100000 in
theorem entry_calls (k n q mb : Nat) (M : ByteArray → Int) (last p ln par : ByteArray) (size kd md u g t : Int) (A7 : Option Addr) (c7 : Nat) (d : List Int) (w : World) (hGl : Gl w) (hC : CkAt w q mb n M last size) (hn : n ≤ 1000000) (hps : p.size ≤ 1000000000000) (hls : ln.size ≤ 1000000000000) (hpar : par.size ≤ 1000000000000) (hd : d.length ≤ 1000000000000)
    (hs0 : 0 ≤ size) (hs1 : size ≤ 1048576) (hkd : (Lit.int .i64 kd).wf = true) (good gf ok : Bool) (cmp : Int) (hG : path_Good.f k p = some good) (hF : tree_goodFields.f k p kd md u g t ln d = some gf) (hCm : path_Compare.f k last p = some cmp) (hP : path_Parent.f k p = some (par, ok)) :
    Calls Tryd.prog 37 #[.pointer (some ⟨q, 0, none⟩), .agg #[.string p, .int .i64 kd, .int .i64 md, .int .i64 u, .int .i64 g, .int .i64 t, .string ln, .slice A7 d.length c7]] w fun e w' =>
      e = .returned (errW (entryR good gf (n != 0) cmp ok (M par) kd (M ln) size (d.length : Int))) ∧ Ex (fun b => b = q ∨ b = mb) w w' ∧ (entryR good gf (n != 0) cmp ok (M par) kd (M ln) size (d.length : Int) = none → CkAt w' q mb (n + 1) (upd M p kd) p (size + (d.length : Int))) := by
  have hu31 := Tryd.underlying31
  obtain ⟨z, hz, hzn⟩ := len_at hC.2
  have HQL := Aside0.mk (show q < w.heap.size from (Array.getElem?_eq_some_iff.1 hC.1).1)
  have HML := Aside0.mk (show mb < w.heap.size from hC.2.lt)
  obtain ⟨g0, hg0⟩ : ∃ g0, g0 = w.heap.size := ⟨_, rfl⟩
  obtain ⟨w1, hw1⟩ : ∃ w1, w1 = w.alloc (.cells #[.string p, .int .i64 kd, .int .i64 md, .int .i64 u, .int .i64 g, .int .i64 t, .string ln, .slice A7 d.length c7] 31) := ⟨_, rfl⟩
  have hb1 : Below w.heap.size w w1 := by rw [hw1]; exact below_alloc (Below.refl _ _) _
  have BK := Aside0.mk (show w1.heap[g0]? = some (.cells #[.string p, .int .i64 kd, .int .i64 md, .int .i64 u, .int .i64 g, .int .i64 t, .string ln, .slice A7 d.length c7] 31 (0, 0)) by rw [hw1, hg0]; exact heap_alloc_new w _)
  have CK := Aside0.mk (hC.below hb1)
  have HGL := Aside0.mk (hGl.of hb1)
  have HWB := Aside0.mk hb1
  have HZ := Aside0.mk (fun W (h1 : MapAt W mb n M) (h2 : W.heap[mb]? = w1.heap[mb]?) => hz W h1 (h2.trans (hb1.block mb hC.2.lt)))
  have HG := Aside0.mk hG
  have HF := Aside0.mk hF
  have HCM := Aside0.mk hCm
  have HP := Aside0.mk hP
  have HW1 := Aside0.mk hw1
  have HG0 := Aside0.mk hg0
  have HZN := Aside0.mk hzn
  clear hGl hC hz hzn hb1 hw1 hg0 hG hF hCm hP
  cases good with
  | false =>
    go_enter Tryd.func37, Tryd.ntmps37
    go_wp2_with (first
      | (go_at_call 28; rw [← HW1.out]; (with_reducible refine (path_Good.calls k p false _ ?s1 HG.out).mono ?_); (case s1 => exact HGL.out); rintro e1 w2 ⟨rfl, hb⟩; have HB2 := Aside0.mk hb; clear hb))
    go_ret
    exact ⟨rfl, Ex.of_below (below_step HWB.out HB2.out), fun h => by simp [entryR] at h⟩
  | true =>
    go_enter Tryd.func37, Tryd.ntmps37
    go_upto_region 3 with (first
      | (go_at_call 28; rw [← HW1.out]; (with_reducible refine (path_Good.calls k p true _ ?s1 HG.out).mono ?_); (case s1 => exact HGL.out); rintro e1 w2 ⟨rfl, hb⟩; have HB2 := Aside0.mk hb; clear hb))
    rw [← HG0.out]
    go_cut [32] (fun v32 wc => v32 = .bool (!gf || ((n != 0) && decide (cmp ≥ 0))) ∧ Aside0 (Below w1.heap.size w1 wc))
    case first =>
      obtain ⟨_, j0, j1, j2, j3, j4, j5, j6, j7, _, _, _⟩ := held BK.out CK.out HZ.out HB2.out
      cases gf with
      | false =>
        refine start_ (n := 21) (S := fun _ => True) (ds := []) #[false, false, false, false, false, false, false, false, false, false, false, false, false, false, false, false, false, false, false, false, false] (by kernel_rfl) rfl rfl trivial (fun _ => ?_)
        refine one_ (i := 0) (N := some 12) #[true, false, false, false, false, false, false, false, false, false, false, false, false, false, false, false, false, false, false, false, false] rfl rfl (by kernel_rfl) (by decide) (fun K hK => ?_)
        go_simp
        refine hK.out _ _ trivial (fun _ => ?_)
        clear hK K
        refine one_ (i := 1) (N := some 13) #[true, true, false, false, false, false, false, false, false, false, false, false, false, false, false, false, false, false, false, false, false] rfl rfl (by kernel_rfl) (by decide) (fun K hK => ?_)
        go_simp
        go_wp2_with (first
          | (go_at_call 52; refine (tree_goodFields.calls k p kd md u g t ln A7 c7 d false _ (by omega) (HGL.out.of (pw_below_drewN HB2.out 1)) HF.out).mono ?_; rintro e1 w3 ⟨rfl, hb3⟩; have HB3 := Aside0.mk (below_step (pw_below_drewN HB2.out 1) hb3); clear hb3))
        refine hK.out _ _ trivial (fun _ => ?_)
        clear hK K
        refine pure_ (i := 2) (N := some 14) (v := .bool true) #[true, true, true, false, false, false, false, false, false, false, false, false, false, false, false, false, false, false, false, false, false] rfl rfl (by kernel_rfl) (fun _ _ _ h => h) (Or.inl ⟨by rfl, fun w => by go_simp⟩) rfl ?_
        simp only [Act.put, List.setIfInBounds_toArray, List.set_cons_zero, List.set_cons_succ]
        refine pure_ (i := 3) (N := some 15) (v := .bool true) #[true, true, true, true, false, false, false, false, false, false, false, false, false, false, false, false, false, false, false, false, false] rfl rfl (by kernel_rfl) (fun _ _ _ h => h) (Or.inl ⟨by rfl, fun w => by go_simp⟩) rfl ?_
        simp only [Act.put, List.setIfInBounds_toArray, List.set_cons_zero, List.set_cons_succ]
        refine pure_ (i := 4) (N := some 16) (v := undef) #[true, true, true, true, true, false, false, false, false, false, false, false, false, false, false, false, false, false, false, false, false] rfl rfl (by kernel_rfl) (fun _ _ _ h => h) (Or.inr ⟨by rfl, rfl⟩) rfl ?_
        simp only [Act.put, List.setIfInBounds_toArray, List.set_cons_zero, List.set_cons_succ]
        refine pure_ (i := 5) (N := some 17) (v := undef) #[true, true, true, true, true, true, false, false, false, false, false, false, false, false, false, false, false, false, false, false, false] rfl rfl (by kernel_rfl) (fun _ _ _ h => h) (Or.inr ⟨by rfl, rfl⟩) rfl ?_
        simp only [Act.put, List.setIfInBounds_toArray, List.set_cons_zero, List.set_cons_succ]
        refine pure_ (i := 6) (N := some 18) (v := undef) #[true, true, true, true, true, true, true, false, false, false, false, false, false, false, false, false, false, false, false, false, false] rfl rfl (by kernel_rfl) (fun _ _ _ h => h) (Or.inr ⟨by rfl, rfl⟩) rfl ?_
        simp only [Act.put, List.setIfInBounds_toArray, List.set_cons_zero, List.set_cons_succ]
        refine pure_ (i := 7) (N := some 19) (v := undef) #[true, true, true, true, true, true, true, true, false, false, false, false, false, false, false, false, false, false, false, false, false] rfl rfl (by kernel_rfl) (fun _ _ _ h => h) (Or.inr ⟨by rfl, rfl⟩) rfl ?_
        simp only [Act.put, List.setIfInBounds_toArray, List.set_cons_zero, List.set_cons_succ]
        refine pure_ (i := 8) (N := some 20) (v := undef) #[true, true, true, true, true, true, true, true, true, false, false, false, false, false, false, false, false, false, false, false, false] rfl rfl (by kernel_rfl) (fun _ _ _ h => h) (Or.inr ⟨by rfl, rfl⟩) rfl ?_
        simp only [Act.put, List.setIfInBounds_toArray, List.set_cons_zero, List.set_cons_succ]
        refine pure_ (i := 9) (N := some 21) (v := undef) #[true, true, true, true, true, true, true, true, true, true, false, false, false, false, false, false, false, false, false, false, false] rfl rfl (by kernel_rfl) (fun _ _ _ h => h) (Or.inr ⟨by rfl, rfl⟩) rfl ?_
        simp only [Act.put, List.setIfInBounds_toArray, List.set_cons_zero, List.set_cons_succ]
        refine pure_ (i := 10) (N := some 22) (v := undef) #[true, true, true, true, true, true, true, true, true, true, true, false, false, false, false, false, false, false, false, false, false] rfl rfl (by kernel_rfl) (fun _ _ _ h => h) (Or.inr ⟨by rfl, rfl⟩) rfl ?_
        simp only [Act.put, List.setIfInBounds_toArray, List.set_cons_zero, List.set_cons_succ]
        refine pure_ (i := 11) (N := some 23) (v := undef) #[true, true, true, true, true, true, true, true, true, true, true, true, false, false, false, false, false, false, false, false, false] rfl rfl (by kernel_rfl) (fun _ _ _ h => h) (Or.inr ⟨by rfl, rfl⟩) rfl ?_
        simp only [Act.put, List.setIfInBounds_toArray, List.set_cons_zero, List.set_cons_succ]
        refine pure_ (i := 12) (N := some 24) (v := undef) #[true, true, true, true, true, true, true, true, true, true, true, true, true, false, false, false, false, false, false, false, false] rfl rfl (by kernel_rfl) (fun _ _ _ h => h) (Or.inr ⟨by rfl, rfl⟩) rfl ?_
        simp only [Act.put, List.setIfInBounds_toArray, List.set_cons_zero, List.set_cons_succ]
        refine pure_ (i := 13) (N := some 25) (v := undef) #[true, true, true, true, true, true, true, true, true, true, true, true, true, true, false, false, false, false, false, false, false] rfl rfl (by kernel_rfl) (fun _ _ _ h => h) (Or.inr ⟨by rfl, rfl⟩) rfl ?_
        simp only [Act.put, List.setIfInBounds_toArray, List.set_cons_zero, List.set_cons_succ]
        refine pure_ (i := 14) (N := some 26) (v := undef) #[true, true, true, true, true, true, true, true, true, true, true, true, true, true, true, false, false, false, false, false, false] rfl rfl (by kernel_rfl) (fun _ _ _ h => h) (Or.inr ⟨by rfl, rfl⟩) rfl ?_
        simp only [Act.put, List.setIfInBounds_toArray, List.set_cons_zero, List.set_cons_succ]
        refine pure_ (i := 15) (N := some 27) (v := undef) #[true, true, true, true, true, true, true, true, true, true, true, true, true, true, true, true, false, false, false, false, false] rfl rfl (by kernel_rfl) (fun _ _ _ h => h) (Or.inr ⟨by rfl, rfl⟩) rfl ?_
        simp only [Act.put, List.setIfInBounds_toArray, List.set_cons_zero, List.set_cons_succ]
        refine pure_ (i := 16) (N := some 28) (v := undef) #[true, true, true, true, true, true, true, true, true, true, true, true, true, true, true, true, true, false, false, false, false] rfl rfl (by kernel_rfl) (fun _ _ _ h => h) (Or.inr ⟨by rfl, rfl⟩) rfl ?_
        simp only [Act.put, List.setIfInBounds_toArray, List.set_cons_zero, List.set_cons_succ]
        refine pure_ (i := 17) (N := some 29) (v := undef) #[true, true, true, true, true, true, true, true, true, true, true, true, true, true, true, true, true, true, false, false, false] rfl rfl (by kernel_rfl) (fun _ _ _ h => h) (Or.inr ⟨by rfl, rfl⟩) rfl ?_
        simp only [Act.put, List.setIfInBounds_toArray, List.set_cons_zero, List.set_cons_succ]
        refine pure_ (i := 18) (N := some 30) (v := undef) #[true, true, true, true, true, true, true, true, true, true, true, true, true, true, true, true, true, true, true, false, false] rfl rfl (by kernel_rfl) (fun _ _ _ h => h) (Or.inr ⟨by rfl, rfl⟩) rfl ?_
        simp only [Act.put, List.setIfInBounds_toArray, List.set_cons_zero, List.set_cons_succ]
        refine pure_ (i := 19) (N := some 31) (v := undef) #[true, true, true, true, true, true, true, true, true, true, true, true, true, true, true, true, true, true, true, true, false] rfl rfl (by kernel_rfl) (fun _ _ _ h => h) (Or.inr ⟨by rfl, rfl⟩) rfl ?_
        simp only [Act.put, List.setIfInBounds_toArray, List.set_cons_zero, List.set_cons_succ]
        refine pure_ (i := 20) (N := some 32) (v := .bool true) #[true, true, true, true, true, true, true, true, true, true, true, true, true, true, true, true, true, true, true, true, true] rfl rfl (by kernel_rfl) (fun _ _ _ h => h) (Or.inl ⟨by rfl, fun w => by go_simp⟩) rfl ?_
        simp only [Act.put, List.setIfInBounds_toArray, List.set_cons_zero, List.set_cons_succ]
        refine done_ (by kernel_rfl) ?_
        all_goals (
          go_wp2
          go_meet
          case rel => exact ⟨rfl, HB3⟩)
      | true =>
        by_cases c0 : n = 0
        · have z0 : z = 0 := HZN.out.1 c0
          have hne : (n != 0) = false := by rw [c0]; rfl
          have HNE := Aside0.mk hne
          subst z0
          clear c0 hne
          first | go_region_with (first
            | (go_at_call 52; refine (tree_goodFields.calls k p kd md u g t ln A7 c7 d true _ (by omega) (HGL.out.of (pw_below_drewN HB2.out 1)) HF.out).mono ?_; rintro e1 w3 ⟨rfl, hb3⟩; have HB3 := Aside0.mk (below_step (pw_below_drewN HB2.out 1) hb3); clear hb3; obtain ⟨_, _, _, _, _, _, _, _, _, i0, i1, i2⟩ := held BK.out CK.out HZ.out HB3.out)) | fail
          all_goals (
            go_wp2
            go_meet
            case rel => exact ⟨by rw [HNE.out]; rfl, HB3⟩)
        · have z0 : ¬ z = 0 := fun e => c0 (HZN.out.2 e)
          have z1 : 1 ≤ z := by omega
          have hne : (n != 0) = true := bne_iff_ne.mpr c0
          have HNE := Aside0.mk hne
          have z2 := decide_eq_true (show (z : Int) > 0 by omega)
          clear c0 hne z0
          first | go_region_with (first
            | (go_at_call 52; refine (tree_goodFields.calls k p kd md u g t ln A7 c7 d true _ (by omega) (HGL.out.of (pw_below_drewN HB2.out 1)) HF.out).mono ?_; rintro e1 w3 ⟨rfl, hb3⟩; have HB3 := Aside0.mk (below_step (pw_below_drewN HB2.out 1) hb3); clear hb3; obtain ⟨_, i3, _, _, _, _, _, _, _, i0, i1, i2⟩ := held BK.out CK.out HZ.out HB3.out)
            | (go_at_call 26; refine (path_Compare.calls k last p cmp _ (HGL.out.of HB3.out) HCM.out).mono ?_; rintro e1 w4 ⟨rfl, hd4⟩; have HB4 := Aside0.mk (below_step HB3.out hd4.below); clear hd4)) | fail
          all_goals (
            go_wp2
            go_meet
            case rel => exact ⟨by rw [HNE.out]; first | rfl | (simp; done), HB4⟩)
    case rest =>
      obtain ⟨rfl, HBC⟩ := hcut
      by_cases c1 : (!gf || ((n != 0) && decide (cmp ≥ 0))) = true
      · rw [c1]
        go_wp2
        go_ret
        exact ⟨by simp [entryR, c1] <;> rfl, Ex.of_below (below_step HWB.out HBC.out), fun h => by simp [entryR, c1] at h⟩
      · have C1 := Aside0.mk c1
        have c1' : (!gf || ((n != 0) && decide (cmp ≥ 0))) = false := Bool.eq_false_iff.mpr c1
        rw [c1']
        clear c1 c1'
        have J := Aside0.mk (held BK.out CK.out HZ.out HBC.out)
        obtain ⟨_, j0, j1, j2, j3, j4, j5, j6, j7, k0, k1, k2⟩ := J.out
        go_upto_region 6 with (first
          | (go_at_call 9; (with_reducible refine (path_Parent.calls k p par ok _ (HGL.out.of HBC.out) HP.out).mono ?_); rintro e1 w5 ⟨rfl, hb⟩; have HB5 := Aside0.mk (below_step HBC.out hb); clear hb))
        clear j0 j1 j2 j3 j4 j5 j6 j7 k0 k1 k2
        obtain ⟨_, j0, j1, j2, j3, j4, j5, j6, j7, k0, k1, k2⟩ := held BK.out CK.out HZ.out HB5.out
        have lk := (CK.out.below HB5.out).2.look par hpar
        go_cut [49] (fun v49 wd => v49 = .bool (ok && (M par != 1)) ∧ wd = w5)
        case first =>
          cases ok with
          | false =>
            go_wp2
            go_meet
            case rel => exact ⟨rfl, rfl⟩
          | true =>
            go_wp2
            go_meet
            case rel => exact ⟨rfl, rfl⟩
        case rest =>
          obtain ⟨rfl, rfl⟩ := hcut
          by_cases c2 : (ok && (M par != 1)) = true
          · rw [c2]
            go_wp2
            go_ret
            exact ⟨by simp only [entryR, C1.out]; simp [c2] <;> rfl, Ex.of_below (below_step HWB.out HB5.out), fun h => by simp only [entryR, C1.out] at h; simp [c2] at h⟩
          · have C2 := Aside0.mk c2
            have c2' : (ok && (M par != 1)) = false := Bool.eq_false_iff.mpr c2
            rw [c2']
            clear c2 c2'
            clear j0 j1 j2 j3 j4 j5 j6 j7 k0 k1 k2 lk
            go_upto_region 8 with (fail)
            obtain ⟨_, j0, j1, j2, j3, j4, j5, j6, j7, k0, k1, _⟩ := held BK.out CK.out HZ.out HB5.out
            have lk := fun nq => (CK.out.below (pw_below_drewN HB5.out nq)).2.look ln hls
            go_cut [63] (fun v63 wd => v63 = .bool ((kd == 4) && (M ln != 2)) ∧ Aside0 (Below w1.heap.size w1 wd))
            case first =>
              by_cases c3 : kd = 4
              · go_quiet (fail)
                go_wp2
                go_meet
                case rel => exact ⟨by rw [c3]; rfl, Aside0.mk (pw_below_drewN HB5.out _)⟩
              · go_quiet (fail)
                go_wp2
                go_meet
                case rel => exact ⟨by rw [show (kd == 4) = false from beq_eq_false_iff_ne.mpr c3]; rfl, Aside0.mk (pw_below_drewN HB5.out _)⟩
            case rest =>
              clear j0 j1 j2 j3 j4 j5 j6 j7 k0 k1 lk
              obtain ⟨rfl, HB8⟩ := hcut
              by_cases c3 : ((kd == 4) && (M ln != 2)) = true
              · rw [c3]
                go_wp2
                go_ret
                exact ⟨by simp only [entryR, C1.out, C2.out]; simp [c3] <;> rfl, Ex.of_below (below_step HWB.out HB8.out), fun h => by simp only [entryR, C1.out, C2.out] at h; simp [c3] at h⟩
              · have C3 := Aside0.mk c3
                have c3' : ((kd == 4) && (M ln != 2)) = false := Bool.eq_false_iff.mpr c3
                rw [c3']
                clear c3 c3'
                go_upto_region 10 with (fail)
                obtain ⟨_, j0, j1, j2, j3, j4, j5, j6, j7, _, _, _⟩ := held BK.out CK.out HZ.out HB8.out
                obtain ⟨k0, k1, k2⟩ := ck_cells (CK.out.below HB8.out).1
                have kf2 : ∀ j, wc.frozen? ⟨q, j, none⟩ = false := blk_frozen (CK.out.below HB8.out).1
                have hqm : q ≠ mb := by
                  intro e
                  obtain ⟨es, cl, he⟩ := CK.out.2.blk
                  rw [← e, CK.out.1] at he
                  cases he
                go_still_tail 10, (by kernel_rfl)
                change wpList _ _ _ _ _ wc.drew
                go_upto_region 11 with (fail)
                have hHB := Aside0.mk (below_drew1 HB8.out)
                have B0 := Aside0.mk (show (wc.drew.setCell ⟨q, 2, none⟩ (.int .i64 (size + (d.length : Int)))).heap[q]? = some (.cells #[.map (some mb), .string last, .int .i64 (size + (d.length : Int))] 73 (0, 0)) from heapSet (blk_drew (CK.out.below HB8.out).1) 2 _)
                have B1 := Aside0.mk (show MapAt (wc.drew.setCell ⟨q, 2, none⟩ (.int .i64 (size + (d.length : Int)))) mb n M from (CK.out.below hHB.out).2.move (Below.heap_setCell _ _ _ _ (fun e => hqm e.symm)))
                have B2 := Aside0.mk (show (wc.drew.setCell ⟨q, 2, none⟩ (.int .i64 (size + (d.length : Int)))).heap[g0]? = _ from (Below.heap_setCell _ _ _ _ (fun e => by
                  have h1 := HQL.out
                  have h2 := HG0.out
                  have h3 : g0 = q := e
                  omega)).trans (blk_stay BK.out hHB.out))
                have BX := Aside0.mk ((Ex.of_below (X := fun b => b = q ∨ b = mb) (below_step HWB.out hHB.out)).set ⟨q, 2, none⟩ (.int .i64 (size + (d.length : Int))) (Or.inl rfl))
                generalize hWn : wc.drew.setCell ⟨q, 2, none⟩ (.int .i64 (size + (d.length : Int))) = wn at B0 B1 B2 BX
                try rw [show (wc.setCell ⟨q, 2, none⟩ (.int .i64 (size + (d.length : Int)))).drew = wn from hWn]
                clear hWn j0 j1 j2 j3 j4 j5 j6 j7 k0 k1 k2 kf2
                obtain ⟨j0, j1, j2, j3, j4, j5, j6, j7⟩ := good_cells B2.out
                obtain ⟨k0, k1, k2⟩ := ck_cells B0.out
                by_cases c4 : size + (d.length : Int) > 1048576
                · have c4' := decide_eq_true c4
                  go_wp2
                  go_ret
                  exact ⟨by simp only [entryR, C1.out, C2.out, C3.out]; rw [if_pos c4]; rfl, BX.out, fun h => by simp only [entryR, C1.out, C2.out, C3.out] at h; rw [if_pos c4] at h; cases h⟩
                · have C4 := Aside0.mk c4
                  go_upto_region 13 with (fail)
                  go_still_tail 8, (by kernel_rfl)
                  change wpList _ _ _ _ _ wn.drew
                  refine ev_put wn.drew rfl (.tmp 84) (.tmp 86) (.tmp 88) rfl mb n M rfl (B1.out.move rfl) (by omega) p hps kd hkd rfl rfl (fun w' r1 r2 => ?_)
                  have B3 := Aside0.mk (show w'.heap[q]? = _ from (r2.block q (Array.getElem?_eq_some_iff.1 B0.out).1 (fun e => hqm (by injection e))).trans B0.out)
                  have B4 := Aside0.mk (show w'.heap[g0]? = _ from (r2.block g0 (Array.getElem?_eq_some_iff.1 B2.out).1 (fun e => by
                    have h1 := HML.out
                    have h2 := HG0.out
                    have h3 : mb = g0 := by first | exact Option.some.inj e | exact (Option.some.inj e).symm
                    omega)).trans B2.out)
                  clear j0 j1 j2 j3 j4 j5 j6 j7 k0 k1 k2
                  obtain ⟨j0, j1, j2, j3, j4, j5, j6, j7⟩ := good_cells B4.out
                  obtain ⟨k0, k1, k2⟩ := ck_cells B3.out
                  have kf3 : ∀ j, w'.frozen? ⟨q, j, none⟩ = false := blk_frozen B3.out
                  have R1 := Aside0.mk r1
                  have R2 := Aside0.mk r2
                  clear r1 r2
                  go_wp2
                  go_ret
                  have X1 : Ex (fun b => b = q ∨ b = mb) w wn.drew := BX.out.trans (Ex.of_below (below_drew1 (Below.refl _ _)))
                  exact ⟨by simp only [entryR, C1.out, C2.out, C3.out]; rw [if_neg (Int.not_lt.mpr C4.out)]; rfl, (X1.grown R2.out (fun k e => Or.inl (Or.inr (by first | exact Option.some.inj e | exact (Option.some.inj e).symm)))).set _ _ (Or.inl rfl), fun _ => ⟨heapSet B3.out 1 _, R1.out.move (Below.heap_setCell _ _ _ _ (fun e => hqm e.symm))⟩⟩
end Go.Proofs.YtfkbmjfhakooiaaDoor.TR
