/- tree.Check, walked. Conditions: as each theorem says. -/
import Derived.Test.YtfkbmjfhakooiaaGreatDoorMp
import Derived.Test.YtfkbmjfhakooiaaGreatDoorPTreex0
import Derived.Test.YtfkbmjfhakooiaaGreatDoorPTreex2
import Derived.Deep.RegionHeld3
import Derived.StillTailTactics
import Derived.Deep.QuietTactic
import Derived.BigQuiet
/- An entry is laid into a box. Conditions: as each theorem says. -/
namespace Go.Proofs.YtfkbmjfhakooiaaGreatDoor.TR
open Go.RowKit Go.Proofs.YtfkbmjfhakooiaaGreatDoor.PTree Go.Proofs.YtfkbmjfhakooiaaGreatDoorW.PrintWords Go.Proofs.YtfkbmjfhakooiaaGreatDoorW.PrintLast Go.Proofs.YtfkbmjfhakooiaaGreatDoorW.PrintMore
set_option linter.unusedVariables false
set_option linter.unusedSimpArgs false
/-- An entry is stored into a box of its own: what else is there stays. -/
theorem ev_set31 {ops : Array Oper} {rest : List Oper} {o : Oper} {a : Act} {Q : Exit → Act → World → Prop} (w : World) (hg : o.guard = none) (p x : Operand) (hop : o.op = Op.store 28 p x) (hd : o.dst = none) (g : Nat) (z0 z1 z2 z3 z4 z5 z6 z7 : Value) (f0 f6 : ByteArray) (f1 f2 f3 f4 f5 : Int) (A7 : Option Addr) (n7 c7 : Nat)
    (hp : a.eval p = .pointer (some ⟨g, 0, none⟩)) (hx : a.eval x = .agg #[.string f0, .int .i64 f1, .int .i64 f2, .int .i64 f3, .int .i64 f4, .int .i64 f5, .string f6, .slice A7 n7 c7])
    (hb : w.heap[g]? = some (.cells #[z0, z1, z2, z3, z4, z5, z6, z7] 28 (0, 0)))
    (hK : ∀ w', w'.heap[g]? = some (.cells #[.string f0, .int .i64 f1, .int .i64 f2, .int .i64 f3, .int .i64 f4, .int .i64 f5, .string f6, .slice A7 n7 c7] 28 (0, 0)) → w.grownBy w' (some g) → wpList Tryz.prog ops Q rest a w') : wpList Tryz.prog ops Q (o :: rest) a w := by
  have hrun : (Instr.storeAt 28 (.pointer (some ⟨g, 0, none⟩)) (.agg #[.string f0, .int .i64 f1, .int .i64 f2, .int .i64 f3, .int .i64 f4, .int .i64 f5, .string f6, .slice A7 n7 c7])).run Tryz.prog w = .ok () (w.setCells g 0 [.string f0, .int .i64 f1, .int .i64 f2, .int .i64 f3, .int .i64 f4, .int .i64 f5, .string f6, .slice A7 n7 c7]) :=
    run_store_run 28 _ _ hb rfl (by
      obtain ⟨i, hi, hq⟩ := Option.map_eq_some_iff.1 info28
      rw [hi]
      simp only [Prod.mk.injEq] at hq
      show some i.size = _
      rw [hq.2.1]
      rfl) (Nat.le_refl 8) (by simp [Value.oneCell'])
  obtain ⟨cur, h1, h2, h3⟩ := setCells_row (g := g) [.string f0, .int .i64 f1, .int .i64 f2, .int .i64 f3, .int .i64 f4, .int .i64 f5, .string f6, .slice A7 n7 c7] 0 w _ hb (Nat.le_refl 8)
  obtain ⟨s1, s2, s3, s4⟩ := setCells_same g [.string f0, .int .i64 f1, .int .i64 f2, .int .i64 f3, .int .i64 f4, .int .i64 f5, .string f6, .slice A7 n7 c7] 0 w
  have hcur : cur = #[.string f0, .int .i64 f1, .int .i64 f2, .int .i64 f3, .int .i64 f4, .int .i64 f5, .string f6, .slice A7 n7 c7] := Array.ext' h3
  subst hcur
  refine wpList_plain hg fun K hKK => ?_
  unfold Oper.wp execOp
  simp only [hop, hp, hx, Sem.run_bind, Sem.run_pure, Result.andThen_ok, hrun]
  show K (a.put o.dst undef) _
  rw [hd]
  exact hKK _ _ (hK _ h1 ⟨s1, s2, s3, Nat.le_of_eq s4.symm, fun k _ hk => setCells_far _ 0 k (fun e => hk (by rw [e]))⟩)
end Go.Proofs.YtfkbmjfhakooiaaGreatDoor.TR

/- tree's checker: one entry, walked. Conditions: as each theorem says. -/
namespace Go.Proofs.YtfkbmjfhakooiaaGreatDoor.TR
open Go.RowKit Go.Proofs.YtfkbmjfhakooiaaGreatDoor.PTree Go.Proofs.YtfkbmjfhakooiaaGreatDoorW.PrintWords Go.Proofs.YtfkbmjfhakooiaaGreatDoorW.PrintLast Go.Proofs.YtfkbmjfhakooiaaGreatDoorW.PrintMore
set_option linter.unusedVariables false
set_option linter.unusedSimpArgs false
/-- What differs lies in the blocks X alone. -/
structure Ex (X : Nat → Prop) (w w' : World) : Prop where
  os : w'.os = w.os
  tape : w'.tape = w.tape
  output : w'.output = w.output
  size : w.heap.size ≤ w'.heap.size
  block : ∀ k, k < w.heap.size → ¬ X k → w'.heap[k]? = w.heap[k]?
theorem Ex.refl (X : Nat → Prop) (w : World) : Ex X w w := ⟨rfl, rfl, rfl, Nat.le_refl _, fun _ _ _ => rfl⟩
theorem Ex.trans {X : Nat → Prop} {a b c : World} (h : Ex X a b) (k : Ex X b c) : Ex X a c :=
  ⟨k.os.trans h.os, k.tape.trans h.tape, k.output.trans h.output, Nat.le_trans h.size k.size, fun i hi hx => (k.block i (Nat.lt_of_lt_of_le hi h.size) hx).trans (h.block i hi hx)⟩
theorem Ex.of_below {X : Nat → Prop} {a b : World} (h : Below a.heap.size a b) : Ex X a b := ⟨h.os, h.tape, h.output, h.size, fun i hi _ => h.block i hi⟩
theorem Ex.below {X : Nat → Prop} {a b : World} {B : Nat} (h : Ex X a b) (hB : B ≤ a.heap.size) (hx : ∀ k, X k → B ≤ k) : Below B a b := ⟨h.os, h.tape, h.output, h.size, fun i hi => h.block i (by omega) (fun hxi => by have := hx i hxi; omega)⟩
theorem Ex.set {X : Nat → Prop} {a b : World} (h : Ex X a b) (p : Addr) (v : Value) (hx : X p.block) : Ex X a (b.setCell p v) :=
  h.trans ⟨rfl, rfl, rfl, Nat.le_of_eq (by show _ = (b.heap.modify p.block _).size; rw [Array.size_modify]), fun i _ hi => Below.heap_setCell _ _ _ _ (fun e => hi (e ▸ hx))⟩
theorem Ex.grown {X : Nat → Prop} {w0 W w1 : World} {row : Option Nat} (h : Ex X w0 W) (hg : W.grownBy w1 row) (hr : ∀ k, row = some k → X k ∨ w0.heap.size ≤ k) : Ex X w0 w1 :=
  ⟨hg.os.trans h.os, hg.tape.trans h.tape, hg.output.trans h.output, Nat.le_trans h.size hg.size, fun k hk hx => (hg.block k (Nat.lt_of_lt_of_le hk h.size) (fun e => (hr k e.symm).elim hx (fun q => by omega))).trans (h.block k hk hx)⟩
theorem heapSet {W : World} {b : Nat} {cs : Array Value} {t : TypeId} {fr : Nat × Nat} (h : W.heap[b]? = some (.cells cs t fr)) (k : Nat) (v : Value) : (W.setCell ⟨b, k, none⟩ v).heap[b]? = some (.cells (cs.setIfInBounds k v) t fr) := by
  obtain ⟨hlt, hk⟩ := Array.getElem?_eq_some_iff.1 h
  show (W.heap.modify b _)[b]? = _
  rw [Array.getElem?_eq_getElem (by rw [Array.size_modify]; exact hlt), Array.getElem_modify_self, hk]
  rfl
/-- A checker lies in block q, its map in mb. -/
def CkAt (W : World) (q mb n : Nat) (M : ByteArray → Int) (last : ByteArray) (size : Int) : Prop :=
  W.heap[q]? = some (.cells #[.map (some mb), .string last, .int .i64 size] 67 (0, 0)) ∧ MapAt W mb n M
theorem CkAt.below {W W1 : World} {q mb n : Nat} {M : ByteArray → Int} {last : ByteArray} {size : Int} (h : CkAt W q mb n M last size) (hb : Below W.heap.size W W1) : CkAt W1 q mb n M last size :=
  ⟨blk_stay h.1 hb, h.2.below hb⟩
/-- The first error of an entry. -/
def entryR (good gf ne : Bool) (cmp : Int) (ok : Bool) (mp kd ml size dl : Int) : Option Int :=
  if good = false then some 12 else if (!gf || (ne && decide (cmp ≥ 0))) = true then some 13 else if (ok && (mp != 1)) = true then some 13 else if ((kd == 4) && (ml != 2)) = true then some 13 else if size + dl > 1048576 then some 18 else none
theorem ck_cells {W : World} {q : Nat} {v0 v1 v2 : Value} {t : TypeId} (h : W.heap[q]? = some (.cells #[v0, v1, v2] t (0, 0))) : W.cell? ⟨q, 0, none⟩ = some v0 ∧ W.cell? ⟨q, 1, none⟩ = some v1 ∧ W.cell? ⟨q, 2, none⟩ = some v2 :=
  ⟨blk_cell h 0, blk_cell h 1, blk_cell h 2⟩
/-- What a region of the checker reads. -/
theorem held {w1 W : World} {g0 q mb n z : Nat} {M : ByteArray → Int} {last p ln : ByteArray} {size kd md u g t : Int} {v7 : Value} (hk : w1.heap[g0]? = some (.cells #[.string p, .int .i64 kd, .int .i64 md, .int .i64 u, .int .i64 g, .int .i64 t, .string ln, v7] 28 (0, 0))) (hC : CkAt w1 q mb n M last size)
    (hz : ∀ W, MapAt W mb n M → W.heap[mb]? = w1.heap[mb]? → (Builtin.len_ #[65] 3 #[.map (some mb)]).run Tryz.prog W = .ok (.int .i64 (z : Int)) W) (h : Below w1.heap.size w1 W) :
    Below w1.heap.size w1 W ∧ W.cell? ⟨g0, 0, none⟩ = some (.string p) ∧ W.cell? ⟨g0, 1, none⟩ = some (.int .i64 kd) ∧ W.cell? ⟨g0, 2, none⟩ = some (.int .i64 md) ∧ W.cell? ⟨g0, 3, none⟩ = some (.int .i64 u) ∧ W.cell? ⟨g0, 4, none⟩ = some (.int .i64 g) ∧ W.cell? ⟨g0, 5, none⟩ = some (.int .i64 t) ∧ W.cell? ⟨g0, 6, none⟩ = some (.string ln) ∧ W.cell? ⟨g0, 7, none⟩ = some v7 ∧
      W.cell? ⟨q, 0, none⟩ = some (.map (some mb)) ∧ W.cell? ⟨q, 1, none⟩ = some (.string last) ∧ (Builtin.len_ #[65] 3 #[.map (some mb)]).run Tryz.prog W = .ok (.int .i64 (z : Int)) W := by
  obtain ⟨j0, j1, j2, j3, j4, j5, j6, j7⟩ := good_cells (blk_stay hk h)
  obtain ⟨k0, k1, _⟩ := ck_cells (blk_stay hC.1 h)
  exact ⟨h, j0, j1, j2, j3, j4, j5, j6, j7, k0, k1, hz W (hC.2.below h) (h.block mb hC.2.lt)⟩
theorem len_at {w1 : World} {mb n : Nat} {M : ByteArray → Int} (h : MapAt w1 mb n M) : ∃ z : Nat, (∀ W, MapAt W mb n M → W.heap[mb]? = w1.heap[mb]? → (Builtin.len_ #[65] 3 #[.map (some mb)]).run Tryz.prog W = .ok (.int .i64 (z : Int)) W) ∧ (n = 0 ↔ z = 0) := by
  obtain ⟨D, ⟨es, cl, h0, h1⟩, h2, h3, h4⟩ := h
  refine ⟨Maps.size D, fun W _ e => ?_, h4⟩
  have : W.ownsMap Tryz.prog 9 (plainElem Tryz.prog 3) mb n D := ⟨es, cl, e.trans h0, h1⟩
  exact this.len Tryz.underlying65 3
set_option maxHeartbeats 8000000 in
set_option maxRecDepth 100000 in
theorem entry_calls (k n q mb : Nat) (M : ByteArray → Int) (last p ln par : ByteArray) (size kd md u g t : Int) (A7 : Option Addr) (c7 : Nat) (d : List Int) (w : World) (hGl : Gl w) (hC : CkAt w q mb n M last size) (hn : n ≤ 1000000) (hps : p.size ≤ 1000000000000) (hls : ln.size ≤ 1000000000000) (hpar : par.size ≤ 1000000000000) (hd : d.length ≤ 1000000000000)
    (hs0 : 0 ≤ size) (hs1 : size ≤ 1048576) (hkd : (Lit.int .i64 kd).wf = true) (good gf ok : Bool) (cmp : Int) (hG : path_Good.f k p = some good) (hF : tree_goodFields.f k p kd md u g t ln d = some gf) (hCm : path_Compare.f k last p = some cmp) (hP : path_Parent.f k p = some (par, ok)) :
    Calls Tryz.prog 37 #[.pointer (some ⟨q, 0, none⟩), .agg #[.string p, .int .i64 kd, .int .i64 md, .int .i64 u, .int .i64 g, .int .i64 t, .string ln, .slice A7 d.length c7]] w fun e w' =>
      e = .returned (errW (entryR good gf (n != 0) cmp ok (M par) kd (M ln) size (d.length : Int))) ∧ Ex (fun b => b = q ∨ b = mb) w w' ∧ (entryR good gf (n != 0) cmp ok (M par) kd (M ln) size (d.length : Int) = none → CkAt w' q mb (n + 1) (upd M p kd) p (size + (d.length : Int))) := by
  have hu31 := Tryz.underlying28
  obtain ⟨z, hz, hzn⟩ := len_at hC.2
  have HQL := Aside0.mk (show q < w.heap.size from (Array.getElem?_eq_some_iff.1 hC.1).1)
  have HML := Aside0.mk (show mb < w.heap.size from hC.2.lt)
  obtain ⟨g0, hg0⟩ : ∃ g0, g0 = w.heap.size := ⟨_, rfl⟩
  obtain ⟨w1, hw1⟩ : ∃ w1, w1 = w.alloc (.cells #[.string p, .int .i64 kd, .int .i64 md, .int .i64 u, .int .i64 g, .int .i64 t, .string ln, .slice A7 d.length c7] 28) := ⟨_, rfl⟩
  have hb1 : Below w.heap.size w w1 := by rw [hw1]; exact below_alloc (Below.refl _ _) _
  have BK := Aside0.mk (show w1.heap[g0]? = some (.cells #[.string p, .int .i64 kd, .int .i64 md, .int .i64 u, .int .i64 g, .int .i64 t, .string ln, .slice A7 d.length c7] 28 (0, 0)) by rw [hw1, hg0]; exact heap_alloc_new w _)
  have CK := Aside0.mk (hC.below hb1)
  have HGL := Aside0.mk (hGl.of hb1)
  have HWB := Aside0.mk hb1
  have HZ := Aside0.mk (fun W (h1 : MapAt W mb n M) (h2 : W.heap[mb]? = w1.heap[mb]?) => hz W h1 (h2.trans (hb1.block mb hC.2.lt)))
  have HG := Aside0.mk hG
  have HF := Aside0.mk hF
  have HCM := Aside0.mk hCm
  have HP := Aside0.mk hP
  have HW1 := Aside0.mk hw1
  have HG0 := Aside0.mk hg0
  have HZN := Aside0.mk hzn
  clear hGl hC hz hzn hb1 hw1 hg0 hG hF hCm hP
  cases good with
  | false =>
    go_enter Tryz.func37, Tryz.ntmps37
    go_wp2_with (first
      | (go_at_call 30; rw [← HW1.out]; (with_reducible refine (path_Good.calls k p false _ ?s1 HG.out).mono ?_); (case s1 => exact HGL.out); rintro e1 w2 ⟨rfl, hb⟩; have HB2 := Aside0.mk hb; clear hb))
    go_ret
    exact ⟨rfl, Ex.of_below (below_step HWB.out HB2.out), fun h => by simp [entryR] at h⟩
  | true =>
    go_enter Tryz.func37, Tryz.ntmps37
    go_upto_region 3 with (first
      | (go_at_call 30; rw [← HW1.out]; (with_reducible refine (path_Good.calls k p true _ ?s1 HG.out).mono ?_); (case s1 => exact HGL.out); rintro e1 w2 ⟨rfl, hb⟩; have HB2 := Aside0.mk hb; clear hb))
    rw [← HG0.out]
    go_cut [32] (fun v32 wc => v32 = .bool (!gf || ((n != 0) && decide (cmp ≥ 0))) ∧ Aside0 (Below w1.heap.size w1 wc))
    case first =>
      obtain ⟨_, j0, j1, j2, j3, j4, j5, j6, j7, _, _, _⟩ := held BK.out CK.out HZ.out HB2.out
      cases gf with
      | false =>
        refine start_ (n := 21) (S := fun _ => True) (ds := []) #[false, false, false, false, false, false, false, false, false, false, false, false, false, false, false, false, false, false, false, false, false] (by kernel_rfl) rfl rfl trivial (fun _ => ?_)
        refine one_ (i := 0) (N := some 12) #[true, false, false, false, false, false, false, false, false, false, false, false, false, false, false, false, false, false, false, false, false] rfl rfl (by kernel_rfl) (by decide) (fun K hK => ?_)
        go_simp
        refine hK.out _ _ trivial (fun _ => ?_)
        clear hK K
        refine one_ (i := 1) (N := some 13) #[true, true, false, false, false, false, false, false, false, false, false, false, false, false, false, false, false, false, false, false, false] rfl rfl (by kernel_rfl) (by decide) (fun K hK => ?_)
        go_simp
        go_wp2_with (first
          | (go_at_call 54; refine (tree_goodFields.calls k p kd md u g t ln A7 c7 d false _ (by omega) (HGL.out.of (pw_below_drewN HB2.out 1)) HF.out).mono ?_; rintro e1 w3 ⟨rfl, hb3⟩; have HB3 := Aside0.mk (below_step (pw_below_drewN HB2.out 1) hb3); clear hb3))
        refine hK.out _ _ trivial (fun _ => ?_)
        clear hK K
        refine pure_ (i := 2) (N := some 14) (v := .bool true) #[true, true, true, false, false, false, false, false, false, false, false, false, false, false, false, false, false, false, false, false, false] rfl rfl (by kernel_rfl) (fun _ _ _ h => h) (Or.inl ⟨by rfl, fun w => by go_simp⟩) rfl ?_
        simp only [Act.put, List.setIfInBounds_toArray, List.set_cons_zero, List.set_cons_succ]
        refine pure_ (i := 3) (N := some 15) (v := .bool true) #[true, true, true, true, false, false, false, false, false, false, false, false, false, false, false, false, false, false, false, false, false] rfl rfl (by kernel_rfl) (fun _ _ _ h => h) (Or.inl ⟨by rfl, fun w => by go_simp⟩) rfl ?_
        simp only [Act.put, List.setIfInBounds_toArray, List.set_cons_zero, List.set_cons_succ]
        refine pure_ (i := 4) (N := some 16) (v := undef) #[true, true, true, true, true, false, false, false, false, false, false, false, false, false, false, false, false, false, false, false, false] rfl rfl (by kernel_rfl) (fun _ _ _ h => h) (Or.inr ⟨by rfl, rfl⟩) rfl ?_
        simp only [Act.put, List.setIfInBounds_toArray, List.set_cons_zero, List.set_cons_succ]
        refine pure_ (i := 5) (N := some 17) (v := undef) #[true, true, true, true, true, true, false, false, false, false, false, false, false, false, false, false, false, false, false, false, false] rfl rfl (by kernel_rfl) (fun _ _ _ h => h) (Or.inr ⟨by rfl, rfl⟩) rfl ?_
        simp only [Act.put, List.setIfInBounds_toArray, List.set_cons_zero, List.set_cons_succ]
        refine pure_ (i := 6) (N := some 18) (v := undef) #[true, true, true, true, true, true, true, false, false, false, false, false, false, false, false, false, false, false, false, false, false] rfl rfl (by kernel_rfl) (fun _ _ _ h => h) (Or.inr ⟨by rfl, rfl⟩) rfl ?_
        simp only [Act.put, List.setIfInBounds_toArray, List.set_cons_zero, List.set_cons_succ]
        refine pure_ (i := 7) (N := some 19) (v := undef) #[true, true, true, true, true, true, true, true, false, false, false, false, false, false, false, false, false, false, false, false, false] rfl rfl (by kernel_rfl) (fun _ _ _ h => h) (Or.inr ⟨by rfl, rfl⟩) rfl ?_
        simp only [Act.put, List.setIfInBounds_toArray, List.set_cons_zero, List.set_cons_succ]
        refine pure_ (i := 8) (N := some 20) (v := undef) #[true, true, true, true, true, true, true, true, true, false, false, false, false, false, false, false, false, false, false, false, false] rfl rfl (by kernel_rfl) (fun _ _ _ h => h) (Or.inr ⟨by rfl, rfl⟩) rfl ?_
        simp only [Act.put, List.setIfInBounds_toArray, List.set_cons_zero, List.set_cons_succ]
        refine pure_ (i := 9) (N := some 21) (v := undef) #[true, true, true, true, true, true, true, true, true, true, false, false, false, false, false, false, false, false, false, false, false] rfl rfl (by kernel_rfl) (fun _ _ _ h => h) (Or.inr ⟨by rfl, rfl⟩) rfl ?_
        simp only [Act.put, List.setIfInBounds_toArray, List.set_cons_zero, List.set_cons_succ]
        refine pure_ (i := 10) (N := some 22) (v := undef) #[true, true, true, true, true, true, true, true, true, true, true, false, false, false, false, false, false, false, false, false, false] rfl rfl (by kernel_rfl) (fun _ _ _ h => h) (Or.inr ⟨by rfl, rfl⟩) rfl ?_
        simp only [Act.put, List.setIfInBounds_toArray, List.set_cons_zero, List.set_cons_succ]
        refine pure_ (i := 11) (N := some 23) (v := undef) #[true, true, true, true, true, true, true, true, true, true, true, true, false, false, false, false, false, false, false, false, false] rfl rfl (by kernel_rfl) (fun _ _ _ h => h) (Or.inr ⟨by rfl, rfl⟩) rfl ?_
        simp only [Act.put, List.setIfInBounds_toArray, List.set_cons_zero, List.set_cons_succ]
        refine pure_ (i := 12) (N := some 24) (v := undef) #[true, true, true, true, true, true, true, true, true, true, true, true, true, false, false, false, false, false, false, false, false] rfl rfl (by kernel_rfl) (fun _ _ _ h => h) (Or.inr ⟨by rfl, rfl⟩) rfl ?_
        simp only [Act.put, List.setIfInBounds_toArray, List.set_cons_zero, List.set_cons_succ]
        refine pure_ (i := 13) (N := some 25) (v := undef) #[true, true, true, true, true, true, true, true, true, true, true, true, true, true, false, false, false, false, false, false, false] rfl rfl (by kernel_rfl) (fun _ _ _ h => h) (Or.inr ⟨by rfl, rfl⟩) rfl ?_
        simp only [Act.put, List.setIfInBounds_toArray, List.set_cons_zero, List.set_cons_succ]
        refine pure_ (i := 14) (N := some 26) (v := undef) #[true, true, true, true, true, true, true, true, true, true, true, true, true, true, true, false, false, false, false, false, false] rfl rfl (by kernel_rfl) (fun _ _ _ h => h) (Or.inr ⟨by rfl, rfl⟩) rfl ?_
        simp only [Act.put, List.setIfInBounds_toArray, List.set_cons_zero, List.set_cons_succ]
        refine pure_ (i := 15) (N := some 27) (v := undef) #[true, true, true, true, true, true, true, true, true, true, true, true, true, true, true, true, false, false, false, false, false] rfl rfl (by kernel_rfl) (fun _ _ _ h => h) (Or.inr ⟨by rfl, rfl⟩) rfl ?_
        simp only [Act.put, List.setIfInBounds_toArray, List.set_cons_zero, List.set_cons_succ]
        refine pure_ (i := 16) (N := some 28) (v := undef) #[true, true, true, true, true, true, true, true, true, true, true, true, true, true, true, true, true, false, false, false, false] rfl rfl (by kernel_rfl) (fun _ _ _ h => h) (Or.inr ⟨by rfl, rfl⟩) rfl ?_
        simp only [Act.put, List.setIfInBounds_toArray, List.set_cons_zero, List.set_cons_succ]
        refine pure_ (i := 17) (N := some 29) (v := undef) #[true, true, true, true, true, true, true, true, true, true, true, true, true, true, true, true, true, true, false, false, false] rfl rfl (by kernel_rfl) (fun _ _ _ h => h) (Or.inr ⟨by rfl, rfl⟩) rfl ?_
        simp only [Act.put, List.setIfInBounds_toArray, List.set_cons_zero, List.set_cons_succ]
        refine pure_ (i := 18) (N := some 30) (v := undef) #[true, true, true, true, true, true, true, true, true, true, true, true, true, true, true, true, true, true, true, false, false] rfl rfl (by kernel_rfl) (fun _ _ _ h => h) (Or.inr ⟨by rfl, rfl⟩) rfl ?_
        simp only [Act.put, List.setIfInBounds_toArray, List.set_cons_zero, List.set_cons_succ]
        refine pure_ (i := 19) (N := some 31) (v := undef) #[true, true, true, true, true, true, true, true, true, true, true, true, true, true, true, true, true, true, true, true, false] rfl rfl (by kernel_rfl) (fun _ _ _ h => h) (Or.inr ⟨by rfl, rfl⟩) rfl ?_
        simp only [Act.put, List.setIfInBounds_toArray, List.set_cons_zero, List.set_cons_succ]
        refine pure_ (i := 20) (N := some 32) (v := .bool true) #[true, true, true, true, true, true, true, true, true, true, true, true, true, true, true, true, true, true, true, true, true] rfl rfl (by kernel_rfl) (fun _ _ _ h => h) (Or.inl ⟨by rfl, fun w => by go_simp⟩) rfl ?_
        simp only [Act.put, List.setIfInBounds_toArray, List.set_cons_zero, List.set_cons_succ]
        refine done_ (by kernel_rfl) ?_
        all_goals (
          go_wp2
          go_meet
          case rel => exact ⟨rfl, HB3⟩)
      | true =>
        by_cases c0 : n = 0
        · have z0 : z = 0 := HZN.out.1 c0
          have hne : (n != 0) = false := by rw [c0]; rfl
          have HNE := Aside0.mk hne
          subst z0
          clear c0 hne
          first | go_region_with (first
            | (go_at_call 54; refine (tree_goodFields.calls k p kd md u g t ln A7 c7 d true _ (by omega) (HGL.out.of (pw_below_drewN HB2.out 1)) HF.out).mono ?_; rintro e1 w3 ⟨rfl, hb3⟩; have HB3 := Aside0.mk (below_step (pw_below_drewN HB2.out 1) hb3); clear hb3; obtain ⟨_, _, _, _, _, _, _, _, _, i0, i1, i2⟩ := held BK.out CK.out HZ.out HB3.out)) | fail
          all_goals (
            go_wp2
            go_meet
            case rel => exact ⟨by rw [HNE.out]; rfl, HB3⟩)
        · have z0 : ¬ z = 0 := fun e => c0 (HZN.out.2 e)
          have z1 : 1 ≤ z := by omega
          have hne : (n != 0) = true := bne_iff_ne.mpr c0
          have HNE := Aside0.mk hne
          have z2 := decide_eq_true (show (z : Int) > 0 by omega)
          clear c0 hne z0
          first | go_region_with (first
            | (go_at_call 54; refine (tree_goodFields.calls k p kd md u g t ln A7 c7 d true _ (by omega) (HGL.out.of (pw_below_drewN HB2.out 1)) HF.out).mono ?_; rintro e1 w3 ⟨rfl, hb3⟩; have HB3 := Aside0.mk (below_step (pw_below_drewN HB2.out 1) hb3); clear hb3; obtain ⟨_, i3, _, _, _, _, _, _, _, i0, i1, i2⟩ := held BK.out CK.out HZ.out HB3.out)
            | (go_at_call 46; refine (path_Compare.calls k last p cmp _ (HGL.out.of HB3.out) HCM.out).mono ?_; rintro e1 w4 ⟨rfl, hd4⟩; have HB4 := Aside0.mk (below_step HB3.out hd4.below); clear hd4)) | fail
          all_goals (
            go_wp2
            go_meet
            case rel => exact ⟨by rw [HNE.out]; first | rfl | (simp; done), HB4⟩)
    case rest =>
      obtain ⟨rfl, HBC⟩ := hcut
      by_cases c1 : (!gf || ((n != 0) && decide (cmp ≥ 0))) = true
      · rw [c1]
        go_wp2
        go_ret
        exact ⟨by simp [entryR, c1] <;> rfl, Ex.of_below (below_step HWB.out HBC.out), fun h => by simp [entryR, c1] at h⟩
      · have C1 := Aside0.mk c1
        have c1' : (!gf || ((n != 0) && decide (cmp ≥ 0))) = false := Bool.eq_false_iff.mpr c1
        rw [c1']
        clear c1 c1'
        have J := Aside0.mk (held BK.out CK.out HZ.out HBC.out)
        obtain ⟨_, j0, j1, j2, j3, j4, j5, j6, j7, k0, k1, k2⟩ := J.out
        go_upto_region 6 with (first
          | (go_at_call 29; (with_reducible refine (path_Parent.calls k p par ok _ (HGL.out.of HBC.out) HP.out).mono ?_); rintro e1 w5 ⟨rfl, hb⟩; have HB5 := Aside0.mk (below_step HBC.out hb); clear hb))
        clear j0 j1 j2 j3 j4 j5 j6 j7 k0 k1 k2
        obtain ⟨_, j0, j1, j2, j3, j4, j5, j6, j7, k0, k1, k2⟩ := held BK.out CK.out HZ.out HB5.out
        have lk := (CK.out.below HB5.out).2.look par hpar
        go_cut [49] (fun v49 wd => v49 = .bool (ok && (M par != 1)) ∧ wd = w5)
        case first =>
          cases ok with
          | false =>
            go_wp2
            go_meet
            case rel => exact ⟨rfl, rfl⟩
          | true =>
            go_wp2
            go_meet
            case rel => exact ⟨rfl, rfl⟩
        case rest =>
          obtain ⟨rfl, rfl⟩ := hcut
          by_cases c2 : (ok && (M par != 1)) = true
          · rw [c2]
            go_wp2
            go_ret
            exact ⟨by simp only [entryR, C1.out]; simp [c2] <;> rfl, Ex.of_below (below_step HWB.out HB5.out), fun h => by simp only [entryR, C1.out] at h; simp [c2] at h⟩
          · have C2 := Aside0.mk c2
            have c2' : (ok && (M par != 1)) = false := Bool.eq_false_iff.mpr c2
            rw [c2']
            clear c2 c2'
            clear j0 j1 j2 j3 j4 j5 j6 j7 k0 k1 k2 lk
            go_upto_region 8 with (fail)
            obtain ⟨_, j0, j1, j2, j3, j4, j5, j6, j7, k0, k1, _⟩ := held BK.out CK.out HZ.out HB5.out
            have lk := fun nq => (CK.out.below (pw_below_drewN HB5.out nq)).2.look ln hls
            go_cut [63] (fun v63 wd => v63 = .bool ((kd == 4) && (M ln != 2)) ∧ Aside0 (Below w1.heap.size w1 wd))
            case first =>
              by_cases c3 : kd = 4
              · go_quiet (fail)
                go_wp2
                go_meet
                case rel => exact ⟨by rw [c3]; rfl, Aside0.mk (pw_below_drewN HB5.out _)⟩
              · go_quiet (fail)
                go_wp2
                go_meet
                case rel => exact ⟨by rw [show (kd == 4) = false from beq_eq_false_iff_ne.mpr c3]; rfl, Aside0.mk (pw_below_drewN HB5.out _)⟩
            case rest =>
              clear j0 j1 j2 j3 j4 j5 j6 j7 k0 k1 lk
              obtain ⟨rfl, HB8⟩ := hcut
              by_cases c3 : ((kd == 4) && (M ln != 2)) = true
              · rw [c3]
                go_wp2
                go_ret
                exact ⟨by simp only [entryR, C1.out, C2.out]; simp [c3] <;> rfl, Ex.of_below (below_step HWB.out HB8.out), fun h => by simp only [entryR, C1.out, C2.out] at h; simp [c3] at h⟩
              · have C3 := Aside0.mk c3
                have c3' : ((kd == 4) && (M ln != 2)) = false := Bool.eq_false_iff.mpr c3
                rw [c3']
                clear c3 c3'
                go_upto_region 10 with (fail)
                obtain ⟨_, j0, j1, j2, j3, j4, j5, j6, j7, _, _, _⟩ := held BK.out CK.out HZ.out HB8.out
                obtain ⟨k0, k1, k2⟩ := ck_cells (CK.out.below HB8.out).1
                have kf2 : ∀ j, wc.frozen? ⟨q, j, none⟩ = false := blk_frozen (CK.out.below HB8.out).1
                have hqm : q ≠ mb := by
                  intro e
                  obtain ⟨es, cl, he⟩ := CK.out.2.blk
                  rw [← e, CK.out.1] at he
                  cases he
                go_still_tail 10, (by kernel_rfl)
                change wpList _ _ _ _ _ wc.drew
                go_upto_region 11 with (fail)
                have hHB := Aside0.mk (below_drew1 HB8.out)
                have B0 := Aside0.mk (show (wc.drew.setCell ⟨q, 2, none⟩ (.int .i64 (size + (d.length : Int)))).heap[q]? = some (.cells #[.map (some mb), .string last, .int .i64 (size + (d.length : Int))] 67 (0, 0)) from heapSet (blk_drew (CK.out.below HB8.out).1) 2 _)
                have B1 := Aside0.mk (show MapAt (wc.drew.setCell ⟨q, 2, none⟩ (.int .i64 (size + (d.length : Int)))) mb n M from (CK.out.below hHB.out).2.move (Below.heap_setCell _ _ _ _ (fun e => hqm e.symm)))
                have B2 := Aside0.mk (show (wc.drew.setCell ⟨q, 2, none⟩ (.int .i64 (size + (d.length : Int)))).heap[g0]? = _ from (Below.heap_setCell _ _ _ _ (fun e => by
                  have h1 := HQL.out
                  have h2 := HG0.out
                  have h3 : g0 = q := e
                  omega)).trans (blk_stay BK.out hHB.out))
                have BX := Aside0.mk ((Ex.of_below (X := fun b => b = q ∨ b = mb) (below_step HWB.out hHB.out)).set ⟨q, 2, none⟩ (.int .i64 (size + (d.length : Int))) (Or.inl rfl))
                generalize hWn : wc.drew.setCell ⟨q, 2, none⟩ (.int .i64 (size + (d.length : Int))) = wn at B0 B1 B2 BX
                try rw [show (wc.setCell ⟨q, 2, none⟩ (.int .i64 (size + (d.length : Int)))).drew = wn from hWn]
                clear hWn j0 j1 j2 j3 j4 j5 j6 j7 k0 k1 k2 kf2
                obtain ⟨j0, j1, j2, j3, j4, j5, j6, j7⟩ := good_cells B2.out
                obtain ⟨k0, k1, k2⟩ := ck_cells B0.out
                by_cases c4 : size + (d.length : Int) > 1048576
                · have c4' := decide_eq_true c4
                  go_wp2
                  go_ret
                  exact ⟨by simp only [entryR, C1.out, C2.out, C3.out]; rw [if_pos c4]; rfl, BX.out, fun h => by simp only [entryR, C1.out, C2.out, C3.out] at h; rw [if_pos c4] at h; cases h⟩
                · have C4 := Aside0.mk c4
                  go_upto_region 13 with (fail)
                  go_still_tail 8, (by kernel_rfl)
                  change wpList _ _ _ _ _ wn.drew
                  refine ev_put wn.drew rfl (.tmp 84) (.tmp 86) (.tmp 88) rfl mb n M rfl (B1.out.move rfl) (by omega) p hps kd hkd rfl rfl (fun w' r1 r2 => ?_)
                  have B3 := Aside0.mk (show w'.heap[q]? = _ from (r2.block q (Array.getElem?_eq_some_iff.1 B0.out).1 (fun e => hqm (by injection e))).trans B0.out)
                  have B4 := Aside0.mk (show w'.heap[g0]? = _ from (r2.block g0 (Array.getElem?_eq_some_iff.1 B2.out).1 (fun e => by
                    have h1 := HML.out
                    have h2 := HG0.out
                    have h3 : mb = g0 := by first | exact Option.some.inj e | exact (Option.some.inj e).symm
                    omega)).trans B2.out)
                  clear j0 j1 j2 j3 j4 j5 j6 j7 k0 k1 k2
                  obtain ⟨j0, j1, j2, j3, j4, j5, j6, j7⟩ := good_cells B4.out
                  obtain ⟨k0, k1, k2⟩ := ck_cells B3.out
                  have kf3 : ∀ j, w'.frozen? ⟨q, j, none⟩ = false := blk_frozen B3.out
                  have R1 := Aside0.mk r1
                  have R2 := Aside0.mk r2
                  clear r1 r2
                  go_wp2
                  go_ret
                  have X1 : Ex (fun b => b = q ∨ b = mb) w wn.drew := BX.out.trans (Ex.of_below (below_drew1 (Below.refl _ _)))
                  exact ⟨by simp only [entryR, C1.out, C2.out, C3.out]; rw [if_neg (Int.not_lt.mpr C4.out)]; rfl, (X1.grown R2.out (fun k e => Or.inl (Or.inr (by first | exact Option.some.inj e | exact (Option.some.inj e).symm)))).set _ _ (Or.inl rfl), fun _ => ⟨heapSet B3.out 1 _, R1.out.move (Below.heap_setCell _ _ _ _ (fun e => hqm e.symm))⟩⟩
end Go.Proofs.YtfkbmjfhakooiaaGreatDoor.TR

/- tree.Check, walked. Conditions: as each theorem says. -/
namespace Go.Proofs.YtfkbmjfhakooiaaGreatDoor.TR
open Go.RowKit Go.Proofs.YtfkbmjfhakooiaaGreatDoor.PTree Go.Proofs.YtfkbmjfhakooiaaGreatDoorW.PrintWords Go.Proofs.YtfkbmjfhakooiaaGreatDoorW.PrintLast Go.Proofs.YtfkbmjfhakooiaaGreatDoorW.PrintMore
set_option linter.unusedVariables false
set_option linter.unusedSimpArgs false
theorem wr_in (n : Int) (h : -9223372036854775808 ≤ n ∧ n ≤ 9223372036854775807) : wrap64 n = n := by unfold wrap64; omega
/-- Sizes within which an entry is walked. -/
def fits (e : S28) : Bool := decide (e.f0.size ≤ 1000000000000) && decide (e.f6.size ≤ 1000000000000) && decide (e.f7.length ≤ 1000000000000) && (Lit.int .i64 e.f1).wf
def tree_Check.l0 (K : Nat) (l : List S28) : Nat → Int → (ByteArray → Int) → ByteArray → Int → Option (Int × Option Int)
  | 0, _, _, _, _ => none
  | k + 1, i, M, last, size => if i < (l.length : Int) then
      (path_Good.f K (rd_T28 l i).f0).bind fun good => (tree_goodFields.f K (rd_T28 l i).f0 (rd_T28 l i).f1 (rd_T28 l i).f2 (rd_T28 l i).f3 (rd_T28 l i).f4 (rd_T28 l i).f5 (rd_T28 l i).f6 (rd_T28 l i).f7).bind fun gf => (path_Compare.f K last (rd_T28 l i).f0).bind fun cmp => (path_Parent.f K (rd_T28 l i).f0).bind fun pr =>
        if fits (rd_T28 l i) = true ∧ pr.1.size ≤ 1000000000000 ∧ 0 ≤ size ∧ size ≤ 1048576 then
          match entryR good gf (i.toNat != 0) cmp pr.2 (M pr.1) (rd_T28 l i).f1 (M (rd_T28 l i).f6) size ((rd_T28 l i).f7.length : Int) with
          | some c => some (i, some c)
          | none => tree_Check.l0 K l k (i + 1) (upd M (rd_T28 l i).f0 (rd_T28 l i).f1) (rd_T28 l i).f0 (size + ((rd_T28 l i).f7.length : Int))
        else none
    else some (-1, none)
def tree_Check.f (K : Nat) (l : List S28) : Option (Int × Option Int) := if (l.length : Int) > 200 then some ((l.length : Int), some 19) else tree_Check.l0 K l (l.length + 1) 0 (fun _ => 0) ⟨#[]⟩ 0
set_option maxHeartbeats 8000000 in
set_option maxRecDepth 100000 in
theorem tree_Check.calls (K : Nat) (A0 : Option Addr) (c0 : Nat) (l0 : List S28) (r : Int × Option Int) (w : World) (hr0 : Kd.C k28 w A0 l0.length l0) (hGl : Gl w) (h : tree_Check.f K l0 = some r) :
    Calls Tryz.prog 19 #[.slice A0 l0.length c0] w fun e w' => e = .returned (.tuple #[.int .i64 r.1, errW r.2]) ∧ Below w.heap.size w w' := by
  have hu31 := Tryz.underlying28
  have hu26 := Tryz.underlying44
  have hu56 := Tryz.underlying63
  have HR0 := Aside0.mk hr0
  have HGL := Aside0.mk hGl
  clear hr0 hGl
  unfold tree_Check.f at h
  by_cases c1 : (l0.length : Int) > 200
  · rw [if_pos c1] at h
    obtain rfl := Option.some.inj h
    clear h
    go_enter Tryz.func19, Tryz.ntmps19
    go_wp2
    go_ret2
    exact ⟨rfl, Below.refl _ _⟩
  · rw [if_neg c1] at h
    have H' := Aside0.mk h
    have C1 := Aside0.mk c1
    clear h
    go_enter Tryz.func19, Tryz.ntmps19
    have hmm := @run_makeMap Tryz.prog
    go_upto_region 4 with (fail)
    clear hmm
    obtain ⟨mb, hmb⟩ : ∃ mb, mb = w.heap.size := ⟨_, rfl⟩
    obtain ⟨w1, hw1⟩ : ∃ w1, w1 = w.alloc (.map #[] 0) := ⟨_, rfl⟩
    obtain ⟨q, hq⟩ : ∃ q, q = w.heap.size + 1 := ⟨_, rfl⟩
    have hq1 : q = w1.heap.size := by rw [hq, hw1]; exact (Array.size_push _).symm
    obtain ⟨w2, hw2⟩ : ∃ w2, w2 = w1.alloc (.cells #[.map (some mb), .string ⟨#[]⟩, .int .i64 0] 67) := ⟨_, rfl⟩
    have HB := Aside0.mk (show Below w.heap.size w w2 by rw [hw2, hw1]; exact below_alloc (below_alloc (Below.refl _ _) _) _)
    have hM1 : MapAt w1 mb 0 (fun _ => 0) := by rw [hmb, hw1]; exact MapAt.made w
    have hM2 : MapAt w2 mb 0 (fun _ => 0) := hM1.below (by rw [hw2]; exact below_alloc (Below.refl _ _) _)
    have HC := Aside0.mk (show CkAt w2 q mb 0 (fun _ => 0) ⟨#[]⟩ 0 from ⟨by rw [hw2, hq1]; exact heap_alloc_new w1 _, hM2⟩)
    have HQ := Aside0.mk (show w.heap.size ≤ q by omega)
    have HM := Aside0.mk (show w.heap.size ≤ mb by omega)
    rw [← hq, ← hmb, ← hw1, ← hw2]
    clear hM1 hM2 hw2 hq1 hw1 hq hmb
    go_wp2
    go_loopg [19] (l0.length + 1) (fun kq v19 w' => ∃ (i : Int) (M : ByteArray → Int) (last : ByteArray) (size : Int), v19 = .int .i64 i ∧ Aside0 (tree_Check.l0 K l0 kq i M last size = some r) ∧ Aside0 (0 ≤ i) ∧ Aside0 (CkAt w' q mb i.toNat M last size) ∧ Aside0 (Below w.heap.size w w'))
    case atStart => exact ⟨0, _, _, _, rfl, H', ⟨by omega⟩, HC, HB⟩
    case round =>
      clear H' HC HB
      obtain ⟨i, M, last, size, rfl, HA, HI, HC, HB⟩ := hrel
      cases gk with
      | zero => exact absurd HA.out (by simp [tree_Check.l0])
      | succ k1 =>
        have H := HA.out
        clear HA
        simp only [tree_Check.l0] at H
        by_cases c2 : i < (l0.length : Int)
        · rw [if_pos c2] at H
          obtain ⟨good, HG, H⟩ := Option.bind_eq_some_iff.mp H
          obtain ⟨gf, HF, H⟩ := Option.bind_eq_some_iff.mp H
          obtain ⟨cmp, HCM, H⟩ := Option.bind_eq_some_iff.mp H
          obtain ⟨⟨par, ok⟩, HP, H⟩ := Option.bind_eq_some_iff.mp H
          replace HG := Aside0.mk HG
          replace HF := Aside0.mk HF
          replace HCM := Aside0.mk HCM
          replace HP := Aside0.mk HP
          by_cases c3 : fits (rd_T28 l0 i) = true ∧ par.size ≤ 1000000000000 ∧ 0 ≤ size ∧ size ≤ 1048576
          · rw [if_pos c3] at H
            obtain ⟨h1, h2, h3, h4⟩ := c3
            simp only [fits, Bool.and_eq_true, decide_eq_true_eq] at h1
            have HFI := Aside0.mk h1
            have HPS := Aside0.mk h2
            have HS := Aside0.mk (And.intro h3 h4)
            have C2 := Aside0.mk c2
            clear h1 h2 h3 h4
            obtain ⟨ad, A7, c7, eA, x0, x1, x2, x3, x4, x5, x6, x7, _, _⟩ := at_T28 HR0.out i HI.out c2
            cases eA
            replace x0 := (HB.out.cell (World.block_lt_of_cell? w _ x0)).trans x0
            replace x1 := (HB.out.cell (World.block_lt_of_cell? w _ x1)).trans x1
            replace x2 := (HB.out.cell (World.block_lt_of_cell? w _ x2)).trans x2
            replace x3 := (HB.out.cell (World.block_lt_of_cell? w _ x3)).trans x3
            replace x4 := (HB.out.cell (World.block_lt_of_cell? w _ x4)).trans x4
            replace x5 := (HB.out.cell (World.block_lt_of_cell? w _ x5)).trans x5
            replace x6 := (HB.out.cell (World.block_lt_of_cell? w _ x6)).trans x6
            replace x7 := (HB.out.cell (World.block_lt_of_cell? w _ x7)).trans x7
            have hi0 := HI.out
            have p210 := eq_true hi0
            have q210 := eq_true c2
            clear hi0
            cases hR : entryR good gf (i.toNat != 0) cmp ok (M par) (rd_T28 l0 i).f1 (M (rd_T28 l0 i).f6) size ((rd_T28 l0 i).f7.length : Int) with
            | some c =>
              rw [hR] at H
              obtain rfl := Option.some.inj H
              replace hR := Aside0.mk hR
              clear H
              go_wp2_with (first
                | ((with_reducible refine gate_dst (N := 6) rfl ?_); refine box_event ?hg (N := 6) ?hd (cs := #[.string (⟨#[]⟩ : ByteArray), .int .i64 0, .int .i64 0, .int .i64 0, .int .i64 0, .int .i64 0, .string (⟨#[]⟩ : ByteArray), .slice none 0 0]) (t := 28) ?hr ?_; (case hd => rfl); (case hg => rfl); (case hr => first | (go_simp; done) | (go_simp; rfl)); intro gb hg w7 hbox hb; have HB7 := Aside0.mk (show Below w.heap.size w w7 from below_step HB.out hb); have HC7 := Aside0.mk (HC.out.below hb); have BK7 := Aside0.mk hbox; have GE7 := Aside0.mk (show w.heap.size ≤ gb by rw [hg]; exact below_size HB.out); have NQ7 := Aside0.mk (show gb ≠ q ∧ gb ≠ mb from ⟨by have := (Array.getElem?_eq_some_iff.1 HC.out.1).1; omega, by have := HC.out.2.lt; omega⟩); clear hb hbox hg HB HC)
                | ((with_reducible refine gate_store (t := 28) (p := 6) (v := .tmp 23) rfl ?_); refine ev_set31 _ rfl (.tmp 6) (.tmp 23) rfl rfl gb _ _ _ _ _ _ _ _ (rd_T28 l0 i).f0 (rd_T28 l0 i).f6 (rd_T28 l0 i).f1 (rd_T28 l0 i).f2 (rd_T28 l0 i).f3 (rd_T28 l0 i).f4 (rd_T28 l0 i).f5 A7 (rd_T28 l0 i).f7.length c7 rfl rfl BK7.out (fun w8 b1 b2 => ?_); have HB8 := Aside0.mk (show Below w.heap.size w w8 from HB7.out.trans ⟨b2.os, b2.tape, b2.output, b2.size, fun k hk => b2.block k (Nat.lt_of_lt_of_le hk (below_size HB7.out)) (fun e => by injection e with e; have := GE7.out; omega)⟩); have HC8 := Aside0.mk (show CkAt w8 q mb i.toNat M last size from ⟨(b2.block q (Array.getElem?_eq_some_iff.1 HC7.out.1).1 (fun e => NQ7.out.1 (by injection e with e; exact e.symm))).trans HC7.out.1, HC7.out.2.move (b2.block mb HC7.out.2.lt (fun e => NQ7.out.2 (by injection e with e; exact e.symm)))⟩); have y0 : w8.cell? ⟨gb, 0, none⟩ = some (.string (rd_T28 l0 i).f0) := blk_cell b1 0; have y1 : w8.cell? ⟨gb, 1, none⟩ = some (.int .i64 (rd_T28 l0 i).f1) := blk_cell b1 1; have y2 : w8.cell? ⟨gb, 2, none⟩ = some (.int .i64 (rd_T28 l0 i).f2) := blk_cell b1 2; have y3 : w8.cell? ⟨gb, 3, none⟩ = some (.int .i64 (rd_T28 l0 i).f3) := blk_cell b1 3; have y4 : w8.cell? ⟨gb, 4, none⟩ = some (.int .i64 (rd_T28 l0 i).f4) := blk_cell b1 4; have y5 : w8.cell? ⟨gb, 5, none⟩ = some (.int .i64 (rd_T28 l0 i).f5) := blk_cell b1 5; have y6 : w8.cell? ⟨gb, 6, none⟩ = some (.string (rd_T28 l0 i).f6) := blk_cell b1 6; have y7 : w8.cell? ⟨gb, 7, none⟩ = some (.slice A7 (rd_T28 l0 i).f7.length c7) := blk_cell b1 7; clear b1 b2 HB7 HC7 BK7 GE7 NQ7)
                | (go_at_call 37; refine (entry_calls K i.toNat q mb M last (rd_T28 l0 i).f0 (rd_T28 l0 i).f6 par size (rd_T28 l0 i).f1 (rd_T28 l0 i).f2 (rd_T28 l0 i).f3 (rd_T28 l0 i).f4 (rd_T28 l0 i).f5 A7 c7 (rd_T28 l0 i).f7 _ (HGL.out.of HB8.out) HC8.out (by have h1 := C1.out; have h2 := C2.out; omega) HFI.out.1.1.1 HFI.out.1.1.2 HPS.out HFI.out.1.2 HS.out.1 HS.out.2 HFI.out.2 good gf ok cmp HG.out HF.out HCM.out HP.out).mono ?_; rintro e w9 ⟨he, hE, hC⟩; rw [hR.out] at he hC; rw [errW_some] at he; subst he; have HB := Aside0.mk (show Below w.heap.size w w9 from HB8.out.trans (hE.below (below_size HB8.out) (fun k hk => hk.elim (fun e => e ▸ HQ.out) (fun e => e ▸ HM.out)))); clear hE hC))
              go_ret2
              exact ⟨rfl, HB.out⟩
            | none =>
              rw [hR] at H
              replace H := Aside0.mk H
              replace hR := Aside0.mk hR
              go_wp2_with (first
                | ((with_reducible refine gate_dst (N := 6) rfl ?_); refine box_event ?hg (N := 6) ?hd (cs := #[.string (⟨#[]⟩ : ByteArray), .int .i64 0, .int .i64 0, .int .i64 0, .int .i64 0, .int .i64 0, .string (⟨#[]⟩ : ByteArray), .slice none 0 0]) (t := 28) ?hr ?_; (case hd => rfl); (case hg => rfl); (case hr => first | (go_simp; done) | (go_simp; rfl)); intro gb hg w7 hbox hb; have HB7 := Aside0.mk (show Below w.heap.size w w7 from below_step HB.out hb); have HC7 := Aside0.mk (HC.out.below hb); have BK7 := Aside0.mk hbox; have GE7 := Aside0.mk (show w.heap.size ≤ gb by rw [hg]; exact below_size HB.out); have NQ7 := Aside0.mk (show gb ≠ q ∧ gb ≠ mb from ⟨by have := (Array.getElem?_eq_some_iff.1 HC.out.1).1; omega, by have := HC.out.2.lt; omega⟩); clear hb hbox hg HB HC)
                | ((with_reducible refine gate_store (t := 28) (p := 6) (v := .tmp 23) rfl ?_); refine ev_set31 _ rfl (.tmp 6) (.tmp 23) rfl rfl gb _ _ _ _ _ _ _ _ (rd_T28 l0 i).f0 (rd_T28 l0 i).f6 (rd_T28 l0 i).f1 (rd_T28 l0 i).f2 (rd_T28 l0 i).f3 (rd_T28 l0 i).f4 (rd_T28 l0 i).f5 A7 (rd_T28 l0 i).f7.length c7 rfl rfl BK7.out (fun w8 b1 b2 => ?_); have HB8 := Aside0.mk (show Below w.heap.size w w8 from HB7.out.trans ⟨b2.os, b2.tape, b2.output, b2.size, fun k hk => b2.block k (Nat.lt_of_lt_of_le hk (below_size HB7.out)) (fun e => by injection e with e; have := GE7.out; omega)⟩); have HC8 := Aside0.mk (show CkAt w8 q mb i.toNat M last size from ⟨(b2.block q (Array.getElem?_eq_some_iff.1 HC7.out.1).1 (fun e => NQ7.out.1 (by injection e with e; exact e.symm))).trans HC7.out.1, HC7.out.2.move (b2.block mb HC7.out.2.lt (fun e => NQ7.out.2 (by injection e with e; exact e.symm)))⟩); have y0 : w8.cell? ⟨gb, 0, none⟩ = some (.string (rd_T28 l0 i).f0) := blk_cell b1 0; have y1 : w8.cell? ⟨gb, 1, none⟩ = some (.int .i64 (rd_T28 l0 i).f1) := blk_cell b1 1; have y2 : w8.cell? ⟨gb, 2, none⟩ = some (.int .i64 (rd_T28 l0 i).f2) := blk_cell b1 2; have y3 : w8.cell? ⟨gb, 3, none⟩ = some (.int .i64 (rd_T28 l0 i).f3) := blk_cell b1 3; have y4 : w8.cell? ⟨gb, 4, none⟩ = some (.int .i64 (rd_T28 l0 i).f4) := blk_cell b1 4; have y5 : w8.cell? ⟨gb, 5, none⟩ = some (.int .i64 (rd_T28 l0 i).f5) := blk_cell b1 5; have y6 : w8.cell? ⟨gb, 6, none⟩ = some (.string (rd_T28 l0 i).f6) := blk_cell b1 6; have y7 : w8.cell? ⟨gb, 7, none⟩ = some (.slice A7 (rd_T28 l0 i).f7.length c7) := blk_cell b1 7; clear b1 b2 HB7 HC7 BK7 GE7 NQ7)
                | (go_at_call 37; refine (entry_calls K i.toNat q mb M last (rd_T28 l0 i).f0 (rd_T28 l0 i).f6 par size (rd_T28 l0 i).f1 (rd_T28 l0 i).f2 (rd_T28 l0 i).f3 (rd_T28 l0 i).f4 (rd_T28 l0 i).f5 A7 c7 (rd_T28 l0 i).f7 _ (HGL.out.of HB8.out) HC8.out (by have h1 := C1.out; have h2 := C2.out; omega) HFI.out.1.1.1 HFI.out.1.1.2 HPS.out HFI.out.1.2 HS.out.1 HS.out.2 HFI.out.2 good gf ok cmp HG.out HF.out HCM.out HP.out).mono ?_; rintro e w9 ⟨he, hE, hC⟩; rw [hR.out] at he hC; rw [errW_none] at he; subst he; have HB := Aside0.mk (show Below w.heap.size w w9 from HB8.out.trans (hE.below (below_size HB8.out) (fun k hk => hk.elim (fun e => e ▸ HQ.out) (fun e => e ▸ HM.out)))); have HC := Aside0.mk (hC rfl); clear hE hC))
              go_roundg k1
              case measure => omega
              case rel => exact ⟨i + 1, _, _, _, by rw [wr_in _ (by have h1 := HI.out; have h2 := C1.out; have h3 := C2.out; omega)], H, ⟨by have := HI.out; omega⟩, ⟨by rw [show (i + 1).toNat = i.toNat + 1 by have := HI.out; omega]; exact HC.out⟩, HB⟩
          · rw [if_neg c3] at H
            cases H
        · rw [if_neg c2] at H
          obtain rfl := Option.some.inj H
          go_wp2
          go_ret2
          exact ⟨rfl, HB.out⟩
end Go.Proofs.YtfkbmjfhakooiaaGreatDoor.TR
