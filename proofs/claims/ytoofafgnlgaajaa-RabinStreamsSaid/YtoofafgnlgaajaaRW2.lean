/- rabin's shifted, newTaker, newRoller, New, walked. Conditions: as each theorem says. -/
import Derived.Test.YtoofafgnlgaajaaPRabinx2
import Derived.Test.YtoofafgnlgaajaaPRabinx3
import Derived.Test.YtoofafgnlgaajaaRW0
import Derived.Test.YtoofafgnlgaajaaRW1
import Derived.Laws.Rows
import Derived.Laws.Tables
namespace Go.Proofs.Ytoofafgnlgaajaa.RW
open Go.RowKit Go.Proofs.Ytoofafgnlgaajaa.PRabin Go.Proofs.YtoofafgnlgaajaaW.PrintWords Go.Proofs.YtoofafgnlgaajaaW.PrintLast Go.Proofs.YtoofafgnlgaajaaW.PrintMore
set_option linter.unusedVariables false
set_option linter.unusedSimpArgs false
def tabV (T : Nat → Nat) : Array Value := ((List.range 256).map fun i => Value.int .u64 (T i : Int)).toArray
theorem tabV_size (T : Nat → Nat) : (tabV T).size = 256 := by unfold tabV; simp
theorem tabV_get (T : Nat → Nat) (i : Nat) (hi : i < 256) : (tabV T)[i]? = some (.int .u64 (T i : Int)) := by unfold tabV; simp [hi]
theorem tabV_set (T : Nat → Nat) (i : Nat) (hi : i < 256) : (tabV fun j => if j < i then T j else 0).setIfInBounds i (.int .u64 (T i : Int)) = tabV fun j => if j < i + 1 then T j else 0 := by
  apply Array.ext_getElem?
  intro j
  by_cases hj : j = i
  · subst hj
    rw [Array.getElem?_setIfInBounds_self_of_lt (by rw [tabV_size]; exact hi), tabV_get _ _ hi, if_pos (by omega)]
  · rw [Array.getElem?_setIfInBounds_ne (by omega)]
    by_cases h2 : j < 256
    · rw [tabV_get _ _ h2, tabV_get _ _ h2]
      have e : (if j < i then T j else 0) = (if j < i + 1 then T j else 0) := by
        by_cases h3 : j < i
        · rw [if_pos h3, if_pos (by omega)]
        · rw [if_neg h3, if_neg (by omega)]
      simp only [e]
    · rw [Array.getElem?_eq_none (by rw [tabV_size]; omega), Array.getElem?_eq_none (by rw [tabV_size]; omega)]
theorem info78 : (Try.prog.info? 78).map (fun i => (i.zero, i.size)) = some (some (.agg (tabV fun _ => 0)), 256) := by kernel_rfl
theorem zero78 (W : World) : (zeroValue 78).run Try.prog W = .ok (.agg (tabV fun _ => 0)) W := by
  obtain ⟨i, hi, h⟩ := Option.map_eq_some_iff.1 info78
  simp only [Prod.mk.injEq] at h
  simp [zeroValue, typeInfo, hi, h.1]
theorem size78 : (Try.prog.info? 78).map (·.size) = some 256 := by kernel_rfl
theorem tabV_one (T : Nat → Nat) : (tabV T).all (·.oneCell') = true := by
  rw [Array.all_eq_true_iff_forall_mem]
  intro v hv
  unfold tabV at hv
  simp at hv
  obtain ⟨i, _, rfl⟩ := hv
  rfl
theorem below_setRow {b : Nat} {w W : World} (h : Below b w W) (hb : b ≤ W.heap.size) (g : Nat) (cs : Array Value) (hg : b ≤ g) : Below b w (W.setRow g cs) :=
  by
  have hg2 : W.grownBy (W.setRow g cs) (some g) := ⟨rfl, rfl, rfl, by simp, fun k _ hk => setRow_other W g k _ (fun e => hk (by rw [e]))⟩
  exact pw_below_grown h (some g) hb hg2 (fun k hk => by injection hk with hk; omega)
set_option maxHeartbeats 8000000 in
set_option maxRecDepth 100000 in
theorem shifted_calls (k : Nat) (p n pw : Int) (e0 : Option Int) (T : Nat → Nat) (w : World) (hP : poly_Power.f k n p = some (pw, e0)) (hT : ∀ b : Nat, b < 256 → ∃ e, poly_MulMod.f k p [(b : Int), pw] = some ((T b : Int), e)) :
    Calls Try.prog 49 #[.int .u64 p, .int .i64 n] w fun e w' => e = .returned (.agg (tabV T)) ∧ Below w.heap.size w w' := by
  have HP := Aside0.mk hP
  have HT := Aside0.mk hT
  have hz := zero78
  obtain ⟨Z, hZ⟩ : ∃ Z, Z = tabV fun _ => 0 := ⟨_, rfl⟩
  rw [← hZ] at hz
  have HZ := Aside0.mk hZ
  clear hP hT hZ
  go_enter Try.func49, Try.ntmps49
  go_wp2_with (go_at_call 54; (with_reducible refine (poly_Power.calls k n p pw e0 _ HP.out).mono ?_); rintro e1 w1 ⟨rfl, ⟨nd, rfl⟩⟩)
  obtain ⟨w2, hw2⟩ : ∃ w2, w2 = ((w.alloc (.cells Z 78)).alloc (.cells Z 78)).drewN nd := ⟨_, rfl⟩
  have B0 := Aside0.mk (show Below w.heap.size w w2 by rw [hw2]; exact pw_below_drewN (below_alloc (below_alloc (Below.refl _ _) _) _) _)
  have R0 := Aside0.mk (show w2.heap[w.heap.size]? = some (.cells Z 78 (0, 0)) by rw [hw2]; exact blk_drewN (blk_alloc (heap_alloc_new w _) _) _)
  have R1 := Aside0.mk (show w2.heap[w.heap.size + 1]? = some (.cells (tabV fun j => if j < 0 then T j else 0) 78 (0, 0)) by rw [hw2, HZ.out]; have h_ := heap_alloc_new (w.alloc (.cells (tabV fun _ => 0) 78)) (.cells (tabV fun _ => 0) 78); rw [World.size_alloc] at h_; exact blk_drewN h_ _)
  rw [← hw2]
  obtain ⟨m, hm⟩ : ∃ m, m = w.heap.size := ⟨_, rfl⟩
  rw [← hm] at R0 R1 ⊢
  have HM := Aside0.mk hm
  clear hw2 HP hz hm
  go_loopg [15] 257 (fun kq v15 wr => ∃ i : Nat, v15 = .int .i64 (i : Int) ∧ Aside0 (i + kq = 257) ∧ Aside0 (i ≤ 256) ∧ Aside0 (wr.heap[m]? = some (.cells Z 78 (0, 0))) ∧ Aside0 (wr.heap[m + 1]? = some (.cells (tabV fun j => if j < i then T j else 0) 78 (0, 0))) ∧ Aside0 (Below w.heap.size w wr))
  case atStart => exact ⟨0, rfl, ⟨by omega⟩, ⟨by omega⟩, R0, R1, B0⟩
  case round =>
    obtain ⟨i, rfl, HI, HJ, G0, G1, HB⟩ := hrel
    clear B0 R0 R1
    cases gk with
    | zero => exact absurd HI.out (by have := HJ.out; omega)
    | succ k1 =>
      by_cases c1 : (i : Int) < 256
      · have hi : i < 256 := by omega
        obtain ⟨eb, hmm⟩ := HT.out i hi
        have A1 := Aside0.mk hmm
        have hu : IntKind.u64.wrap (i : Int) = (i : Int) := by rw [wrap_u, Nat.mod_eq_of_lt (by omega)]
        have c1b := decide_eq_true c1
        have q1 := eq_true (Int.natCast_nonneg i)
        clear hmm
        go_wp2_with (go_at_call 55; refine (poly_MulMod.calls k p (some ⟨wr.heap.size, 0, none⟩) 2 [(i : Int), pw] (T i : Int) eb _ ?s1 ?s2 A1.out).mono ?_; (case s1 => exact C_pair wr _ _); (case s2 => exact Nat.le_refl _); rintro e1 w3 ⟨rfl, ⟨nd3, rfl⟩⟩; have hc3 : ((wr.alloc (.cells #[.int .u64 (i : Int), .int .u64 pw] 22)).drewN nd3).cell? ⟨m + 1, i, none⟩ = some (.int .u64 ((0 : Nat) : Int)) := (blk_cell (blk_drewN (blk_alloc G1.out _) _) i).trans ((tabV_get _ i hi).trans (by simp)); have hf3 : ((wr.alloc (.cells #[.int .u64 (i : Int), .int .u64 pw] 22)).drewN nd3).frozen? ⟨m + 1, i, none⟩ = false := blk_frozen (blk_drewN (blk_alloc G1.out _) _) i)
        go_roundg k1
        case measure => omega
        case rel =>
          have HI2 := HI.out
          clear hu
          have Gx := blk_drewN (blk_alloc G1.out (.cells #[.int .u64 (i : Int), .int .u64 pw] 22)) nd3
          have hs1 := heapSet Gx i (.int .u64 (T i : Int))
          rw [tabV_set T i hi] at hs1
          exact ⟨i + 1, rfl, ⟨by omega⟩, ⟨by omega⟩, ⟨(Below.heap_setCell _ _ _ m (show m ≠ m + 1 by omega)).trans (blk_drewN (blk_alloc G0.out _) _)⟩, ⟨hs1⟩,
            ⟨(pw_below_drewN (below_alloc HB.out _) _).setCell (p := ⟨m + 1, i, none⟩) (by rw [← HM.out]; show m ≤ m + 1; omega) _⟩⟩
      · have hi : i = 256 := by have := HJ.out; omega
        subst hi
        have c1b : decide (((256 : Nat) : Int) < 256) = false := by decide
        have et : (tabV fun j => if j < 256 then T j else 0) = tabV T := by
          unfold tabV
          exact congrArg List.toArray (List.map_congr_left (fun j hj => by simp only [List.mem_range.1 hj, if_true]))
        have G1' := Aside0.mk (et ▸ G1.out)
        clear et
        clear G1
        go_wp2_with (first
          | (refine wpList_load_row rfl 78 (.tmp 5) rfl (m + 1) rfl 78 (tabV T) (0, 0) (.array 256 22) G1'.out Try.underlying78 rfl ?hi ?_; (case hi => (rw [tabV_size]; exact size78)))
          | (refine wpList_store_row rfl 78 (.tmp 4) (.tmp 30) rfl m (tabV T) rfl rfl 78 Z G0.out ?hi ?hold ?h1 ?_; (case hi => (rw [tabV_size]; exact size78)); (case hold => (rw [HZ.out, tabV_size, tabV_size])); (case h1 => exact tabV_one T)))
        refine bodyPost_ret (results_cell_row rfl _ _ m 78 (tabV T) (0, 0) (.array 256 22) rfl (setRow_heap _ _ _ _ _ _ G0.out) Try.underlying78 rfl (by rw [tabV_size]; exact size78)) rfl ?_
        exact ⟨rfl, below_setRow HB.out (by rw [← HM.out]; have := (Array.getElem?_eq_some_iff.1 G0.out).1; omega) _ _ (by rw [HM.out]; exact Nat.le_refl _)⟩
theorem size80 : (Try.prog.info? 80).map (·.size) = some 258 := by kernel_rfl
theorem zero80 : ∃ Z : Array Value, Z.size = 258 ∧ ∀ W, (zeroValue 80).run Try.prog W = .ok (.agg Z) W := by
  have h : (Try.prog.info? 80).map (fun i => i.zero.map fun z => match z with | .agg c => some c.size | _ => none) = some (some (some 258)) := by kernel_rfl
  obtain ⟨it, h1, h2⟩ := Option.map_eq_some_iff.1 h
  obtain ⟨z, h3, h4⟩ := Option.map_eq_some_iff.1 h2
  cases z with
  | agg c => exact ⟨c, Option.some.inj h4, fun W => by simp [zeroValue, typeInfo, h1, h3]⟩
  | _ => simp at h4
theorem wpList_built {P : Program} {ops : Array Oper} {rest : List Oper} {o : Oper} {a : Act} {w : World} {Q : Exit → Act → World → Prop} (hg : o.guard = none) (t : TypeId) (parts : Array (Nat × Operand)) (ho : o.op = .build t parts) (cs : Array Value)
    (hr : ∀ W, (Instr.build t (parts.map fun (i, x) => (i, a.eval x))).run P W = .ok (.agg cs) W) (h : wpList P ops Q rest (a.put o.dst (.agg cs)) w) : wpList P ops Q (o :: rest) a w :=
  wpList_plain hg fun K hK => by
    unfold Oper.wp execOp
    simp only [ho, Sem.run_bind, hr, Result.andThen_ok]
    exact hK _ _ h
/-- The cells of a taker. -/
structure TakerV (cs : Array Value) (p d : Int) (T : Nat → Nat) : Prop where
  size : cs.size = 258
  c0 : cs[0]? = some (.int .u64 p)
  c1 : cs[1]? = some (.int .i64 d)
  over : ∀ i, i < 256 → cs[2 + i]? = some (.int .u64 (T i : Int))
theorem TakerV.one {cs : Array Value} {p d : Int} {T : Nat → Nat} (h : TakerV cs p d T) : cs.all (·.oneCell') = true := by
  rw [Array.all_eq_true_iff_forall_mem]
  intro v hv
  obtain ⟨j, hj, rfl⟩ := Array.mem_iff_getElem.1 hv
  have hs := h.size
  have e : cs[j]? = some cs[j] := Array.getElem?_eq_getElem hj
  by_cases h0 : j = 0
  · subst h0; rw [h.c0] at e; rw [← Option.some.inj e]; rfl
  by_cases h1 : j = 1
  · subst h1; rw [h.c1] at e; rw [← Option.some.inj e]; rfl
  have := h.over (j - 2) (by omega)
  rw [show 2 + (j - 2) = j by omega, e] at this
  rw [Option.some.inj this]; rfl
set_option maxHeartbeats 2000000 in
set_option maxRecDepth 100000 in
theorem newTaker_calls (k : Nat) (p d pw : Int) (e0 : Option Int) (T : Nat → Nat) (w : World) (hD : poly_Deg.f p = some d) (hP : poly_Power.f k d p = some (pw, e0)) (hT : ∀ b : Nat, b < 256 → ∃ e, poly_MulMod.f k p [(b : Int), pw] = some ((T b : Int), e)) :
    Calls Try.prog 48 #[.int .u64 p] w fun e w' => (∃ cs, e = .returned (.agg cs) ∧ TakerV cs p d T) ∧ Below w.heap.size w w' := by
  have HD := Aside0.mk hD
  obtain ⟨TV, hTV⟩ : ∃ TV, TV = tabV T := ⟨_, rfl⟩
  have HS := Aside0.mk (show ∀ W : World, Calls Try.prog 49 #[.int .u64 p, .int .i64 d] W fun e w' => e = .returned (.agg TV) ∧ Below W.heap.size W w' by rw [hTV]; exact fun W => shifted_calls k p d pw e0 T W hP hT)
  obtain ⟨Z, hZs, hz⟩ := zero80
  obtain ⟨cs, b1, b2, b3, b4, hb⟩ := build80 p d TV (by rw [hTV]; exact tabV_size T)
  have HV := Aside0.mk (show TakerV cs p d T from ⟨b1, b2, b3, fun i hi => by rw [b4 i hi, hTV]; exact tabV_get T i hi⟩)
  have HZ := Aside0.mk hZs
  have HBB := Aside0.mk hb
  clear hP hT hD b1 b2 b3 b4 hTV hZs hb
  go_enter Try.func48, Try.ntmps48
  go_wp2_with (first
    | (go_at_call 31; (with_reducible refine (poly_Deg.calls p d _ HD.out).mono ?_); rintro e1 w1 ⟨rfl, ⟨nd, rfl⟩⟩)
    | (go_at_call 49; refine (HS.out _).mono ?_; rintro e1 w2 ⟨rfl, hb2⟩; have HB := Aside0.mk (show Below w.heap.size w w2 from (below_step (by repeat (first | exact Below.refl _ _ | apply below_alloc | apply pw_below_drewN)) hb2)); have G0 := Aside0.mk (show w2.heap[w.heap.size]? = some (.cells Z 80 (0, 0)) from (hb2.block _ (by first | (simp; omega) | simp)).trans (by repeat (first | exact heap_alloc_new w _ | (refine blk_drewN ?_ _) | (refine blk_alloc ?_ _)))); clear hb2)
    | (refine wpList_built rfl 80 #[(0, .tmp 3), (1, .tmp 5), (2, .tmp 9)] rfl cs ?hr ?_; (case hr => first | exact HBB.out | (intro W; simpa [Act.eval] using HBB.out W)))
    | (refine wpList_store_row rfl 80 (.tmp 2) (.tmp 10) rfl w.heap.size cs rfl rfl 80 Z G0.out ?hi ?hold ?h1 ?_; (case hi => (rw [HV.out.size]; exact size80)); (case hold => (rw [HZ.out, HV.out.size])); (case h1 => exact HV.out.one)))
  refine bodyPost_ret (results_cell_row rfl _ _ w.heap.size 80 cs (0, 0) _ rfl (setRow_heap _ _ _ _ _ _ G0.out) Try.underlying80 rfl (by rw [HV.out.size]; exact size80)) rfl ?_
  exact ⟨⟨cs, rfl, HV.out⟩, below_setRow HB.out HB.out.size _ _ (Nat.le_refl _)⟩
end Go.Proofs.Ytoofafgnlgaajaa.RW
