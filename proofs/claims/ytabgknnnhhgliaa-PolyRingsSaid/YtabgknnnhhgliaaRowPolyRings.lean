/- The row of the statement PolyRings: the call answers true. Conditions: none but the row's own. -/
import Derived.Test.YtabgknnnhhgliaaRows
import Derived.Test.YtabgknnnhhgliaaPPolyx4
import Derived.Test.YtabgknnnhhgliaaPurePolyRings
import Derived.WalkKit
import Derived.ProofKit
import Derived.OpenShut
import Derived.ShutString
import Derived.ChangeOld
import Derived.Below
import Derived.SizedLaws
import Derived.Carry
import Derived.Deep.Fields
namespace Go.Proofs.Ytabgknnnhhgliaa.polyRings
open Go.ChangeShapes Go.WideShapes Go.ChangeAt Go.RowKit
open Go.ChangeMaps (open_string shut_string)
set_option linter.unusedVariables false
set_option linter.unusedSimpArgs false
theorem own : ownKnob Try.prog.godebug = none := by kernel_rfl
theorem laidOut : laidOutB Try.prog = true := by kernel_rfl
theorem open_28 {H : Type} {enc : TypeId × Value → H} {w : World} {base : Nat} {spare : Nat → Bool} {held : Bool} {r : Reach} {b0 : Nat} {v : Value} {d : DataW H} {ps : List MemPlace}
    (hval : Value.okWide Try.prog w r b0 28 v) (hd : DataW.Trod enc Try.prog w base spare held 28 v d ps) : ∃ (a0 : Int) (a1 : Int) (a2 : Int) (a3 : Int), v = .agg #[.int .u64 a0, .int .u64 a1, .int .u64 a2, .int .u64 a3] ∧ (Lit.int .u64 a0).wf = true ∧ (Lit.int .u64 a1).wf = true ∧ (Lit.int .u64 a2).wf = true ∧ (Lit.int .u64 a3).wf = true := by
  obtain ⟨cs, rfl, hs⟩ := okWide_struct Try.underlying28 hval
  obtain ⟨fuel, hf⟩ := hd
  obtain ⟨xs, n, _, _, hl, hx, hg⟩ := DataW.trod_struct Try.underlying28 hf
  have ct : Try.prog.cellsOf 28 = 4 := by kernel_rfl
  rw [ct] at hs
  obtain ⟨l⟩ := cs
  match l, hs with
  | [x0, x1, x2, x3], _ =>
    match xs, hx with
    | [y0, y1, y2, y3], _ =>
      have c0 : Try.prog.cellsOf 22 = 1 := by kernel_rfl
      have g0 : DataW.trod enc Try.prog w base spare held n 22 (([x0, x1, x2, x3].drop 0).take (Try.prog.cellsOf 22)) = some y0 := hg 0 _ rfl
      rw [c0] at g0
      obtain ⟨a0, e0, _, w0⟩ := DataW.trod_int Try.underlying22 g0
      simp at e0
      have c1 : Try.prog.cellsOf 22 = 1 := by kernel_rfl
      have g1 : DataW.trod enc Try.prog w base spare held n 22 (([x0, x1, x2, x3].drop 1).take (Try.prog.cellsOf 22)) = some y1 := hg 1 _ rfl
      rw [c1] at g1
      obtain ⟨a1, e1, _, w1⟩ := DataW.trod_int Try.underlying22 g1
      simp at e1
      have c2 : Try.prog.cellsOf 22 = 1 := by kernel_rfl
      have g2 : DataW.trod enc Try.prog w base spare held n 22 (([x0, x1, x2, x3].drop 2).take (Try.prog.cellsOf 22)) = some y2 := hg 2 _ rfl
      rw [c2] at g2
      obtain ⟨a2, e2, _, w2⟩ := DataW.trod_int Try.underlying22 g2
      simp at e2
      have c3 : Try.prog.cellsOf 22 = 1 := by kernel_rfl
      have g3 : DataW.trod enc Try.prog w base spare held n 22 (([x0, x1, x2, x3].drop 3).take (Try.prog.cellsOf 22)) = some y3 := hg 3 _ rfl
      rw [c3] at g3
      obtain ⟨a3, e3, _, w3⟩ := DataW.trod_int Try.underlying22 g3
      simp at e3
      exact ⟨a0, a1, a2, a3, by rw [e0, e1, e2, e3], w0, w1, w2, w3⟩
set_option maxRecDepth 100000 in
theorem lifted (os : Os) (started : os.Started) (H : Type) (enc : TypeId × Value → H) :
    ReturnsInHanded {} Try.checked os 5 .any (Rows.polyRingsSpec.pre6 enc Try.prog Try.f5 Rows.polyRingsRow.domain false) (Rows.polyRingsSpec.post enc Try.prog Try.f5 false true false false) := by
  refine returnsInHanded_of_change_sized (C := Try.checked) own started (by kernel_rfl) Try.func5
    (ChangeSpec.witness6 (enc := enc) (C := Try.checked) false ⟨#[], #[.agg #[.int .u64 0, .int .u64 0, .int .u64 0, .int .u64 0]], []⟩ 8 (by kernel_rfl) (by kernel_rfl) (by kernel_rfl) (by kernel_rfl)) ?_
  intro W base args ds gs before hval0 hW hcnd hsz0 _
  have hsz : (DataW.weightsEach Try.prog (Try.f5.params.toList ++ Rows.polyRingsSpec.plain.varTypes Try.prog) (ds ++ gs)).all (· ≤ reachBytes) = true := hsz0
  have hval : ∀ (j : Nat) t v, Try.f5.params[j]? = some t → args[j]? = some v → Value.okWide Try.prog W .any base t v := hval0
  have hW' := hW
  obtain ⟨p, q, hA0, hV, rfl, hfz, hnd⟩ := hW
  have hA : DataW.TrodAll enc Try.prog W 0 (fun _ => true) true Try.f5.params.toList args.toList ds p := hA0
  rw [Try.params5] at hA hval hsz
  obtain ⟨v0, vs0, d0, ds0, p0, q0, hargs, rfl, rfl, h0, r0⟩ := trodAll_cons hA
  obtain ⟨rfl, rfl, rfl⟩ := trodAll_nil r0
  obtain rfl : args = #[v0] := by cases args; simp_all
  obtain ⟨rfl, rfl⟩ := trodVars_none hV
  have k0 := h0
  have lt0 : ∀ x ∈ p0, x.block < W.heap.size := by obtain ⟨m, hm⟩ := k0; exact DataW.trod_lt m _ _ _ hm
  obtain ⟨b0_0, b0_1, b0_2, b0_3, rfl, w0_0, w0_1, w0_2, w0_3⟩ := open_28 (hval 0 28 v0 rfl rfl) h0
  clear hA0 hval0 hsz0 hsz
  obtain ⟨a, a64, rfl⟩ := PB.u64_nat b0_0 w0_0
  obtain ⟨b, b64, rfl⟩ := PB.u64_nat b0_1 w0_1
  obtain ⟨c, c64, rfl⟩ := PB.u64_nat b0_2 w0_2
  obtain ⟨m, m64, rfl⟩ := PB.u64_nat b0_3 w0_3
  obtain ⟨k, hk⟩ := Pure.PolyRings a b c m a64 b64 c64 m64
  refine (PPoly.amphoralaw06_PolyRings.calls k _ _ _ _ true W hk).mono fun e W' ⟨he, bel⟩ => ?_
  subst he
  exact ⟨_, rfl, _, _, _, [], _, [], hW', trodAll_mk1 (shut_bool Try.underlying4 _), (trodAll_cons_mk (Below.trod laidOut (by kernel_rfl) (of_decide_eq_true (by kernel_rfl)) k0 bel lt0) trodAll_mk0), rfl, bel.frame _, fun h => by cases h⟩
theorem over : Rows.polyRingsRow.holds Try.pinned (OpenSpec.ofChange Rows.polyRingsSpec) :=
  OpenClaim.holds_of_wide 5 Try.f5 rfl rfl rfl rfl rfl rfl rfl ⟨rfl, rfl, rfl, rfl, rfl⟩ rfl rfl rfl rfl rfl (by kernel_rfl) Try.func5 (by kernel_rfl)
    (of_decide_eq_true (by kernel_rfl)) (by unfold Func.isWrapper; first | (rw [if_pos (by decide +kernel)]; kernel_rfl) | (rw [if_neg (by decide +kernel)]; exact ⟨rfl, rfl⟩))
    (fun os started H enc _ => lifted os started H enc)
theorem proved : Rows.PolyRingsSaid := over
#print axioms proved
end Go.Proofs.Ytabgknnnhhgliaa.polyRings
namespace Go.Proofs.Ytabgknnnhhgliaa
/-- The row, under a short name, for the claim. -/
theorem polyRings_holds : Rows.PolyRingsSaid := polyRings.proved
end Go.Proofs.Ytabgknnnhhgliaa
