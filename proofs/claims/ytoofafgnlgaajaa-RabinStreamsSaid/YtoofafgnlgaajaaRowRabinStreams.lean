/- The row of the statement RabinStreams: the call answers true. Conditions: none but the row's own. -/
import Derived.Test.YtoofafgnlgaajaaRows
import Derived.Test.YtoofafgnlgaajaaStreams
import Derived.WalkKit
import Derived.ProofKit
import Derived.OpenShut
import Derived.ShutString
import Derived.ChangeOld
import Derived.Below
import Derived.SizedLaws
import Derived.Carry
import Derived.Deep.Fields
namespace Go.Proofs.Ytoofafgnlgaajaa.rabinStreams
open Go.ChangeShapes Go.WideShapes Go.ChangeAt Go.RowKit
open Go.ChangeMaps (open_string shut_string)
set_option linter.unusedVariables false
set_option linter.unusedSimpArgs false
theorem own : ownKnob Try.prog.godebug = none := by kernel_rfl
theorem laidOut : laidOutB Try.prog = true := by kernel_rfl
theorem sized_struct_string {H : Type} {P : Program} {ts : List TypeId} {ds : List (DataW H)} (h : (DataW.weightsEach P ts ds).all (· ≤ reachBytes) = true) {j : Nat} {t : TypeId} {parts : List (DataW H)} {fs : Array Field} {i : Nat} {u : TypeId} {bytes : List UInt8}
    (ht : ts[j]? = some t) (hd : ds[j]? = some (.agg parts)) (hu : P.underlying t = some (.struct fs)) (hi : (fs.toList.map (·.type))[i]? = some u) (hp : parts[i]? = some (.lit (.string bytes))) : bytes.length ≤ reachBytes := by
  have := List.all_eq_true.1 h _ (DataW.weights_mem_each ht hd bytes.length (by simp only [DataW.weights, hu]; exact DataW.weights_mem_each hi hp bytes.length (by simp [DataW.weights])))
  simpa using this
theorem open_24 {H : Type} {enc : TypeId × Value → H} {w : World} {base : Nat} {spare : Nat → Bool} {held : Bool} {r : Reach} {b0 : Nat} {v : Value} {d : DataW H} {ps : List MemPlace}
    (hval : Value.okWide Try.prog w r b0 24 v) (hd : DataW.Trod enc Try.prog w base spare held 24 v d ps) : ∃ (a0 : Int) (a1 : Int) (a2 : Int) (a3 : Int) (a4 : Int), v = .agg #[.int .u64 a0, .int .i64 a1, .int .i64 a2, .int .i64 a3, .int .i64 a4] ∧ ((Lit.int .u64 a0).wf = true ∧ (Lit.int .i64 a1).wf = true ∧ (Lit.int .i64 a2).wf = true ∧ (Lit.int .i64 a3).wf = true ∧ (Lit.int .i64 a4).wf = true) ∧ d = .agg [.lit (.int .u64 a0), .lit (.int .i64 a1), .lit (.int .i64 a2), .lit (.int .i64 a3), .lit (.int .i64 a4)] := by
  obtain ⟨cs, rfl, hs⟩ := okWide_struct Try.underlying24 hval
  obtain ⟨fuel, hf⟩ := hd
  obtain ⟨xs, n, _, hxx, hl, hx, hg⟩ := DataW.trod_struct Try.underlying24 hf
  have ct : Try.prog.cellsOf 24 = 5 := by kernel_rfl
  rw [ct] at hs
  obtain ⟨l⟩ := cs
  match l, hs with
  | [x0, x1, x2, x3, x4], _ =>
    match xs, hx with
    | [y0, y1, y2, y3, y4], _ =>
      have c0 : Try.prog.cellsOf 22 = 1 := by kernel_rfl
      have g0 : DataW.trod enc Try.prog w base spare held n 22 (([x0, x1, x2, x3, x4].drop 0).take (Try.prog.cellsOf 22)) = some y0 := hg 0 _ rfl
      rw [c0] at g0
      obtain ⟨a0, e0, f0, w0⟩ := DataW.trod_int Try.underlying22 g0
      simp at e0
      have c1 : Try.prog.cellsOf 3 = 1 := by kernel_rfl
      have g1 : DataW.trod enc Try.prog w base spare held n 3 (([x0, x1, x2, x3, x4].drop 1).take (Try.prog.cellsOf 3)) = some y1 := hg 1 _ rfl
      rw [c1] at g1
      obtain ⟨a1, e1, f1, w1⟩ := DataW.trod_int Try.underlying3 g1
      simp at e1
      have c2 : Try.prog.cellsOf 3 = 1 := by kernel_rfl
      have g2 : DataW.trod enc Try.prog w base spare held n 3 (([x0, x1, x2, x3, x4].drop 2).take (Try.prog.cellsOf 3)) = some y2 := hg 2 _ rfl
      rw [c2] at g2
      obtain ⟨a2, e2, f2, w2⟩ := DataW.trod_int Try.underlying3 g2
      simp at e2
      have c3 : Try.prog.cellsOf 3 = 1 := by kernel_rfl
      have g3 : DataW.trod enc Try.prog w base spare held n 3 (([x0, x1, x2, x3, x4].drop 3).take (Try.prog.cellsOf 3)) = some y3 := hg 3 _ rfl
      rw [c3] at g3
      obtain ⟨a3, e3, f3, w3⟩ := DataW.trod_int Try.underlying3 g3
      simp at e3
      have c4 : Try.prog.cellsOf 3 = 1 := by kernel_rfl
      have g4 : DataW.trod enc Try.prog w base spare held n 3 (([x0, x1, x2, x3, x4].drop 4).take (Try.prog.cellsOf 3)) = some y4 := hg 4 _ rfl
      rw [c4] at g4
      obtain ⟨a4, e4, f4, w4⟩ := DataW.trod_int Try.underlying3 g4
      simp at e4
      exact ⟨a0, a1, a2, a3, a4, by rw [e0, e1, e2, e3, e4], ⟨w0, w1, w2, w3, w4⟩, by rw [show d = _ from congrArg Prod.fst hxx, List.map_cons, f0, f1, f2, f3, f4]; rfl⟩
set_option maxRecDepth 100000 in
theorem lifted (os : Os) (started : os.Started) (H : Type) (enc : TypeId × Value → H) :
    ReturnsInHanded {} Try.checked os 8 .any (Rows.rabinStreamsSpec.pre6 enc Try.prog Try.f8 Rows.rabinStreamsRow.domain false) (Rows.rabinStreamsSpec.post enc Try.prog Try.f8 false true false false) := by
  refine returnsInHanded_of_change_sized (C := Try.checked) own started (by kernel_rfl) Try.func8
    (ChangeSpec.witness6 (enc := enc) (C := Try.checked) false ⟨#[], #[.agg #[.int .u64 0, .int .i64 0, .int .i64 0, .int .i64 0, .int .i64 0], .slice none 0 0, .bool false], []⟩ 8 (by kernel_rfl) (by kernel_rfl) (by kernel_rfl) (by kernel_rfl)) ?_
  intro W base args ds gs before hval0 hW hcnd hsz0 _
  have hsz : (DataW.weightsEach Try.prog (Try.f8.params.toList ++ Rows.rabinStreamsSpec.plain.varTypes Try.prog) (ds ++ gs)).all (· ≤ reachBytes) = true := hsz0
  have hval : ∀ (j : Nat) t v, Try.f8.params[j]? = some t → args[j]? = some v → Value.okWide Try.prog W .any base t v := hval0
  have hW' := hW
  obtain ⟨p, q, hA0, hV, rfl, hfz, hnd⟩ := hW
  have hA : DataW.TrodAll enc Try.prog W 0 (fun _ => true) true Try.f8.params.toList args.toList ds p := hA0
  rw [Try.params8] at hA hval hsz
  obtain ⟨v0, vs0, d0, ds0, p0, q0, hargs, rfl, rfl, h0, r0⟩ := trodAll_cons hA
  obtain ⟨v1, vs1, d1, ds1, p1, q1, rfl, rfl, rfl, h1, r1⟩ := trodAll_cons r0
  obtain ⟨v2, vs2, d2, ds2, p2, q2, rfl, rfl, rfl, h2, r2⟩ := trodAll_cons r1
  obtain ⟨rfl, rfl, rfl⟩ := trodAll_nil r2
  obtain rfl : args = #[v0, v1, v2] := by cases args; simp_all
  obtain ⟨rfl, rfl⟩ := trodVars_none hV
  have k0 := h0
  have lt0 : ∀ x ∈ p0, x.block < W.heap.size := by obtain ⟨m, hm⟩ := k0; exact DataW.trod_lt m _ _ _ hm
  obtain ⟨b0_0, b0_1, b0_2, b0_3, b0_4, rfl, ⟨w0_0, w0_1, w0_2, w0_3, w0_4⟩, rfl⟩ := open_24 (hval 0 24 v0 rfl rfl) h0
  have k1 := h1
  have lt1 : ∀ x ∈ p1, x.block < W.heap.size := by obtain ⟨m, hm⟩ := k1; exact DataW.trod_lt m _ _ _ hm
  obtain ⟨a1, len1, cap1, rfl⟩ := okWide_slice Try.underlying50 (hval 1 50 v1 rfl rfl)
  obtain ⟨z1, w1, hl1, hn1, hd1⟩ := RW.Rws.opened h1
  have zl1 : RW.Rws.Sized z1 := by
    rcases hd1 with ⟨_, h⟩ | ⟨sp, rfl⟩
    · rw [h]; exact RW.Rws.sized_nil
    · exact RW.Rws.sized hsz (j := 1) rfl rfl
  obtain ⟨b2, rfl, rfl, rfl⟩ := open_bool Try.underlying4 (hval 2 4 v2 rfl rfl) h2
  clear hA0 hval0 hsz0 hsz
  have u8_range : ∀ n : Int, (Lit.int .u8 n).wf = true → 0 ≤ n ∧ n < 256 := by
    intro n h
    simp [Lit.wf, IntKind.min, IntKind.max, IntKind.signed, IntKind.bits] at h
    omega
  obtain ⟨p, p64, rfl⟩ := PB.u64_nat b0_0 w0_0
  refine (RW.streams_all p p64 b0_1 b0_2 b0_3 b0_4 a1 len1 cap1 z1 hl1 (fun q hq x hx => u8_range x (w1.2 q hq x hx)) b2 W w1.1 hn1).mono fun e W' ⟨he, bel⟩ => ?_
  subst he
  exact ⟨_, rfl, _, _, _, [], _, [], hW', trodAll_mk1 (shut_bool Try.underlying4 _), (trodAll_cons_mk (Below.trod laidOut (by kernel_rfl) (of_decide_eq_true (by kernel_rfl)) k0 bel lt0) (trodAll_cons_mk (Below.trod laidOut (by kernel_rfl) (of_decide_eq_true (by kernel_rfl)) k1 bel lt1) (trodAll_cons_mk (shut_bool Try.underlying4 _) trodAll_mk0))), rfl, bel.frame _, fun h => by cases h⟩
theorem over : Rows.rabinStreamsRow.holds Try.pinned (OpenSpec.ofChange Rows.rabinStreamsSpec) :=
  OpenClaim.holds_of_wide 8 Try.f8 rfl rfl rfl rfl rfl rfl rfl ⟨rfl, rfl, rfl, rfl, rfl⟩ rfl rfl rfl rfl rfl (by kernel_rfl) Try.func8 (by kernel_rfl)
    (of_decide_eq_true (by kernel_rfl)) (by unfold Func.isWrapper; first | (rw [if_pos (by decide +kernel)]; kernel_rfl) | (rw [if_neg (by decide +kernel)]; exact ⟨rfl, rfl⟩))
    (fun os started H enc _ => lifted os started H enc)
theorem proved : Rows.RabinStreamsSaid := over
#print axioms proved
end Go.Proofs.Ytoofafgnlgaajaa.rabinStreams
namespace Go.Proofs.Ytoofafgnlgaajaa
/-- The row, under a short name, for the claim. -/
theorem rabinStreams_holds : Rows.RabinStreamsSaid := rabinStreams.proved
end Go.Proofs.Ytoofafgnlgaajaa
