/- The row of the statement RabinCuts: the call answers true. Conditions: none but the row's own. -/
import Derived.Test.YtoofafgnlgaajaaRows
import Derived.Test.YtoofafgnlgaajaaOCuts
import Derived.Test.YtoofafgnlgaajaaRP9
import Derived.WalkKit
import Derived.ProofKit
import Derived.OpenShut
import Derived.ShutString
import Derived.ChangeOld
import Derived.Below
import Derived.SizedLaws
import Derived.Carry
import Derived.Deep.Fields
namespace Go.Proofs.Ytoofafgnlgaajaa.rabinCuts
open Go.ChangeShapes Go.WideShapes Go.ChangeAt Go.RowKit
open Go.ChangeMaps (open_string shut_string)
set_option linter.unusedVariables false
set_option linter.unusedSimpArgs false
theorem own : ownKnob Try.prog.godebug = none := by kernel_rfl
theorem laidOut : laidOutB Try.prog = true := by kernel_rfl
theorem sized_struct_string {H : Type} {P : Program} {ts : List TypeId} {ds : List (DataW H)} (h : (DataW.weightsEach P ts ds).all (· ≤ reachBytes) = true) {j : Nat} {t : TypeId} {parts : List (DataW H)} {fs : Array Field} {i : Nat} {u : TypeId} {bytes : List UInt8}
    (ht : ts[j]? = some t) (hd : ds[j]? = some (.agg parts)) (hu : P.underlying t = some (.struct fs)) (hi : (fs.toList.map (·.type))[i]? = some u) (hp : parts[i]? = some (.lit (.string bytes))) : bytes.length ≤ reachBytes := by
  have := List.all_eq_true.1 h _ (DataW.weights_mem_each ht hd bytes.length (by simp only [DataW.weights, hu]; exact DataW.weights_mem_each hi hp bytes.length (by simp [DataW.weights])))
  simpa using this
theorem open_24 {H : Type} {enc : TypeId × Value → H} {w : World} {base : Nat} {spare : Nat → Bool} {held : Bool} {r : Reach} {b0 : Nat} {v : Value} {d : DataW H} {ps : List MemPlace}
    (hval : Value.okWide Try.prog w r b0 24 v) (hd : DataW.Trod enc Try.prog w base spare held 24 v d ps) : ∃ (a0 : Int) (a1 : Int) (a2 : Int) (a3 : Int) (a4 : Int), v = .agg #[.int .u64 a0, .int .i64 a1, .int .i64 a2, .int .i64 a3, .int .i64 a4] ∧ ((Lit.int .u64 a0).wf = true ∧ (Lit.int .i64 a1).wf = true ∧ (Lit.int .i64 a2).wf = true ∧ (Lit.int .i64 a3).wf = true ∧ (Lit.int .i64 a4).wf = true) ∧ d = .agg [.lit (.int .u64 a0), .lit (.int .i64 a1), .lit (.int .i64 a2), .lit (.int .i64 a3), .lit (.int .i64 a4)] := by
  obtain ⟨cs, rfl, hs⟩ := okWide_struct Try.underlying24 hval
  obtain ⟨fuel, hf⟩ := hd
  obtain ⟨xs, n, _, hxx, hl, hx, hg⟩ := DataW.trod_struct Try.underlying24 hf
  have ct : Try.prog.cellsOf 24 = 5 := by kernel_rfl
  rw [ct] at hs
  obtain ⟨l⟩ := cs
  match l, hs with
  | [x0, x1, x2, x3, x4], _ =>
    match xs, hx with
    | [y0, y1, y2, y3, y4], _ =>
      have c0 : Try.prog.cellsOf 22 = 1 := by kernel_rfl
      have g0 : DataW.trod enc Try.prog w base spare held n 22 (([x0, x1, x2, x3, x4].drop 0).take (Try.prog.cellsOf 22)) = some y0 := hg 0 _ rfl
      rw [c0] at g0
      obtain ⟨a0, e0, f0, w0⟩ := DataW.trod_int Try.underlying22 g0
      simp at e0
      have c1 : Try.prog.cellsOf 3 = 1 := by kernel_rfl
      have g1 : DataW.trod enc Try.prog w base spare held n 3 (([x0, x1, x2, x3, x4].drop 1).take (Try.prog.cellsOf 3)) = some y1 := hg 1 _ rfl
      rw [c1] at g1
      obtain ⟨a1, e1, f1, w1⟩ := DataW.trod_int Try.underlying3 g1
      simp at e1
      have c2 : Try.prog.cellsOf 3 = 1 := by kernel_rfl
      have g2 : DataW.trod enc Try.prog w base spare held n 3 (([x0, x1, x2, x3, x4].drop 2).take (Try.prog.cellsOf 3)) = some y2 := hg 2 _ rfl
      rw [c2] at g2
      obtain ⟨a2, e2, f2, w2⟩ := DataW.trod_int Try.underlying3 g2
      simp at e2
      have c3 : Try.prog.cellsOf 3 = 1 := by kernel_rfl
      have g3 : DataW.trod enc Try.prog w base spare held n 3 (([x0, x1, x2, x3, x4].drop 3).take (Try.prog.cellsOf 3)) = some y3 := hg 3 _ rfl
      rw [c3] at g3
      obtain ⟨a3, e3, f3, w3⟩ := DataW.trod_int Try.underlying3 g3
      simp at e3
      have c4 : Try.prog.cellsOf 3 = 1 := by kernel_rfl
      have g4 : DataW.trod enc Try.prog w base spare held n 3 (([x0, x1, x2, x3, x4].drop 4).take (Try.prog.cellsOf 3)) = some y4 := hg 4 _ rfl
      rw [c4] at g4
      obtain ⟨a4, e4, f4, w4⟩ := DataW.trod_int Try.underlying3 g4
      simp at e4
      exact ⟨a0, a1, a2, a3, a4, by rw [e0, e1, e2, e3, e4], ⟨w0, w1, w2, w3, w4⟩, by rw [show d = _ from congrArg Prod.fst hxx, List.map_cons, f0, f1, f2, f3, f4]; rfl⟩
theorem slice_25 {H : Type} {enc : TypeId × Value → H} {w : World} {base : Nat} {spare : Nat → Bool} {held : Bool} {A : Option Addr} {len cap : Nat} {d : DataW H} {ps : List MemPlace} (u : Try.prog.underlying 25 = some (.slice 5))
    (hd : DataW.Trod enc Try.prog w base spare held 25 (.slice A len cap) d ps) : ∃ l : List Int, Go.Proofs.YtoofafgnlgaajaaW.PrintWords.Kd.C (Go.Proofs.YtoofafgnlgaajaaW.PrintWords.Kd.int .u8) w A l.length l ∧ l.length = len ∧ len ≤ cap ∧ (∀ n ∈ l, (Lit.int .u8 n).wf = true) ∧ ((d = .nil ∧ l = []) ∨ ∃ es sp, d = .slice es sp ∧ es.length = l.length) := by
  obtain ⟨fuel, hf⟩ := hd
  rcases open_ints u Try.underlying5 (by kernel_rfl) hf with ⟨hcs, hxx⟩ | ⟨x, l, c, zs, hcs, _, hl, hm, hz, hxx, hcell, hwz⟩
  · simp [Value.cells] at hcs
    obtain ⟨rfl, rfl, rfl⟩ := hcs
    exact ⟨[], ⟨rfl, by simp, (fun h => absurd h (by simp))⟩, rfl, Nat.le_refl _, (fun n hn => by cases hn), .inl ⟨congrArg Prod.fst hxx, rfl⟩⟩
  · simp [Value.cells] at hcs
    obtain ⟨rfl, rfl, rfl⟩ := hcs
    unfold maxLen at hm
    have hzl : len ≤ zs.length := by rw [hz]; split <;> omega
    refine ⟨zs.take len, ⟨rfl, by rw [List.length_take]; omega, fun _ => ⟨x, rfl, fun j p hp => ⟨[.int .u8 p], rfl, rfl, fun i u hu => ?_⟩⟩⟩, by rw [List.length_take]; omega, hl, (fun n hn => hwz n (List.mem_of_mem_take hn)), .inr ⟨_, _, congrArg Prod.fst hxx, by simp [lits]⟩⟩
    have hj : j < (zs.take len).length := (List.getElem?_eq_some_iff.1 hp).1
    rw [List.length_take] at hj
    rw [List.getElem?_take_of_lt (by omega)] at hp
    have hi : i = 0 := by
      cases i with
      | zero => rfl
      | succ i => simp at hu
    subst hi
    have hu' : u = .int .u8 p := by simpa using hu.symm
    subst hu'
    have hc := hcell j (by omega)
    rw [List.getD_eq_getElem?_getD, hp] at hc
    simpa [Go.Proofs.YtoofafgnlgaajaaW.PrintWords.Kd.int, Go.Proofs.YtoofafgnlgaajaaW.PrintWords.Kd.scalar] using hc
set_option maxRecDepth 100000 in
theorem lifted (os : Os) (started : os.Started) (H : Type) (enc : TypeId × Value → H) :
    ReturnsInHanded {} Try.checked os 3 .any (Rows.rabinCutsSpec.pre6 enc Try.prog Try.f3 Rows.rabinCutsRow.domain false) (Rows.rabinCutsSpec.post enc Try.prog Try.f3 false true false false) := by
  refine returnsInHanded_of_change_sized (C := Try.checked) own started (by kernel_rfl) Try.func3
    (ChangeSpec.witness6 (enc := enc) (C := Try.checked) false ⟨#[], #[.agg #[.int .u64 0, .int .i64 0, .int .i64 0, .int .i64 0, .int .i64 0], .slice none 0 0], []⟩ 8 (by kernel_rfl) (by kernel_rfl) (by kernel_rfl) (by kernel_rfl)) ?_
  intro W base args ds gs before hval0 hW hcnd hsz0 _
  have hsz : (DataW.weightsEach Try.prog (Try.f3.params.toList ++ Rows.rabinCutsSpec.plain.varTypes Try.prog) (ds ++ gs)).all (· ≤ reachBytes) = true := hsz0
  have hval : ∀ (j : Nat) t v, Try.f3.params[j]? = some t → args[j]? = some v → Value.okWide Try.prog W .any base t v := hval0
  have hW' := hW
  obtain ⟨p, q, hA0, hV, rfl, hfz, hnd⟩ := hW
  have hA : DataW.TrodAll enc Try.prog W 0 (fun _ => true) true Try.f3.params.toList args.toList ds p := hA0
  rw [Try.params3] at hA hval hsz
  obtain ⟨v0, vs0, d0, ds0, p0, q0, hargs, rfl, rfl, h0, r0⟩ := trodAll_cons hA
  obtain ⟨v1, vs1, d1, ds1, p1, q1, rfl, rfl, rfl, h1, r1⟩ := trodAll_cons r0
  obtain ⟨rfl, rfl, rfl⟩ := trodAll_nil r1
  obtain rfl : args = #[v0, v1] := by cases args; simp_all
  obtain ⟨rfl, rfl⟩ := trodVars_none hV
  have k0 := h0
  have lt0 : ∀ x ∈ p0, x.block < W.heap.size := by obtain ⟨m, hm⟩ := k0; exact DataW.trod_lt m _ _ _ hm
  obtain ⟨b0_0, b0_1, b0_2, b0_3, b0_4, rfl, ⟨w0_0, w0_1, w0_2, w0_3, w0_4⟩, rfl⟩ := open_24 (hval 0 24 v0 rfl rfl) h0
  have k1 := h1
  have lt1 : ∀ x ∈ p1, x.block < W.heap.size := by obtain ⟨m, hm⟩ := k1; exact DataW.trod_lt m _ _ _ hm
  obtain ⟨a1, len1, cap1, rfl⟩ := okWide_slice Try.underlying25 (hval 1 25 v1 rfl rfl)
  obtain ⟨z1, w1, hl1, hn1, hs1, hd1⟩ := slice_25 (u := Try.underlying25) h1
  have zl1 : z1.length ≤ 140737488351232 := by
    rcases hd1 with ⟨_, h⟩ | ⟨es, sp, rfl, h⟩
    · rw [h]; decide
    · have z := sized_slice hsz (j := 1) (t := 25) rfl rfl Try.underlying25
      have hb : Try.prog.bytesOf 5 = 1 := by kernel_rfl
      have hr : reachBytes = 140737488351232 := rfl
      rw [hb, hr] at z
      omega
  clear hA0 hval0 hsz0 hsz
  have u8_range : ∀ n : Int, (Lit.int .u8 n).wf = true → 0 ≤ n ∧ n < 256 := by
    intro n h
    simp [Lit.wf, IntKind.min, IntKind.max, IntKind.signed, IntKind.bits] at h
    omega
  obtain ⟨p, p64, rfl⟩ := PB.u64_nat b0_0 w0_0
  subst hl1
  refine (show Calls Try.prog 3 #[.agg #[.int .u64 (p : Int), .int .i64 b0_1, .int .i64 b0_2, .int .i64 b0_3, .int .i64 b0_4], .slice a1 z1.length cap1] W fun e W' => e = .returned (.bool true) ∧ Below W.heap.size W W' from ?_).mono fun e W' ⟨he, bel⟩ => ?_
  · by_cases q1 : (z1.length : Int) > 1500
    · exact RW.cuts_large _ _ _ _ _ a1 cap1 z1 W w1 hn1 q1
    · obtain ⟨k, r, eo, n, e1, e2, e3, e4, e5⟩ := RW.cuts_law p p64 b0_1 b0_2 b0_3 b0_4 z1 (fun x hx => u8_range x (hs1 x hx)) q1
      exact RW.cuts_main k _ _ _ _ _ a1 cap1 z1 r eo n W w1 hn1 q1 e1 e2 e3 e4 e5
  subst he
  exact ⟨_, rfl, _, _, _, [], _, [], hW', trodAll_mk1 (shut_bool Try.underlying4 _), (trodAll_cons_mk (Below.trod laidOut (by kernel_rfl) (of_decide_eq_true (by kernel_rfl)) k0 bel lt0) (trodAll_cons_mk (Below.trod laidOut (by kernel_rfl) (of_decide_eq_true (by kernel_rfl)) k1 bel lt1) trodAll_mk0)), rfl, bel.frame _, fun h => by cases h⟩
theorem over : Rows.rabinCutsRow.holds Try.pinned (OpenSpec.ofChange Rows.rabinCutsSpec) :=
  OpenClaim.holds_of_wide 3 Try.f3 rfl rfl rfl rfl rfl rfl rfl ⟨rfl, rfl, rfl, rfl, rfl⟩ rfl rfl rfl rfl rfl (by kernel_rfl) Try.func3 (by kernel_rfl)
    (of_decide_eq_true (by kernel_rfl)) (by unfold Func.isWrapper; first | (rw [if_pos (by decide +kernel)]; kernel_rfl) | (rw [if_neg (by decide +kernel)]; exact ⟨rfl, rfl⟩))
    (fun os started H enc _ => lifted os started H enc)
theorem proved : Rows.RabinCutsSaid := over
#print axioms proved
end Go.Proofs.Ytoofafgnlgaajaa.rabinCuts
namespace Go.Proofs.Ytoofafgnlgaajaa
/-- The row, under a short name, for the claim. -/
theorem rabinCuts_holds : Rows.RabinCutsSaid := rabinCuts.proved
end Go.Proofs.Ytoofafgnlgaajaa
