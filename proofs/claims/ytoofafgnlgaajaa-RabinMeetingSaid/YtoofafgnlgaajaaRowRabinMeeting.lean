/- The row of the statement RabinMeeting: the call answers true. Conditions: none but the row's own. -/
import Derived.Test.YtoofafgnlgaajaaRows
import Derived.Test.YtoofafgnlgaajaaRP6
import Derived.Test.YtoofafgnlgaajaaPRabinx8
import Derived.WalkKit
import Derived.ProofKit
import Derived.OpenShut
import Derived.ShutString
import Derived.ChangeOld
import Derived.Below
import Derived.SizedLaws
import Derived.Carry
import Derived.Deep.Fields
namespace Go.Proofs.Ytoofafgnlgaajaa.rabinMeeting
open Go.ChangeShapes Go.WideShapes Go.ChangeAt Go.RowKit
open Go.ChangeMaps (open_string shut_string)
set_option linter.unusedVariables false
set_option linter.unusedSimpArgs false
theorem own : ownKnob Try.prog.godebug = none := by kernel_rfl
theorem laidOut : laidOutB Try.prog = true := by kernel_rfl
theorem sized_struct_string {H : Type} {P : Program} {ts : List TypeId} {ds : List (DataW H)} (h : (DataW.weightsEach P ts ds).all (· ≤ reachBytes) = true) {j : Nat} {t : TypeId} {parts : List (DataW H)} {fs : Array Field} {i : Nat} {u : TypeId} {bytes : List UInt8}
    (ht : ts[j]? = some t) (hd : ds[j]? = some (.agg parts)) (hu : P.underlying t = some (.struct fs)) (hi : (fs.toList.map (·.type))[i]? = some u) (hp : parts[i]? = some (.lit (.string bytes))) : bytes.length ≤ reachBytes := by
  have := List.all_eq_true.1 h _ (DataW.weights_mem_each ht hd bytes.length (by simp only [DataW.weights, hu]; exact DataW.weights_mem_each hi hp bytes.length (by simp [DataW.weights])))
  simpa using this
theorem slice1 {H : Type} {enc : TypeId × Value → H} {w : World} {base : Nat} {spare : Nat → Bool} {held : Bool} {x : Value} {y : DataW H × List MemPlace} {fuel : Nat}
    (hf : DataW.trod enc Try.prog w base spare held fuel 25 [x] = some y) : ∃ (A : Option Addr) (cap : Nat) (l : List Int), x = .slice A l.length cap ∧ Go.Proofs.YtoofafgnlgaajaaW.PrintWords.Kd.C (Go.Proofs.YtoofafgnlgaajaaW.PrintWords.Kd.int .u8) w A l.length l ∧ l.length ≤ cap ∧ (∀ n ∈ l, (Lit.int .u8 n).wf = true) := by
  rcases open_ints Try.underlying25 Try.underlying5 (by kernel_rfl) hf with ⟨hcs, hxx⟩ | ⟨ad, l, c, zs, hcs, _, hl, hm, hz, hxx, hcell, hwz⟩
  · simp at hcs
    subst hcs
    exact ⟨none, 0, [], rfl, ⟨rfl, by simp, (fun h => absurd h (by simp))⟩, Nat.le_refl _, (fun n hn => by cases hn)⟩
  · simp at hcs
    subst hcs
    unfold maxLen at hm
    have hzl : l ≤ zs.length := by rw [hz]; split <;> omega
    have hlen : (zs.take l).length = l := by rw [List.length_take]; omega
    refine ⟨some ad, c, zs.take l, by rw [hlen], ⟨rfl, by rw [hlen]; omega, fun _ => ⟨ad, rfl, fun j p hp => ⟨[.int .u8 p], rfl, rfl, fun i u hu => ?_⟩⟩⟩, by rw [hlen]; exact hl, (fun n hn => hwz n (List.mem_of_mem_take hn))⟩
    have hj : j < (zs.take l).length := (List.getElem?_eq_some_iff.1 hp).1
    rw [hlen] at hj
    rw [List.getElem?_take_of_lt (by omega)] at hp
    have hi : i = 0 := by
      cases i with
      | zero => rfl
      | succ i => simp at hu
    subst hi
    have hu' : u = .int .u8 p := by simpa using hu.symm
    subst hu'
    have hc := hcell j (by omega)
    rw [List.getD_eq_getElem?_getD, hp] at hc
    simpa [Go.Proofs.YtoofafgnlgaajaaW.PrintWords.Kd.int, Go.Proofs.YtoofafgnlgaajaaW.PrintWords.Kd.scalar] using hc
theorem open_47 {H : Type} {enc : TypeId × Value → H} {w : World} {base : Nat} {spare : Nat → Bool} {held : Bool} {r : Reach} {b0 : Nat} {v : Value} {d : DataW H} {ps : List MemPlace}
    (hval : Value.okWide Try.prog w r b0 47 v) (hd : DataW.Trod enc Try.prog w base spare held 47 v d ps) : ∃ (a0 a1 a2 a3 a4 : Int) (A1 : Option Addr) (e1 : Nat) (l1 : List Int) (A2 : Option Addr) (e2 : Nat) (l2 : List Int) (A3 : Option Addr) (e3 : Nat) (l3 : List Int),
      v = .agg #[.int .u64 a0, .int .i64 a1, .int .i64 a2, .int .i64 a3, .int .i64 a4, .slice A1 l1.length e1, .slice A2 l2.length e2, .slice A3 l3.length e3] ∧ (Lit.int .u64 a0).wf = true ∧
      (Go.Proofs.YtoofafgnlgaajaaW.PrintWords.Kd.C (Go.Proofs.YtoofafgnlgaajaaW.PrintWords.Kd.int .u8) w A1 l1.length l1 ∧ l1.length ≤ e1 ∧ (∀ n ∈ l1, (Lit.int .u8 n).wf = true)) ∧
      (Go.Proofs.YtoofafgnlgaajaaW.PrintWords.Kd.C (Go.Proofs.YtoofafgnlgaajaaW.PrintWords.Kd.int .u8) w A2 l2.length l2 ∧ l2.length ≤ e2 ∧ (∀ n ∈ l2, (Lit.int .u8 n).wf = true)) ∧
      (Go.Proofs.YtoofafgnlgaajaaW.PrintWords.Kd.C (Go.Proofs.YtoofafgnlgaajaaW.PrintWords.Kd.int .u8) w A3 l3.length l3 ∧ l3.length ≤ e3 ∧ (∀ n ∈ l3, (Lit.int .u8 n).wf = true)) := by
  obtain ⟨cs, rfl, hs⟩ := okWide_struct Try.underlying47 hval
  obtain ⟨fuel, hf⟩ := hd
  obtain ⟨xs, n, _, hxx, hl, hx, hg⟩ := DataW.trod_struct Try.underlying47 hf
  have ct : Try.prog.cellsOf 47 = 8 := by kernel_rfl
  rw [ct] at hs
  obtain ⟨l⟩ := cs
  match l, hs with
  | [x0, x1, x2, x3, x4, x5, x6, x7], _ =>
    match xs, hx with
    | [y0, y1, y2, y3], _ =>
      have c24 : Try.prog.cellsOf 24 = 5 := by kernel_rfl
      have c25 : Try.prog.cellsOf 25 = 1 := by kernel_rfl
      have g0 : DataW.trod enc Try.prog w base spare held n 24 (([x0, x1, x2, x3, x4, x5, x6, x7].drop 0).take (Try.prog.cellsOf 24)) = some y0 := hg 0 _ rfl
      have g1 : DataW.trod enc Try.prog w base spare held n 25 (([x0, x1, x2, x3, x4, x5, x6, x7].drop 5).take (Try.prog.cellsOf 25)) = some y1 := hg 1 _ rfl
      have g2 : DataW.trod enc Try.prog w base spare held n 25 (([x0, x1, x2, x3, x4, x5, x6, x7].drop 6).take (Try.prog.cellsOf 25)) = some y2 := hg 2 _ rfl
      have g3 : DataW.trod enc Try.prog w base spare held n 25 (([x0, x1, x2, x3, x4, x5, x6, x7].drop 7).take (Try.prog.cellsOf 25)) = some y3 := hg 3 _ rfl
      rw [c24] at g0
      rw [c25] at g1 g2 g3
      obtain ⟨zs, m, _, hyy, hl2, hz, hg2⟩ := DataW.trod_struct Try.underlying24 g0
      match zs, hz with
      | [z0, z1, z2, z3, z4], _ =>
        have d22 : Try.prog.cellsOf 22 = 1 := by kernel_rfl
        have d3 : Try.prog.cellsOf 3 = 1 := by kernel_rfl
        have k0 : DataW.trod enc Try.prog w base spare held m 22 (([x0, x1, x2, x3, x4].drop 0).take (Try.prog.cellsOf 22)) = some z0 := hg2 0 _ rfl
        have k1 : DataW.trod enc Try.prog w base spare held m 3 (([x0, x1, x2, x3, x4].drop 1).take (Try.prog.cellsOf 3)) = some z1 := hg2 1 _ rfl
        have k2 : DataW.trod enc Try.prog w base spare held m 3 (([x0, x1, x2, x3, x4].drop 2).take (Try.prog.cellsOf 3)) = some z2 := hg2 2 _ rfl
        have k3 : DataW.trod enc Try.prog w base spare held m 3 (([x0, x1, x2, x3, x4].drop 3).take (Try.prog.cellsOf 3)) = some z3 := hg2 3 _ rfl
        have k4 : DataW.trod enc Try.prog w base spare held m 3 (([x0, x1, x2, x3, x4].drop 4).take (Try.prog.cellsOf 3)) = some z4 := hg2 4 _ rfl
        rw [d22] at k0
        rw [d3] at k1 k2 k3 k4
        obtain ⟨a0, e0, f0, w0⟩ := DataW.trod_int Try.underlying22 k0
        obtain ⟨a1, e1, f1, w1⟩ := DataW.trod_int Try.underlying3 k1
        obtain ⟨a2, e2, f2, w2⟩ := DataW.trod_int Try.underlying3 k2
        obtain ⟨a3, e3, f3, w3⟩ := DataW.trod_int Try.underlying3 k3
        obtain ⟨a4, e4, f4, w4⟩ := DataW.trod_int Try.underlying3 k4
        simp at e0 e1 e2 e3 e4
        obtain ⟨A1, b1, l1, r1, C1⟩ := slice1 g1
        obtain ⟨A2, b2, l2, r2, C2⟩ := slice1 g2
        obtain ⟨A3, b3, l3, r3, C3⟩ := slice1 g3
        exact ⟨a0, a1, a2, a3, a4, A1, b1, l1, A2, b2, l2, A3, b3, l3, by rw [e0, e1, e2, e3, e4, r1, r2, r3], w0, C1, C2, C3⟩
set_option maxRecDepth 100000 in
theorem lifted (os : Os) (started : os.Started) (H : Type) (enc : TypeId × Value → H) :
    ReturnsInHanded {} Try.checked os 6 .any (Rows.rabinMeetingSpec.pre6 enc Try.prog Try.f6 Rows.rabinMeetingRow.domain false) (Rows.rabinMeetingSpec.post enc Try.prog Try.f6 false true false false) := by
  refine returnsInHanded_of_change_sized (C := Try.checked) own started (by kernel_rfl) Try.func6
    (ChangeSpec.witness6 (enc := enc) (C := Try.checked) false ⟨#[], #[.agg #[.int .u64 0, .int .i64 0, .int .i64 0, .int .i64 0, .int .i64 0, .slice none 0 0, .slice none 0 0, .slice none 0 0]], []⟩ 8 (by kernel_rfl) (by kernel_rfl) (by kernel_rfl) (by kernel_rfl)) ?_
  intro W base args ds gs before hval0 hW hcnd hsz0 _
  have hsz : (DataW.weightsEach Try.prog (Try.f6.params.toList ++ Rows.rabinMeetingSpec.plain.varTypes Try.prog) (ds ++ gs)).all (· ≤ reachBytes) = true := hsz0
  have hval : ∀ (j : Nat) t v, Try.f6.params[j]? = some t → args[j]? = some v → Value.okWide Try.prog W .any base t v := hval0
  have hW' := hW
  obtain ⟨p, q, hA0, hV, rfl, hfz, hnd⟩ := hW
  have hA : DataW.TrodAll enc Try.prog W 0 (fun _ => true) true Try.f6.params.toList args.toList ds p := hA0
  rw [Try.params6] at hA hval hsz
  obtain ⟨v0, vs0, d0, ds0, p0, q0, hargs, rfl, rfl, h0, r0⟩ := trodAll_cons hA
  obtain ⟨rfl, rfl, rfl⟩ := trodAll_nil r0
  obtain rfl : args = #[v0] := by cases args; simp_all
  obtain ⟨rfl, rfl⟩ := trodVars_none hV
  have k0 := h0
  have lt0 : ∀ x ∈ p0, x.block < W.heap.size := by obtain ⟨m, hm⟩ := k0; exact DataW.trod_lt m _ _ _ hm
  obtain ⟨b0_0, b0_1, b0_2, b0_3, b0_4, A1, e1, l1, A2, e2, l2, A3, e3, l3, rfl, w0_0, ⟨w1, hn1, hs1⟩, ⟨w2, hn2, hs2⟩, ⟨w3, hn3, hs3⟩⟩ := open_47 (hval 0 47 v0 rfl rfl) h0
  clear hA0 hval0 hsz0 hsz
  have u8_range : ∀ n : Int, (Lit.int .u8 n).wf = true → 0 ≤ n ∧ n < 256 := by
    intro n h
    simp [Lit.wf, IntKind.min, IntKind.max, IntKind.signed, IntKind.bits] at h
    omega
  obtain ⟨p, p64, rfl⟩ := PB.u64_nat b0_0 w0_0
  obtain ⟨k, hk⟩ := RW.meets_law p p64 b0_1 b0_2 b0_3 b0_4 l1 l2 l3 (fun x hx => u8_range x (hs1 x hx)) (fun x hx => u8_range x (hs2 x hx)) (fun x hx => u8_range x (hs3 x hx))
  have hk2 : PRabin.amphoralaw07_RabinMeeting.f k (p : Int) b0_1 b0_2 b0_3 b0_4 l1 l2 l3 = some true := by unfold PRabin.amphoralaw07_RabinMeeting.f; rw [hk]; rfl
  refine (PRabin.amphoralaw07_RabinMeeting.calls k _ _ _ _ _ A1 e1 l1 A2 e2 l2 A3 e3 l3 true W w1 hn1 w2 hn2 w3 hn3 hk2).mono fun e W' ⟨he, bel⟩ => ?_
  subst he
  exact ⟨_, rfl, _, _, _, [], _, [], hW', trodAll_mk1 (shut_bool Try.underlying4 _), (trodAll_cons_mk (Below.trod laidOut (by kernel_rfl) (of_decide_eq_true (by kernel_rfl)) k0 bel lt0) trodAll_mk0), rfl, bel.frame _, fun h => by cases h⟩
theorem over : Rows.rabinMeetingRow.holds Try.pinned (OpenSpec.ofChange Rows.rabinMeetingSpec) :=
  OpenClaim.holds_of_wide 6 Try.f6 rfl rfl rfl rfl rfl rfl rfl ⟨rfl, rfl, rfl, rfl, rfl⟩ rfl rfl rfl rfl rfl (by kernel_rfl) Try.func6 (by kernel_rfl)
    (of_decide_eq_true (by kernel_rfl)) (by unfold Func.isWrapper; first | (rw [if_pos (by decide +kernel)]; kernel_rfl) | (rw [if_neg (by decide +kernel)]; exact ⟨rfl, rfl⟩))
    (fun os started H enc _ => lifted os started H enc)
theorem proved : Rows.RabinMeetingSaid := over
#print axioms proved
end Go.Proofs.Ytoofafgnlgaajaa.rabinMeeting
namespace Go.Proofs.Ytoofafgnlgaajaa
/-- The row, under a short name, for the claim. -/
theorem rabinMeeting_holds : Rows.RabinMeetingSaid := rabinMeeting.proved
end Go.Proofs.Ytoofafgnlgaajaa
