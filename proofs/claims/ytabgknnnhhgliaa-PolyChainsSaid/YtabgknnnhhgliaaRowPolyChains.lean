/- The row of the statement PolyChains: the call answers true. Conditions: none but the row's own. -/
import Derived.Test.YtabgknnnhhgliaaRows
import Derived.Test.YtabgknnnhhgliaaPurePolyChains
import Derived.WalkKit
import Derived.ProofKit
import Derived.OpenShut
import Derived.ShutString
import Derived.ChangeOld
import Derived.Below
import Derived.SizedLaws
import Derived.Carry
import Derived.Deep.Fields
namespace Go.Proofs.Ytabgknnnhhgliaa.polyChains
open Go.ChangeShapes Go.WideShapes Go.ChangeAt Go.RowKit
open Go.ChangeMaps (open_string shut_string)
set_option linter.unusedVariables false
set_option linter.unusedSimpArgs false
theorem own : ownKnob Try.prog.godebug = none := by kernel_rfl
theorem laidOut : laidOutB Try.prog = true := by kernel_rfl
theorem slice_41 {H : Type} {enc : TypeId × Value → H} {w : World} {base : Nat} {spare : Nat → Bool} {held : Bool} {A : Option Addr} {len cap : Nat} {d : DataW H} {ps : List MemPlace} (u : Try.prog.underlying 41 = some (.slice 22))
    (hd : DataW.Trod enc Try.prog w base spare held 41 (.slice A len cap) d ps) : ∃ l : List Int, Go.Proofs.YtabgknnnhhgliaaW.PrintWords.Kd.C (Go.Proofs.YtabgknnnhhgliaaW.PrintWords.Kd.int .u64) w A l.length l ∧ l.length = len ∧ len ≤ cap ∧ ∀ n ∈ l, (Lit.int .u64 n).wf = true := by
  obtain ⟨fuel, hf⟩ := hd
  rcases open_ints u Try.underlying22 (by kernel_rfl) hf with ⟨hcs, _⟩ | ⟨x, l, c, zs, hcs, _, hl, hm, hz, _, hcell, hwz⟩
  · simp [Value.cells] at hcs
    obtain ⟨rfl, rfl, rfl⟩ := hcs
    exact ⟨[], ⟨rfl, by simp, (fun h => absurd h (by simp))⟩, rfl, Nat.le_refl _, (fun n hn => by cases hn)⟩
  · simp [Value.cells] at hcs
    obtain ⟨rfl, rfl, rfl⟩ := hcs
    unfold maxLen at hm
    have hzl : len ≤ zs.length := by rw [hz]; split <;> omega
    refine ⟨zs.take len, ⟨rfl, by rw [List.length_take]; omega, fun _ => ⟨x, rfl, fun j p hp => ⟨[.int .u64 p], rfl, rfl, fun i u hu => ?_⟩⟩⟩, by rw [List.length_take]; omega, hl, fun n hn => hwz n (List.mem_of_mem_take hn)⟩
    have hj : j < (zs.take len).length := (List.getElem?_eq_some_iff.1 hp).1
    rw [List.length_take] at hj
    rw [List.getElem?_take_of_lt (by omega)] at hp
    have hi : i = 0 := by
      cases i with
      | zero => rfl
      | succ i => simp at hu
    subst hi
    have hu' : u = .int .u64 p := by simpa using hu.symm
    subst hu'
    have hc := hcell j (by omega)
    rw [List.getD_eq_getElem?_getD, hp] at hc
    simpa [Go.Proofs.YtabgknnnhhgliaaW.PrintWords.Kd.int, Go.Proofs.YtabgknnnhhgliaaW.PrintWords.Kd.scalar] using hc
set_option maxRecDepth 100000 in
theorem lifted (os : Os) (started : os.Started) (H : Type) (enc : TypeId × Value → H) :
    ReturnsInHanded {} Try.checked os 8 .any (Rows.polyChainsSpec.pre6 enc Try.prog Try.f8 Rows.polyChainsRow.domain false) (Rows.polyChainsSpec.post enc Try.prog Try.f8 false true false false) := by
  refine returnsInHanded_of_change_sized (C := Try.checked) own started (by kernel_rfl) Try.func8
    (ChangeSpec.witness6 (enc := enc) (C := Try.checked) false ⟨#[], #[.int .u64 0, .slice none 0 0, .int .i64 0], []⟩ 8 (by kernel_rfl) (by kernel_rfl) (by kernel_rfl) (by kernel_rfl)) ?_
  intro W base args ds gs before hval0 hW hcnd hsz0 _
  have hsz : (DataW.weightsEach Try.prog (Try.f8.params.toList ++ Rows.polyChainsSpec.plain.varTypes Try.prog) (ds ++ gs)).all (· ≤ reachBytes) = true := hsz0
  have hval : ∀ (j : Nat) t v, Try.f8.params[j]? = some t → args[j]? = some v → Value.okWide Try.prog W .any base t v := hval0
  have hW' := hW
  obtain ⟨p, q, hA0, hV, rfl, hfz, hnd⟩ := hW
  have hA : DataW.TrodAll enc Try.prog W 0 (fun _ => true) true Try.f8.params.toList args.toList ds p := hA0
  rw [Try.params8] at hA hval hsz
  obtain ⟨v0, vs0, d0, ds0, p0, q0, hargs, rfl, rfl, h0, r0⟩ := trodAll_cons hA
  obtain ⟨v1, vs1, d1, ds1, p1, q1, rfl, rfl, rfl, h1, r1⟩ := trodAll_cons r0
  obtain ⟨v2, vs2, d2, ds2, p2, q2, rfl, rfl, rfl, h2, r2⟩ := trodAll_cons r1
  obtain ⟨rfl, rfl, rfl⟩ := trodAll_nil r2
  obtain rfl : args = #[v0, v1, v2] := by cases args; simp_all
  obtain ⟨rfl, rfl⟩ := trodVars_none hV
  obtain ⟨b0, rfl, rfl, rfl, w0⟩ := open_int Try.underlying22 (hval 0 22 v0 rfl rfl) h0
  have k1 := h1
  have lt1 : ∀ x ∈ p1, x.block < W.heap.size := by obtain ⟨m, hm⟩ := k1; exact DataW.trod_lt m _ _ _ hm
  obtain ⟨a1, len1, cap1, rfl⟩ := okWide_slice Try.underlying41 (hval 1 41 v1 rfl rfl)
  obtain ⟨z1, w1, hl1, hn1, hs1⟩ := slice_41 (u := Try.underlying41) h1
  obtain ⟨b2, rfl, rfl, rfl, w2⟩ := open_int Try.underlying3 (hval 2 3 v2 rfl rfl) h2
  clear hA0 hval0 hsz0 hsz
  obtain ⟨m, m64, rfl⟩ := PB.u64_nat b0 w0
  have hnat : ∃ l : List Nat, (∀ x ∈ l, x < 2 ^ 64) ∧ z1 = l.map Int.ofNat := by
    clear w1 hl1 lt1 h1 k1 hn1
    induction z1 with
    | nil => exact ⟨[], (fun x hx => by cases hx), rfl⟩
    | cons a z ih =>
      obtain ⟨l, h1, h2⟩ := ih (fun n hn => hs1 n (List.mem_cons_of_mem _ hn))
      obtain ⟨x, hx, e⟩ := PB.u64_nat a (hs1 a List.mem_cons_self)
      refine ⟨x :: l, fun y hy => ?_, by rw [h2, e]; rfl⟩
      rcases List.mem_cons.1 hy with rfl | hy
      · exact hx
      · exact h1 y hy
  obtain ⟨l, l64, rfl⟩ := hnat
  have n63 : b2 ≤ 9223372036854775807 := by
    have := w2
    simp [Lit.wf, IntKind.min, IntKind.max, IntKind.signed, IntKind.bits] at this
    exact this.2
  subst hl1
  refine (Pure.PolyChains m m64 l l64 b2 n63 a1 cap1 W w1 hn1).mono fun e W' ⟨he, bel⟩ => ?_
  subst he
  exact ⟨_, rfl, _, _, _, [], _, [], hW', trodAll_mk1 (shut_bool Try.underlying4 _), (trodAll_cons_mk (shut_int Try.underlying22 w0) (trodAll_cons_mk (Below.trod laidOut (by kernel_rfl) (of_decide_eq_true (by kernel_rfl)) k1 bel lt1) (trodAll_cons_mk (shut_int Try.underlying3 w2) trodAll_mk0))), rfl, bel.frame _, fun h => by cases h⟩
theorem over : Rows.polyChainsRow.holds Try.pinned (OpenSpec.ofChange Rows.polyChainsSpec) :=
  OpenClaim.holds_of_wide 8 Try.f8 rfl rfl rfl rfl rfl rfl rfl ⟨rfl, rfl, rfl, rfl, rfl⟩ rfl rfl rfl rfl rfl (by kernel_rfl) Try.func8 (by kernel_rfl)
    (of_decide_eq_true (by kernel_rfl)) (by unfold Func.isWrapper; first | (rw [if_pos (by decide +kernel)]; kernel_rfl) | (rw [if_neg (by decide +kernel)]; exact ⟨rfl, rfl⟩))
    (fun os started H enc _ => lifted os started H enc)
theorem proved : Rows.PolyChainsSaid := over
#print axioms proved
end Go.Proofs.Ytabgknnnhhgliaa.polyChains
namespace Go.Proofs.Ytabgknnnhhgliaa
/-- The row, under a short name, for the claim. -/
theorem polyChains_holds : Rows.PolyChainsSaid := polyChains.proved
end Go.Proofs.Ytabgknnnhhgliaa
