/- The row of the statement PathJoins: the call answers true. Conditions: none but the row's own. -/
import Derived.Test.YtplhgoccnjgkpaaDoorRows
import Derived.Test.YtplhgoccnjgkpaaDoorStrs
import Derived.Test.YtplhgoccnjgkpaaDoorOJoins
import Derived.Test.YtplhgoccnjgkpaaDoorPM10
import Derived.Test.YtplhgoccnjgkpaaDoorLaid
import Derived.Test.YtplhgoccnjgkpaaDoorTie
import Derived.Test.YtplhgoccnjgkpaaDoorCards
import Derived.SevenTiedAt
import Derived.WitnessAt
import Derived.WalkKit
import Derived.ProofKit
import Derived.OpenShut
import Derived.ShutString
import Derived.ChangeOld
import Derived.Below
import Derived.SizedLaws
import Derived.Carry
import Derived.Deep.Fields
namespace Go.Proofs.YtplhgoccnjgkpaaDoor.pathJoins
open Go.ChangeShapes Go.WideShapes Go.ChangeAt Go.RowKit
open Go.ChangeMaps (open_string shut_string)
set_option linter.unusedVariables false
set_option linter.unusedSimpArgs false
theorem own : ownKnob Tryd.prog.godebug = none := by kernel_rfl
theorem laidOut : laidOutB Tryd.prog = true := by kernel_rfl
set_option maxRecDepth 100000 in
theorem lifted (os : Os) (started : os.Started) (H : Type) (enc : TypeId × Value → H) :
    ReturnsInHanded {} Tryd.checked os 3 .any (fun w args => (Rows.pathJoinsSpec.pre enc Tryd.prog Tryd.f3 [] false w args ∧ laidMetH Tryd.prog Laid.list w) ∧ sizedMet enc Tryd.prog Tryd.f3 (OpenSpec.ofChange Rows.pathJoinsSpec) false w args) (Rows.pathJoinsSpec.post enc Tryd.prog Tryd.f3 false true false false) := by
  refine returnsInHanded_of_change_and (C := Tryd.checked) (X := fun w _ => laidMetH Tryd.prog Laid.list w) (fun _ _ _ hh h => h.of_heap hh) own started (by kernel_rfl) Tryd.func3
    (ChangeSpec.witness_at (enc := enc) (C := Tryd.checked) (os := os) (X := fun w _ => laidMetH Tryd.prog Laid.list w) false (Laid.world os) #[.slice none 0 0, .string ByteArray.empty] 8 rfl (by kernel_rfl) (by kernel_rfl) (by kernel_rfl) (by kernel_rfl) (by kernel_rfl) (Laid.world_met os _)) ?_
  intro W base args ds gs before hval0 hW hcnd hsz0 hL _
  have hGl := Laid.gl hL
  clear hL
  have hsz : (DataW.weightsEach Tryd.prog (Tryd.f3.params.toList ++ Rows.pathJoinsSpec.plain.varTypes Tryd.prog) (ds ++ gs)).all (· ≤ reachBytes) = true := hsz0
  have hval : ∀ (j : Nat) t v, Tryd.f3.params[j]? = some t → args[j]? = some v → Value.okWide Tryd.prog W .any base t v := hval0
  have hW' := hW
  obtain ⟨p, q, hA0, hV, rfl, hfz, hnd⟩ := hW
  have hA : DataW.TrodAll enc Tryd.prog W 0 (fun _ => true) true Tryd.f3.params.toList args.toList ds p := hA0
  rw [Tryd.params3] at hA hval hsz
  obtain ⟨v0, vs0, d0, ds0, p0, q0, hargs, rfl, rfl, h0, r0⟩ := trodAll_cons hA
  obtain ⟨v1, vs1, d1, ds1, p1, q1, rfl, rfl, rfl, h1, r1⟩ := trodAll_cons r0
  obtain ⟨rfl, rfl, rfl⟩ := trodAll_nil r1
  obtain rfl : args = #[v0, v1] := by cases args; simp_all
  obtain ⟨rfl, rfl⟩ := trodVars_none hV
  have k0 := h0
  have lt0 : ∀ x ∈ p0, x.block < W.heap.size := by obtain ⟨m, hm⟩ := k0; exact DataW.trod_lt m _ _ _ hm
  obtain ⟨a0, len0, cap0, rfl⟩ := okWide_slice Tryd.underlying22 (hval 0 22 v0 rfl rfl)
  obtain ⟨z0, w0, hl0, hn0, hd0⟩ := PPath.Strs.opened h0
  have zl0 : PPath.Strs.Sized z0 := by
    rcases hd0 with ⟨_, h⟩ | ⟨sp, rfl⟩
    · rw [h]; exact PPath.Strs.sized_nil
    · exact PPath.Strs.sized hsz (j := 0) rfl rfl
  obtain ⟨b1, rfl, rfl, rfl, y1⟩ := open_string Tryd.underlying9 (hval 1 9 v1 rfl rfl) h1
  have w1 : b1.size ≤ 140737488351232 := by
    have z := sized_string hsz (j := 1) (t := 9) rfl rfl
    rw [Array.length_toList] at z
    exact z
  clear hA0 hval0 hsz0 hsz
  obtain ⟨k, hk⟩ := PM.joins z0 b1 (fun x hx => by have := zl0.2 x hx; omega)
  subst hl0
  refine (PPath.OJ.walk k a0 cap0 z0 b1 W hGl w0 hn0 hk).mono fun e W' ⟨he, bel⟩ => ?_
  subst he
  exact ⟨_, rfl, _, _, _, [], _, [], hW', trodAll_mk1 (shut_bool Tryd.underlying4 _), (trodAll_cons_mk (Below.trod laidOut (by kernel_rfl) (of_decide_eq_true (by kernel_rfl)) k0 bel lt0) (trodAll_cons_mk (shut_string Tryd.underlying9 y1) trodAll_mk0)), rfl, bel.frame _, fun h => by cases h⟩
theorem over : Rows.pathJoinsRow.holds Tryd.pinned (OpenSpec.ofChange Rows.pathJoinsSpec) :=
  OpenClaim.holds_of_wide 3 Tryd.f3 rfl rfl rfl rfl rfl rfl rfl ⟨rfl, rfl, rfl, rfl, rfl⟩ rfl rfl rfl rfl rfl (by kernel_rfl) Tryd.func3 (by kernel_rfl)
    (of_decide_eq_true (by kernel_rfl)) (by unfold Func.isWrapper; first | (rw [if_pos (by decide +kernel)]; kernel_rfl) | (rw [if_neg (by decide +kernel)]; exact ⟨rfl, rfl⟩))
    (fun os started H enc _ => lifted os started H enc)
theorem card_holds : Rows.PathJoinsCardSaid :=
  Claim7.holds_tied_plain_at .later [] [.data, .pinned] true (true, "a8b69350fe812114e01247568b82e1c3c5a4f85190adcdbab03267ae988cf7ef") true
    over (fun _ h => by cases h) (by kernel_rfl) (fun _ h => by cases h) pathJoins_row_tie rfl ⟨rfl, rfl⟩ (by kernel_rfl) rfl
    (fun f fn hf hfn => by
      obtain rfl : f = 3 := Option.some.inj ((show Tryd.prog.funcNamed Rows.pathJoinsRow.func = some 3 by kernel_rfl).symm.trans hf) |>.symm
      obtain rfl : fn = Tryd.f3 := (Option.some.inj (Tryd.func3.symm.trans hfn)).symm
      exact ⟨by kernel_rfl, fun j t ht => by
        have hm : t ∈ Tryd.f3.params.toList := List.mem_of_getElem? (by rw [Array.getElem?_toList]; exact ht)
        rw [Tryd.params3] at hm
        have hall : ∀ u ∈ [22, 9], Tryd.prog.wantsStandIn u = false := by
          intro u hu
          simp only [List.mem_cons, List.not_mem_nil, or_false] at hu
          rcases hu with rfl | rfl <;> kernel_rfl
        exact hall t hm⟩)
    (by kernel_rfl)
#print axioms card_holds
end Go.Proofs.YtplhgoccnjgkpaaDoor.pathJoins
namespace Go.Proofs.YtplhgoccnjgkpaaDoor
/-- The card, under a short name, for the claim. -/
theorem pathJoins_holds : Rows.PathJoinsCardSaid := pathJoins.card_holds
end Go.Proofs.YtplhgoccnjgkpaaDoor
