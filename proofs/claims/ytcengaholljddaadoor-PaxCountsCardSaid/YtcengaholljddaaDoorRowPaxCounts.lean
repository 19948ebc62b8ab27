/- The row of the statement PaxCounts: the call answers true. Conditions: none but the row's own. -/
import Derived.Test.YtcengaholljddaaDoorRows
import Derived.Test.YtcengaholljddaaDoorOCounts
import Derived.Test.YtcengaholljddaaDoorPX11
import Derived.Test.YtcengaholljddaaDoorPX4
import Derived.Test.YtcengaholljddaaDoorLaid
import Derived.Test.YtcengaholljddaaDoorTie
import Derived.Test.YtcengaholljddaaDoorCards
import Derived.SevenTiedAt
import Derived.WitnessAt
import Derived.WalkKit
import Derived.ProofKit
import Derived.OpenShut
import Derived.ShutString
import Derived.ChangeOld
import Derived.Below
import Derived.SizedLaws
import Derived.Carry
import Derived.Deep.Fields
namespace Go.Proofs.YtcengaholljddaaDoor.paxCounts
open Go.ChangeShapes Go.WideShapes Go.ChangeAt Go.RowKit
open Go.ChangeMaps (open_string shut_string)
set_option linter.unusedVariables false
set_option linter.unusedSimpArgs false
theorem own : ownKnob Tryd.prog.godebug = none := by kernel_rfl
theorem laidOut : laidOutB Tryd.prog = true := by kernel_rfl
set_option maxRecDepth 100000 in
theorem lifted (os : Os) (started : os.Started) (H : Type) (enc : TypeId × Value → H) :
    ReturnsInHanded {} Tryd.checked os 5 .any (fun w args => (Rows.paxCountsSpec.pre enc Tryd.prog Tryd.f5 [] false w args ∧ laidMetH Tryd.prog Laid.list w) ∧ sizedMet enc Tryd.prog Tryd.f5 (OpenSpec.ofChange Rows.paxCountsSpec) false w args) (Rows.paxCountsSpec.post enc Tryd.prog Tryd.f5 false true false false) := by
  refine returnsInHanded_of_change_and (C := Tryd.checked) (X := fun w _ => laidMetH Tryd.prog Laid.list w) (fun _ _ _ hh h => h.of_heap hh) own started (by kernel_rfl) Tryd.func5
    (ChangeSpec.witness_at (enc := enc) (C := Tryd.checked) (os := os) (X := fun w _ => laidMetH Tryd.prog Laid.list w) false (Laid.world os) #[.string ByteArray.empty, .string ByteArray.empty, .int .i64 0] 8 rfl (by kernel_rfl) (by kernel_rfl) (by kernel_rfl) (by kernel_rfl) (by kernel_rfl) (Laid.world_met os _)) ?_
  intro W base args ds gs before hval0 hW hcnd hsz0 hL _
  have hGl := Laid.gl hL
  clear hL
  have hsz : (DataW.weightsEach Tryd.prog (Tryd.f5.params.toList ++ Rows.paxCountsSpec.plain.varTypes Tryd.prog) (ds ++ gs)).all (· ≤ reachBytes) = true := hsz0
  have hval : ∀ (j : Nat) t v, Tryd.f5.params[j]? = some t → args[j]? = some v → Value.okWide Tryd.prog W .any base t v := hval0
  have hW' := hW
  obtain ⟨p, q, hA0, hV, rfl, hfz, hnd⟩ := hW
  have hA : DataW.TrodAll enc Tryd.prog W 0 (fun _ => true) true Tryd.f5.params.toList args.toList ds p := hA0
  rw [Tryd.params5] at hA hval hsz
  obtain ⟨v0, vs0, d0, ds0, p0, q0, hargs, rfl, rfl, h0, r0⟩ := trodAll_cons hA
  obtain ⟨v1, vs1, d1, ds1, p1, q1, rfl, rfl, rfl, h1, r1⟩ := trodAll_cons r0
  obtain ⟨v2, vs2, d2, ds2, p2, q2, rfl, rfl, rfl, h2, r2⟩ := trodAll_cons r1
  obtain ⟨rfl, rfl, rfl⟩ := trodAll_nil r2
  obtain rfl : args = #[v0, v1, v2] := by cases args; simp_all
  obtain ⟨rfl, rfl⟩ := trodVars_none hV
  obtain ⟨b0, rfl, rfl, rfl, y0⟩ := open_string Tryd.underlying9 (hval 0 9 v0 rfl rfl) h0
  have w0 : b0.size ≤ 140737488351232 := by
    have z := sized_string hsz (j := 0) (t := 9) rfl rfl
    rw [Array.length_toList] at z
    exact z
  obtain ⟨b1, rfl, rfl, rfl, y1⟩ := open_string Tryd.underlying9 (hval 1 9 v1 rfl rfl) h1
  have w1 : b1.size ≤ 140737488351232 := by
    have z := sized_string hsz (j := 1) (t := 9) rfl rfl
    rw [Array.length_toList] at z
    exact z
  obtain ⟨b2, rfl, rfl, rfl, w2⟩ := open_int Tryd.underlying3 (hval 2 3 v2 rfl rfl) h2
  clear hA0 hval0 hsz0 hsz
  obtain ⟨k, hk, hh⟩ := PX.counts b0 b1
  refine (show Calls Tryd.prog 5 #[.string b0, .string b1, .int .i64 b2] W fun e w' => e = .returned (.bool true) ∧ Below W.heap.size W w' from ?_).mono fun e W' ⟨he, bel⟩ => ?_
  · rcases hh with hh | ⟨s, n, F, h1, h2⟩
    · exact PPax.OC.walk_err k b0 b1 b2 W hGl (PX.alive_f k hk) hh
    · by_cases c0 : 0 < b2
      · by_cases c1 : b2 < s.size
        · exact PPax.OC.walk_cut k b0 b1 s n _ b2 W hGl (PX.alive_f k hk) F c0 c1 rfl (h2 b2 c0 c1)
        · exact PPax.OC.walk_full1 k b0 b1 s n b2 W hGl (PX.alive_f k hk) F c0 c1 h1
      · exact PPax.OC.walk_full0 k b0 b1 s n b2 W hGl (PX.alive_f k hk) F c0 h1
  subst he
  exact ⟨_, rfl, _, _, _, [], _, [], hW', trodAll_mk1 (shut_bool Tryd.underlying4 _), (trodAll_cons_mk (shut_string Tryd.underlying9 y0) (trodAll_cons_mk (shut_string Tryd.underlying9 y1) (trodAll_cons_mk (shut_int Tryd.underlying3 w2) trodAll_mk0))), rfl, bel.frame _, fun h => by cases h⟩
theorem over : Rows.paxCountsRow.holds Tryd.pinned (OpenSpec.ofChange Rows.paxCountsSpec) :=
  OpenClaim.holds_of_wide 5 Tryd.f5 rfl rfl rfl rfl rfl rfl rfl ⟨rfl, rfl, rfl, rfl, rfl⟩ rfl rfl rfl rfl rfl (by kernel_rfl) Tryd.func5 (by kernel_rfl)
    (of_decide_eq_true (by kernel_rfl)) (by unfold Func.isWrapper; first | (rw [if_pos (by decide +kernel)]; kernel_rfl) | (rw [if_neg (by decide +kernel)]; exact ⟨rfl, rfl⟩))
    (fun os started H enc _ => lifted os started H enc)
theorem card_holds : Rows.PaxCountsCardSaid :=
  Claim7.holds_tied_plain_at .later [] [.data, .data, .data, .sentinel, .sentinel] true (true, "9fdc790ed01ac9da7579eebd23fbdfc49dca3a4ee3517cfc4c5c1e60637ccadc") true
    over (fun _ h => by cases h) (by kernel_rfl) (fun _ h => by cases h) paxCounts_row_tie rfl ⟨rfl, rfl⟩ (by kernel_rfl) rfl
    (fun f fn hf hfn => by
      obtain rfl : f = 5 := Option.some.inj ((show Tryd.prog.funcNamed Rows.paxCountsRow.func = some 5 by kernel_rfl).symm.trans hf) |>.symm
      obtain rfl : fn = Tryd.f5 := (Option.some.inj (Tryd.func5.symm.trans hfn)).symm
      exact ⟨by kernel_rfl, fun j t ht => by
        have hm : t ∈ Tryd.f5.params.toList := List.mem_of_getElem? (by rw [Array.getElem?_toList]; exact ht)
        rw [Tryd.params5] at hm
        have hall : ∀ u ∈ [9, 9, 3], Tryd.prog.wantsStandIn u = false := by
          intro u hu
          simp only [List.mem_cons, List.not_mem_nil, or_false] at hu
          rcases hu with rfl | rfl | rfl <;> kernel_rfl
        exact hall t hm⟩)
    (by kernel_rfl)
#print axioms card_holds
end Go.Proofs.YtcengaholljddaaDoor.paxCounts
namespace Go.Proofs.YtcengaholljddaaDoor
/-- The card, under a short name, for the claim. -/
theorem paxCounts_holds : Rows.PaxCountsCardSaid := paxCounts.card_holds
end Go.Proofs.YtcengaholljddaaDoor
