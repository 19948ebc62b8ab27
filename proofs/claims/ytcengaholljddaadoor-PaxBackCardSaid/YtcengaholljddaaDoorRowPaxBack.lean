/- The row of the statement PaxBack: the call answers true. Conditions: none but the row's own. -/
import Derived.Test.YtcengaholljddaaDoorRows
import Derived.Test.YtcengaholljddaaDoorPairs
import Derived.Test.YtcengaholljddaaDoorOBack
import Derived.Test.YtcengaholljddaaDoorPX12
import Derived.Test.YtcengaholljddaaDoorPX4
import Derived.Test.YtcengaholljddaaDoorLaid
import Derived.Test.YtcengaholljddaaDoorTie
import Derived.Test.YtcengaholljddaaDoorCards
import Derived.SevenTiedAt
import Derived.WitnessAt
import Derived.WalkKit
import Derived.ProofKit
import Derived.OpenShut
import Derived.ShutString
import Derived.ChangeOld
import Derived.Below
import Derived.SizedLaws
import Derived.Carry
import Derived.Deep.Fields
namespace Go.Proofs.YtcengaholljddaaDoor.paxBack
open Go.ChangeShapes Go.WideShapes Go.ChangeAt Go.RowKit
open Go.ChangeMaps (open_string shut_string)
set_option linter.unusedVariables false
set_option linter.unusedSimpArgs false
theorem own : ownKnob Tryd.prog.godebug = none := by kernel_rfl
theorem laidOut : laidOutB Tryd.prog = true := by kernel_rfl
theorem slice_31 {H : Type} {enc : TypeId × Value → H} {w : World} {base : Nat} {spare : Nat → Bool} {held : Bool} {A : Option Addr} {len cap : Nat} {d : DataW H} {ps : List MemPlace} (u : Tryd.prog.underlying 31 = some (.slice 5))
    (hd : DataW.Trod enc Tryd.prog w base spare held 31 (.slice A len cap) d ps) : ∃ l : List Int, Go.Proofs.YtcengaholljddaaDoorW.PrintWords.Kd.C (Go.Proofs.YtcengaholljddaaDoorW.PrintWords.Kd.int .u8) w A l.length l ∧ l.length = len ∧ len ≤ cap ∧ (∀ n ∈ l, (Lit.int .u8 n).wf = true) ∧ ((d = .nil ∧ l = []) ∨ ∃ es sp, d = .slice es sp ∧ es.length = l.length) := by
  obtain ⟨fuel, hf⟩ := hd
  rcases open_ints u Tryd.underlying5 (by kernel_rfl) hf with ⟨hcs, hxx⟩ | ⟨x, l, c, zs, hcs, _, hl, hm, hz, hxx, hcell, hwz⟩
  · simp [Value.cells] at hcs
    obtain ⟨rfl, rfl, rfl⟩ := hcs
    exact ⟨[], ⟨rfl, by simp, (fun h => absurd h (by simp))⟩, rfl, Nat.le_refl _, (fun n hn => by cases hn), .inl ⟨congrArg Prod.fst hxx, rfl⟩⟩
  · simp [Value.cells] at hcs
    obtain ⟨rfl, rfl, rfl⟩ := hcs
    unfold maxLen at hm
    have hzl : len ≤ zs.length := by rw [hz]; split <;> omega
    refine ⟨zs.take len, ⟨rfl, by rw [List.length_take]; omega, fun _ => ⟨x, rfl, fun j p hp => ⟨[.int .u8 p], rfl, rfl, fun i u hu => ?_⟩⟩⟩, by rw [List.length_take]; omega, hl, (fun n hn => hwz n (List.mem_of_mem_take hn)), .inr ⟨_, _, congrArg Prod.fst hxx, by simp [lits]⟩⟩
    have hj : j < (zs.take len).length := (List.getElem?_eq_some_iff.1 hp).1
    rw [List.length_take] at hj
    rw [List.getElem?_take_of_lt (by omega)] at hp
    have hi : i = 0 := by
      cases i with
      | zero => rfl
      | succ i => simp at hu
    subst hi
    have hu' : u = .int .u8 p := by simpa using hu.symm
    subst hu'
    have hc := hcell j (by omega)
    rw [List.getD_eq_getElem?_getD, hp] at hc
    simpa [Go.Proofs.YtcengaholljddaaDoorW.PrintWords.Kd.int, Go.Proofs.YtcengaholljddaaDoorW.PrintWords.Kd.scalar] using hc
set_option maxRecDepth 100000 in
theorem lifted (os : Os) (started : os.Started) (H : Type) (enc : TypeId × Value → H) :
    ReturnsInHanded {} Tryd.checked os 6 .any (fun w args => (Rows.paxBackSpec.pre enc Tryd.prog Tryd.f6 [] false w args ∧ laidMetH Tryd.prog Laid.list w) ∧ sizedMet enc Tryd.prog Tryd.f6 (OpenSpec.ofChange Rows.paxBackSpec) false w args) (Rows.paxBackSpec.post enc Tryd.prog Tryd.f6 false true false false) := by
  refine returnsInHanded_of_change_and (C := Tryd.checked) (X := fun w _ => laidMetH Tryd.prog Laid.list w) (fun _ _ _ hh h => h.of_heap hh) own started (by kernel_rfl) Tryd.func6
    (ChangeSpec.witness_at (enc := enc) (C := Tryd.checked) (os := os) (X := fun w _ => laidMetH Tryd.prog Laid.list w) false (Laid.world os) #[.slice none 0 0, .slice none 0 0] 8 rfl (by kernel_rfl) (by kernel_rfl) (by kernel_rfl) (by kernel_rfl) (by kernel_rfl) (Laid.world_met os _)) ?_
  intro W base args ds gs before hval0 hW hcnd hsz0 hL _
  have hGl := Laid.gl hL
  clear hL
  have hsz : (DataW.weightsEach Tryd.prog (Tryd.f6.params.toList ++ Rows.paxBackSpec.plain.varTypes Tryd.prog) (ds ++ gs)).all (· ≤ reachBytes) = true := hsz0
  have hval : ∀ (j : Nat) t v, Tryd.f6.params[j]? = some t → args[j]? = some v → Value.okWide Tryd.prog W .any base t v := hval0
  have hW' := hW
  obtain ⟨p, q, hA0, hV, rfl, hfz, hnd⟩ := hW
  have hA : DataW.TrodAll enc Tryd.prog W 0 (fun _ => true) true Tryd.f6.params.toList args.toList ds p := hA0
  rw [Tryd.params6] at hA hval hsz
  obtain ⟨v0, vs0, d0, ds0, p0, q0, hargs, rfl, rfl, h0, r0⟩ := trodAll_cons hA
  obtain ⟨v1, vs1, d1, ds1, p1, q1, rfl, rfl, rfl, h1, r1⟩ := trodAll_cons r0
  obtain ⟨rfl, rfl, rfl⟩ := trodAll_nil r1
  obtain rfl : args = #[v0, v1] := by cases args; simp_all
  obtain ⟨rfl, rfl⟩ := trodVars_none hV
  have k0 := h0
  have lt0 : ∀ x ∈ p0, x.block < W.heap.size := by obtain ⟨m, hm⟩ := k0; exact DataW.trod_lt m _ _ _ hm
  obtain ⟨a0, len0, cap0, rfl⟩ := okWide_slice Tryd.underlying33 (hval 0 33 v0 rfl rfl)
  obtain ⟨z0, w0, hl0, hn0, hd0⟩ := PPax.Pairs.opened h0
  have zl0 : PPax.Pairs.Sized z0 := by
    rcases hd0 with ⟨_, h⟩ | ⟨sp, rfl⟩
    · rw [h]; exact PPax.Pairs.sized_nil
    · exact PPax.Pairs.sized hsz (j := 0) rfl rfl
  have k1 := h1
  have lt1 : ∀ x ∈ p1, x.block < W.heap.size := by obtain ⟨m, hm⟩ := k1; exact DataW.trod_lt m _ _ _ hm
  obtain ⟨a1, len1, cap1, rfl⟩ := okWide_slice Tryd.underlying31 (hval 1 31 v1 rfl rfl)
  obtain ⟨z1, w1, hl1, hn1, hs1, hd1⟩ := slice_31 (u := Tryd.underlying31) h1
  have zl1 : z1.length ≤ 140737488351232 := by
    rcases hd1 with ⟨_, h⟩ | ⟨es, sp, rfl, h⟩
    · rw [h]; decide
    · have z := sized_slice hsz (j := 1) (t := 31) rfl rfl Tryd.underlying31
      have hb : Tryd.prog.bytesOf 5 = 1 := by kernel_rfl
      have hr : reachBytes = 140737488351232 := rfl
      rw [hb, hr] at z
      omega
  clear hA0 hval0 hsz0 hsz
  have u8_range : ∀ n : Int, (Lit.int .u8 n).wf = true → 0 ≤ n ∧ n < 256 := by
    intro n h
    simp [Lit.wf, IntKind.min, IntKind.max, IntKind.signed, IntKind.bits] at h
    omega
  have hby : PX.Byt z1 := fun x hx => u8_range x (hs1 x hx)
  obtain ⟨k, hk, hh⟩ := PX.back z0 z1 zl0.2 zl0.1 hby
  have ha := PX.alive_f k hk
  subst hl0
  subst hl1
  refine (show Calls Tryd.prog 6 #[.slice a0 z0.length cap0, .slice a1 z1.length cap1] W fun e w' => e = .returned (.bool true) ∧ Below W.heap.size W w' from ?_).mono fun e W' ⟨he, bel⟩ => ?_
  · rcases hh with hh | ⟨h1, h2, h3, h4⟩
    · exact PPax.OB.walk_large k a0 cap0 z0 a1 cap1 z1 W hGl w0 hn0 w1 hn1 ha hh
    · by_cases hb : z1.length ≤ 262144
      · rcases h3 with h3 | ⟨x, x1, x2, x3, x4⟩ <;> rcases h4 with h4 | ⟨res, r1, r2⟩
        · exact PPax.OB.walk_ee k a0 cap0 z0 a1 cap1 z1 W hGl w0 hn0 w1 hn1 ha h1 hb h3 h4
        · exact PPax.OB.walk_eo res k a0 cap0 z0 a1 cap1 z1 W hGl w0 hn0 w1 hn1 ha h1 hb h3 r1 r2
        · exact PPax.OB.walk_oe x k a0 cap0 z0 a1 cap1 z1 W hGl w0 hn0 w1 hn1 ha h1 hb h2 x1 x2 x3 x4 h4
        · exact PPax.OB.walk_oo res x k a0 cap0 z0 a1 cap1 z1 W hGl w0 hn0 w1 hn1 ha h1 hb h2 x1 x2 x3 x4 r1 r2
      · exact PPax.OB.walk_long k a0 cap0 z0 a1 cap1 z1 W hGl w0 hn0 w1 hn1 ha h1 (by omega)
  subst he
  exact ⟨_, rfl, _, _, _, [], _, [], hW', trodAll_mk1 (shut_bool Tryd.underlying4 _), (trodAll_cons_mk (Below.trod laidOut (by kernel_rfl) (of_decide_eq_true (by kernel_rfl)) k0 bel lt0) (trodAll_cons_mk (Below.trod laidOut (by kernel_rfl) (of_decide_eq_true (by kernel_rfl)) k1 bel lt1) trodAll_mk0)), rfl, bel.frame _, fun h => by cases h⟩
theorem over : Rows.paxBackRow.holds Tryd.pinned (OpenSpec.ofChange Rows.paxBackSpec) :=
  OpenClaim.holds_of_wide 6 Tryd.f6 rfl rfl rfl rfl rfl rfl rfl ⟨rfl, rfl, rfl, rfl, rfl⟩ rfl rfl rfl rfl rfl (by kernel_rfl) Tryd.func6 (by kernel_rfl)
    (of_decide_eq_true (by kernel_rfl)) (by unfold Func.isWrapper; first | (rw [if_pos (by decide +kernel)]; kernel_rfl) | (rw [if_neg (by decide +kernel)]; exact ⟨rfl, rfl⟩))
    (fun os started H enc _ => lifted os started H enc)
theorem card_holds : Rows.PaxBackCardSaid :=
  Claim7.holds_tied_plain_at .later [] [.data, .data, .data, .sentinel, .sentinel] true (true, "9fdc790ed01ac9da7579eebd23fbdfc49dca3a4ee3517cfc4c5c1e60637ccadc") true
    over (fun _ h => by cases h) (by kernel_rfl) (fun _ h => by cases h) paxBack_row_tie rfl ⟨rfl, rfl⟩ (by kernel_rfl) rfl
    (fun f fn hf hfn => by
      obtain rfl : f = 6 := Option.some.inj ((show Tryd.prog.funcNamed Rows.paxBackRow.func = some 6 by kernel_rfl).symm.trans hf) |>.symm
      obtain rfl : fn = Tryd.f6 := (Option.some.inj (Tryd.func6.symm.trans hfn)).symm
      exact ⟨by kernel_rfl, fun j t ht => by
        have hm : t ∈ Tryd.f6.params.toList := List.mem_of_getElem? (by rw [Array.getElem?_toList]; exact ht)
        rw [Tryd.params6] at hm
        have hall : ∀ u ∈ [33, 31], Tryd.prog.wantsStandIn u = false := by
          intro u hu
          simp only [List.mem_cons, List.not_mem_nil, or_false] at hu
          rcases hu with rfl | rfl <;> kernel_rfl
        exact hall t hm⟩)
    (by kernel_rfl)
#print axioms card_holds
end Go.Proofs.YtcengaholljddaaDoor.paxBack
namespace Go.Proofs.YtcengaholljddaaDoor
/-- The card, under a short name, for the claim. -/
theorem paxBack_holds : Rows.PaxBackCardSaid := paxBack.card_holds
end Go.Proofs.YtcengaholljddaaDoor
