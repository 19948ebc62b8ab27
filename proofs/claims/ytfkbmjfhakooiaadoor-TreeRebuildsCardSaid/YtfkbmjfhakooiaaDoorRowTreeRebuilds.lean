/- The row of the statement TreeRebuilds: the call answers true. Conditions: none but the row's own. -/
import Derived.Test.YtfkbmjfhakooiaaDoorRows
import Derived.Test.YtfkbmjfhakooiaaDoorLaw2
import Derived.Test.YtfkbmjfhakooiaaDoorLaid
import Derived.Test.YtfkbmjfhakooiaaDoorTie
import Derived.Test.YtfkbmjfhakooiaaDoorCards
import Derived.SevenTiedAt
import Derived.WitnessAt
import Derived.WalkKit
import Derived.ProofKit
import Derived.OpenShut
import Derived.ShutString
import Derived.ChangeOld
import Derived.Below
import Derived.SizedLaws
import Derived.Carry
import Derived.Deep.Fields
namespace Go.Proofs.YtfkbmjfhakooiaaDoor.treeRebuilds
open Go.ChangeShapes Go.WideShapes Go.ChangeAt Go.RowKit
open Go.ChangeMaps (open_string shut_string)
set_option linter.unusedVariables false
set_option linter.unusedSimpArgs false
theorem own : ownKnob Tryd.prog.godebug = none := by kernel_rfl
theorem laidOut : laidOutB Tryd.prog = true := by kernel_rfl
theorem slice_46 {H : Type} {enc : TypeId × Value → H} {w : World} {base : Nat} {spare : Nat → Bool} {held : Bool} {A : Option Addr} {len cap : Nat} {d : DataW H} {ps : List MemPlace} (u : Tryd.prog.underlying 46 = some (.slice 3))
    (hd : DataW.Trod enc Tryd.prog w base spare held 46 (.slice A len cap) d ps) : ∃ l : List Int, Go.Proofs.YtfkbmjfhakooiaaDoorW.PrintWords.Kd.C (Go.Proofs.YtfkbmjfhakooiaaDoorW.PrintWords.Kd.int .i64) w A l.length l ∧ l.length = len ∧ len ≤ cap ∧ (∀ n ∈ l, (Lit.int .i64 n).wf = true) ∧ ((d = .nil ∧ l = []) ∨ ∃ es sp, d = .slice es sp ∧ es.length = l.length) := by
  obtain ⟨fuel, hf⟩ := hd
  rcases open_ints u Tryd.underlying3 (by kernel_rfl) hf with ⟨hcs, hxx⟩ | ⟨x, l, c, zs, hcs, _, hl, hm, hz, hxx, hcell, hwz⟩
  · simp [Value.cells] at hcs
    obtain ⟨rfl, rfl, rfl⟩ := hcs
    exact ⟨[], ⟨rfl, by simp, (fun h => absurd h (by simp))⟩, rfl, Nat.le_refl _, (fun n hn => by cases hn), .inl ⟨congrArg Prod.fst hxx, rfl⟩⟩
  · simp [Value.cells] at hcs
    obtain ⟨rfl, rfl, rfl⟩ := hcs
    unfold maxLen at hm
    have hzl : len ≤ zs.length := by rw [hz]; split <;> omega
    refine ⟨zs.take len, ⟨rfl, by rw [List.length_take]; omega, fun _ => ⟨x, rfl, fun j p hp => ⟨[.int .i64 p], rfl, rfl, fun i u hu => ?_⟩⟩⟩, by rw [List.length_take]; omega, hl, (fun n hn => hwz n (List.mem_of_mem_take hn)), .inr ⟨_, _, congrArg Prod.fst hxx, by simp [lits]⟩⟩
    have hj : j < (zs.take len).length := (List.getElem?_eq_some_iff.1 hp).1
    rw [List.length_take] at hj
    rw [List.getElem?_take_of_lt (by omega)] at hp
    have hi : i = 0 := by
      cases i with
      | zero => rfl
      | succ i => simp at hu
    subst hi
    have hu' : u = .int .i64 p := by simpa using hu.symm
    subst hu'
    have hc := hcell j (by omega)
    rw [List.getD_eq_getElem?_getD, hp] at hc
    simpa [Go.Proofs.YtfkbmjfhakooiaaDoorW.PrintWords.Kd.int, Go.Proofs.YtfkbmjfhakooiaaDoorW.PrintWords.Kd.scalar] using hc
set_option maxRecDepth 100000 in
theorem lifted (os : Os) (started : os.Started) (H : Type) (enc : TypeId × Value → H) :
    ReturnsInHanded {} Tryd.checked os 5 .any (fun w args => (Rows.treeRebuildsSpec.pre enc Tryd.prog Tryd.f5 [] false w args ∧ laidMetH Tryd.prog Laid.list w) ∧ sizedMet enc Tryd.prog Tryd.f5 (OpenSpec.ofChange Rows.treeRebuildsSpec) false w args) (Rows.treeRebuildsSpec.post enc Tryd.prog Tryd.f5 false true false false) := by
  refine returnsInHanded_of_change_and (C := Tryd.checked) (X := fun w _ => laidMetH Tryd.prog Laid.list w) (fun _ _ _ hh h => h.of_heap hh) own started (by kernel_rfl) Tryd.func5
    (ChangeSpec.witness_at (enc := enc) (C := Tryd.checked) (os := os) (X := fun w _ => laidMetH Tryd.prog Laid.list w) false (Laid.world os) #[.slice none 0 0, .slice none 0 0] 8 rfl (by kernel_rfl) (by kernel_rfl) (by kernel_rfl) (by kernel_rfl) (by kernel_rfl) (Laid.world_met os _)) ?_
  intro W base args ds gs before hval0 hW hcnd hsz0 hL _
  have hGl := Laid.gl hL
  clear hL
  have hsz : (DataW.weightsEach Tryd.prog (Tryd.f5.params.toList ++ Rows.treeRebuildsSpec.plain.varTypes Tryd.prog) (ds ++ gs)).all (· ≤ reachBytes) = true := hsz0
  have hval : ∀ (j : Nat) t v, Tryd.f5.params[j]? = some t → args[j]? = some v → Value.okWide Tryd.prog W .any base t v := hval0
  have hW' := hW
  obtain ⟨p, q, hA0, hV, rfl, hfz, hnd⟩ := hW
  have hA : DataW.TrodAll enc Tryd.prog W 0 (fun _ => true) true Tryd.f5.params.toList args.toList ds p := hA0
  rw [Tryd.params5] at hA hval hsz
  obtain ⟨v0, vs0, d0, ds0, p0, q0, hargs, rfl, rfl, h0, r0⟩ := trodAll_cons hA
  obtain ⟨v1, vs1, d1, ds1, p1, q1, rfl, rfl, rfl, h1, r1⟩ := trodAll_cons r0
  obtain ⟨rfl, rfl, rfl⟩ := trodAll_nil r1
  obtain rfl : args = #[v0, v1] := by cases args; simp_all
  obtain ⟨rfl, rfl⟩ := trodVars_none hV
  have k0 := h0
  have lt0 : ∀ x ∈ p0, x.block < W.heap.size := by obtain ⟨m, hm⟩ := k0; exact DataW.trod_lt m _ _ _ hm
  obtain ⟨a0, len0, cap0, rfl⟩ := okWide_slice Tryd.underlying22 (hval 0 22 v0 rfl rfl)
  obtain ⟨z0, w0, hl0, hn0, zl0⟩ := TR.Ents.opened h0
  have k1 := h1
  have lt1 : ∀ x ∈ p1, x.block < W.heap.size := by obtain ⟨m, hm⟩ := k1; exact DataW.trod_lt m _ _ _ hm
  obtain ⟨a1, len1, cap1, rfl⟩ := okWide_slice Tryd.underlying46 (hval 1 46 v1 rfl rfl)
  obtain ⟨z1, w1, hl1, hn1, hs1, hd1⟩ := slice_46 (u := Tryd.underlying46) h1
  have zl1 : z1.length ≤ 140737488351232 := by
    rcases hd1 with ⟨_, h⟩ | ⟨es, sp, rfl, h⟩
    · rw [h]; decide
    · have z := sized_slice hsz (j := 1) (t := 46) rfl rfl Tryd.underlying46
      have hb : Tryd.prog.bytesOf 3 = 8 := by kernel_rfl
      have hr : reachBytes = 140737488351232 := rfl
      rw [hb, hr] at z
      omega
  clear hA0 hval0 hsz0 hsz
  subst hl0
  subst hl1
  refine (TR.rebuilds_holds z0 z1 a0 a1 cap0 cap1 W hGl w0 w1 hn0 zl0.2 zl0.1).mono fun e W' ⟨he, bel⟩ => ?_
  subst he
  exact ⟨_, rfl, _, _, _, [], _, [], hW', trodAll_mk1 (shut_bool Tryd.underlying4 _), (trodAll_cons_mk (Below.trod laidOut (by kernel_rfl) (of_decide_eq_true (by kernel_rfl)) k0 bel lt0) (trodAll_cons_mk (Below.trod laidOut (by kernel_rfl) (of_decide_eq_true (by kernel_rfl)) k1 bel lt1) trodAll_mk0)), rfl, bel.frame _, fun h => by cases h⟩
theorem over : Rows.treeRebuildsRow.holds Tryd.pinned (OpenSpec.ofChange Rows.treeRebuildsSpec) :=
  OpenClaim.holds_of_wide 5 Tryd.f5 rfl rfl rfl rfl rfl rfl rfl ⟨rfl, rfl, rfl, rfl, rfl⟩ rfl rfl rfl rfl rfl (by kernel_rfl) Tryd.func5 (by kernel_rfl)
    (of_decide_eq_true (by kernel_rfl)) (by unfold Func.isWrapper; first | (rw [if_pos (by decide +kernel)]; kernel_rfl) | (rw [if_neg (by decide +kernel)]; exact ⟨rfl, rfl⟩))
    (fun os started H enc _ => lifted os started H enc)
theorem card_holds : Rows.TreeRebuildsCardSaid :=
  Claim7.holds_tied_plain_at .later [] [.data, .pinned] true (true, "9c79c47f6df94cadc1a0881d91dc7fba7e89a703acaf3dc52e365ba84401fe80") false
    over (fun _ h => by cases h) (by kernel_rfl) (fun _ h => by cases h) treeRebuilds_row_tie rfl ⟨rfl, rfl⟩ (by kernel_rfl) rfl
    (fun f fn hf hfn => by
      obtain rfl : f = 5 := Option.some.inj ((show Tryd.prog.funcNamed Rows.treeRebuildsRow.func = some 5 by kernel_rfl).symm.trans hf) |>.symm
      obtain rfl : fn = Tryd.f5 := (Option.some.inj (Tryd.func5.symm.trans hfn)).symm
      exact ⟨by kernel_rfl, fun j t ht => by
        have hm : t ∈ Tryd.f5.params.toList := List.mem_of_getElem? (by rw [Array.getElem?_toList]; exact ht)
        rw [Tryd.params5] at hm
        have hall : ∀ u ∈ [22, 46], Tryd.prog.wantsStandIn u = false := by
          intro u hu
          simp only [List.mem_cons, List.not_mem_nil, or_false] at hu
          rcases hu with rfl | rfl <;> kernel_rfl
        exact hall t hm⟩)
    (by kernel_rfl)
#print axioms card_holds
end Go.Proofs.YtfkbmjfhakooiaaDoor.treeRebuilds
namespace Go.Proofs.YtfkbmjfhakooiaaDoor
/-- The card, under a short name, for the claim. -/
theorem treeRebuilds_holds : Rows.TreeRebuildsCardSaid := treeRebuilds.card_holds
end Go.Proofs.YtfkbmjfhakooiaaDoor
