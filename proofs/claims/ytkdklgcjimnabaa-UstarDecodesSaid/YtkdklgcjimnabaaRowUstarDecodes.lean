/- The row of the statement UstarDecodes: the call answers true. Conditions: none but the row's own. -/
import Derived.Test.YtkdklgcjimnabaaRows
import Derived.Test.YtkdklgcjimnabaaOUstarDecodes
import Derived.Test.YtkdklgcjimnabaaPureUstarDecodes
import Derived.WalkKit
import Derived.ProofKit
import Derived.OpenShut
import Derived.ShutString
import Derived.ChangeOld
import Derived.Below
import Derived.SizedLaws
import Derived.Carry
import Derived.Deep.Fields
namespace Go.Proofs.Ytkdklgcjimnabaa.ustarDecodes
open Go.ChangeShapes Go.WideShapes Go.ChangeAt Go.RowKit
open Go.ChangeMaps (open_string shut_string)
set_option linter.unusedVariables false
set_option linter.unusedSimpArgs false
theorem own : ownKnob Try.prog.godebug = none := by kernel_rfl
theorem laidOut : laidOutB Try.prog = true := by kernel_rfl
theorem slice_22 {H : Type} {enc : TypeId × Value → H} {w : World} {base : Nat} {spare : Nat → Bool} {held : Bool} {A : Option Addr} {len cap : Nat} {d : DataW H} {ps : List MemPlace} (u : Try.prog.underlying 22 = some (.slice 5))
    (hd : DataW.Trod enc Try.prog w base spare held 22 (.slice A len cap) d ps) : ∃ l : List Int, Go.Proofs.YtkdklgcjimnabaaW.PrintWords.Kd.C (Go.Proofs.YtkdklgcjimnabaaW.PrintWords.Kd.int .u8) w A l.length l ∧ l.length = len ∧ len ≤ cap ∧ (∀ n ∈ l, (Lit.int .u8 n).wf = true) ∧ ((d = .nil ∧ l = []) ∨ ∃ es sp, d = .slice es sp ∧ es.length = l.length) := by
  obtain ⟨fuel, hf⟩ := hd
  rcases open_ints u Try.underlying5 (by kernel_rfl) hf with ⟨hcs, hxx⟩ | ⟨x, l, c, zs, hcs, _, hl, hm, hz, hxx, hcell, hwz⟩
  · simp [Value.cells] at hcs
    obtain ⟨rfl, rfl, rfl⟩ := hcs
    exact ⟨[], ⟨rfl, by simp, (fun h => absurd h (by simp))⟩, rfl, Nat.le_refl _, (fun n hn => by cases hn), .inl ⟨congrArg Prod.fst hxx, rfl⟩⟩
  · simp [Value.cells] at hcs
    obtain ⟨rfl, rfl, rfl⟩ := hcs
    unfold maxLen at hm
    have hzl : len ≤ zs.length := by rw [hz]; split <;> omega
    refine ⟨zs.take len, ⟨rfl, by rw [List.length_take]; omega, fun _ => ⟨x, rfl, fun j p hp => ⟨[.int .u8 p], rfl, rfl, fun i u hu => ?_⟩⟩⟩, by rw [List.length_take]; omega, hl, (fun n hn => hwz n (List.mem_of_mem_take hn)), .inr ⟨_, _, congrArg Prod.fst hxx, by simp [lits]⟩⟩
    have hj : j < (zs.take len).length := (List.getElem?_eq_some_iff.1 hp).1
    rw [List.length_take] at hj
    rw [List.getElem?_take_of_lt (by omega)] at hp
    have hi : i = 0 := by
      cases i with
      | zero => rfl
      | succ i => simp at hu
    subst hi
    have hu' : u = .int .u8 p := by simpa using hu.symm
    subst hu'
    have hc := hcell j (by omega)
    rw [List.getD_eq_getElem?_getD, hp] at hc
    simpa [Go.Proofs.YtkdklgcjimnabaaW.PrintWords.Kd.int, Go.Proofs.YtkdklgcjimnabaaW.PrintWords.Kd.scalar] using hc
set_option maxRecDepth 100000 in
theorem lifted (os : Os) (started : os.Started) (H : Type) (enc : TypeId × Value → H) :
    ReturnsInHanded {} Try.checked os 3 .any (Rows.ustarDecodesSpec.pre6 enc Try.prog Try.f3 Rows.ustarDecodesRow.domain false) (Rows.ustarDecodesSpec.post enc Try.prog Try.f3 false true false false) := by
  refine returnsInHanded_of_change_sized (C := Try.checked) own started (by kernel_rfl) Try.func3
    (ChangeSpec.witness6 (enc := enc) (C := Try.checked) false ⟨#[], #[.slice none 0 0], []⟩ 8 (by kernel_rfl) (by kernel_rfl) (by kernel_rfl) (by kernel_rfl)) ?_
  intro W base args ds gs before hval0 hW hcnd hsz0 _
  have hsz : (DataW.weightsEach Try.prog (Try.f3.params.toList ++ Rows.ustarDecodesSpec.plain.varTypes Try.prog) (ds ++ gs)).all (· ≤ reachBytes) = true := hsz0
  have hval : ∀ (j : Nat) t v, Try.f3.params[j]? = some t → args[j]? = some v → Value.okWide Try.prog W .any base t v := hval0
  have hW' := hW
  obtain ⟨p, q, hA0, hV, rfl, hfz, hnd⟩ := hW
  have hA : DataW.TrodAll enc Try.prog W 0 (fun _ => true) true Try.f3.params.toList args.toList ds p := hA0
  rw [Try.params3] at hA hval hsz
  obtain ⟨v0, vs0, d0, ds0, p0, q0, hargs, rfl, rfl, h0, r0⟩ := trodAll_cons hA
  obtain ⟨rfl, rfl, rfl⟩ := trodAll_nil r0
  obtain rfl : args = #[v0] := by cases args; simp_all
  obtain ⟨rfl, rfl⟩ := trodVars_none hV
  have k0 := h0
  have lt0 : ∀ x ∈ p0, x.block < W.heap.size := by obtain ⟨m, hm⟩ := k0; exact DataW.trod_lt m _ _ _ hm
  obtain ⟨a0, len0, cap0, rfl⟩ := okWide_slice Try.underlying22 (hval 0 22 v0 rfl rfl)
  obtain ⟨z0, w0, hl0, hn0, hs0, hd0⟩ := slice_22 (u := Try.underlying22) h0
  have zl0 : z0.length ≤ 140737488351232 := by
    rcases hd0 with ⟨_, h⟩ | ⟨es, sp, rfl, h⟩
    · rw [h]; decide
    · have z := sized_slice hsz (j := 0) (t := 22) rfl rfl Try.underlying22
      have hb : Try.prog.bytesOf 5 = 1 := by kernel_rfl
      have hr : reachBytes = 140737488351232 := rfl
      rw [hb, hr] at z
      omega
  clear hA0 hval0 hsz0 hsz
  have u8_range : ∀ n : Int, (Lit.int .u8 n).wf = true → 0 ≤ n ∧ n < 256 := by
    intro n h
    simp [Lit.wf, IntKind.min, IntKind.max, IntKind.signed, IntKind.bits] at h
    omega
  have hby : UM.By z0 := fun x hx => u8_range x (hs0 x hx)
  obtain ⟨k, p, mode, uid, gid, size, time, typ, link, e, hk, h1, h2, h3⟩ := PUstar.UP.decodes z0 hby
  subst hl0
  refine (PUstar.OD.walk k a0 cap0 z0 W p mode uid gid size time typ link e _ w0 hn0 (by omega) (PUstar.alive_all k hk) h1 h2 h3).mono fun e W' ⟨he, bel⟩ => ?_
  subst he
  exact ⟨_, rfl, _, _, _, [], _, [], hW', trodAll_mk1 (shut_bool Try.underlying4 _), (trodAll_cons_mk (Below.trod laidOut (by kernel_rfl) (of_decide_eq_true (by kernel_rfl)) k0 bel lt0) trodAll_mk0), rfl, bel.frame _, fun h => by cases h⟩
theorem over : Rows.ustarDecodesRow.holds Try.pinned (OpenSpec.ofChange Rows.ustarDecodesSpec) :=
  OpenClaim.holds_of_wide 3 Try.f3 rfl rfl rfl rfl rfl rfl rfl ⟨rfl, rfl, rfl, rfl, rfl⟩ rfl rfl rfl rfl rfl (by kernel_rfl) Try.func3 (by kernel_rfl)
    (of_decide_eq_true (by kernel_rfl)) (by unfold Func.isWrapper; first | (rw [if_pos (by decide +kernel)]; kernel_rfl) | (rw [if_neg (by decide +kernel)]; exact ⟨rfl, rfl⟩))
    (fun os started H enc _ => lifted os started H enc)
theorem proved : Rows.UstarDecodesSaid := over
#print axioms proved
end Go.Proofs.Ytkdklgcjimnabaa.ustarDecodes
namespace Go.Proofs.Ytkdklgcjimnabaa
/-- The row, under a short name, for the claim. -/
theorem ustarDecodes_holds : Rows.UstarDecodesSaid := ustarDecodes.proved
end Go.Proofs.Ytkdklgcjimnabaa
