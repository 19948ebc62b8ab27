/- The row of the statement RabinRolls: the call answers true. Conditions: none but the row's own. -/
import Derived.Test.YtoofafgnlgaajaaRows
import Derived.Test.YtoofafgnlgaajaaORolls
import Derived.WalkKit
import Derived.ProofKit
import Derived.OpenShut
import Derived.ShutString
import Derived.ChangeOld
import Derived.Below
import Derived.SizedLaws
import Derived.Carry
import Derived.Deep.Fields
namespace Go.Proofs.Ytoofafgnlgaajaa.rabinRolls
open Go.ChangeShapes Go.WideShapes Go.ChangeAt Go.RowKit
open Go.ChangeMaps (open_string shut_string)
set_option linter.unusedVariables false
set_option linter.unusedSimpArgs false
theorem own : ownKnob Try.prog.godebug = none := by kernel_rfl
theorem laidOut : laidOutB Try.prog = true := by kernel_rfl
theorem slice_25 {H : Type} {enc : TypeId × Value → H} {w : World} {base : Nat} {spare : Nat → Bool} {held : Bool} {A : Option Addr} {len cap : Nat} {d : DataW H} {ps : List MemPlace} (u : Try.prog.underlying 25 = some (.slice 5))
    (hd : DataW.Trod enc Try.prog w base spare held 25 (.slice A len cap) d ps) : ∃ l : List Int, Go.Proofs.YtoofafgnlgaajaaW.PrintWords.Kd.C (Go.Proofs.YtoofafgnlgaajaaW.PrintWords.Kd.int .u8) w A l.length l ∧ l.length = len ∧ len ≤ cap ∧ (∀ n ∈ l, (Lit.int .u8 n).wf = true) ∧ ((d = .nil ∧ l = []) ∨ ∃ es sp, d = .slice es sp ∧ es.length = l.length) := by
  obtain ⟨fuel, hf⟩ := hd
  rcases open_ints u Try.underlying5 (by kernel_rfl) hf with ⟨hcs, hxx⟩ | ⟨x, l, c, zs, hcs, _, hl, hm, hz, hxx, hcell, hwz⟩
  · simp [Value.cells] at hcs
    obtain ⟨rfl, rfl, rfl⟩ := hcs
    exact ⟨[], ⟨rfl, by simp, (fun h => absurd h (by simp))⟩, rfl, Nat.le_refl _, (fun n hn => by cases hn), .inl ⟨congrArg Prod.fst hxx, rfl⟩⟩
  · simp [Value.cells] at hcs
    obtain ⟨rfl, rfl, rfl⟩ := hcs
    unfold maxLen at hm
    have hzl : len ≤ zs.length := by rw [hz]; split <;> omega
    refine ⟨zs.take len, ⟨rfl, by rw [List.length_take]; omega, fun _ => ⟨x, rfl, fun j p hp => ⟨[.int .u8 p], rfl, rfl, fun i u hu => ?_⟩⟩⟩, by rw [List.length_take]; omega, hl, (fun n hn => hwz n (List.mem_of_mem_take hn)), .inr ⟨_, _, congrArg Prod.fst hxx, by simp [lits]⟩⟩
    have hj : j < (zs.take len).length := (List.getElem?_eq_some_iff.1 hp).1
    rw [List.length_take] at hj
    rw [List.getElem?_take_of_lt (by omega)] at hp
    have hi : i = 0 := by
      cases i with
      | zero => rfl
      | succ i => simp at hu
    subst hi
    have hu' : u = .int .u8 p := by simpa using hu.symm
    subst hu'
    have hc := hcell j (by omega)
    rw [List.getD_eq_getElem?_getD, hp] at hc
    simpa [Go.Proofs.YtoofafgnlgaajaaW.PrintWords.Kd.int, Go.Proofs.YtoofafgnlgaajaaW.PrintWords.Kd.scalar] using hc
set_option maxRecDepth 100000 in
theorem lifted (os : Os) (started : os.Started) (H : Type) (enc : TypeId × Value → H) :
    ReturnsInHanded {} Try.checked os 7 .any (Rows.rabinRollsSpec.pre6 enc Try.prog Try.f7 Rows.rabinRollsRow.domain false) (Rows.rabinRollsSpec.post enc Try.prog Try.f7 false true false false) := by
  refine returnsInHanded_of_change_sized (C := Try.checked) own started (by kernel_rfl) Try.func7
    (ChangeSpec.witness6 (enc := enc) (C := Try.checked) false ⟨#[], #[.int .u64 0, .slice none 0 0, .slice none 0 0], []⟩ 8 (by kernel_rfl) (by kernel_rfl) (by kernel_rfl) (by kernel_rfl)) ?_
  intro W base args ds gs before hval0 hW hcnd hsz0 _
  have hsz : (DataW.weightsEach Try.prog (Try.f7.params.toList ++ Rows.rabinRollsSpec.plain.varTypes Try.prog) (ds ++ gs)).all (· ≤ reachBytes) = true := hsz0
  have hval : ∀ (j : Nat) t v, Try.f7.params[j]? = some t → args[j]? = some v → Value.okWide Try.prog W .any base t v := hval0
  have hW' := hW
  obtain ⟨p, q, hA0, hV, rfl, hfz, hnd⟩ := hW
  have hA : DataW.TrodAll enc Try.prog W 0 (fun _ => true) true Try.f7.params.toList args.toList ds p := hA0
  rw [Try.params7] at hA hval hsz
  obtain ⟨v0, vs0, d0, ds0, p0, q0, hargs, rfl, rfl, h0, r0⟩ := trodAll_cons hA
  obtain ⟨v1, vs1, d1, ds1, p1, q1, rfl, rfl, rfl, h1, r1⟩ := trodAll_cons r0
  obtain ⟨v2, vs2, d2, ds2, p2, q2, rfl, rfl, rfl, h2, r2⟩ := trodAll_cons r1
  obtain ⟨rfl, rfl, rfl⟩ := trodAll_nil r2
  obtain rfl : args = #[v0, v1, v2] := by cases args; simp_all
  obtain ⟨rfl, rfl⟩ := trodVars_none hV
  obtain ⟨b0, rfl, rfl, rfl, w0⟩ := open_int Try.underlying22 (hval 0 22 v0 rfl rfl) h0
  have k1 := h1
  have lt1 : ∀ x ∈ p1, x.block < W.heap.size := by obtain ⟨m, hm⟩ := k1; exact DataW.trod_lt m _ _ _ hm
  obtain ⟨a1, len1, cap1, rfl⟩ := okWide_slice Try.underlying25 (hval 1 25 v1 rfl rfl)
  obtain ⟨z1, w1, hl1, hn1, hs1, hd1⟩ := slice_25 (u := Try.underlying25) h1
  have zl1 : z1.length ≤ 140737488351232 := by
    rcases hd1 with ⟨_, h⟩ | ⟨es, sp, rfl, h⟩
    · rw [h]; decide
    · have z := sized_slice hsz (j := 1) (t := 25) rfl rfl Try.underlying25
      have hb : Try.prog.bytesOf 5 = 1 := by kernel_rfl
      have hr : reachBytes = 140737488351232 := rfl
      rw [hb, hr] at z
      omega
  have k2 := h2
  have lt2 : ∀ x ∈ p2, x.block < W.heap.size := by obtain ⟨m, hm⟩ := k2; exact DataW.trod_lt m _ _ _ hm
  obtain ⟨a2, len2, cap2, rfl⟩ := okWide_slice Try.underlying25 (hval 2 25 v2 rfl rfl)
  obtain ⟨z2, w2, hl2, hn2, hs2, hd2⟩ := slice_25 (u := Try.underlying25) h2
  have zl2 : z2.length ≤ 140737488351232 := by
    rcases hd2 with ⟨_, h⟩ | ⟨es, sp, rfl, h⟩
    · rw [h]; decide
    · have z := sized_slice hsz (j := 2) (t := 25) rfl rfl Try.underlying25
      have hb : Try.prog.bytesOf 5 = 1 := by kernel_rfl
      have hr : reachBytes = 140737488351232 := rfl
      rw [hb, hr] at z
      omega
  clear hA0 hval0 hsz0 hsz
  have u8_range : ∀ n : Int, (Lit.int .u8 n).wf = true → 0 ≤ n ∧ n < 256 := by
    intro n h
    simp [Lit.wf, IntKind.min, IntKind.max, IntKind.signed, IntKind.bits] at h
    omega
  obtain ⟨p, p64, rfl⟩ := PB.u64_nat b0 w0
  subst hl1
  subst hl2
  refine (show Calls Try.prog 7 #[.int .u64 (p : Int), .slice a1 z1.length cap1, .slice a2 z2.length cap2] W fun e W' => e = .returned (.bool true) ∧ Below W.heap.size W W' from ?_).mono fun e W' ⟨he, bel⟩ => ?_
  · by_cases q3 : p = 0
    · subst q3
      exact RW.rolls_zero a1 a2 _ cap1 _ cap2 W
    · exact RW.rolls_at p q3 p64 a1 a2 cap1 cap2 z1 z2 (fun x hx => u8_range x (hs1 x hx)) (fun x hx => u8_range x (hs2 x hx)) W w1 hn1 w2 hn2
  subst he
  exact ⟨_, rfl, _, _, _, [], _, [], hW', trodAll_mk1 (shut_bool Try.underlying4 _), (trodAll_cons_mk (shut_int Try.underlying22 w0) (trodAll_cons_mk (Below.trod laidOut (by kernel_rfl) (of_decide_eq_true (by kernel_rfl)) k1 bel lt1) (trodAll_cons_mk (Below.trod laidOut (by kernel_rfl) (of_decide_eq_true (by kernel_rfl)) k2 bel lt2) trodAll_mk0))), rfl, bel.frame _, fun h => by cases h⟩
theorem over : Rows.rabinRollsRow.holds Try.pinned (OpenSpec.ofChange Rows.rabinRollsSpec) :=
  OpenClaim.holds_of_wide 7 Try.f7 rfl rfl rfl rfl rfl rfl rfl ⟨rfl, rfl, rfl, rfl, rfl⟩ rfl rfl rfl rfl rfl (by kernel_rfl) Try.func7 (by kernel_rfl)
    (of_decide_eq_true (by kernel_rfl)) (by unfold Func.isWrapper; first | (rw [if_pos (by decide +kernel)]; kernel_rfl) | (rw [if_neg (by decide +kernel)]; exact ⟨rfl, rfl⟩))
    (fun os started H enc _ => lifted os started H enc)
theorem proved : Rows.RabinRollsSaid := over
#print axioms proved
end Go.Proofs.Ytoofafgnlgaajaa.rabinRolls
namespace Go.Proofs.Ytoofafgnlgaajaa
/-- The row, under a short name, for the claim. -/
theorem rabinRolls_holds : Rows.RabinRollsSaid := rabinRolls.proved
end Go.Proofs.Ytoofafgnlgaajaa
