/- Printed for this claim by a copy of the kit's print.py that takes functions walked by our own texts. Conditions: none. -/
import Derived.Test.YtkdklgcjimnabaaPUstarx0
namespace Go.Proofs.Ytkdklgcjimnabaa.PUstar
open Go.RowKit Go.Proofs.YtkdklgcjimnabaaW.PrintWords Go.Proofs.YtkdklgcjimnabaaW.PrintLast Go.Proofs.YtkdklgcjimnabaaW.PrintMore
attribute [local go_sem] max2_int min2_int max_two min_two max_three min_three max_four min_four   -- for this text's walks alone
set_option linter.unusedVariables false
set_option linter.unusedSimpArgs false

-- NOT PRINTED: function 44 (strings_indexFunc)

-- NOT PRINTED: function 41 (strings_IndexFunc)

/-! ### ustar_ascii: function 38 -/
def asciiB (a0 : ByteArray) : Bool := a0.data.toList.all (fun c => decide (c ≠ 0) && decide (c ≤ 127))
def ustar_ascii.f (a0 : ByteArray) : Option Bool := if a0.size ≤ 140737488351232 then some (asciiB a0) else none
set_option maxHeartbeats 1000000 in
theorem ustar_ascii_pred (w : World) : PredAt Try.prog 42 #[] encR Asc.isBad w := by
  intro W x hb
  unfold FnGives
  rw [show (#[encR x] ++ #[] : Array Value) = #[.int .i32 (x : Int)] from rfl]
  go_enter Try.func42, Try.ntmps42
  go_wp2
  all_goals go_ret
  all_goals refine ⟨?_, 0, rfl⟩
  all_goals
    refine congrArg (fun b => Ending.returned (Value.bool b)) ?_
    show _ = (decide (x = 0) || decide (127 < x))
    first
      | (rename_i h0; subst h0; rfl)
      | (rename_i h0; rw [decide_eq_false h0, show (((x : Nat) : Int) == 0) = false from by simp; omega]; congr 1; apply decide_eq_decide.mpr; omega)
set_option maxHeartbeats 1000000 in
theorem ustar_ascii.calls (a0 : ByteArray) (r : Bool) (w : World) (h : ustar_ascii.f a0 = some r) :
    Calls Try.prog 38 #[.string a0] w fun e w' => e = .returned (.bool r) ∧ Below w.heap.size w w' := by
  have hr : asciiB a0 = r := by
    unfold ustar_ascii.f at h
    by_cases hs : a0.size ≤ 140737488351232
    · rw [if_pos hs] at h
      exact Option.some.inj h
    · rw [if_neg hs] at h; cases h
  clear h
  have e := Asc.ascii_idx a0
  have cI := Try.strings_IndexFunc 42 #[] (enters_of Try.func42 (by kernel_rfl) rfl) Asc.isBad a0 w (ustar_ascii_pred w)
  obtain ⟨I, hI⟩ : ∃ I, Lib.idxFunc Asc.isBad true a0 = I := ⟨_, rfl⟩
  rw [hI] at cI e
  have hr2 : decide (I < 0) = r := by rw [e, ← hr]; unfold asciiB; rfl
  clear e hr hI
  go_enter Try.func38, Try.ntmps38
  go_wp2_with (go_at_call 41; refine cI.mono ?_; rintro e w' ⟨rfl, hb⟩)
  go_ret
  exact ⟨rfl, hb⟩

/-! ### ustar_split: function 30 -/
mutual
def ustar_split.j0 : Nat → ByteArray → Bool → Option (ByteArray × ByteArray × Bool)
  | 0, _, _ => none
  | k + 1, x0, x12 => if x12 = true then (some ((⟨#[]⟩ : ByteArray), (⟨#[]⟩ : ByteArray), false)) else (if (x0.size : Int) ≤ 100 then (some ((⟨#[]⟩ : ByteArray), x0, true)) else (ustar_split.l0 k x0 (x0.size : Int) 0))
def ustar_split.l0 : Nat → ByteArray → Int → Int → Option (ByteArray × ByteArray × Bool)
  | 0, _, _, _ => none
  | k + 1, x0, x18, x19 => if x19 < x18 then (if 0 ≤ x19 then (if x19 < (x0.size : Int) then (if (bt x0 x19) = 47 then (if x19 ≥ 1 then (if x19 ≤ 155 then (if (wrap64 ((wrap64 ((x0.size : Int) - x19)) - 1)) ≥ 1 then (if (wrap64 ((wrap64 ((x0.size : Int) - x19)) - 1)) ≤ 100 then (if x19 ≤ (x0.size : Int) then (if 0 ≤ (wrap64 (x19 + 1)) then (if (wrap64 (x19 + 1)) ≤ (x0.size : Int) then (some (x0.extract 0 (x19 : Int).toNat, x0.extract ((wrap64 (x19 + 1)) : Int).toNat x0.size, true)) else (none)) else (none)) else (none)) else (ustar_split.l0 k x0 x18 (wrap64 (x19 + 1)))) else (ustar_split.l0 k x0 x18 (wrap64 (x19 + 1)))) else (ustar_split.l0 k x0 x18 (wrap64 (x19 + 1)))) else (ustar_split.l0 k x0 x18 (wrap64 (x19 + 1)))) else (ustar_split.l0 k x0 x18 (wrap64 (x19 + 1)))) else (none)) else (none)) else (some ((⟨#[]⟩ : ByteArray), (⟨#[]⟩ : ByteArray), false))
end
def ustar_split.f (k : Nat) (a0 : ByteArray) : Option (ByteArray × ByteArray × Bool) := if a0.toList = ([] : List UInt8) then (ustar_split.j0 k a0 true) else ((ustar_ascii.f a0).bind fun t101 => (ustar_split.j0 k a0 (!t101)))
theorem ustar_split.mono_l : ∀ k, (∀ y0 y1, LeO (ustar_split.j0 k y0 y1) (ustar_split.j0 (k + 1) y0 y1)) ∧ (∀ y0 y1 y2, LeO (ustar_split.l0 k y0 y1 y2) (ustar_split.l0 (k + 1) y0 y1 y2))
  | 0 => ⟨fun _ _ r h => by simp [ustar_split.j0] at h, fun _ _ _ r h => by simp [ustar_split.l0] at h⟩
  | k + 1 => by
    obtain ⟨ih0, ih1⟩ := ustar_split.mono_l k
    refine ⟨?_, ?_⟩
    · intro y0 y1
      unfold ustar_split.j0
      repeat' first
      | (with_reducible exact ih0 _ _)
      | (with_reducible exact ih1 _ _ _)
      | (with_reducible exact LeO.refl _)
      | (with_reducible exact LeO.none _)
      | (with_reducible refine LeO.ite ?_ ?_)
      | (with_reducible refine LeO.bind ?_ (fun _ => ?_))
      | exact ih0 _ _
      | exact ih1 _ _ _
      | exact LeO.none _
      | refine LeO.ite ?_ ?_
      | refine LeO.bind ?_ (fun _ => ?_)
    · intro y0 y1 y2
      unfold ustar_split.l0
      repeat' first
      | (with_reducible exact ih0 _ _)
      | (with_reducible exact ih1 _ _ _)
      | (with_reducible exact LeO.refl _)
      | (with_reducible exact LeO.none _)
      | (with_reducible refine LeO.ite ?_ ?_)
      | (with_reducible refine LeO.bind ?_ (fun _ => ?_))
      | exact ih0 _ _
      | exact ih1 _ _ _
      | exact LeO.none _
      | refine LeO.ite ?_ ?_
      | refine LeO.bind ?_ (fun _ => ?_)
theorem ustar_split.mono : ∀ a0 k, LeO (ustar_split.f k a0) (ustar_split.f (k + 1) a0) := by
  intro a0 k
  obtain ⟨ih0, ih1⟩ := ustar_split.mono_l k
  unfold ustar_split.f
  repeat' first
      | (with_reducible exact ih0 _ _)
      | (with_reducible exact ih1 _ _ _)
      | (with_reducible exact LeO.refl _)
      | (with_reducible exact LeO.none _)
      | (with_reducible refine LeO.ite ?_ ?_)
      | (with_reducible refine LeO.bind ?_ (fun _ => ?_))
      | exact ih0 _ _
      | exact ih1 _ _ _
      | exact LeO.none _
      | refine LeO.ite ?_ ?_
      | refine LeO.bind ?_ (fun _ => ?_)
set_option maxHeartbeats 8000000 in
set_option maxRecDepth 100000 in
theorem ustar_split.calls (k : Nat) (a0 : ByteArray) (r1 : ByteArray) (r2 : ByteArray) (r3 : Bool) (w : World) (h : ustar_split.f k a0 = some (r1, r2, r3)) :
    Calls Try.prog 30 #[.string a0] w fun e w' => e = .returned (.tuple #[.string r1, .string r2, .bool r3]) ∧ Below w.heap.size w w' := by
  have HB := Aside0.mk (Below.refl w.heap.size w)
  have H : (if a0.toList = ([] : List UInt8) then (ustar_split.j0 k a0 true) else ((ustar_ascii.f a0).bind fun t101 => (ustar_split.j0 k a0 (!t101)))) = some (r1, r2, r3) := h
  clear h
  have HC2 := Aside0.mk H
  clear H
  go_enter Try.func30, Try.ntmps30
  go_upto_region 1 with (fail)
  repeat (go_quiet (fail); go_upto_region 1 with (fail))
  go_cut [12] (fun v12 wc => ∃ (kq : Nat) (x12_1 : Bool), v12 = .bool x12_1 ∧ Aside0 (ustar_split.j0 kq a0 x12_1 = some (r1, r2, r3)) ∧ Aside0 (kq ≤ k) ∧ Aside0 (Below w.heap.size w wc))
  case first =>
    have H := HC2.out
    clear HC2
    by_cases c3 : a0.toList = ([] : List UInt8)
    · rw [if_pos c3] at H
      have c3b0 : (a0.toList == ([] : List UInt8)) = true := beq_iff_eq.mpr c3
      have c3b1 : (a0.toList != ([] : List UInt8)) = false := bne_eq_false_iff_eq.mpr c3
      have c3b2 : a0.toList.isEmpty = true := List.isEmpty_iff.2 c3
      clear c3
      (try rw [c3b2])
      (try simp only [Bool.not_true, Bool.not_false])
      (first | rw [c3b0] | (simp only [i64_w, i32_w]; rw [c3b0]) | skip)
      have H' := Aside0.mk H
      clear H
      go_wp2
      repeat (go_quiet (fail); try go_wp2)
      go_meet
      case rel => exact ⟨_, (true), (by first | rfl | (simp; done) | (simp [*]; done)), H', ⟨by first | omega | exact Nat.le_refl _⟩, ⟨by repeat (first | (with_reducible first | exact HB.out | apply below_alloc | apply pw_below_drewN | apply below_drew1) | exact HB.out)⟩⟩
    · rw [if_neg c3] at H
      have c3b0 : (a0.toList == ([] : List UInt8)) = false := beq_eq_false_iff_ne.mpr c3
      have c3b1 : (a0.toList != ([] : List UInt8)) = true := bne_iff_ne.mpr c3
      have c3b2 : a0.toList.isEmpty = false := Bool.eq_false_iff.2 (fun h_ => c3 (List.isEmpty_iff.1 h_))
      (try rw [c3b2])
      (try simp only [Bool.not_true, Bool.not_false])
      (first | rw [c3b0] | (simp only [i64_w, i32_w]; rw [c3b0]) | skip)
      replace H := Option.bind_eq_some_iff.mp H
      obtain ⟨t101, A40, H⟩ := H
      replace H : (ustar_split.j0 k a0 (!t101)) = some (r1, r2, r3) := H
      have A4 := Aside0.mk A40
      clear A40
      have H' := Aside0.mk H
      clear H
      go_wp2_with (first | (go_at_call 38; (with_reducible refine (ustar_ascii.calls a0 t101 _ A4.out).mono ?_); rintro e w5 ⟨rfl, hb⟩; have n0_ := Aside0.mk (below_step (by repeat (first | (with_reducible first | exact HB.out | apply below_alloc | apply pw_below_drewN | apply below_drew1) | exact HB.out)) hb); clear HB; have HB := n0_; clear n0_; (try clear hb); (try clear hb2); (try clear hk); (try clear hi)))
      repeat (go_quiet (first | (go_at_call 38; (with_reducible refine (ustar_ascii.calls a0 t101 _ A4.out).mono ?_); rintro e w5 ⟨rfl, hb⟩; have n0_ := Aside0.mk (below_step (by repeat (first | (with_reducible first | exact HB.out | apply below_alloc | apply pw_below_drewN | apply below_drew1) | exact HB.out)) hb); clear HB; have HB := n0_; clear n0_; (try clear hb); (try clear hb2); (try clear hk); (try clear hi))); try go_wp2_with (first | (go_at_call 38; (with_reducible refine (ustar_ascii.calls a0 t101 _ A4.out).mono ?_); rintro e w5 ⟨rfl, hb⟩; have n0_ := Aside0.mk (below_step (by repeat (first | (with_reducible first | exact HB.out | apply below_alloc | apply pw_below_drewN | apply below_drew1) | exact HB.out)) hb); clear HB; have HB := n0_; clear n0_; (try clear hb); (try clear hb2); (try clear hk); (try clear hi))))
      go_meet
      case rel => exact ⟨_, (!t101), (by first | rfl | (simp; done) | (simp [*]; done)), H', ⟨by first | omega | exact Nat.le_refl _⟩, ⟨by repeat (first | (with_reducible first | exact HB.out | apply below_alloc | apply pw_below_drewN | apply below_drew1) | exact HB.out)⟩⟩
  case rest =>
    clear HC2
    try clear p2
    try clear c3
    try clear c3b0
    try clear c3b1
    obtain ⟨kq, x12_1, rfl, HA, HJ1, HB⟩ := hcut
    cases kq with
    | zero => exact absurd HA.out (by simp [ustar_split.j0])
    | succ kj1 =>
      have H := HA.out
      clear HA
      simp only [ustar_split.j0] at H
      by_cases c6 : x12_1 = true
      · subst c6
        have H1 : (some ((⟨#[]⟩ : ByteArray), (⟨#[]⟩ : ByteArray), false)) = some (r1, r2, r3) := by rw [if_pos rfl] at H; exact H
        clear H
        have H := H1
        clear H1
        simp only [Option.some.injEq, Prod.mk.injEq] at H
        obtain ⟨rfl, rfl, rfl⟩ := H
        go_wp2
        repeat (go_quiet (fail); try go_wp2)
        go_ret3
        exact ⟨by first | rfl | (simp [errW_none, errW_some] <;> rfl) | (simp [*, errW_none, errW_some] <;> rfl), by repeat (first | (with_reducible first | exact HB.out | apply below_alloc | apply pw_below_drewN | apply below_drew1) | exact HB.out)⟩
      · replace c6 := Bool.eq_false_iff.mpr c6
        subst c6
        have H1 : (if (a0.size : Int) ≤ 100 then (some ((⟨#[]⟩ : ByteArray), a0, true)) else (ustar_split.l0 kj1 a0 (a0.size : Int) 0)) = some (r1, r2, r3) := by rw [if_neg (show ¬ (false = true) by decide)] at H; exact H
        clear H
        have H := H1
        clear H1
        by_cases c7 : (a0.size : Int) ≤ 100
        · rw [if_pos c7] at H
          have c7b0 : decide ((a0.size : Int) ≤ 100) = true := decide_eq_true c7
          have c7b1 : decide (a0.size ≤ 100) = true := decide_eq_true (by omega)
          clear c7
          simp only [Option.some.injEq, Prod.mk.injEq] at H
          obtain ⟨rfl, rfl, rfl⟩ := H
          go_wp2
          repeat (go_quiet (fail); try go_wp2)
          go_ret3
          exact ⟨by first | rfl | (simp [errW_none, errW_some] <;> rfl) | (simp [*, errW_none, errW_some] <;> rfl), by repeat (first | (with_reducible first | exact HB.out | apply below_alloc | apply pw_below_drewN | apply below_drew1) | exact HB.out)⟩
        · rw [if_neg c7] at H
          have c7b0 : decide ((a0.size : Int) ≤ 100) = false := decide_eq_false c7
          have c7b1 : decide (a0.size ≤ 100) = false := decide_eq_false (by omega)
          clear c7
          have H' := Aside0.mk H
          clear H
          go_wp2
          repeat (go_quiet (fail); try go_wp2)
          go_loopg [19] kj1 (fun kq v19 w' => ∃ (x19_2 : Int), v19 = .int .i64 x19_2 ∧ Aside0 (ustar_split.l0 kq a0 (a0.size : Int) x19_2 = some (r1, r2, r3)) ∧ Aside0 (kq ≤ kj1) ∧ Aside0 (Below w.heap.size w w'))
          case atStart => exact ⟨(0), (by first | rfl | (simp; done) | (simp [*]; done)), H', ⟨Nat.le_refl _⟩, ⟨by repeat (first | (with_reducible first | exact HB.out | apply below_alloc | apply pw_below_drewN | apply below_drew1) | exact HB.out)⟩⟩
          case round =>
            clear H'
            try clear p2
            try clear c3
            try clear c3b0
            try clear c3b1
            try clear c6
            try clear c7
            try clear c7b0
            try clear c7b1
            try clear p2
            obtain ⟨x19_2, rfl, HA, HK2, HB⟩ := hrel
            cases gk with
            | zero => exact absurd HA.out (by simp [ustar_split.l0])
            | succ k2 =>
              have H := HA.out
              clear HA
              simp only [ustar_split.l0] at H
              by_cases c8 : x19_2 < (a0.size : Int)
              · rw [if_pos c8] at H
                have c8b0 : decide (x19_2 < (a0.size : Int)) = true := decide_eq_true c8
                clear c8
                by_cases c9 : 0 ≤ x19_2
                · rw [if_pos c9] at H
                  have c9b0 : decide (0 ≤ x19_2) = true := decide_eq_true c9
                  clear c9
                  by_cases c10 : x19_2 < (a0.size : Int)
                  · rw [if_pos c10] at H
                    have c10b0 : decide (x19_2 < (a0.size : Int)) = true := decide_eq_true c10
                    clear c10
                    by_cases c12 : (bt a0 x19_2) = 47
                    · rw [if_pos c12] at H
                      have c12b0 : ((bt a0 x19_2) == 47) = true := beq_iff_eq.mpr c12
                      have c12b1 : ((bt a0 x19_2) != 47) = false := bne_eq_false_iff_eq.mpr c12
                      clear c12
                      by_cases c13 : x19_2 ≥ 1
                      · rw [if_pos c13] at H
                        have c13b0 : decide (1 ≤ x19_2) = true := decide_eq_true c13
                        clear c13
                        by_cases c14 : x19_2 ≤ 155
                        · rw [if_pos c14] at H
                          have c14b0 : decide (x19_2 ≤ 155) = true := decide_eq_true c14
                          clear c14
                          by_cases c15 : (wrap64 ((wrap64 ((a0.size : Int) - x19_2)) - 1)) ≥ 1
                          · rw [if_pos c15] at H
                            have c15b0 : decide (1 ≤ (wrap64 ((wrap64 ((a0.size : Int) - x19_2)) - 1))) = true := decide_eq_true c15
                            clear c15
                            by_cases c16 : (wrap64 ((wrap64 ((a0.size : Int) - x19_2)) - 1)) ≤ 100
                            · rw [if_pos c16] at H
                              have c16b0 : decide ((wrap64 ((wrap64 ((a0.size : Int) - x19_2)) - 1)) ≤ 100) = true := decide_eq_true c16
                              clear c16
                              have c17b0 := eq_true (of_decide_eq_true (by first | (with_reducible assumption) | assumption) : 0 ≤ x19_2)
                              by_cases c18 : x19_2 ≤ (a0.size : Int)
                              · rw [if_pos c18] at H
                                have c18b0 := eq_true c18
                                have c18b1 : decide (x19_2 ≤ (a0.size : Int)) = true := decide_eq_true c18
                                clear c18
                                obtain ⟨ji19, hji19⟩ : ∃ j_ : Int, (wrap64 (x19_2 + 1)) = j_ := ⟨_, rfl⟩
                                replace H : (if 0 ≤ (ji19) then (if (ji19) ≤ (a0.size : Int) then (some (a0.extract 0 (x19_2 : Int).toNat, a0.extract ((ji19) : Int).toNat a0.size, true)) else (none)) else (none)) = some (r1, r2, r3) := by first | (rw [hji19] at H; exact H) | (simp only [hji19] at H ⊢; exact H)
                                have hji19w : (IntKind.i64.wrap (x19_2 + 1)) = ji19 := (i64_w _).trans hji19
                                by_cases c20 : 0 ≤ (ji19)
                                · rw [if_pos c20] at H
                                  have c20b0 := eq_true c20
                                  have c20b1 : decide (0 ≤ (ji19)) = true := decide_eq_true c20
                                  clear c20
                                  by_cases c21 : (ji19) ≤ (a0.size : Int)
                                  · rw [if_pos c21] at H
                                    have c21b0 := eq_true c21
                                    have c21b1 : decide ((ji19) ≤ (a0.size : Int)) = true := decide_eq_true c21
                                    clear c21
                                    simp only [Option.some.injEq, Prod.mk.injEq] at H
                                    obtain ⟨rfl, rfl, rfl⟩ := H
                                    have p11 : 0 ≤ (x19_2 : Int) := of_decide_eq_true (by first | (with_reducible assumption) | assumption)
                                    have q11 : x19_2 < (a0.size : Int) := of_decide_eq_true (by first | (with_reducible assumption) | assumption)
                                    have hx11 := bt_at a0 x19_2
                                    replace p11 := eq_true p11
                                    replace q11 := eq_true q11
                                    go_wp2
                                    repeat (go_quiet (fail); try go_wp2)
                                    go_ret3
                                    exact ⟨by first | rfl | (simp [errW_none, errW_some] <;> rfl) | (simp only [← hji19]; first | rfl | (simp [errW_none, errW_some] <;> rfl)) | (simp [*, errW_none, errW_some] <;> rfl), by repeat (first | (with_reducible first | exact HB.out | apply below_alloc | apply pw_below_drewN | apply below_drew1) | exact HB.out)⟩
                                  · rw [if_neg c21] at H
                                    exact absurd H (by simp)
                                · rw [if_neg c20] at H
                                  exact absurd H (by simp)
                              · rw [if_neg c18] at H
                                exact absurd H (by simp)
                            · rw [if_neg c16] at H
                              have c16b0 : decide ((wrap64 ((wrap64 ((a0.size : Int) - x19_2)) - 1)) ≤ 100) = false := decide_eq_false c16
                              clear c16
                              have H' := Aside0.mk H
                              clear H
                              have p11 : 0 ≤ (x19_2 : Int) := of_decide_eq_true (by first | (with_reducible assumption) | assumption)
                              have q11 : x19_2 < (a0.size : Int) := of_decide_eq_true (by first | (with_reducible assumption) | assumption)
                              have hx11 := bt_at a0 x19_2
                              replace p11 := eq_true p11
                              replace q11 := eq_true q11
                              go_wp2
                              repeat (go_quiet (fail); try go_wp2)
                              go_roundg k2
                              case measure => have := HJ1.out; have := HK2.out; omega
                              case rel => exact ⟨(wrap64 (x19_2 + 1)), (by first | rfl | (simp; done) | (simp [*]; done)), H', ⟨by have := HJ1.out; have := HK2.out; omega⟩, ⟨by repeat (first | (with_reducible first | exact HB.out | apply below_alloc | apply pw_below_drewN | apply below_drew1) | exact HB.out)⟩⟩
                          · rw [if_neg c15] at H
                            have c15b0 : decide (1 ≤ (wrap64 ((wrap64 ((a0.size : Int) - x19_2)) - 1))) = false := decide_eq_false c15
                            clear c15
                            have H' := Aside0.mk H
                            clear H
                            have p11 : 0 ≤ (x19_2 : Int) := of_decide_eq_true (by first | (with_reducible assumption) | assumption)
                            have q11 : x19_2 < (a0.size : Int) := of_decide_eq_true (by first | (with_reducible assumption) | assumption)
                            have hx11 := bt_at a0 x19_2
                            replace p11 := eq_true p11
                            replace q11 := eq_true q11
                            go_wp2
                            repeat (go_quiet (fail); try go_wp2)
                            go_roundg k2
                            case measure => have := HJ1.out; have := HK2.out; omega
                            case rel => exact ⟨(wrap64 (x19_2 + 1)), (by first | rfl | (simp; done) | (simp [*]; done)), H', ⟨by have := HJ1.out; have := HK2.out; omega⟩, ⟨by repeat (first | (with_reducible first | exact HB.out | apply below_alloc | apply pw_below_drewN | apply below_drew1) | exact HB.out)⟩⟩
                        · rw [if_neg c14] at H
                          have c14b0 : decide (x19_2 ≤ 155) = false := decide_eq_false c14
                          clear c14
                          have H' := Aside0.mk H
                          clear H
                          have p11 : 0 ≤ (x19_2 : Int) := of_decide_eq_true (by first | (with_reducible assumption) | assumption)
                          have q11 : x19_2 < (a0.size : Int) := of_decide_eq_true (by first | (with_reducible assumption) | assumption)
                          have hx11 := bt_at a0 x19_2
                          replace p11 := eq_true p11
                          replace q11 := eq_true q11
                          go_wp2
                          repeat (go_quiet (fail); try go_wp2)
                          go_roundg k2
                          case measure => have := HJ1.out; have := HK2.out; omega
                          case rel => exact ⟨(wrap64 (x19_2 + 1)), (by first | rfl | (simp; done) | (simp [*]; done)), H', ⟨by have := HJ1.out; have := HK2.out; omega⟩, ⟨by repeat (first | (with_reducible first | exact HB.out | apply below_alloc | apply pw_below_drewN | apply below_drew1) | exact HB.out)⟩⟩
                      · rw [if_neg c13] at H
                        have c13b0 : decide (1 ≤ x19_2) = false := decide_eq_false c13
                        clear c13
                        have H' := Aside0.mk H
                        clear H
                        have p11 : 0 ≤ (x19_2 : Int) := of_decide_eq_true (by first | (with_reducible assumption) | assumption)
                        have q11 : x19_2 < (a0.size : Int) := of_decide_eq_true (by first | (with_reducible assumption) | assumption)
                        have hx11 := bt_at a0 x19_2
                        replace p11 := eq_true p11
                        replace q11 := eq_true q11
                        go_wp2
                        repeat (go_quiet (fail); try go_wp2)
                        go_roundg k2
                        case measure => have := HJ1.out; have := HK2.out; omega
                        case rel => exact ⟨(wrap64 (x19_2 + 1)), (by first | rfl | (simp; done) | (simp [*]; done)), H', ⟨by have := HJ1.out; have := HK2.out; omega⟩, ⟨by repeat (first | (with_reducible first | exact HB.out | apply below_alloc | apply pw_below_drewN | apply below_drew1) | exact HB.out)⟩⟩
                    · rw [if_neg c12] at H
                      have c12b0 : ((bt a0 x19_2) == 47) = false := beq_eq_false_iff_ne.mpr c12
                      have c12b1 : ((bt a0 x19_2) != 47) = true := bne_iff_ne.mpr c12
                      have H' := Aside0.mk H
                      clear H
                      have p11 : 0 ≤ (x19_2 : Int) := of_decide_eq_true (by first | (with_reducible assumption) | assumption)
                      have q11 : x19_2 < (a0.size : Int) := of_decide_eq_true (by first | (with_reducible assumption) | assumption)
                      have hx11 := bt_at a0 x19_2
                      replace p11 := eq_true p11
                      replace q11 := eq_true q11
                      go_wp2
                      repeat (go_quiet (fail); try go_wp2)
                      go_roundg k2
                      case measure => have := HJ1.out; have := HK2.out; omega
                      case rel => exact ⟨(wrap64 (x19_2 + 1)), (by first | rfl | (simp; done) | (simp [*]; done)), H', ⟨by have := HJ1.out; have := HK2.out; omega⟩, ⟨by repeat (first | (with_reducible first | exact HB.out | apply below_alloc | apply pw_below_drewN | apply below_drew1) | exact HB.out)⟩⟩
                  · rw [if_neg c10] at H
                    exact absurd H (by simp)
                · rw [if_neg c9] at H
                  exact absurd H (by simp)
              · rw [if_neg c8] at H
                have c8b0 : decide (x19_2 < (a0.size : Int)) = false := decide_eq_false c8
                clear c8
                simp only [Option.some.injEq, Prod.mk.injEq] at H
                obtain ⟨rfl, rfl, rfl⟩ := H
                go_wp2
                repeat (go_quiet (fail); try go_wp2)
                go_ret3
                exact ⟨by first | rfl | (simp [errW_none, errW_some] <;> rfl) | (simp [*, errW_none, errW_some] <;> rfl), by repeat (first | (with_reducible first | exact HB.out | apply below_alloc | apply pw_below_drewN | apply below_drew1) | exact HB.out)⟩

/-! ### ustar_FitsLink: function 19 -/
def ustar_FitsLink.f (a0 : ByteArray) : Option (Bool) := if a0.toList = ([] : List UInt8) then (some false) else (if (a0.size : Int) ≤ 100 then ((ustar_ascii.f a0).bind fun t102 => (some t102)) else (some false))
set_option maxHeartbeats 8000000 in
set_option maxRecDepth 100000 in
theorem ustar_FitsLink.calls (a0 : ByteArray) (r : Bool) (w : World) (h : ustar_FitsLink.f a0 = some r) :
    Calls Try.prog 19 #[.string a0] w fun e w' => e = .returned (.bool r) ∧ Below w.heap.size w w' := by
  have HB := Aside0.mk (Below.refl w.heap.size w)
  have H : (if a0.toList = ([] : List UInt8) then (some false) else (if (a0.size : Int) ≤ 100 then ((ustar_ascii.f a0).bind fun t102 => (some t102)) else (some false))) = some r := h
  clear h
  by_cases c2 : a0.toList = ([] : List UInt8)
  · rw [if_pos c2] at H
    have c2b0 : (a0.toList == ([] : List UInt8)) = true := beq_iff_eq.mpr c2
    have c2b1 : (a0.toList != ([] : List UInt8)) = false := bne_eq_false_iff_eq.mpr c2
    have c2b2 : a0.toList.isEmpty = true := List.isEmpty_iff.2 c2
    clear c2
    (try rw [c2b2])
    (try simp only [Bool.not_true, Bool.not_false])
    obtain rfl := Option.some.inj H
    go_enter Try.func19, Try.ntmps19
    go_wp2
    go_ret
    exact ⟨by first | rfl | (simp [errW_none, errW_some] <;> rfl) | (simp [*, errW_none, errW_some] <;> rfl), by repeat (first | (with_reducible first | exact HB.out | apply below_alloc | apply pw_below_drewN | apply below_drew1) | exact HB.out)⟩
  · rw [if_neg c2] at H
    have c2b0 : (a0.toList == ([] : List UInt8)) = false := beq_eq_false_iff_ne.mpr c2
    have c2b1 : (a0.toList != ([] : List UInt8)) = true := bne_iff_ne.mpr c2
    have c2b2 : a0.toList.isEmpty = false := Bool.eq_false_iff.2 (fun h_ => c2 (List.isEmpty_iff.1 h_))
    (try rw [c2b2])
    (try simp only [Bool.not_true, Bool.not_false])
    by_cases c3 : (a0.size : Int) ≤ 100
    · rw [if_pos c3] at H
      have c3b0 : decide ((a0.size : Int) ≤ 100) = true := decide_eq_true c3
      have c3b1 : decide (a0.size ≤ 100) = true := decide_eq_true (by omega)
      clear c3
      replace H := Option.bind_eq_some_iff.mp H
      obtain ⟨t102, A40, H⟩ := H
      replace H : (some t102) = some r := H
      have A4 := Aside0.mk A40
      clear A40
      obtain rfl := Option.some.inj H
      go_enter Try.func19, Try.ntmps19
      go_wp2_with (first | (go_at_call 38; (with_reducible refine (ustar_ascii.calls a0 t102 _ A4.out).mono ?_); rintro e w5 ⟨rfl, hb⟩; have n0_ := Aside0.mk (below_step (by repeat (first | (with_reducible first | exact HB.out | apply below_alloc | apply pw_below_drewN | apply below_drew1) | exact HB.out)) hb); clear HB; have HB := n0_; clear n0_; (try clear hb); (try clear hb2); (try clear hk); (try clear hi)))
      go_ret
      exact ⟨by first | rfl | (simp [errW_none, errW_some] <;> rfl) | (simp [*, errW_none, errW_some] <;> rfl), by repeat (first | (with_reducible first | exact HB.out | apply below_alloc | apply pw_below_drewN | apply below_drew1) | exact HB.out)⟩
    · rw [if_neg c3] at H
      have c3b0 : decide ((a0.size : Int) ≤ 100) = false := decide_eq_false c3
      have c3b1 : decide (a0.size ≤ 100) = false := decide_eq_false (by omega)
      clear c3
      obtain rfl := Option.some.inj H
      go_enter Try.func19, Try.ntmps19
      go_wp2
      go_ret
      exact ⟨by first | rfl | (simp [errW_none, errW_some] <;> rfl) | (simp [*, errW_none, errW_some] <;> rfl), by repeat (first | (with_reducible first | exact HB.out | apply below_alloc | apply pw_below_drewN | apply below_drew1) | exact HB.out)⟩

/-! ### ustar_FitsId: function 21 -/
def ustar_FitsId.f (a0 : Int) : Option (Bool) := if a0 ≥ 0 then (some (decide (a0 < 2097152))) else (some false)
set_option maxHeartbeats 8000000 in
set_option maxRecDepth 100000 in
theorem ustar_FitsId.calls (a0 : Int) (r : Bool) (w : World) (h : ustar_FitsId.f a0 = some r) :
    Calls Try.prog 21 #[.int .i64 a0] w fun e w' => e = .returned (.bool r) ∧ Drawn0 w w' := by
  have H : (if a0 ≥ 0 then (some (decide (a0 < 2097152))) else (some false)) = some r := h
  clear h
  by_cases c2 : a0 ≥ 0
  · rw [if_pos c2] at H
    have c2b0 : decide (0 ≤ a0) = true := decide_eq_true c2
    clear c2
    obtain rfl := Option.some.inj H
    go_enter Try.func21, Try.ntmps21
    go_wp2
    go_ret
    exact ⟨by first | rfl | (simp; done) | (simp [*]; done), by repeat (first | exact Drawn0.refl _ | apply Drawn0.step)⟩
  · rw [if_neg c2] at H
    have c2b0 : decide (0 ≤ a0) = false := decide_eq_false c2
    clear c2
    obtain rfl := Option.some.inj H
    go_enter Try.func21, Try.ntmps21
    go_wp2
    go_ret
    exact ⟨by first | rfl | (simp; done) | (simp [*]; done), by repeat (first | exact Drawn0.refl _ | apply Drawn0.step)⟩

/-! ### ustar_FitsTime: function 23 -/
def ustar_FitsTime.f (a0 : Int) : Option (Bool) := if a0 ≥ 0 then (some (decide (a0 < 8589934592))) else (some false)
set_option maxHeartbeats 8000000 in
set_option maxRecDepth 100000 in
theorem ustar_FitsTime.calls (a0 : Int) (r : Bool) (w : World) (h : ustar_FitsTime.f a0 = some r) :
    Calls Try.prog 23 #[.int .i64 a0] w fun e w' => e = .returned (.bool r) ∧ Drawn0 w w' := by
  have H : (if a0 ≥ 0 then (some (decide (a0 < 8589934592))) else (some false)) = some r := h
  clear h
  by_cases c2 : a0 ≥ 0
  · rw [if_pos c2] at H
    have c2b0 : decide (0 ≤ a0) = true := decide_eq_true c2
    clear c2
    obtain rfl := Option.some.inj H
    go_enter Try.func23, Try.ntmps23
    go_wp2
    go_ret
    exact ⟨by first | rfl | (simp; done) | (simp [*]; done), by repeat (first | exact Drawn0.refl _ | apply Drawn0.step)⟩
  · rw [if_neg c2] at H
    have c2b0 : decide (0 ≤ a0) = false := decide_eq_false c2
    clear c2
    obtain rfl := Option.some.inj H
    go_enter Try.func23, Try.ntmps23
    go_wp2
    go_ret
    exact ⟨by first | rfl | (simp; done) | (simp [*]; done), by repeat (first | exact Drawn0.refl _ | apply Drawn0.step)⟩

end Go.Proofs.Ytkdklgcjimnabaa.PUstar
