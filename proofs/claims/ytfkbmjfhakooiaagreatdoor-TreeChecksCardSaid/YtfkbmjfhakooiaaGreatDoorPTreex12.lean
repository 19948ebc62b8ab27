/- Printed for this claim by a copy of the kit's print.py that takes functions walked by our own texts. Conditions: none. -/
import Derived.Test.YtfkbmjfhakooiaaGreatDoorPTreex0
import Derived.Test.YtfkbmjfhakooiaaGreatDoorPTreex6
import Derived.Test.YtfkbmjfhakooiaaGreatDoorPTreex9
import Derived.Test.YtfkbmjfhakooiaaGreatDoorPTreex10
import Derived.Test.YtfkbmjfhakooiaaGreatDoorPTreex11
namespace Go.Proofs.YtfkbmjfhakooiaaGreatDoor.PTree
open Go.RowKit Go.Proofs.YtfkbmjfhakooiaaGreatDoorW.PrintWords Go.Proofs.YtfkbmjfhakooiaaGreatDoorW.PrintLast Go.Proofs.YtfkbmjfhakooiaaGreatDoorW.PrintMore
attribute [local go_sem] max2_int min2_int max_two min_two max_three min_three max_four min_four   -- for this text's walks alone
set_option linter.unusedVariables false
set_option linter.unusedSimpArgs false

/-! ### amphoraref09_Check: function 20 -/
mutual
def amphoraref09_Check.l0 : Nat → List (S28) → Int → Int → Option (Int × Int)
  | 0, _, _, _ => none
  | k + 1, x0, x4, x5 => if x5 < (x0.length : Int) then (if 0 ≤ x5 then ((amphoraref08_Good.f k ((rd_T28 x0 x5).f0)).bind fun t282 => (if t282 = true then ((amphoraref08_Parent.f k ((rd_T28 x0 x5).f0)).bind fun bt283 => ((amphoraref09_fields.f k ((rd_T28 x0 x5).f0) ((rd_T28 x0 x5).f1) ((rd_T28 x0 x5).f2) ((rd_T28 x0 x5).f3) ((rd_T28 x0 x5).f4) ((rd_T28 x0 x5).f5) ((rd_T28 x0 x5).f6) ((rd_T28 x0 x5).f7)).bind fun t285 => (if t285 = true then (if x5 > 0 then (if 0 ≤ (wrap64 (x5 - 1)) then (if (wrap64 (x5 - 1)) < (x0.length : Int) then ((amphoraref08_Compare.f k ((rd_T28 x0 (wrap64 (x5 - 1))).f0) ((rd_T28 x0 x5).f0)).bind fun t287 => (amphoraref09_Check.j1 k x0 x4 x5 bt283.1 bt283.2 (t287 != (-1)) ((rd_T28 x0 x5).f0) ((rd_T28 x0 x5).f1) ((rd_T28 x0 x5).f2) ((rd_T28 x0 x5).f3) ((rd_T28 x0 x5).f4) ((rd_T28 x0 x5).f5) ((rd_T28 x0 x5).f6) ((rd_T28 x0 x5).f7))) else (none)) else (none)) else (amphoraref09_Check.j1 k x0 x4 x5 bt283.1 bt283.2 false ((rd_T28 x0 x5).f0) ((rd_T28 x0 x5).f1) ((rd_T28 x0 x5).f2) ((rd_T28 x0 x5).f3) ((rd_T28 x0 x5).f4) ((rd_T28 x0 x5).f5) ((rd_T28 x0 x5).f6) ((rd_T28 x0 x5).f7))) else (amphoraref09_Check.j1 k x0 x4 x5 bt283.1 bt283.2 true ((rd_T28 x0 x5).f0) ((rd_T28 x0 x5).f1) ((rd_T28 x0 x5).f2) ((rd_T28 x0 x5).f3) ((rd_T28 x0 x5).f4) ((rd_T28 x0 x5).f5) ((rd_T28 x0 x5).f6) ((rd_T28 x0 x5).f7))))) else (some (x5, 12)))) else (none)) else (some ((-1), 0))
def amphoraref09_Check.j1 : Nat → List (S28) → Int → Int → ByteArray → Bool → Bool → ByteArray → Int → Int → Int → Int → Int → ByteArray → List Int → Option (Int × Int)
  | 0, _, _, _, _, _, _, _, _, _, _, _, _, _, _ => none
  | k + 1, x0, x4, x5, x7, x8, x9, x282000, x282001, x282002, x282003, x282004, x282005, x282006, x282007 => if x9 = true then (amphoraref09_Check.j2 k x0 x4 x5 true x282000 x282001 x282002 x282003 x282004 x282005 x282006 x282007) else (if x8 = true then ((amphoraref09_kind.f k x0 x5 x7).bind fun t288 => (amphoraref09_Check.j2 k x0 x4 x5 (t288 != 1) x282000 x282001 x282002 x282003 x282004 x282005 x282006 x282007)) else (amphoraref09_Check.j2 k x0 x4 x5 false x282000 x282001 x282002 x282003 x282004 x282005 x282006 x282007))
def amphoraref09_Check.j2 : Nat → List (S28) → Int → Int → Bool → ByteArray → Int → Int → Int → Int → Int → ByteArray → List Int → Option (Int × Int)
  | 0, _, _, _, _, _, _, _, _, _, _, _, _ => none
  | k + 1, x0, x4, x5, x9, x282000, x282001, x282002, x282003, x282004, x282005, x282006, x282007 => if x9 = true then (amphoraref09_Check.j3 k x0 x4 x5 true x282000 x282001 x282002 x282003 x282004 x282005 x282006 x282007) else (if x282001 = 4 then ((amphoraref09_kind.f k x0 x5 x282006).bind fun t289 => (amphoraref09_Check.j3 k x0 x4 x5 (t289 != 2) x282000 x282001 x282002 x282003 x282004 x282005 x282006 x282007)) else (amphoraref09_Check.j3 k x0 x4 x5 false x282000 x282001 x282002 x282003 x282004 x282005 x282006 x282007))
def amphoraref09_Check.j3 : Nat → List (S28) → Int → Int → Bool → ByteArray → Int → Int → Int → Int → Int → ByteArray → List Int → Option (Int × Int)
  | 0, _, _, _, _, _, _, _, _, _, _, _, _ => none
  | k + 1, x0, x4, x5, x9, x282000, x282001, x282002, x282003, x282004, x282005, x282006, x282007 => if x9 = true then (some (x5, 13)) else (if (wrap64 (x4 + (x282007.length : Int))) > 1048576 then (some (x5, 18)) else (amphoraref09_Check.l0 k x0 (wrap64 (x4 + (x282007.length : Int))) (wrap64 (x5 + 1))))
end
def amphoraref09_Check.f (k : Nat) (l0 : List (S28)) : Option (Int × Int) := if (l0.length : Int) > 200 then (some ((l0.length : Int), 19)) else (amphoraref09_Check.l0 k l0 0 0)
theorem amphoraref09_Check.mono_l : ∀ k, (∀ y0 y1 y2, LeO (amphoraref09_Check.l0 k y0 y1 y2) (amphoraref09_Check.l0 (k + 1) y0 y1 y2)) ∧ (∀ y0 y1 y2 y3 y4 y5 y6 y7 y8 y9 y10 y11 y12 y13, LeO (amphoraref09_Check.j1 k y0 y1 y2 y3 y4 y5 y6 y7 y8 y9 y10 y11 y12 y13) (amphoraref09_Check.j1 (k + 1) y0 y1 y2 y3 y4 y5 y6 y7 y8 y9 y10 y11 y12 y13)) ∧ (∀ y0 y1 y2 y3 y4 y5 y6 y7 y8 y9 y10 y11, LeO (amphoraref09_Check.j2 k y0 y1 y2 y3 y4 y5 y6 y7 y8 y9 y10 y11) (amphoraref09_Check.j2 (k + 1) y0 y1 y2 y3 y4 y5 y6 y7 y8 y9 y10 y11)) ∧ (∀ y0 y1 y2 y3 y4 y5 y6 y7 y8 y9 y10 y11, LeO (amphoraref09_Check.j3 k y0 y1 y2 y3 y4 y5 y6 y7 y8 y9 y10 y11) (amphoraref09_Check.j3 (k + 1) y0 y1 y2 y3 y4 y5 y6 y7 y8 y9 y10 y11))
  | 0 => ⟨fun _ _ _ r h => by simp [amphoraref09_Check.l0] at h, fun _ _ _ _ _ _ _ _ _ _ _ _ _ _ r h => by simp [amphoraref09_Check.j1] at h, fun _ _ _ _ _ _ _ _ _ _ _ _ r h => by simp [amphoraref09_Check.j2] at h, fun _ _ _ _ _ _ _ _ _ _ _ _ r h => by simp [amphoraref09_Check.j3] at h⟩
  | k + 1 => by
    obtain ⟨ih0, ih1, ih2, ih3⟩ := amphoraref09_Check.mono_l k
    refine ⟨?_, ?_, ?_, ?_⟩
    · intro y0 y1 y2
      unfold amphoraref09_Check.l0
      repeat' first
      | (with_reducible exact ih0 _ _ _)
      | (with_reducible exact ih1 _ _ _ _ _ _ _ _ _ _ _ _ _ _)
      | (with_reducible exact ih2 _ _ _ _ _ _ _ _ _ _ _ _)
      | (with_reducible exact ih3 _ _ _ _ _ _ _ _ _ _ _ _)
      | (with_reducible exact amphoraref08_Compare.mono _ _ _)
      | (with_reducible exact amphoraref08_Good.mono _ _)
      | (with_reducible exact amphoraref08_Parent.mono _ _)
      | (with_reducible exact amphoraref09_fields.mono _ _ _ _ _ _ _ _ _)
      | (with_reducible exact amphoraref09_kind.mono _ _ _ _)
      | (with_reducible exact LeO.refl _)
      | (with_reducible exact LeO.none _)
      | (with_reducible refine LeO.ite ?_ ?_)
      | (with_reducible refine LeO.bind ?_ (fun _ => ?_))
      | exact ih0 _ _ _
      | exact ih1 _ _ _ _ _ _ _ _ _ _ _ _ _ _
      | exact ih2 _ _ _ _ _ _ _ _ _ _ _ _
      | exact ih3 _ _ _ _ _ _ _ _ _ _ _ _
      | exact amphoraref08_Compare.mono _ _ _
      | exact amphoraref08_Good.mono _ _
      | exact amphoraref08_Parent.mono _ _
      | exact amphoraref09_fields.mono _ _ _ _ _ _ _ _ _
      | exact amphoraref09_kind.mono _ _ _ _
      | exact LeO.none _
      | refine LeO.ite ?_ ?_
      | refine LeO.bind ?_ (fun _ => ?_)
    · intro y0 y1 y2 y3 y4 y5 y6 y7 y8 y9 y10 y11 y12 y13
      unfold amphoraref09_Check.j1
      repeat' first
      | (with_reducible exact ih0 _ _ _)
      | (with_reducible exact ih1 _ _ _ _ _ _ _ _ _ _ _ _ _ _)
      | (with_reducible exact ih2 _ _ _ _ _ _ _ _ _ _ _ _)
      | (with_reducible exact ih3 _ _ _ _ _ _ _ _ _ _ _ _)
      | (with_reducible exact amphoraref08_Compare.mono _ _ _)
      | (with_reducible exact amphoraref08_Good.mono _ _)
      | (with_reducible exact amphoraref08_Parent.mono _ _)
      | (with_reducible exact amphoraref09_fields.mono _ _ _ _ _ _ _ _ _)
      | (with_reducible exact amphoraref09_kind.mono _ _ _ _)
      | (with_reducible exact LeO.refl _)
      | (with_reducible exact LeO.none _)
      | (with_reducible refine LeO.ite ?_ ?_)
      | (with_reducible refine LeO.bind ?_ (fun _ => ?_))
      | exact ih0 _ _ _
      | exact ih1 _ _ _ _ _ _ _ _ _ _ _ _ _ _
      | exact ih2 _ _ _ _ _ _ _ _ _ _ _ _
      | exact ih3 _ _ _ _ _ _ _ _ _ _ _ _
      | exact amphoraref08_Compare.mono _ _ _
      | exact amphoraref08_Good.mono _ _
      | exact amphoraref08_Parent.mono _ _
      | exact amphoraref09_fields.mono _ _ _ _ _ _ _ _ _
      | exact amphoraref09_kind.mono _ _ _ _
      | exact LeO.none _
      | refine LeO.ite ?_ ?_
      | refine LeO.bind ?_ (fun _ => ?_)
    · intro y0 y1 y2 y3 y4 y5 y6 y7 y8 y9 y10 y11
      unfold amphoraref09_Check.j2
      repeat' first
      | (with_reducible exact ih0 _ _ _)
      | (with_reducible exact ih1 _ _ _ _ _ _ _ _ _ _ _ _ _ _)
      | (with_reducible exact ih2 _ _ _ _ _ _ _ _ _ _ _ _)
      | (with_reducible exact ih3 _ _ _ _ _ _ _ _ _ _ _ _)
      | (with_reducible exact amphoraref08_Compare.mono _ _ _)
      | (with_reducible exact amphoraref08_Good.mono _ _)
      | (with_reducible exact amphoraref08_Parent.mono _ _)
      | (with_reducible exact amphoraref09_fields.mono _ _ _ _ _ _ _ _ _)
      | (with_reducible exact amphoraref09_kind.mono _ _ _ _)
      | (with_reducible exact LeO.refl _)
      | (with_reducible exact LeO.none _)
      | (with_reducible refine LeO.ite ?_ ?_)
      | (with_reducible refine LeO.bind ?_ (fun _ => ?_))
      | exact ih0 _ _ _
      | exact ih1 _ _ _ _ _ _ _ _ _ _ _ _ _ _
      | exact ih2 _ _ _ _ _ _ _ _ _ _ _ _
      | exact ih3 _ _ _ _ _ _ _ _ _ _ _ _
      | exact amphoraref08_Compare.mono _ _ _
      | exact amphoraref08_Good.mono _ _
      | exact amphoraref08_Parent.mono _ _
      | exact amphoraref09_fields.mono _ _ _ _ _ _ _ _ _
      | exact amphoraref09_kind.mono _ _ _ _
      | exact LeO.none _
      | refine LeO.ite ?_ ?_
      | refine LeO.bind ?_ (fun _ => ?_)
    · intro y0 y1 y2 y3 y4 y5 y6 y7 y8 y9 y10 y11
      unfold amphoraref09_Check.j3
      repeat' first
      | (with_reducible exact ih0 _ _ _)
      | (with_reducible exact ih1 _ _ _ _ _ _ _ _ _ _ _ _ _ _)
      | (with_reducible exact ih2 _ _ _ _ _ _ _ _ _ _ _ _)
      | (with_reducible exact ih3 _ _ _ _ _ _ _ _ _ _ _ _)
      | (with_reducible exact amphoraref08_Compare.mono _ _ _)
      | (with_reducible exact amphoraref08_Good.mono _ _)
      | (with_reducible exact amphoraref08_Parent.mono _ _)
      | (with_reducible exact amphoraref09_fields.mono _ _ _ _ _ _ _ _ _)
      | (with_reducible exact amphoraref09_kind.mono _ _ _ _)
      | (with_reducible exact LeO.refl _)
      | (with_reducible exact LeO.none _)
      | (with_reducible refine LeO.ite ?_ ?_)
      | (with_reducible refine LeO.bind ?_ (fun _ => ?_))
      | exact ih0 _ _ _
      | exact ih1 _ _ _ _ _ _ _ _ _ _ _ _ _ _
      | exact ih2 _ _ _ _ _ _ _ _ _ _ _ _
      | exact ih3 _ _ _ _ _ _ _ _ _ _ _ _
      | exact amphoraref08_Compare.mono _ _ _
      | exact amphoraref08_Good.mono _ _
      | exact amphoraref08_Parent.mono _ _
      | exact amphoraref09_fields.mono _ _ _ _ _ _ _ _ _
      | exact amphoraref09_kind.mono _ _ _ _
      | exact LeO.none _
      | refine LeO.ite ?_ ?_
      | refine LeO.bind ?_ (fun _ => ?_)
theorem amphoraref09_Check.mono : ∀ a0 k, LeO (amphoraref09_Check.f k a0) (amphoraref09_Check.f (k + 1) a0) := by
  intro a0 k
  obtain ⟨ih0, ih1, ih2, ih3⟩ := amphoraref09_Check.mono_l k
  unfold amphoraref09_Check.f
  repeat' first
      | (with_reducible exact ih0 _ _ _)
      | (with_reducible exact ih1 _ _ _ _ _ _ _ _ _ _ _ _ _ _)
      | (with_reducible exact ih2 _ _ _ _ _ _ _ _ _ _ _ _)
      | (with_reducible exact ih3 _ _ _ _ _ _ _ _ _ _ _ _)
      | (with_reducible exact amphoraref08_Compare.mono _ _ _)
      | (with_reducible exact amphoraref08_Good.mono _ _)
      | (with_reducible exact amphoraref08_Parent.mono _ _)
      | (with_reducible exact amphoraref09_fields.mono _ _ _ _ _ _ _ _ _)
      | (with_reducible exact amphoraref09_kind.mono _ _ _ _)
      | (with_reducible exact LeO.refl _)
      | (with_reducible exact LeO.none _)
      | (with_reducible refine LeO.ite ?_ ?_)
      | (with_reducible refine LeO.bind ?_ (fun _ => ?_))
      | exact ih0 _ _ _
      | exact ih1 _ _ _ _ _ _ _ _ _ _ _ _ _ _
      | exact ih2 _ _ _ _ _ _ _ _ _ _ _ _
      | exact ih3 _ _ _ _ _ _ _ _ _ _ _ _
      | exact amphoraref08_Compare.mono _ _ _
      | exact amphoraref08_Good.mono _ _
      | exact amphoraref08_Parent.mono _ _
      | exact amphoraref09_fields.mono _ _ _ _ _ _ _ _ _
      | exact amphoraref09_kind.mono _ _ _ _
      | exact LeO.none _
      | refine LeO.ite ?_ ?_
      | refine LeO.bind ?_ (fun _ => ?_)
def amphoraref09_Check.T12 : Bool × List (List Nat × List Nat) := (true, [([], []), ([0], [0]), ([1], [1]), ([2, 1], [1, 2]), ([3, 1, 1], [1, 3]), ([4], [4]), ([4], [4]), ([6, 4], [4, 6]), ([5, 7, 4], [4, 5, 7]), ([8, 4], [4, 8]), ([9, 4], [4, 9]), ([4], [4]), ([11, 4], [4, 11]), ([10, 12, 4, 4], [4, 10, 12]), ([13, 4], [4, 13]), ([4, 14, 1], [1, 4, 14]), ([1, 15], [1, 15]), ([16, 13, 0, 1, 2, 3, 4, 5, 6, 7, 8, 9, 10, 11, 12, 13, 14, 15, 16], [0, 16])])
def amphoraref09_Check.B12 : List Nat := [0, 1, 3, 7, 15, 31, 31, 95, 255, 511, 1023, 31, 2079, 8191, 16383, 32767, 65535, 131071]
theorem amphoraref09_Check.tab12 : rtab .any (opsOf Tryz.f20 12) = amphoraref09_Check.T12 := by kernel_rfl
theorem amphoraref09_Check.bits12 : waitsOk amphoraref09_Check.T12.2 amphoraref09_Check.B12 = true := by kernel_rfl
set_option maxHeartbeats 8000000 in
set_option maxRecDepth 100000 in
theorem amphoraref09_Check.calls (k : Nat) (A0 : Option Addr) (c0 : Nat) (l0 : List (S28)) (r1 : Int) (r2 : Int) (w : World) (hr0 : Kd.C k28 w A0 l0.length l0) (hc0 : l0.length ≤ c0) (hGl : Gl w) (h : amphoraref09_Check.f k l0 = some (r1, r2)) :
    Calls Tryz.prog 20 #[.slice A0 l0.length c0] w fun e w' => e = .returned (.tuple #[.int .i64 r1, .int .i64 r2]) ∧ Below w.heap.size w w' := by
  have hu28 := Tryz.underlying28
  have HR0 := Aside0.mk hr0
  have HC0 := Aside0.mk hc0
  clear hr0 hc0
  have HB := Aside0.mk (Below.refl w.heap.size w)
  have HGL := Aside0.mk hGl
  clear hGl
  have H : (if (l0.length : Int) > 200 then (some ((l0.length : Int), 19)) else (amphoraref09_Check.l0 k l0 0 0)) = some (r1, r2) := h
  clear h
  by_cases c2 : (l0.length : Int) > 200
  · rw [if_pos c2] at H
    have c2b0 : decide (200 < (l0.length : Int)) = true := decide_eq_true c2
    have c2b1 : decide (200 < l0.length) = true := decide_eq_true (by omega)
    clear c2
    simp only [Option.some.injEq, Prod.mk.injEq] at H
    obtain ⟨rfl, rfl⟩ := H
    go_enter Tryz.func20, Tryz.ntmps20
    go_wp2
    go_ret2
    exact ⟨by first | rfl | (simp [errW_none, errW_some] <;> rfl) | (simp [*, errW_none, errW_some] <;> rfl), by repeat (first | (with_reducible first | exact HB.out | apply below_alloc | apply pw_below_drewN | apply below_drew1) | exact HB.out)⟩
  · rw [if_neg c2] at H
    have c2b0 : decide (200 < (l0.length : Int)) = false := decide_eq_false c2
    have c2b1 : decide (200 < l0.length) = false := decide_eq_false (by omega)
    clear c2
    have H' := Aside0.mk H
    clear H
    go_enter Tryz.func20, Tryz.ntmps20
    go_wp2
    go_loopg [4, 5] k (fun kq v4 v5 w' => ∃ (x4_1 : Int) (x5_1 : Int), v4 = .int .i64 x4_1 ∧ v5 = .int .i64 x5_1 ∧ Aside0 (amphoraref09_Check.l0 kq l0 x4_1 x5_1 = some (r1, r2)) ∧ Aside0 (kq ≤ k) ∧ Aside0 (Below w.heap.size w w'))
    case atStart => exact ⟨(0), (0), (by first | rfl | (simp; done) | (simp [*]; done)), (by first | rfl | (simp; done) | (simp [*]; done)), H', ⟨Nat.le_refl _⟩, ⟨by repeat (first | (with_reducible first | exact HB.out | apply below_alloc | apply pw_below_drewN | apply below_drew1) | exact HB.out)⟩⟩
    case round =>
      clear H'
      try clear c2
      try clear c2b0
      try clear c2b1
      try clear p2
      obtain ⟨x4_1, x5_1, rfl, rfl, HA, HK1, HB⟩ := hrel
      cases gk with
      | zero => exact absurd HA.out (by simp [amphoraref09_Check.l0])
      | succ k1 =>
        have H := HA.out
        clear HA
        simp only [amphoraref09_Check.l0] at H
        by_cases c3 : x5_1 < (l0.length : Int)
        · rw [if_pos c3] at H
          have c3b0 : decide (x5_1 < (l0.length : Int)) = true := decide_eq_true c3
          clear c3
          by_cases c4 : 0 ≤ x5_1
          · rw [if_pos c4] at H
            have c4b0 : decide (0 ≤ x5_1) = true := decide_eq_true c4
            clear c4
            replace H := Option.bind_eq_some_iff.mp H
            obtain ⟨t282, A50, H⟩ := H
            replace H : (if t282 = true then ((amphoraref08_Parent.f k1 ((rd_T28 l0 x5_1).f0)).bind fun bt283 => ((amphoraref09_fields.f k1 ((rd_T28 l0 x5_1).f0) ((rd_T28 l0 x5_1).f1) ((rd_T28 l0 x5_1).f2) ((rd_T28 l0 x5_1).f3) ((rd_T28 l0 x5_1).f4) ((rd_T28 l0 x5_1).f5) ((rd_T28 l0 x5_1).f6) ((rd_T28 l0 x5_1).f7)).bind fun t285 => (if t285 = true then (if x5_1 > 0 then (if 0 ≤ (wrap64 (x5_1 - 1)) then (if (wrap64 (x5_1 - 1)) < (l0.length : Int) then ((amphoraref08_Compare.f k1 ((rd_T28 l0 (wrap64 (x5_1 - 1))).f0) ((rd_T28 l0 x5_1).f0)).bind fun t287 => (amphoraref09_Check.j1 k1 l0 x4_1 x5_1 bt283.1 bt283.2 (t287 != (-1)) ((rd_T28 l0 x5_1).f0) ((rd_T28 l0 x5_1).f1) ((rd_T28 l0 x5_1).f2) ((rd_T28 l0 x5_1).f3) ((rd_T28 l0 x5_1).f4) ((rd_T28 l0 x5_1).f5) ((rd_T28 l0 x5_1).f6) ((rd_T28 l0 x5_1).f7))) else (none)) else (none)) else (amphoraref09_Check.j1 k1 l0 x4_1 x5_1 bt283.1 bt283.2 false ((rd_T28 l0 x5_1).f0) ((rd_T28 l0 x5_1).f1) ((rd_T28 l0 x5_1).f2) ((rd_T28 l0 x5_1).f3) ((rd_T28 l0 x5_1).f4) ((rd_T28 l0 x5_1).f5) ((rd_T28 l0 x5_1).f6) ((rd_T28 l0 x5_1).f7))) else (amphoraref09_Check.j1 k1 l0 x4_1 x5_1 bt283.1 bt283.2 true ((rd_T28 l0 x5_1).f0) ((rd_T28 l0 x5_1).f1) ((rd_T28 l0 x5_1).f2) ((rd_T28 l0 x5_1).f3) ((rd_T28 l0 x5_1).f4) ((rd_T28 l0 x5_1).f5) ((rd_T28 l0 x5_1).f6) ((rd_T28 l0 x5_1).f7))))) else (some (x5_1, 12))) = some (r1, r2) := H
            have A5 := Aside0.mk A50
            clear A50
            by_cases c6 : t282 = true
            · subst c6
              have H1 : ((amphoraref08_Parent.f k1 ((rd_T28 l0 x5_1).f0)).bind fun bt283 => ((amphoraref09_fields.f k1 ((rd_T28 l0 x5_1).f0) ((rd_T28 l0 x5_1).f1) ((rd_T28 l0 x5_1).f2) ((rd_T28 l0 x5_1).f3) ((rd_T28 l0 x5_1).f4) ((rd_T28 l0 x5_1).f5) ((rd_T28 l0 x5_1).f6) ((rd_T28 l0 x5_1).f7)).bind fun t285 => (if t285 = true then (if x5_1 > 0 then (if 0 ≤ (wrap64 (x5_1 - 1)) then (if (wrap64 (x5_1 - 1)) < (l0.length : Int) then ((amphoraref08_Compare.f k1 ((rd_T28 l0 (wrap64 (x5_1 - 1))).f0) ((rd_T28 l0 x5_1).f0)).bind fun t287 => (amphoraref09_Check.j1 k1 l0 x4_1 x5_1 bt283.1 bt283.2 (t287 != (-1)) ((rd_T28 l0 x5_1).f0) ((rd_T28 l0 x5_1).f1) ((rd_T28 l0 x5_1).f2) ((rd_T28 l0 x5_1).f3) ((rd_T28 l0 x5_1).f4) ((rd_T28 l0 x5_1).f5) ((rd_T28 l0 x5_1).f6) ((rd_T28 l0 x5_1).f7))) else (none)) else (none)) else (amphoraref09_Check.j1 k1 l0 x4_1 x5_1 bt283.1 bt283.2 false ((rd_T28 l0 x5_1).f0) ((rd_T28 l0 x5_1).f1) ((rd_T28 l0 x5_1).f2) ((rd_T28 l0 x5_1).f3) ((rd_T28 l0 x5_1).f4) ((rd_T28 l0 x5_1).f5) ((rd_T28 l0 x5_1).f6) ((rd_T28 l0 x5_1).f7))) else (amphoraref09_Check.j1 k1 l0 x4_1 x5_1 bt283.1 bt283.2 true ((rd_T28 l0 x5_1).f0) ((rd_T28 l0 x5_1).f1) ((rd_T28 l0 x5_1).f2) ((rd_T28 l0 x5_1).f3) ((rd_T28 l0 x5_1).f4) ((rd_T28 l0 x5_1).f5) ((rd_T28 l0 x5_1).f6) ((rd_T28 l0 x5_1).f7))))) = some (r1, r2) := by rw [if_pos rfl] at H; exact H
              clear H
              have H := H1
              clear H1
              replace H := Option.bind_eq_some_iff.mp H
              obtain ⟨⟨t283, t284⟩, A70, H⟩ := H
              replace H : ((amphoraref09_fields.f k1 ((rd_T28 l0 x5_1).f0) ((rd_T28 l0 x5_1).f1) ((rd_T28 l0 x5_1).f2) ((rd_T28 l0 x5_1).f3) ((rd_T28 l0 x5_1).f4) ((rd_T28 l0 x5_1).f5) ((rd_T28 l0 x5_1).f6) ((rd_T28 l0 x5_1).f7)).bind fun t285 => (if t285 = true then (if x5_1 > 0 then (if 0 ≤ (wrap64 (x5_1 - 1)) then (if (wrap64 (x5_1 - 1)) < (l0.length : Int) then ((amphoraref08_Compare.f k1 ((rd_T28 l0 (wrap64 (x5_1 - 1))).f0) ((rd_T28 l0 x5_1).f0)).bind fun t287 => (amphoraref09_Check.j1 k1 l0 x4_1 x5_1 t283 t284 (t287 != (-1)) ((rd_T28 l0 x5_1).f0) ((rd_T28 l0 x5_1).f1) ((rd_T28 l0 x5_1).f2) ((rd_T28 l0 x5_1).f3) ((rd_T28 l0 x5_1).f4) ((rd_T28 l0 x5_1).f5) ((rd_T28 l0 x5_1).f6) ((rd_T28 l0 x5_1).f7))) else (none)) else (none)) else (amphoraref09_Check.j1 k1 l0 x4_1 x5_1 t283 t284 false ((rd_T28 l0 x5_1).f0) ((rd_T28 l0 x5_1).f1) ((rd_T28 l0 x5_1).f2) ((rd_T28 l0 x5_1).f3) ((rd_T28 l0 x5_1).f4) ((rd_T28 l0 x5_1).f5) ((rd_T28 l0 x5_1).f6) ((rd_T28 l0 x5_1).f7))) else (amphoraref09_Check.j1 k1 l0 x4_1 x5_1 t283 t284 true ((rd_T28 l0 x5_1).f0) ((rd_T28 l0 x5_1).f1) ((rd_T28 l0 x5_1).f2) ((rd_T28 l0 x5_1).f3) ((rd_T28 l0 x5_1).f4) ((rd_T28 l0 x5_1).f5) ((rd_T28 l0 x5_1).f6) ((rd_T28 l0 x5_1).f7)))) = some (r1, r2) := H
              have A7 := Aside0.mk A70
              clear A70
              replace H := Option.bind_eq_some_iff.mp H
              obtain ⟨t285, A80, H⟩ := H
              replace H : (if t285 = true then (if x5_1 > 0 then (if 0 ≤ (wrap64 (x5_1 - 1)) then (if (wrap64 (x5_1 - 1)) < (l0.length : Int) then ((amphoraref08_Compare.f k1 ((rd_T28 l0 (wrap64 (x5_1 - 1))).f0) ((rd_T28 l0 x5_1).f0)).bind fun t287 => (amphoraref09_Check.j1 k1 l0 x4_1 x5_1 t283 t284 (t287 != (-1)) ((rd_T28 l0 x5_1).f0) ((rd_T28 l0 x5_1).f1) ((rd_T28 l0 x5_1).f2) ((rd_T28 l0 x5_1).f3) ((rd_T28 l0 x5_1).f4) ((rd_T28 l0 x5_1).f5) ((rd_T28 l0 x5_1).f6) ((rd_T28 l0 x5_1).f7))) else (none)) else (none)) else (amphoraref09_Check.j1 k1 l0 x4_1 x5_1 t283 t284 false ((rd_T28 l0 x5_1).f0) ((rd_T28 l0 x5_1).f1) ((rd_T28 l0 x5_1).f2) ((rd_T28 l0 x5_1).f3) ((rd_T28 l0 x5_1).f4) ((rd_T28 l0 x5_1).f5) ((rd_T28 l0 x5_1).f6) ((rd_T28 l0 x5_1).f7))) else (amphoraref09_Check.j1 k1 l0 x4_1 x5_1 t283 t284 true ((rd_T28 l0 x5_1).f0) ((rd_T28 l0 x5_1).f1) ((rd_T28 l0 x5_1).f2) ((rd_T28 l0 x5_1).f3) ((rd_T28 l0 x5_1).f4) ((rd_T28 l0 x5_1).f5) ((rd_T28 l0 x5_1).f6) ((rd_T28 l0 x5_1).f7))) = some (r1, r2) := H
              have A8 := Aside0.mk A80
              clear A80
              have HC9 := Aside0.mk H
              clear H
              have p280 : 0 ≤ (x5_1 : Int) := of_decide_eq_true (by first | (with_reducible assumption) | assumption)
              have q280 : x5_1 < (l0.length : Int) := of_decide_eq_true (by first | (with_reducible assumption) | assumption)
              obtain ⟨ad280, A280_7, c280_7, e280, hx280_0, hx280_1, hx280_2, hx280_3, hx280_4, hx280_5, hx280_6, hx280_7, hl280_7, hi280_7⟩ := at_T28 HR0.out x5_1 p280 q280
              cases e280
              replace hx280_0 := (HB.out.cell (World.block_lt_of_cell? w _ hx280_0)).trans hx280_0
              replace hx280_1 := (HB.out.cell (World.block_lt_of_cell? w _ hx280_1)).trans hx280_1
              replace hx280_2 := (HB.out.cell (World.block_lt_of_cell? w _ hx280_2)).trans hx280_2
              replace hx280_3 := (HB.out.cell (World.block_lt_of_cell? w _ hx280_3)).trans hx280_3
              replace hx280_4 := (HB.out.cell (World.block_lt_of_cell? w _ hx280_4)).trans hx280_4
              replace hx280_5 := (HB.out.cell (World.block_lt_of_cell? w _ hx280_5)).trans hx280_5
              replace hx280_6 := (HB.out.cell (World.block_lt_of_cell? w _ hx280_6)).trans hx280_6
              replace hx280_7 := (HB.out.cell (World.block_lt_of_cell? w _ hx280_7)).trans hx280_7
              have HR280_7 := Aside0.mk hi280_7
              have HC280_7 := Aside0.mk hl280_7
              clear hi280_7 hl280_7
              replace p280 := eq_true p280
              replace q280 := eq_true q280
              go_upto_region 12 with (first | ((with_reducible refine gate_dst (N := 6) rfl ?_); refine box_event ?hg (N := 6) ?hd (cs := #[.string (⟨#[]⟩ : ByteArray), .int .i64 0, .int .i64 0, .int .i64 0, .int .i64 0, .int .i64 0, .string (⟨#[]⟩ : ByteArray), .slice none 0 0]) (t := 28) ?hr ?_; (case hd => rfl); (case hg => rfl); (case hr => first | (go_simp; done) | (go_simp; rfl)); intro gb281 hg w10 hbox hb; have n0_ := Aside0.mk (below_step (by repeat (first | (with_reducible first | exact HB.out | apply below_alloc | apply pw_below_drewN | apply below_drew1) | exact HB.out)) hb); have n1_ := Aside0.mk (hbox); have n2_ := Aside0.mk ((by rw [hg]; exact (below_size (by repeat (first | (with_reducible first | exact HB.out | apply below_alloc | apply pw_below_drewN | apply below_drew1) | exact HB.out))) : w.heap.size ≤ gb281)); have n3_ := Aside0.mk ((by rw [hg]; exact (below_size (by repeat (first | (with_reducible first | exact HB.out | apply below_alloc | apply pw_below_drewN | apply below_drew1) | exact HB.out))) : w.heap.size ≤ gb281)); clear HB; have HB := n0_; have BK281 := n1_; have GW281 := n2_; have GE281 := n3_; clear n0_ n1_ n2_ n3_; clear hb hbox hg; have hcz11_0 : w10.cell? ⟨gb281, 0, none⟩ = some (.string (⟨#[]⟩ : ByteArray)) := (blk_cell BK281.out 0).trans rfl; have hcz11_1 : w10.cell? ⟨gb281, 1, none⟩ = some (.int .i64 0) := (blk_cell BK281.out 1).trans rfl; have hcz11_2 : w10.cell? ⟨gb281, 2, none⟩ = some (.int .i64 0) := (blk_cell BK281.out 2).trans rfl; have hcz11_3 : w10.cell? ⟨gb281, 3, none⟩ = some (.int .i64 0) := (blk_cell BK281.out 3).trans rfl; have hcz11_4 : w10.cell? ⟨gb281, 4, none⟩ = some (.int .i64 0) := (blk_cell BK281.out 4).trans rfl; have hcz11_5 : w10.cell? ⟨gb281, 5, none⟩ = some (.int .i64 0) := (blk_cell BK281.out 5).trans rfl; have hcz11_6 : w10.cell? ⟨gb281, 6, none⟩ = some (.string (⟨#[]⟩ : ByteArray)) := (blk_cell BK281.out 6).trans rfl; have hcz11_7 : w10.cell? ⟨gb281, 7, none⟩ = some (.slice none 0 0) := (blk_cell BK281.out 7).trans rfl; have hfz11_0 := blk_frozen BK281.out 0; have hfz11_1 := blk_frozen BK281.out 1; have hfz11_2 := blk_frozen BK281.out 2; have hfz11_3 := blk_frozen BK281.out 3; have hfz11_4 := blk_frozen BK281.out 4; have hfz11_5 := blk_frozen BK281.out 5; have hfz11_6 := blk_frozen BK281.out 6; have hfz11_7 := blk_frozen BK281.out 7) | ((with_reducible refine gate_callee (f := 38) rfl ?_); refine goesL_ (some 27) rfl rfl Tryz.func38 (by kernel_rfl) rfl #[.string ((rd_T28 l0 x5_1).f0)] rfl (by (try simp only [List.map_toArray, List.map_cons, List.map_nil]); first | done | rfl | (simp only [List.length_drop, List.length_take]; rfl)) ?_; (with_reducible refine (amphoraref08_Good.calls k1 ((rd_T28 l0 x5_1).f0) true _ ?side1 A5.out).mono ?_); (case side1 => first | (with_reducible exact HGL.out) | (with_reducible exact Gl.drewN HGL.out _) | exact Gl.of HGL.out (by repeat (first | (with_reducible first | exact HB.out | apply below_alloc | apply pw_below_drewN | apply below_drew1 | refine below_set ?_ GE281.out) | exact HB.out))); rintro e w12 ⟨rfl, hb⟩; refine ⟨_, rfl, ?_⟩; have n0_ := Aside0.mk (blk_below (g := gb281) (o := .cells #[.string ((rd_T28 l0 x5_1).f0), .int .i64 ((rd_T28 l0 x5_1).f1), .int .i64 ((rd_T28 l0 x5_1).f2), .int .i64 ((rd_T28 l0 x5_1).f3), .int .i64 ((rd_T28 l0 x5_1).f4), .int .i64 ((rd_T28 l0 x5_1).f5), .string ((rd_T28 l0 x5_1).f6), .slice A280_7 ((rd_T28 l0 x5_1).f7).length c280_7] 28 (0, 0)) (by (with_reducible repeat (first | refine blk_drewN ?_ _ | refine blk_drew ?_ | refine blk_alloc ?_ _)); refine blk_put (cs := #[.string ((rd_T28 l0 x5_1).f0), .int .i64 ((rd_T28 l0 x5_1).f1), .int .i64 ((rd_T28 l0 x5_1).f2), .int .i64 ((rd_T28 l0 x5_1).f3), .int .i64 ((rd_T28 l0 x5_1).f4), .int .i64 ((rd_T28 l0 x5_1).f5), .string ((rd_T28 l0 x5_1).f6), .slice none 0 0]) ?_ 7 _ rfl; (with_reducible repeat (first | refine blk_drewN ?_ _ | refine blk_drew ?_ | refine blk_alloc ?_ _)); refine blk_put (cs := #[.string ((rd_T28 l0 x5_1).f0), .int .i64 ((rd_T28 l0 x5_1).f1), .int .i64 ((rd_T28 l0 x5_1).f2), .int .i64 ((rd_T28 l0 x5_1).f3), .int .i64 ((rd_T28 l0 x5_1).f4), .int .i64 ((rd_T28 l0 x5_1).f5), .string (⟨#[]⟩ : ByteArray), .slice none 0 0]) ?_ 6 _ rfl; (with_reducible repeat (first | refine blk_drewN ?_ _ | refine blk_drew ?_ | refine blk_alloc ?_ _)); refine blk_put (cs := #[.string ((rd_T28 l0 x5_1).f0), .int .i64 ((rd_T28 l0 x5_1).f1), .int .i64 ((rd_T28 l0 x5_1).f2), .int .i64 ((rd_T28 l0 x5_1).f3), .int .i64 ((rd_T28 l0 x5_1).f4), .int .i64 0, .string (⟨#[]⟩ : ByteArray), .slice none 0 0]) ?_ 5 _ rfl; (with_reducible repeat (first | refine blk_drewN ?_ _ | refine blk_drew ?_ | refine blk_alloc ?_ _)); refine blk_put (cs := #[.string ((rd_T28 l0 x5_1).f0), .int .i64 ((rd_T28 l0 x5_1).f1), .int .i64 ((rd_T28 l0 x5_1).f2), .int .i64 ((rd_T28 l0 x5_1).f3), .int .i64 0, .int .i64 0, .string (⟨#[]⟩ : ByteArray), .slice none 0 0]) ?_ 4 _ rfl; (with_reducible repeat (first | refine blk_drewN ?_ _ | refine blk_drew ?_ | refine blk_alloc ?_ _)); refine blk_put (cs := #[.string ((rd_T28 l0 x5_1).f0), .int .i64 ((rd_T28 l0 x5_1).f1), .int .i64 ((rd_T28 l0 x5_1).f2), .int .i64 0, .int .i64 0, .int .i64 0, .string (⟨#[]⟩ : ByteArray), .slice none 0 0]) ?_ 3 _ rfl; (with_reducible repeat (first | refine blk_drewN ?_ _ | refine blk_drew ?_ | refine blk_alloc ?_ _)); refine blk_put (cs := #[.string ((rd_T28 l0 x5_1).f0), .int .i64 ((rd_T28 l0 x5_1).f1), .int .i64 0, .int .i64 0, .int .i64 0, .int .i64 0, .string (⟨#[]⟩ : ByteArray), .slice none 0 0]) ?_ 2 _ rfl; (with_reducible repeat (first | refine blk_drewN ?_ _ | refine blk_drew ?_ | refine blk_alloc ?_ _)); refine blk_put (cs := #[.string ((rd_T28 l0 x5_1).f0), .int .i64 0, .int .i64 0, .int .i64 0, .int .i64 0, .int .i64 0, .string (⟨#[]⟩ : ByteArray), .slice none 0 0]) ?_ 1 _ rfl; (with_reducible repeat (first | refine blk_drewN ?_ _ | refine blk_drew ?_ | refine blk_alloc ?_ _)); refine blk_put (cs := #[.string (⟨#[]⟩ : ByteArray), .int .i64 0, .int .i64 0, .int .i64 0, .int .i64 0, .int .i64 0, .string (⟨#[]⟩ : ByteArray), .slice none 0 0]) ?_ 0 _ rfl; (with_reducible repeat (first | refine blk_drewN ?_ _ | refine blk_drew ?_ | refine blk_alloc ?_ _)); exact BK281.out) hb); have n1_ := Aside0.mk (below_step (by repeat (first | (with_reducible first | exact HB.out | apply below_alloc | apply pw_below_drewN | apply below_drew1 | refine below_set ?_ GE281.out) | exact HB.out)) hb); clear BK281; clear HB; have BK281 := n0_; have HB := n1_; clear n0_ n1_; (try clear hb); (try clear hb2); (try clear hk); (try clear hi); have hcz13_0 : w12.cell? ⟨gb281, 0, none⟩ = some (.string ((rd_T28 l0 x5_1).f0)) := (blk_cell BK281.out 0).trans rfl; have hcz13_1 : w12.cell? ⟨gb281, 1, none⟩ = some (.int .i64 ((rd_T28 l0 x5_1).f1)) := (blk_cell BK281.out 1).trans rfl; have hcz13_2 : w12.cell? ⟨gb281, 2, none⟩ = some (.int .i64 ((rd_T28 l0 x5_1).f2)) := (blk_cell BK281.out 2).trans rfl; have hcz13_3 : w12.cell? ⟨gb281, 3, none⟩ = some (.int .i64 ((rd_T28 l0 x5_1).f3)) := (blk_cell BK281.out 3).trans rfl; have hcz13_4 : w12.cell? ⟨gb281, 4, none⟩ = some (.int .i64 ((rd_T28 l0 x5_1).f4)) := (blk_cell BK281.out 4).trans rfl; have hcz13_5 : w12.cell? ⟨gb281, 5, none⟩ = some (.int .i64 ((rd_T28 l0 x5_1).f5)) := (blk_cell BK281.out 5).trans rfl; have hcz13_6 : w12.cell? ⟨gb281, 6, none⟩ = some (.string ((rd_T28 l0 x5_1).f6)) := (blk_cell BK281.out 6).trans rfl; have hcz13_7 : w12.cell? ⟨gb281, 7, none⟩ = some (.slice A280_7 ((rd_T28 l0 x5_1).f7).length c280_7) := (blk_cell BK281.out 7).trans rfl; have hfz13_0 := blk_frozen BK281.out 0; have hfz13_1 := blk_frozen BK281.out 1; have hfz13_2 := blk_frozen BK281.out 2; have hfz13_3 := blk_frozen BK281.out 3; have hfz13_4 := blk_frozen BK281.out 4; have hfz13_5 := blk_frozen BK281.out 5; have hfz13_6 := blk_frozen BK281.out 6; have hfz13_7 := blk_frozen BK281.out 7) | ((with_reducible refine gate_callee (f := 33) rfl ?_); refine goesL_ (some 33) rfl rfl Tryz.func33 (by kernel_rfl) rfl #[.string ((rd_T28 l0 x5_1).f0)] rfl (by (try simp only [List.map_toArray, List.map_cons, List.map_nil]); first | done | rfl | (simp only [List.length_drop, List.length_take]; rfl)) ?_; (with_reducible refine (amphoraref08_Parent.calls k1 ((rd_T28 l0 x5_1).f0) t283 t284 _ ?side1 A7.out).mono ?_); (case side1 => first | (with_reducible exact HGL.out) | (with_reducible exact Gl.drewN HGL.out _) | exact Gl.of HGL.out (by repeat (first | (with_reducible first | exact HB.out | apply below_alloc | apply pw_below_drewN | apply below_drew1 | refine below_set ?_ GE281.out) | exact HB.out))); rintro e w14 ⟨rfl, hb⟩; refine ⟨_, rfl, ?_⟩; have n0_ := Aside0.mk (blk_below (g := gb281) (o := .cells #[.string ((rd_T28 l0 x5_1).f0), .int .i64 ((rd_T28 l0 x5_1).f1), .int .i64 ((rd_T28 l0 x5_1).f2), .int .i64 ((rd_T28 l0 x5_1).f3), .int .i64 ((rd_T28 l0 x5_1).f4), .int .i64 ((rd_T28 l0 x5_1).f5), .string ((rd_T28 l0 x5_1).f6), .slice A280_7 ((rd_T28 l0 x5_1).f7).length c280_7] 28 (0, 0)) (by (with_reducible repeat (first | refine blk_drewN ?_ _ | refine blk_drew ?_ | refine blk_alloc ?_ _)); exact BK281.out) hb); have n1_ := Aside0.mk (below_step (by repeat (first | (with_reducible first | exact HB.out | apply below_alloc | apply pw_below_drewN | apply below_drew1 | refine below_set ?_ GE281.out) | exact HB.out)) hb); clear BK281; clear HB; have BK281 := n0_; have HB := n1_; clear n0_ n1_; (try clear hb); (try clear hb2); (try clear hk); (try clear hi); have hcz15_0 : w14.cell? ⟨gb281, 0, none⟩ = some (.string ((rd_T28 l0 x5_1).f0)) := (blk_cell BK281.out 0).trans rfl; have hcz15_1 : w14.cell? ⟨gb281, 1, none⟩ = some (.int .i64 ((rd_T28 l0 x5_1).f1)) := (blk_cell BK281.out 1).trans rfl; have hcz15_2 : w14.cell? ⟨gb281, 2, none⟩ = some (.int .i64 ((rd_T28 l0 x5_1).f2)) := (blk_cell BK281.out 2).trans rfl; have hcz15_3 : w14.cell? ⟨gb281, 3, none⟩ = some (.int .i64 ((rd_T28 l0 x5_1).f3)) := (blk_cell BK281.out 3).trans rfl; have hcz15_4 : w14.cell? ⟨gb281, 4, none⟩ = some (.int .i64 ((rd_T28 l0 x5_1).f4)) := (blk_cell BK281.out 4).trans rfl; have hcz15_5 : w14.cell? ⟨gb281, 5, none⟩ = some (.int .i64 ((rd_T28 l0 x5_1).f5)) := (blk_cell BK281.out 5).trans rfl; have hcz15_6 : w14.cell? ⟨gb281, 6, none⟩ = some (.string ((rd_T28 l0 x5_1).f6)) := (blk_cell BK281.out 6).trans rfl; have hcz15_7 : w14.cell? ⟨gb281, 7, none⟩ = some (.slice A280_7 ((rd_T28 l0 x5_1).f7).length c280_7) := (blk_cell BK281.out 7).trans rfl; have hfz15_0 := blk_frozen BK281.out 0; have hfz15_1 := blk_frozen BK281.out 1; have hfz15_2 := blk_frozen BK281.out 2; have hfz15_3 := blk_frozen BK281.out 3; have hfz15_4 := blk_frozen BK281.out 4; have hfz15_5 := blk_frozen BK281.out 5; have hfz15_6 := blk_frozen BK281.out 6; have hfz15_7 := blk_frozen BK281.out 7) | ((with_reducible refine gate_callee (f := 39) rfl ?_); refine goesL_ (some 37) rfl rfl Tryz.func39 (by kernel_rfl) rfl #[.agg #[.string ((rd_T28 l0 x5_1).f0), .int .i64 ((rd_T28 l0 x5_1).f1), .int .i64 ((rd_T28 l0 x5_1).f2), .int .i64 ((rd_T28 l0 x5_1).f3), .int .i64 ((rd_T28 l0 x5_1).f4), .int .i64 ((rd_T28 l0 x5_1).f5), .string ((rd_T28 l0 x5_1).f6), .slice A280_7 ((rd_T28 l0 x5_1).f7).length c280_7]] rfl (by (try simp only [List.map_toArray, List.map_cons, List.map_nil]); first | done | rfl | (simp only [List.length_drop, List.length_take]; rfl)) ?_; (with_reducible refine (amphoraref09_fields.calls k1 ((rd_T28 l0 x5_1).f0) ((rd_T28 l0 x5_1).f1) ((rd_T28 l0 x5_1).f2) ((rd_T28 l0 x5_1).f3) ((rd_T28 l0 x5_1).f4) ((rd_T28 l0 x5_1).f5) ((rd_T28 l0 x5_1).f6) _ _ ((rd_T28 l0 x5_1).f7) t285 _ ?side1 ?side2 ?side3 A8.out).mono ?_); (case side1 => repeat (first | exact (Kd.C_below HR280_7.out HB.out) | (with_reducible refine Kd.C_alloc ?_ _) | (with_reducible refine Kd.C_drewN ?_ _) | (with_reducible refine Kd.C_drew ?_))); (case side2 => exact HC280_7.out); (case side3 => first | (with_reducible exact HGL.out) | (with_reducible exact Gl.drewN HGL.out _) | exact Gl.of HGL.out (by repeat (first | (with_reducible first | exact HB.out | apply below_alloc | apply pw_below_drewN | apply below_drew1 | refine below_set ?_ GE281.out) | exact HB.out))); rintro e w16 ⟨rfl, hb⟩; refine ⟨_, rfl, ?_⟩; have n0_ := Aside0.mk (blk_below (g := gb281) (o := .cells #[.string ((rd_T28 l0 x5_1).f0), .int .i64 ((rd_T28 l0 x5_1).f1), .int .i64 ((rd_T28 l0 x5_1).f2), .int .i64 ((rd_T28 l0 x5_1).f3), .int .i64 ((rd_T28 l0 x5_1).f4), .int .i64 ((rd_T28 l0 x5_1).f5), .string ((rd_T28 l0 x5_1).f6), .slice A280_7 ((rd_T28 l0 x5_1).f7).length c280_7] 28 (0, 0)) (by (with_reducible repeat (first | refine blk_drewN ?_ _ | refine blk_drew ?_ | refine blk_alloc ?_ _)); exact BK281.out) hb); have n1_ := Aside0.mk (below_step (by repeat (first | (with_reducible first | exact HB.out | apply below_alloc | apply pw_below_drewN | apply below_drew1 | refine below_set ?_ GE281.out) | exact HB.out)) hb); clear BK281; clear HB; have BK281 := n0_; have HB := n1_; clear n0_ n1_; (try clear hb); (try clear hb2); (try clear hk); (try clear hi)))
              (try simp only [Act.put, List.setIfInBounds_toArray, List.set_cons_zero, List.set_cons_succ])
              go_cut [9] (fun v9 wc => ∃ (kq : Nat) (x9_8 : Bool), v9 = .bool x9_8 ∧ Aside0 (amphoraref09_Check.j1 kq l0 x4_1 x5_1 t283 t284 x9_8 ((rd_T28 l0 x5_1).f0) ((rd_T28 l0 x5_1).f1) ((rd_T28 l0 x5_1).f2) ((rd_T28 l0 x5_1).f3) ((rd_T28 l0 x5_1).f4) ((rd_T28 l0 x5_1).f5) ((rd_T28 l0 x5_1).f6) ((rd_T28 l0 x5_1).f7) = some (r1, r2)) ∧ Aside0 (kq ≤ k1) ∧ Aside0 (wc.heap[gb281]? = some (.cells #[.string ((rd_T28 l0 x5_1).f0), .int .i64 ((rd_T28 l0 x5_1).f1), .int .i64 ((rd_T28 l0 x5_1).f2), .int .i64 ((rd_T28 l0 x5_1).f3), .int .i64 ((rd_T28 l0 x5_1).f4), .int .i64 ((rd_T28 l0 x5_1).f5), .string ((rd_T28 l0 x5_1).f6), (.slice A280_7 ((rd_T28 l0 x5_1).f7).length c280_7)] 28 (0, 0))) ∧ Aside0 (Below w.heap.size w wc))
              case first =>
                have H := HC9.out
                clear HC9
                by_cases c17 : t285 = true
                · subst c17
                  have H1 : (if x5_1 > 0 then (if 0 ≤ (wrap64 (x5_1 - 1)) then (if (wrap64 (x5_1 - 1)) < (l0.length : Int) then ((amphoraref08_Compare.f k1 ((rd_T28 l0 (wrap64 (x5_1 - 1))).f0) ((rd_T28 l0 x5_1).f0)).bind fun t287 => (amphoraref09_Check.j1 k1 l0 x4_1 x5_1 t283 t284 (t287 != (-1)) ((rd_T28 l0 x5_1).f0) ((rd_T28 l0 x5_1).f1) ((rd_T28 l0 x5_1).f2) ((rd_T28 l0 x5_1).f3) ((rd_T28 l0 x5_1).f4) ((rd_T28 l0 x5_1).f5) ((rd_T28 l0 x5_1).f6) ((rd_T28 l0 x5_1).f7))) else (none)) else (none)) else (amphoraref09_Check.j1 k1 l0 x4_1 x5_1 t283 t284 false ((rd_T28 l0 x5_1).f0) ((rd_T28 l0 x5_1).f1) ((rd_T28 l0 x5_1).f2) ((rd_T28 l0 x5_1).f3) ((rd_T28 l0 x5_1).f4) ((rd_T28 l0 x5_1).f5) ((rd_T28 l0 x5_1).f6) ((rd_T28 l0 x5_1).f7))) = some (r1, r2) := by rw [if_pos rfl] at H; exact H
                  clear H
                  have H := H1
                  clear H1
                  by_cases c18 : x5_1 > 0
                  · rw [if_pos c18] at H
                    have c18b0 : decide (0 < x5_1) = true := decide_eq_true c18
                    clear c18
                    (first | rw [c18b0] | (simp only [i64_w, i32_w]; rw [c18b0]) | rw [c18b1] | skip)
                    obtain ⟨ji19, hji19⟩ : ∃ j_ : Int, (wrap64 (x5_1 - 1)) = j_ := ⟨_, rfl⟩
                    replace H : (if 0 ≤ (ji19) then (if (ji19) < (l0.length : Int) then ((amphoraref08_Compare.f k1 ((rd_T28 l0 (ji19)).f0) ((rd_T28 l0 x5_1).f0)).bind fun t287 => (amphoraref09_Check.j1 k1 l0 x4_1 x5_1 t283 t284 (t287 != (-1)) ((rd_T28 l0 x5_1).f0) ((rd_T28 l0 x5_1).f1) ((rd_T28 l0 x5_1).f2) ((rd_T28 l0 x5_1).f3) ((rd_T28 l0 x5_1).f4) ((rd_T28 l0 x5_1).f5) ((rd_T28 l0 x5_1).f6) ((rd_T28 l0 x5_1).f7))) else (none)) else (none)) = some (r1, r2) := by first | (rw [hji19] at H; exact H) | (simp only [hji19] at H ⊢; exact H)
                    have hji19w : (IntKind.i64.wrap (x5_1 - 1)) = ji19 := (i64_w _).trans hji19
                    by_cases c20 : 0 ≤ (ji19)
                    · rw [if_pos c20] at H
                      have c20b0 : decide (0 ≤ (ji19)) = true := decide_eq_true c20
                      clear c20
                      by_cases c21 : (ji19) < (l0.length : Int)
                      · rw [if_pos c21] at H
                        have c21b0 : decide ((ji19) < (l0.length : Int)) = true := decide_eq_true c21
                        clear c21
                        replace H := Option.bind_eq_some_iff.mp H
                        obtain ⟨t287, A220, H⟩ := H
                        replace H : (amphoraref09_Check.j1 k1 l0 x4_1 x5_1 t283 t284 (t287 != (-1)) ((rd_T28 l0 x5_1).f0) ((rd_T28 l0 x5_1).f1) ((rd_T28 l0 x5_1).f2) ((rd_T28 l0 x5_1).f3) ((rd_T28 l0 x5_1).f4) ((rd_T28 l0 x5_1).f5) ((rd_T28 l0 x5_1).f6) ((rd_T28 l0 x5_1).f7)) = some (r1, r2) := H
                        have A22 := Aside0.mk A220
                        clear A220
                        have H' := Aside0.mk H
                        clear H
                        try go_wp2
                        have n0_ := Aside0.mk (blk_drew BK281.out)
                        have n1_ := Aside0.mk (below_drew1 HB.out)
                        clear BK281
                        clear HB
                        have BK281 := n0_
                        have HB := n1_
                        clear n0_ n1_
                        have p286 : 0 ≤ ((ji19) : Int) := of_decide_eq_true (by first | (with_reducible assumption) | assumption)
                        have q286 : (ji19) < (l0.length : Int) := of_decide_eq_true (by first | (with_reducible assumption) | assumption)
                        obtain ⟨ad286, A286_7, c286_7, e286, hx286_0, hx286_1, hx286_2, hx286_3, hx286_4, hx286_5, hx286_6, hx286_7, hl286_7, hi286_7⟩ := at_T28 HR0.out (ji19) p286 q286
                        have hw286_7 := hx286_7
                        have hw286_6 := hx286_6
                        have hw286_5 := hx286_5
                        have hw286_4 := hx286_4
                        have hw286_3 := hx286_3
                        have hw286_2 := hx286_2
                        have hw286_1 := hx286_1
                        have hw286_0 := hx286_0
                        obtain rfl : ad280 = ad286 := (by injection e286)
                        replace hx286_0 := (HB.out.cell (World.block_lt_of_cell? w _ hx286_0)).trans hx286_0
                        replace hx286_1 := (HB.out.cell (World.block_lt_of_cell? w _ hx286_1)).trans hx286_1
                        replace hx286_2 := (HB.out.cell (World.block_lt_of_cell? w _ hx286_2)).trans hx286_2
                        replace hx286_3 := (HB.out.cell (World.block_lt_of_cell? w _ hx286_3)).trans hx286_3
                        replace hx286_4 := (HB.out.cell (World.block_lt_of_cell? w _ hx286_4)).trans hx286_4
                        replace hx286_5 := (HB.out.cell (World.block_lt_of_cell? w _ hx286_5)).trans hx286_5
                        replace hx286_6 := (HB.out.cell (World.block_lt_of_cell? w _ hx286_6)).trans hx286_6
                        replace hx286_7 := (HB.out.cell (World.block_lt_of_cell? w _ hx286_7)).trans hx286_7
                        have HR286_7 := Aside0.mk hi286_7
                        have HC286_7 := Aside0.mk hl286_7
                        clear hi286_7 hl286_7
                        replace p286 := eq_true p286
                        replace q286 := eq_true q286
                        refine start_ (n := 18) (S := fun w' => w'.cell? ⟨gb281, 0, none⟩ = some (.string ((rd_T28 l0 x5_1).f0)) ∧ w'.cell? ⟨gb281, 1, none⟩ = some (.int .i64 ((rd_T28 l0 x5_1).f1)) ∧ w'.cell? ⟨gb281, 2, none⟩ = some (.int .i64 ((rd_T28 l0 x5_1).f2)) ∧ w'.cell? ⟨gb281, 3, none⟩ = some (.int .i64 ((rd_T28 l0 x5_1).f3)) ∧ w'.cell? ⟨gb281, 4, none⟩ = some (.int .i64 ((rd_T28 l0 x5_1).f4)) ∧ w'.cell? ⟨gb281, 5, none⟩ = some (.int .i64 ((rd_T28 l0 x5_1).f5)) ∧ w'.cell? ⟨gb281, 6, none⟩ = some (.string ((rd_T28 l0 x5_1).f6)) ∧ w'.cell? ⟨gb281, 7, none⟩ = some (.slice A280_7 ((rd_T28 l0 x5_1).f7).length c280_7) ∧ w'.cell? (ad280.add (((ji19)).toNat * 8)) = some (.string ((rd_T28 l0 (ji19)).f0)) ∧ w'.cell? ⟨(ad280.add (((ji19)).toNat * 8)).block, (ad280.add (((ji19)).toNat * 8)).off + 1, none⟩ = some (.int .i64 ((rd_T28 l0 (ji19)).f1)) ∧ w'.cell? ⟨(ad280.add (((ji19)).toNat * 8)).block, (ad280.add (((ji19)).toNat * 8)).off + 2, none⟩ = some (.int .i64 ((rd_T28 l0 (ji19)).f2)) ∧ w'.cell? ⟨(ad280.add (((ji19)).toNat * 8)).block, (ad280.add (((ji19)).toNat * 8)).off + 3, none⟩ = some (.int .i64 ((rd_T28 l0 (ji19)).f3)) ∧ w'.cell? ⟨(ad280.add (((ji19)).toNat * 8)).block, (ad280.add (((ji19)).toNat * 8)).off + 4, none⟩ = some (.int .i64 ((rd_T28 l0 (ji19)).f4)) ∧ w'.cell? ⟨(ad280.add (((ji19)).toNat * 8)).block, (ad280.add (((ji19)).toNat * 8)).off + 5, none⟩ = some (.int .i64 ((rd_T28 l0 (ji19)).f5)) ∧ w'.cell? ⟨(ad280.add (((ji19)).toNat * 8)).block, (ad280.add (((ji19)).toNat * 8)).off + 6, none⟩ = some (.string ((rd_T28 l0 (ji19)).f6)) ∧ w'.cell? ⟨(ad280.add (((ji19)).toNat * 8)).block, (ad280.add (((ji19)).toNat * 8)).off + 7, none⟩ = some (.slice A286_7 ((rd_T28 l0 (ji19)).f7).length c286_7)) (ds := []) #[false, false, false, false, false, false, false, false, false, false, false, false, false, false, false, false, false, false] (by kernel_rfl) rfl rfl ⟨(blk_cell BK281.out 0).trans rfl, (blk_cell BK281.out 1).trans rfl, (blk_cell BK281.out 2).trans rfl, (blk_cell BK281.out 3).trans rfl, (blk_cell BK281.out 4).trans rfl, (blk_cell BK281.out 5).trans rfl, (blk_cell BK281.out 6).trans rfl, (blk_cell BK281.out 7).trans rfl, ((HB.out.cell (World.block_lt_of_cell? w _ hw286_0)).trans hw286_0), ((HB.out.cell (World.block_lt_of_cell? w _ hw286_1)).trans hw286_1), ((HB.out.cell (World.block_lt_of_cell? w _ hw286_2)).trans hw286_2), ((HB.out.cell (World.block_lt_of_cell? w _ hw286_3)).trans hw286_3), ((HB.out.cell (World.block_lt_of_cell? w _ hw286_4)).trans hw286_4), ((HB.out.cell (World.block_lt_of_cell? w _ hw286_5)).trans hw286_5), ((HB.out.cell (World.block_lt_of_cell? w _ hw286_6)).trans hw286_6), ((HB.out.cell (World.block_lt_of_cell? w _ hw286_7)).trans hw286_7)⟩ (fun hHeld => ?_); refine with_tabW amphoraref09_Check.tab12 amphoraref09_Check.bits12 (fun HT_ HW_ => ?_)
                        generalize w16.drew = w23 at BK281 HB HR286_7 hx286_0 hx286_1 hx286_2 hx286_3 hx286_4 hx286_5 hx286_6 hx286_7 hHeld ⊢
                        refine pure_ (i := 0) (N := some 39) (v := ?_) (a' := ?_) #[true, false, false, false, false, false, false, false, false, false, false, false, false, false, false, false, false, false] rfl rfl (any_of HT_.out (by kernel_rfl)) (fun _ _ _ h => h) (Or.inl ⟨by rfl, ?_⟩) ?_ ?_
                        rotate_left
                        · intro w'
                          go_simp
                          with_reducible rfl
                        rotate_left
                        · simp only [Act.put, List.setIfInBounds_toArray, List.set_cons_zero, List.set_cons_succ, i64_w, i32_w]
                          rfl
                        refine pure_ (i := 1) (N := some 40) (v := ?_) (a' := ?_) #[true, true, false, false, false, false, false, false, false, false, false, false, false, false, false, false, false, false] rfl rfl (any_of HT_.out (by kernel_rfl)) (fun _ _ _ h => h) (Or.inl ⟨by rfl, ?_⟩) ?_ ?_
                        rotate_left
                        · intro w'
                          go_simp
                          with_reducible rfl
                        rotate_left
                        · simp only [Act.put, List.setIfInBounds_toArray, List.set_cons_zero, List.set_cons_succ, i64_w, i32_w]
                          rfl
                        refine pure_ (i := 2) (N := some 41) (v := ?_) (a' := ?_) #[true, true, true, false, false, false, false, false, false, false, false, false, false, false, false, false, false, false] rfl rfl (any_of HT_.out (by kernel_rfl)) (fun _ _ _ h => h) (Or.inl ⟨by rfl, ?_⟩) ?_ ?_
                        rotate_left
                        · intro w'
                          go_simp
                          with_reducible rfl
                        rotate_left
                        · simp only [Act.put, List.setIfInBounds_toArray, List.set_cons_zero, List.set_cons_succ, i64_w, i32_w]
                          rfl
                        refine pure_ (i := 3) (N := some 42) (v := ?_) (a' := ?_) #[true, true, true, true, false, false, false, false, false, false, false, false, false, false, false, false, false, false] rfl rfl (any_of HT_.out (by kernel_rfl)) (fun _ _ _ h => h) (Or.inl ⟨by rfl, ?_⟩) ?_ ?_
                        rotate_left
                        · intro w'
                          go_simp
                          with_reducible rfl
                        rotate_left
                        · simp only [Act.put, List.setIfInBounds_toArray, List.set_cons_zero, List.set_cons_succ, i64_w, i32_w]
                          rfl
                        refine pure_ (i := 4) (N := some 43) (v := ?_) (a' := ?_) #[true, true, true, true, true, false, false, false, false, false, false, false, false, false, false, false, false, false] rfl rfl (any_of HT_.out (by kernel_rfl)) (fun _ _ _ h => h) (Or.inl ⟨by rfl, ?_⟩) ?_ ?_
                        rotate_left
                        · intro w'
                          go_simp
                          with_reducible rfl
                        rotate_left
                        · simp only [Act.put, List.setIfInBounds_toArray, List.set_cons_zero, List.set_cons_succ, i64_w, i32_w]
                          rfl
                        refine pure_ (i := 5) (N := some 44) (v := ?_) (a' := ?_) #[true, true, true, true, true, true, false, false, false, false, false, false, false, false, false, false, false, false] rfl rfl (any_of HT_.out (by kernel_rfl)) (fun _ _ _ h => h) (Or.inl ⟨by rfl, ?_⟩) ?_ ?_
                        rotate_left
                        · intro w'
                          go_simp
                          with_reducible rfl
                        rotate_left
                        · simp only [Act.put, List.setIfInBounds_toArray, List.set_cons_zero, List.set_cons_succ, i64_w, i32_w]
                          rfl
                        refine pure_ (i := 6) (N := some 45) (v := ?_) (a' := ?_) #[true, true, true, true, true, true, true, false, false, false, false, false, false, false, false, false, false, false] rfl rfl (any_of HT_.out (by kernel_rfl)) (fun _ _ _ h => h) (Or.inl ⟨by rfl, ?_⟩) ?_ ?_
                        rotate_left
                        · intro w'
                          go_simp
                          with_reducible rfl
                        rotate_left
                        · simp only [Act.put, List.setIfInBounds_toArray, List.set_cons_zero, List.set_cons_succ, i64_w, i32_w]
                          rfl
                        refine pure_ (i := 7) (N := some 46) (v := ?_) (a' := ?_) #[true, true, true, true, true, true, true, true, false, false, false, false, false, false, false, false, false, false] rfl rfl (any_of HT_.out (by kernel_rfl)) (fun _ _ _ h => h) (Or.inl ⟨by rfl, ?_⟩) ?_ ?_
                        rotate_left
                        · intro w'
                          go_simp
                          with_reducible rfl
                        rotate_left
                        · simp only [Act.put, List.setIfInBounds_toArray, List.set_cons_zero, List.set_cons_succ, i64_w, i32_w]
                          rfl
                        refine pure_ (i := 8) (N := some 47) (v := ?_) (a' := ?_) #[true, true, true, true, true, true, true, true, true, false, false, false, false, false, false, false, false, false] rfl rfl (any_of HT_.out (by kernel_rfl)) (fun _ _ _ h => h) (Or.inl ⟨by rfl, ?_⟩) ?_ ?_
                        rotate_left
                        · intro w'
                          go_simp
                          with_reducible rfl
                        rotate_left
                        · simp only [Act.put, List.setIfInBounds_toArray, List.set_cons_zero, List.set_cons_succ, i64_w, i32_w]
                          rfl
                        refine pure_ (i := 9) (N := some 48) (v := ?_) (a' := ?_) #[true, true, true, true, true, true, true, true, true, true, false, false, false, false, false, false, false, false] rfl rfl (any_of HT_.out (by kernel_rfl)) (fun _ _ _ h => h) (Or.inl ⟨by rfl, ?_⟩) ?_ ?_
                        rotate_left
                        · intro w'
                          go_simp
                          with_reducible rfl
                        rotate_left
                        · simp only [Act.put, List.setIfInBounds_toArray, List.set_cons_zero, List.set_cons_succ, i64_w, i32_w]
                          rfl
                        refine pure_ (i := 11) (N := some 50) (v := ?_) (a' := ?_) #[true, true, true, true, true, true, true, true, true, true, false, true, false, false, false, false, false, false] rfl rfl (any_of HT_.out (by kernel_rfl)) (fun _ _ _ h => h) (Or.inl ⟨by rfl, ?_⟩) ?_ ?_
                        rotate_left
                        · intro w'
                          go_simp
                          with_reducible rfl
                        rotate_left
                        · simp only [Act.put, List.setIfInBounds_toArray, List.set_cons_zero, List.set_cons_succ, i64_w, i32_w]
                          rfl
                        refine take_ (i := 10) (N := some 49) (v := ?_) (a' := ?_) #[true, true, true, true, true, true, true, true, true, true, true, true, false, false, false, false, false, false] rfl rfl (take_ofW HT_.out HW_.out (by kernel_rfl)) (fun _ _ _ h => h) (Or.inl ⟨by rfl, ?_⟩) hHeld ?_ ?_
                        rotate_left
                        · rintro w' ⟨s0, s1, s2, s3, s4, s5, s6, s7, s8, s9, s10, s11, s12, s13, s14, s15⟩
                          go_simp
                          with_reducible rfl
                        rotate_left
                        · simp only [Act.put, List.setIfInBounds_toArray, List.set_cons_zero, List.set_cons_succ, i64_w, i32_w]
                          rfl
                        refine take_ (i := 12) (N := some 51) (v := ?_) (a' := ?_) #[true, true, true, true, true, true, true, true, true, true, true, true, true, false, false, false, false, false] rfl rfl (take_ofW HT_.out HW_.out (by kernel_rfl)) (fun _ _ _ h => h) (Or.inl ⟨by rfl, ?_⟩) hHeld ?_ ?_
                        rotate_left
                        · rintro w' ⟨s0, s1, s2, s3, s4, s5, s6, s7, s8, s9, s10, s11, s12, s13, s14, s15⟩
                          go_simp
                          with_reducible rfl
                        rotate_left
                        · simp only [Act.put, List.setIfInBounds_toArray, List.set_cons_zero, List.set_cons_succ, i64_w, i32_w]
                          rfl
                        refine one_ (i := 13) (N := some 52) #[true, true, true, true, true, true, true, true, true, true, true, true, true, true, false, false, false, false] rfl rfl (one_of HT_.out (by kernel_rfl)) (by decide) (fun K hK => ?_)
                        refine goes_ Tryz.func40 (by kernel_rfl) rfl #[.string ((rd_T28 l0 (ji19)).f0), .string ((rd_T28 l0 x5_1).f0)] (by rfl) rfl rfl (by (try simp only [List.map_toArray, List.map_cons, List.map_nil]); first | done | (simp only [hji19]; rfl) | rfl | (simp only [List.length_drop, List.length_take]; rfl)) ?_
                        with_reducible refine (amphoraref08_Compare.calls k1 ((rd_T28 l0 (ji19)).f0) ((rd_T28 l0 x5_1).f0) t287 _ ?side1 A22.out).mono ?_
                        (case side1 => first | (with_reducible exact HGL.out) | (with_reducible exact Gl.drewN HGL.out _) | exact Gl.of HGL.out (by repeat (first | (with_reducible first | exact HB.out | apply below_alloc | apply pw_below_drewN | apply below_drew1 | refine below_set ?_ GE281.out) | exact HB.out)))
                        rintro e w24 ⟨rfl, hb⟩
                        refine ⟨_, rfl, ?_⟩
                        have n0_ := Aside0.mk (blk_below (g := gb281) (o := .cells #[.string ((rd_T28 l0 x5_1).f0), .int .i64 ((rd_T28 l0 x5_1).f1), .int .i64 ((rd_T28 l0 x5_1).f2), .int .i64 ((rd_T28 l0 x5_1).f3), .int .i64 ((rd_T28 l0 x5_1).f4), .int .i64 ((rd_T28 l0 x5_1).f5), .string ((rd_T28 l0 x5_1).f6), .slice A280_7 ((rd_T28 l0 x5_1).f7).length c280_7] 28 (0, 0)) (by (with_reducible repeat (first | refine blk_drewN ?_ _ | refine blk_drew ?_ | refine blk_alloc ?_ _)); exact BK281.out) hb)
                        have n1_ := Aside0.mk (below_step (by repeat (first | (with_reducible first | exact HB.out | apply below_alloc | apply pw_below_drewN | apply below_drew1 | refine below_set ?_ GE281.out) | exact HB.out)) hb)
                        clear BK281
                        clear HB
                        have BK281 := n0_
                        have HB := n1_
                        clear n0_ n1_
                        (try clear hb)
                        (try clear hb2)
                        (try clear hk)
                        (try clear hi)
                        refine hK.out _ _ ⟨(blk_cell BK281.out 0).trans rfl, (blk_cell BK281.out 1).trans rfl, (blk_cell BK281.out 2).trans rfl, (blk_cell BK281.out 3).trans rfl, (blk_cell BK281.out 4).trans rfl, (blk_cell BK281.out 5).trans rfl, (blk_cell BK281.out 6).trans rfl, (blk_cell BK281.out 7).trans rfl, ((HB.out.cell (World.block_lt_of_cell? w _ hw286_0)).trans hw286_0), ((HB.out.cell (World.block_lt_of_cell? w _ hw286_1)).trans hw286_1), ((HB.out.cell (World.block_lt_of_cell? w _ hw286_2)).trans hw286_2), ((HB.out.cell (World.block_lt_of_cell? w _ hw286_3)).trans hw286_3), ((HB.out.cell (World.block_lt_of_cell? w _ hw286_4)).trans hw286_4), ((HB.out.cell (World.block_lt_of_cell? w _ hw286_5)).trans hw286_5), ((HB.out.cell (World.block_lt_of_cell? w _ hw286_6)).trans hw286_6), ((HB.out.cell (World.block_lt_of_cell? w _ hw286_7)).trans hw286_7)⟩ (fun hHeld => ?_)
                        clear hK K
                        refine norm_ (a' := ?_) ?_ ?_
                        rotate_left
                        · show Act.put _ (some 52) _ = _
                          simp only [Act.put, List.setIfInBounds_toArray, List.set_cons_zero, List.set_cons_succ, i64_w, i32_w]
                          rfl
                        refine pure_ (i := 14) (N := some 53) (v := ?_) (a' := ?_) #[true, true, true, true, true, true, true, true, true, true, true, true, true, true, true, false, false, false] rfl rfl (any_of HT_.out (by kernel_rfl)) (fun _ _ _ h => h) (Or.inl ⟨by rfl, ?_⟩) ?_ ?_
                        rotate_left
                        · intro w'
                          go_simp
                          with_reducible rfl
                        rotate_left
                        · simp only [Act.put, List.setIfInBounds_toArray, List.set_cons_zero, List.set_cons_succ, i64_w, i32_w]
                          rfl
                        refine pure_ (i := 15) (N := some 54) (v := ?_) (a' := ?_) #[true, true, true, true, true, true, true, true, true, true, true, true, true, true, true, true, false, false] rfl rfl (any_of HT_.out (by kernel_rfl)) (fun _ _ _ h => h) (Or.inl ⟨by rfl, ?_⟩) ?_ ?_
                        rotate_left
                        · intro w'
                          go_simp
                          with_reducible rfl
                        rotate_left
                        · simp only [Act.put, List.setIfInBounds_toArray, List.set_cons_zero, List.set_cons_succ, i64_w, i32_w]
                          rfl
                        refine pure_ (i := 16) (N := some 55) (v := ?_) (a' := ?_) #[true, true, true, true, true, true, true, true, true, true, true, true, true, true, true, true, true, false] rfl rfl (any_of HT_.out (by kernel_rfl)) (fun _ _ _ h => h) (Or.inl ⟨by rfl, ?_⟩) ?_ ?_
                        rotate_left
                        · intro w'
                          go_simp
                          with_reducible rfl
                        rotate_left
                        · simp only [Act.put, List.setIfInBounds_toArray, List.set_cons_zero, List.set_cons_succ, i64_w, i32_w]
                          rfl
                        refine pure_ (i := 17) (N := some 9) (v := ?_) (a' := ?_) #[true, true, true, true, true, true, true, true, true, true, true, true, true, true, true, true, true, true] rfl rfl (any_of HT_.out (by kernel_rfl)) (fun _ _ _ h => h) (Or.inl ⟨by rfl, ?_⟩) ?_ ?_
                        rotate_left
                        · intro w'
                          go_simp
                          with_reducible rfl
                        rotate_left
                        · simp only [Act.put, List.setIfInBounds_toArray, List.set_cons_zero, List.set_cons_succ, i64_w, i32_w]
                          rfl
                        refine done_ (done_of HT_.out (by kernel_rfl)) ?_
                        try go_wp2
                        go_meet
                        case rel => exact ⟨_, ((t287 != (-1))), (by first | rfl | (simp; done) | (simp [*]; done)), H', ⟨by have := HK1.out; first | omega | exact Nat.le_refl _⟩, ⟨by (with_reducible repeat (first | refine blk_drewN ?_ _ | refine blk_drew ?_ | refine blk_alloc ?_ _)); exact BK281.out⟩, ⟨by repeat (first | (with_reducible first | exact HB.out | apply below_alloc | apply pw_below_drewN | apply below_drew1 | refine below_set ?_ GE281.out) | exact HB.out)⟩⟩
                      · rw [if_neg c21] at H
                        exact absurd H (by simp)
                    · rw [if_neg c20] at H
                      exact absurd H (by simp)
                  · rw [if_neg c18] at H
                    have c18b0 : decide (0 < x5_1) = false := decide_eq_false c18
                    clear c18
                    (first | rw [c18b0] | (simp only [i64_w, i32_w]; rw [c18b0]) | rw [c18b1] | skip)
                    have H' := Aside0.mk H
                    clear H
                    try go_wp2
                    have n0_ := Aside0.mk (blk_drew BK281.out)
                    have n1_ := Aside0.mk (below_drew1 HB.out)
                    clear BK281
                    clear HB
                    have BK281 := n0_
                    have HB := n1_
                    clear n0_ n1_
                    refine start_ (n := 18) (S := fun w' => True) (ds := []) #[false, false, false, false, false, false, false, false, false, false, false, false, false, false, false, false, false, false] (by kernel_rfl) rfl rfl trivial (fun hHeld => ?_); refine with_tabW amphoraref09_Check.tab12 amphoraref09_Check.bits12 (fun HT_ HW_ => ?_)
                    generalize w16.drew = w25 at BK281 HB hHeld ⊢
                    refine pure_ (i := 0) (N := some 39) (v := ?_) (a' := ?_) #[true, false, false, false, false, false, false, false, false, false, false, false, false, false, false, false, false, false] rfl rfl (any_of HT_.out (by kernel_rfl)) (fun _ _ _ h => h) (Or.inl ⟨by rfl, ?_⟩) ?_ ?_
                    rotate_left
                    · intro w'
                      go_simp
                      with_reducible rfl
                    rotate_left
                    · simp only [Act.put, List.setIfInBounds_toArray, List.set_cons_zero, List.set_cons_succ, i64_w, i32_w]
                      rfl
                    refine pure_ (i := 1) (N := some 40) (v := ?_) (a' := ?_) #[true, true, false, false, false, false, false, false, false, false, false, false, false, false, false, false, false, false] rfl rfl (any_of HT_.out (by kernel_rfl)) (fun _ _ _ h => h) (Or.inl ⟨by rfl, ?_⟩) ?_ ?_
                    rotate_left
                    · intro w'
                      go_simp
                      with_reducible rfl
                    rotate_left
                    · simp only [Act.put, List.setIfInBounds_toArray, List.set_cons_zero, List.set_cons_succ, i64_w, i32_w]
                      rfl
                    refine pure_ (i := 2) (N := some 41) (v := ?_) (a' := ?_) #[true, true, true, false, false, false, false, false, false, false, false, false, false, false, false, false, false, false] rfl rfl (any_of HT_.out (by kernel_rfl)) (fun _ _ _ h => h) (Or.inl ⟨by rfl, ?_⟩) ?_ ?_
                    rotate_left
                    · intro w'
                      go_simp
                      with_reducible rfl
                    rotate_left
                    · simp only [Act.put, List.setIfInBounds_toArray, List.set_cons_zero, List.set_cons_succ, i64_w, i32_w]
                      rfl
                    refine pure_ (i := 3) (N := some 42) (v := ?_) (a' := ?_) #[true, true, true, true, false, false, false, false, false, false, false, false, false, false, false, false, false, false] rfl rfl (any_of HT_.out (by kernel_rfl)) (fun _ _ _ h => h) (Or.inl ⟨by rfl, ?_⟩) ?_ ?_
                    rotate_left
                    · intro w'
                      go_simp
                      with_reducible rfl
                    rotate_left
                    · simp only [Act.put, List.setIfInBounds_toArray, List.set_cons_zero, List.set_cons_succ, i64_w, i32_w]
                      rfl
                    refine pure_ (i := 4) (N := some 43) (v := ?_) (a' := ?_) #[true, true, true, true, true, false, false, false, false, false, false, false, false, false, false, false, false, false] rfl rfl (any_of HT_.out (by kernel_rfl)) (fun _ _ _ h => h) (Or.inl ⟨by rfl, ?_⟩) ?_ ?_
                    rotate_left
                    · intro w'
                      go_simp
                      with_reducible rfl
                    rotate_left
                    · simp only [Act.put, List.setIfInBounds_toArray, List.set_cons_zero, List.set_cons_succ, i64_w, i32_w]
                      rfl
                    refine pure_ (i := 5) (N := some 44) (v := undef) (a' := ?_) #[true, true, true, true, true, true, false, false, false, false, false, false, false, false, false, false, false, false] rfl rfl (any_of HT_.out (by kernel_rfl)) (fun _ _ _ h => h) (Or.inr ⟨by rfl, rfl⟩) ?_ ?_
                    rotate_left
                    · simp only [Act.put, List.setIfInBounds_toArray, List.set_cons_zero, List.set_cons_succ, i64_w, i32_w]
                      rfl
                    refine pure_ (i := 6) (N := some 45) (v := undef) (a' := ?_) #[true, true, true, true, true, true, true, false, false, false, false, false, false, false, false, false, false, false] rfl rfl (any_of HT_.out (by kernel_rfl)) (fun _ _ _ h => h) (Or.inr ⟨by rfl, rfl⟩) ?_ ?_
                    rotate_left
                    · simp only [Act.put, List.setIfInBounds_toArray, List.set_cons_zero, List.set_cons_succ, i64_w, i32_w]
                      rfl
                    refine pure_ (i := 7) (N := some 46) (v := undef) (a' := ?_) #[true, true, true, true, true, true, true, true, false, false, false, false, false, false, false, false, false, false] rfl rfl (any_of HT_.out (by kernel_rfl)) (fun _ _ _ h => h) (Or.inr ⟨by rfl, rfl⟩) ?_ ?_
                    rotate_left
                    · simp only [Act.put, List.setIfInBounds_toArray, List.set_cons_zero, List.set_cons_succ, i64_w, i32_w]
                      rfl
                    refine pure_ (i := 8) (N := some 47) (v := undef) (a' := ?_) #[true, true, true, true, true, true, true, true, true, false, false, false, false, false, false, false, false, false] rfl rfl (any_of HT_.out (by kernel_rfl)) (fun _ _ _ h => h) (Or.inr ⟨by rfl, rfl⟩) ?_ ?_
                    rotate_left
                    · simp only [Act.put, List.setIfInBounds_toArray, List.set_cons_zero, List.set_cons_succ, i64_w, i32_w]
                      rfl
                    refine pure_ (i := 9) (N := some 48) (v := undef) (a' := ?_) #[true, true, true, true, true, true, true, true, true, true, false, false, false, false, false, false, false, false] rfl rfl (any_of HT_.out (by kernel_rfl)) (fun _ _ _ h => h) (Or.inr ⟨by rfl, rfl⟩) ?_ ?_
                    rotate_left
                    · simp only [Act.put, List.setIfInBounds_toArray, List.set_cons_zero, List.set_cons_succ, i64_w, i32_w]
                      rfl
                    refine pure_ (i := 10) (N := some 49) (v := undef) (a' := ?_) #[true, true, true, true, true, true, true, true, true, true, true, false, false, false, false, false, false, false] rfl rfl (any_of HT_.out (by kernel_rfl)) (fun _ _ _ h => h) (Or.inr ⟨by rfl, rfl⟩) ?_ ?_
                    rotate_left
                    · simp only [Act.put, List.setIfInBounds_toArray, List.set_cons_zero, List.set_cons_succ, i64_w, i32_w]
                      rfl
                    refine pure_ (i := 11) (N := some 50) (v := undef) (a' := ?_) #[true, true, true, true, true, true, true, true, true, true, true, true, false, false, false, false, false, false] rfl rfl (any_of HT_.out (by kernel_rfl)) (fun _ _ _ h => h) (Or.inr ⟨by rfl, rfl⟩) ?_ ?_
                    rotate_left
                    · simp only [Act.put, List.setIfInBounds_toArray, List.set_cons_zero, List.set_cons_succ, i64_w, i32_w]
                      rfl
                    refine pure_ (i := 12) (N := some 51) (v := undef) (a' := ?_) #[true, true, true, true, true, true, true, true, true, true, true, true, true, false, false, false, false, false] rfl rfl (any_of HT_.out (by kernel_rfl)) (fun _ _ _ h => h) (Or.inr ⟨by rfl, rfl⟩) ?_ ?_
                    rotate_left
                    · simp only [Act.put, List.setIfInBounds_toArray, List.set_cons_zero, List.set_cons_succ, i64_w, i32_w]
                      rfl
                    refine pure_ (i := 13) (N := some 52) (v := undef) (a' := ?_) #[true, true, true, true, true, true, true, true, true, true, true, true, true, true, false, false, false, false] rfl rfl (any_of HT_.out (by kernel_rfl)) (fun _ _ _ h => h) (Or.inr ⟨by rfl, rfl⟩) ?_ ?_
                    rotate_left
                    · simp only [Act.put, List.setIfInBounds_toArray, List.set_cons_zero, List.set_cons_succ, i64_w, i32_w]
                      rfl
                    refine pure_ (i := 14) (N := some 53) (v := undef) (a' := ?_) #[true, true, true, true, true, true, true, true, true, true, true, true, true, true, true, false, false, false] rfl rfl (any_of HT_.out (by kernel_rfl)) (fun _ _ _ h => h) (Or.inr ⟨by rfl, rfl⟩) ?_ ?_
                    rotate_left
                    · simp only [Act.put, List.setIfInBounds_toArray, List.set_cons_zero, List.set_cons_succ, i64_w, i32_w]
                      rfl
                    refine pure_ (i := 15) (N := some 54) (v := ?_) (a' := ?_) #[true, true, true, true, true, true, true, true, true, true, true, true, true, true, true, true, false, false] rfl rfl (any_of HT_.out (by kernel_rfl)) (fun _ _ _ h => h) (Or.inl ⟨by rfl, ?_⟩) ?_ ?_
                    rotate_left
                    · intro w'
                      go_simp
                      with_reducible rfl
                    rotate_left
                    · simp only [Act.put, List.setIfInBounds_toArray, List.set_cons_zero, List.set_cons_succ, i64_w, i32_w]
                      rfl
                    refine pure_ (i := 16) (N := some 55) (v := ?_) (a' := ?_) #[true, true, true, true, true, true, true, true, true, true, true, true, true, true, true, true, true, false] rfl rfl (any_of HT_.out (by kernel_rfl)) (fun _ _ _ h => h) (Or.inl ⟨by rfl, ?_⟩) ?_ ?_
                    rotate_left
                    · intro w'
                      go_simp
                      with_reducible rfl
                    rotate_left
                    · simp only [Act.put, List.setIfInBounds_toArray, List.set_cons_zero, List.set_cons_succ, i64_w, i32_w]
                      rfl
                    refine pure_ (i := 17) (N := some 9) (v := ?_) (a' := ?_) #[true, true, true, true, true, true, true, true, true, true, true, true, true, true, true, true, true, true] rfl rfl (any_of HT_.out (by kernel_rfl)) (fun _ _ _ h => h) (Or.inl ⟨by rfl, ?_⟩) ?_ ?_
                    rotate_left
                    · intro w'
                      go_simp
                      with_reducible rfl
                    rotate_left
                    · simp only [Act.put, List.setIfInBounds_toArray, List.set_cons_zero, List.set_cons_succ, i64_w, i32_w]
                      rfl
                    refine done_ (done_of HT_.out (by kernel_rfl)) ?_
                    try go_wp2
                    go_meet
                    case rel => exact ⟨_, (false), (by first | rfl | (simp; done) | (simp [*]; done)), H', ⟨by have := HK1.out; first | omega | exact Nat.le_refl _⟩, ⟨by (with_reducible repeat (first | refine blk_drewN ?_ _ | refine blk_drew ?_ | refine blk_alloc ?_ _)); exact BK281.out⟩, ⟨by repeat (first | (with_reducible first | exact HB.out | apply below_alloc | apply pw_below_drewN | apply below_drew1 | refine below_set ?_ GE281.out) | exact HB.out)⟩⟩
                · replace c17 := Bool.eq_false_iff.mpr c17
                  subst c17
                  have H1 : (amphoraref09_Check.j1 k1 l0 x4_1 x5_1 t283 t284 true ((rd_T28 l0 x5_1).f0) ((rd_T28 l0 x5_1).f1) ((rd_T28 l0 x5_1).f2) ((rd_T28 l0 x5_1).f3) ((rd_T28 l0 x5_1).f4) ((rd_T28 l0 x5_1).f5) ((rd_T28 l0 x5_1).f6) ((rd_T28 l0 x5_1).f7)) = some (r1, r2) := by rw [if_neg (show ¬ (false = true) by decide)] at H; exact H
                  clear H
                  have H := H1
                  clear H1
                  have H' := Aside0.mk H
                  clear H
                  try go_wp2
                  have n0_ := Aside0.mk (blk_drew BK281.out)
                  have n1_ := Aside0.mk (below_drew1 HB.out)
                  clear BK281
                  clear HB
                  have BK281 := n0_
                  have HB := n1_
                  clear n0_ n1_
                  refine start_ (n := 18) (S := fun w' => True) (ds := []) #[false, false, false, false, false, false, false, false, false, false, false, false, false, false, false, false, false, false] (by kernel_rfl) rfl rfl trivial (fun hHeld => ?_); refine with_tabW amphoraref09_Check.tab12 amphoraref09_Check.bits12 (fun HT_ HW_ => ?_)
                  generalize w16.drew = w26 at BK281 HB hHeld ⊢
                  refine pure_ (i := 0) (N := some 39) (v := ?_) (a' := ?_) #[true, false, false, false, false, false, false, false, false, false, false, false, false, false, false, false, false, false] rfl rfl (any_of HT_.out (by kernel_rfl)) (fun _ _ _ h => h) (Or.inl ⟨by rfl, ?_⟩) ?_ ?_
                  rotate_left
                  · intro w'
                    go_simp
                    with_reducible rfl
                  rotate_left
                  · simp only [Act.put, List.setIfInBounds_toArray, List.set_cons_zero, List.set_cons_succ, i64_w, i32_w]
                    rfl
                  refine pure_ (i := 1) (N := some 40) (v := ?_) (a' := ?_) #[true, true, false, false, false, false, false, false, false, false, false, false, false, false, false, false, false, false] rfl rfl (any_of HT_.out (by kernel_rfl)) (fun _ _ _ h => h) (Or.inl ⟨by rfl, ?_⟩) ?_ ?_
                  rotate_left
                  · intro w'
                    go_simp
                    with_reducible rfl
                  rotate_left
                  · simp only [Act.put, List.setIfInBounds_toArray, List.set_cons_zero, List.set_cons_succ, i64_w, i32_w]
                    rfl
                  refine pure_ (i := 2) (N := some 41) (v := undef) (a' := ?_) #[true, true, true, false, false, false, false, false, false, false, false, false, false, false, false, false, false, false] rfl rfl (any_of HT_.out (by kernel_rfl)) (fun _ _ _ h => h) (Or.inr ⟨by rfl, rfl⟩) ?_ ?_
                  rotate_left
                  · simp only [Act.put, List.setIfInBounds_toArray, List.set_cons_zero, List.set_cons_succ, i64_w, i32_w]
                    rfl
                  refine pure_ (i := 3) (N := some 42) (v := undef) (a' := ?_) #[true, true, true, true, false, false, false, false, false, false, false, false, false, false, false, false, false, false] rfl rfl (any_of HT_.out (by kernel_rfl)) (fun _ _ _ h => h) (Or.inr ⟨by rfl, rfl⟩) ?_ ?_
                  rotate_left
                  · simp only [Act.put, List.setIfInBounds_toArray, List.set_cons_zero, List.set_cons_succ, i64_w, i32_w]
                    rfl
                  refine pure_ (i := 4) (N := some 43) (v := undef) (a' := ?_) #[true, true, true, true, true, false, false, false, false, false, false, false, false, false, false, false, false, false] rfl rfl (any_of HT_.out (by kernel_rfl)) (fun _ _ _ h => h) (Or.inr ⟨by rfl, rfl⟩) ?_ ?_
                  rotate_left
                  · simp only [Act.put, List.setIfInBounds_toArray, List.set_cons_zero, List.set_cons_succ, i64_w, i32_w]
                    rfl
                  refine pure_ (i := 5) (N := some 44) (v := undef) (a' := ?_) #[true, true, true, true, true, true, false, false, false, false, false, false, false, false, false, false, false, false] rfl rfl (any_of HT_.out (by kernel_rfl)) (fun _ _ _ h => h) (Or.inr ⟨by rfl, rfl⟩) ?_ ?_
                  rotate_left
                  · simp only [Act.put, List.setIfInBounds_toArray, List.set_cons_zero, List.set_cons_succ, i64_w, i32_w]
                    rfl
                  refine pure_ (i := 6) (N := some 45) (v := undef) (a' := ?_) #[true, true, true, true, true, true, true, false, false, false, false, false, false, false, false, false, false, false] rfl rfl (any_of HT_.out (by kernel_rfl)) (fun _ _ _ h => h) (Or.inr ⟨by rfl, rfl⟩) ?_ ?_
                  rotate_left
                  · simp only [Act.put, List.setIfInBounds_toArray, List.set_cons_zero, List.set_cons_succ, i64_w, i32_w]
                    rfl
                  refine pure_ (i := 7) (N := some 46) (v := undef) (a' := ?_) #[true, true, true, true, true, true, true, true, false, false, false, false, false, false, false, false, false, false] rfl rfl (any_of HT_.out (by kernel_rfl)) (fun _ _ _ h => h) (Or.inr ⟨by rfl, rfl⟩) ?_ ?_
                  rotate_left
                  · simp only [Act.put, List.setIfInBounds_toArray, List.set_cons_zero, List.set_cons_succ, i64_w, i32_w]
                    rfl
                  refine pure_ (i := 8) (N := some 47) (v := undef) (a' := ?_) #[true, true, true, true, true, true, true, true, true, false, false, false, false, false, false, false, false, false] rfl rfl (any_of HT_.out (by kernel_rfl)) (fun _ _ _ h => h) (Or.inr ⟨by rfl, rfl⟩) ?_ ?_
                  rotate_left
                  · simp only [Act.put, List.setIfInBounds_toArray, List.set_cons_zero, List.set_cons_succ, i64_w, i32_w]
                    rfl
                  refine pure_ (i := 9) (N := some 48) (v := undef) (a' := ?_) #[true, true, true, true, true, true, true, true, true, true, false, false, false, false, false, false, false, false] rfl rfl (any_of HT_.out (by kernel_rfl)) (fun _ _ _ h => h) (Or.inr ⟨by rfl, rfl⟩) ?_ ?_
                  rotate_left
                  · simp only [Act.put, List.setIfInBounds_toArray, List.set_cons_zero, List.set_cons_succ, i64_w, i32_w]
                    rfl
                  refine pure_ (i := 10) (N := some 49) (v := undef) (a' := ?_) #[true, true, true, true, true, true, true, true, true, true, true, false, false, false, false, false, false, false] rfl rfl (any_of HT_.out (by kernel_rfl)) (fun _ _ _ h => h) (Or.inr ⟨by rfl, rfl⟩) ?_ ?_
                  rotate_left
                  · simp only [Act.put, List.setIfInBounds_toArray, List.set_cons_zero, List.set_cons_succ, i64_w, i32_w]
                    rfl
                  refine pure_ (i := 11) (N := some 50) (v := undef) (a' := ?_) #[true, true, true, true, true, true, true, true, true, true, true, true, false, false, false, false, false, false] rfl rfl (any_of HT_.out (by kernel_rfl)) (fun _ _ _ h => h) (Or.inr ⟨by rfl, rfl⟩) ?_ ?_
                  rotate_left
                  · simp only [Act.put, List.setIfInBounds_toArray, List.set_cons_zero, List.set_cons_succ, i64_w, i32_w]
                    rfl
                  refine pure_ (i := 12) (N := some 51) (v := undef) (a' := ?_) #[true, true, true, true, true, true, true, true, true, true, true, true, true, false, false, false, false, false] rfl rfl (any_of HT_.out (by kernel_rfl)) (fun _ _ _ h => h) (Or.inr ⟨by rfl, rfl⟩) ?_ ?_
                  rotate_left
                  · simp only [Act.put, List.setIfInBounds_toArray, List.set_cons_zero, List.set_cons_succ, i64_w, i32_w]
                    rfl
                  refine pure_ (i := 13) (N := some 52) (v := undef) (a' := ?_) #[true, true, true, true, true, true, true, true, true, true, true, true, true, true, false, false, false, false] rfl rfl (any_of HT_.out (by kernel_rfl)) (fun _ _ _ h => h) (Or.inr ⟨by rfl, rfl⟩) ?_ ?_
                  rotate_left
                  · simp only [Act.put, List.setIfInBounds_toArray, List.set_cons_zero, List.set_cons_succ, i64_w, i32_w]
                    rfl
                  refine pure_ (i := 14) (N := some 53) (v := undef) (a' := ?_) #[true, true, true, true, true, true, true, true, true, true, true, true, true, true, true, false, false, false] rfl rfl (any_of HT_.out (by kernel_rfl)) (fun _ _ _ h => h) (Or.inr ⟨by rfl, rfl⟩) ?_ ?_
                  rotate_left
                  · simp only [Act.put, List.setIfInBounds_toArray, List.set_cons_zero, List.set_cons_succ, i64_w, i32_w]
                    rfl
                  refine pure_ (i := 15) (N := some 54) (v := undef) (a' := ?_) #[true, true, true, true, true, true, true, true, true, true, true, true, true, true, true, true, false, false] rfl rfl (any_of HT_.out (by kernel_rfl)) (fun _ _ _ h => h) (Or.inr ⟨by rfl, rfl⟩) ?_ ?_
                  rotate_left
                  · simp only [Act.put, List.setIfInBounds_toArray, List.set_cons_zero, List.set_cons_succ, i64_w, i32_w]
                    rfl
                  refine pure_ (i := 16) (N := some 55) (v := ?_) (a' := ?_) #[true, true, true, true, true, true, true, true, true, true, true, true, true, true, true, true, true, false] rfl rfl (any_of HT_.out (by kernel_rfl)) (fun _ _ _ h => h) (Or.inl ⟨by rfl, ?_⟩) ?_ ?_
                  rotate_left
                  · intro w'
                    go_simp
                    with_reducible rfl
                  rotate_left
                  · simp only [Act.put, List.setIfInBounds_toArray, List.set_cons_zero, List.set_cons_succ, i64_w, i32_w]
                    rfl
                  refine pure_ (i := 17) (N := some 9) (v := ?_) (a' := ?_) #[true, true, true, true, true, true, true, true, true, true, true, true, true, true, true, true, true, true] rfl rfl (any_of HT_.out (by kernel_rfl)) (fun _ _ _ h => h) (Or.inl ⟨by rfl, ?_⟩) ?_ ?_
                  rotate_left
                  · intro w'
                    go_simp
                    with_reducible rfl
                  rotate_left
                  · simp only [Act.put, List.setIfInBounds_toArray, List.set_cons_zero, List.set_cons_succ, i64_w, i32_w]
                    rfl
                  refine done_ (done_of HT_.out (by kernel_rfl)) ?_
                  try go_wp2
                  go_meet
                  case rel => exact ⟨_, (true), (by first | rfl | (simp; done) | (simp [*]; done)), H', ⟨by have := HK1.out; first | omega | exact Nat.le_refl _⟩, ⟨by (with_reducible repeat (first | refine blk_drewN ?_ _ | refine blk_drew ?_ | refine blk_alloc ?_ _)); exact BK281.out⟩, ⟨by repeat (first | (with_reducible first | exact HB.out | apply below_alloc | apply pw_below_drewN | apply below_drew1 | refine below_set ?_ GE281.out) | exact HB.out)⟩⟩
              case rest =>
                clear HC9
                try clear c1
                try clear c2
                try clear c2b0
                try clear c2b1
                try clear p2
                try clear q2
                try clear hx2
                try clear c3
                try clear c3b0
                try clear c4
                try clear c4b0
                try clear c6
                try clear p6
                try clear c17
                try clear c18
                try clear c18b0
                try clear c20
                try clear c20b0
                try clear c21
                try clear c21b0
                try clear hcz11_0
                try clear hcz11_1
                try clear hcz11_2
                try clear hcz11_3
                try clear hcz11_4
                try clear hcz11_5
                try clear hcz11_6
                try clear hcz11_7
                try clear hcz13_0
                try clear hcz13_1
                try clear hcz13_2
                try clear hcz13_3
                try clear hcz13_4
                try clear hcz13_5
                try clear hcz13_6
                try clear hcz13_7
                try clear hcz15_0
                try clear hcz15_1
                try clear hcz15_2
                try clear hcz15_3
                try clear hcz15_4
                try clear hcz15_5
                try clear hcz15_6
                try clear hcz15_7
                try clear hfz11_0
                try clear hfz11_1
                try clear hfz11_2
                try clear hfz11_3
                try clear hfz11_4
                try clear hfz11_5
                try clear hfz11_6
                try clear hfz11_7
                try clear hfz13_0
                try clear hfz13_1
                try clear hfz13_2
                try clear hfz13_3
                try clear hfz13_4
                try clear hfz13_5
                try clear hfz13_6
                try clear hfz13_7
                try clear hfz15_0
                try clear hfz15_1
                try clear hfz15_2
                try clear hfz15_3
                try clear hfz15_4
                try clear hfz15_5
                try clear hfz15_6
                try clear hfz15_7
                try clear hx280_0
                try clear hx280_1
                try clear hx280_2
                try clear hx280_3
                try clear hx280_4
                try clear hx280_5
                try clear hx280_6
                try clear hx280_7
                try clear hx286_0
                try clear hx286_1
                try clear hx286_2
                try clear hx286_3
                try clear hx286_4
                try clear hx286_5
                try clear hx286_6
                try clear hx286_7
                try clear p2
                try clear p280
                try clear p286
                try clear q280
                try clear q286
                obtain ⟨kq, x9_8, rfl, HA, HJ8, BK281, HB⟩ := hcut
                cases kq with
                | zero => exact absurd HA.out (by simp [amphoraref09_Check.j1])
                | succ kj8 =>
                  have H := HA.out
                  clear HA
                  simp only [amphoraref09_Check.j1] at H
                  have HC27 := Aside0.mk H
                  clear H
                  go_upto_region 13 with (fail)
                  go_cut [9] (fun v9 wc => ∃ (kq : Nat) (x9_26 : Bool), v9 = .bool x9_26 ∧ Aside0 (amphoraref09_Check.j2 kq l0 x4_1 x5_1 x9_26 ((rd_T28 l0 x5_1).f0) ((rd_T28 l0 x5_1).f1) ((rd_T28 l0 x5_1).f2) ((rd_T28 l0 x5_1).f3) ((rd_T28 l0 x5_1).f4) ((rd_T28 l0 x5_1).f5) ((rd_T28 l0 x5_1).f6) ((rd_T28 l0 x5_1).f7) = some (r1, r2)) ∧ Aside0 (kq ≤ kj8) ∧ Aside0 (wc.heap[gb281]? = some (.cells #[.string ((rd_T28 l0 x5_1).f0), .int .i64 ((rd_T28 l0 x5_1).f1), .int .i64 ((rd_T28 l0 x5_1).f2), .int .i64 ((rd_T28 l0 x5_1).f3), .int .i64 ((rd_T28 l0 x5_1).f4), .int .i64 ((rd_T28 l0 x5_1).f5), .string ((rd_T28 l0 x5_1).f6), (.slice A280_7 ((rd_T28 l0 x5_1).f7).length c280_7)] 28 (0, 0))) ∧ Aside0 (Below w.heap.size w wc))
                  case first =>
                    have H := HC27.out
                    clear HC27
                    by_cases c28 : x9_8 = true
                    · subst c28
                      have H1 : (amphoraref09_Check.j2 kj8 l0 x4_1 x5_1 true ((rd_T28 l0 x5_1).f0) ((rd_T28 l0 x5_1).f1) ((rd_T28 l0 x5_1).f2) ((rd_T28 l0 x5_1).f3) ((rd_T28 l0 x5_1).f4) ((rd_T28 l0 x5_1).f5) ((rd_T28 l0 x5_1).f6) ((rd_T28 l0 x5_1).f7)) = some (r1, r2) := by rw [if_pos rfl] at H; exact H
                      clear H
                      have H := H1
                      clear H1
                      have H' := Aside0.mk H
                      clear H
                      go_wp2
                      go_meet
                      case rel => exact ⟨_, (true), (by first | rfl | (simp; done) | (simp [*]; done)), H', ⟨by have := HK1.out; have := HJ8.out; first | omega | exact Nat.le_refl _⟩, ⟨by (with_reducible repeat (first | refine blk_drewN ?_ _ | refine blk_drew ?_ | refine blk_alloc ?_ _)); exact BK281.out⟩, ⟨by repeat (first | (with_reducible first | exact HB.out | apply below_alloc | apply pw_below_drewN | apply below_drew1 | refine below_set ?_ GE281.out) | exact HB.out)⟩⟩
                    · replace c28 := Bool.eq_false_iff.mpr c28
                      subst c28
                      have H1 : (if t284 = true then ((amphoraref09_kind.f kj8 l0 x5_1 t283).bind fun t288 => (amphoraref09_Check.j2 kj8 l0 x4_1 x5_1 (t288 != 1) ((rd_T28 l0 x5_1).f0) ((rd_T28 l0 x5_1).f1) ((rd_T28 l0 x5_1).f2) ((rd_T28 l0 x5_1).f3) ((rd_T28 l0 x5_1).f4) ((rd_T28 l0 x5_1).f5) ((rd_T28 l0 x5_1).f6) ((rd_T28 l0 x5_1).f7))) else (amphoraref09_Check.j2 kj8 l0 x4_1 x5_1 false ((rd_T28 l0 x5_1).f0) ((rd_T28 l0 x5_1).f1) ((rd_T28 l0 x5_1).f2) ((rd_T28 l0 x5_1).f3) ((rd_T28 l0 x5_1).f4) ((rd_T28 l0 x5_1).f5) ((rd_T28 l0 x5_1).f6) ((rd_T28 l0 x5_1).f7))) = some (r1, r2) := by rw [if_neg (show ¬ (false = true) by decide)] at H; exact H
                      clear H
                      have H := H1
                      clear H1
                      by_cases c29 : t284 = true
                      · subst c29
                        have H1 : ((amphoraref09_kind.f kj8 l0 x5_1 t283).bind fun t288 => (amphoraref09_Check.j2 kj8 l0 x4_1 x5_1 (t288 != 1) ((rd_T28 l0 x5_1).f0) ((rd_T28 l0 x5_1).f1) ((rd_T28 l0 x5_1).f2) ((rd_T28 l0 x5_1).f3) ((rd_T28 l0 x5_1).f4) ((rd_T28 l0 x5_1).f5) ((rd_T28 l0 x5_1).f6) ((rd_T28 l0 x5_1).f7))) = some (r1, r2) := by rw [if_pos rfl] at H; exact H
                        clear H
                        have H := H1
                        clear H1
                        replace H := Option.bind_eq_some_iff.mp H
                        obtain ⟨t288, A300, H⟩ := H
                        replace H : (amphoraref09_Check.j2 kj8 l0 x4_1 x5_1 (t288 != 1) ((rd_T28 l0 x5_1).f0) ((rd_T28 l0 x5_1).f1) ((rd_T28 l0 x5_1).f2) ((rd_T28 l0 x5_1).f3) ((rd_T28 l0 x5_1).f4) ((rd_T28 l0 x5_1).f5) ((rd_T28 l0 x5_1).f6) ((rd_T28 l0 x5_1).f7)) = some (r1, r2) := H
                        have A30 := Aside0.mk A300
                        clear A300
                        have H' := Aside0.mk H
                        clear H
                        go_wp2_with (first | (go_at_call 41; (with_reducible refine (amphoraref09_kind.calls kj8 _ _ l0 x5_1 t283 t288 _ ?side1 ?side2 ?side3 A30.out).mono ?_); (case side1 => repeat (first | exact (Kd.C_below HR0.out HB.out) | (with_reducible refine Kd.C_alloc ?_ _) | (with_reducible refine Kd.C_drewN ?_ _) | (with_reducible refine Kd.C_drew ?_))); (case side2 => exact HC0.out); (case side3 => first | (with_reducible exact HGL.out) | (with_reducible exact Gl.drewN HGL.out _) | exact Gl.of HGL.out (by repeat (first | (with_reducible first | exact HB.out | apply below_alloc | apply pw_below_drewN | apply below_drew1 | refine below_set ?_ GE281.out) | exact HB.out))); rintro e w' ⟨rfl, ⟨nd, rfl⟩⟩))
                        go_meet
                        case rel => exact ⟨_, ((t288 != 1)), (by first | rfl | (simp; done) | (simp [*]; done)), H', ⟨by have := HK1.out; have := HJ8.out; first | omega | exact Nat.le_refl _⟩, ⟨by (with_reducible repeat (first | refine blk_drewN ?_ _ | refine blk_drew ?_ | refine blk_alloc ?_ _)); exact BK281.out⟩, ⟨by repeat (first | (with_reducible first | exact HB.out | apply below_alloc | apply pw_below_drewN | apply below_drew1 | refine below_set ?_ GE281.out) | exact HB.out)⟩⟩
                      · replace c29 := Bool.eq_false_iff.mpr c29
                        subst c29
                        have H1 : (amphoraref09_Check.j2 kj8 l0 x4_1 x5_1 false ((rd_T28 l0 x5_1).f0) ((rd_T28 l0 x5_1).f1) ((rd_T28 l0 x5_1).f2) ((rd_T28 l0 x5_1).f3) ((rd_T28 l0 x5_1).f4) ((rd_T28 l0 x5_1).f5) ((rd_T28 l0 x5_1).f6) ((rd_T28 l0 x5_1).f7)) = some (r1, r2) := by rw [if_neg (show ¬ (false = true) by decide)] at H; exact H
                        clear H
                        have H := H1
                        clear H1
                        have H' := Aside0.mk H
                        clear H
                        go_wp2
                        go_meet
                        case rel => exact ⟨_, (false), (by first | rfl | (simp; done) | (simp [*]; done)), H', ⟨by have := HK1.out; have := HJ8.out; first | omega | exact Nat.le_refl _⟩, ⟨by (with_reducible repeat (first | refine blk_drewN ?_ _ | refine blk_drew ?_ | refine blk_alloc ?_ _)); exact BK281.out⟩, ⟨by repeat (first | (with_reducible first | exact HB.out | apply below_alloc | apply pw_below_drewN | apply below_drew1 | refine below_set ?_ GE281.out) | exact HB.out)⟩⟩
                  case rest =>
                    clear HC27
                    try clear c1
                    try clear c2
                    try clear c2b0
                    try clear c2b1
                    try clear p2
                    try clear q2
                    try clear hx2
                    try clear c3
                    try clear c3b0
                    try clear c4
                    try clear c4b0
                    try clear c6
                    try clear p6
                    try clear c17
                    try clear c18
                    try clear c18b0
                    try clear c20
                    try clear c20b0
                    try clear c21
                    try clear c21b0
                    try clear c28
                    try clear p28
                    try clear q28
                    try clear hx28
                    try clear c29
                    try clear hcz11_0
                    try clear hcz11_1
                    try clear hcz11_2
                    try clear hcz11_3
                    try clear hcz11_4
                    try clear hcz11_5
                    try clear hcz11_6
                    try clear hcz11_7
                    try clear hcz13_0
                    try clear hcz13_1
                    try clear hcz13_2
                    try clear hcz13_3
                    try clear hcz13_4
                    try clear hcz13_5
                    try clear hcz13_6
                    try clear hcz13_7
                    try clear hcz15_0
                    try clear hcz15_1
                    try clear hcz15_2
                    try clear hcz15_3
                    try clear hcz15_4
                    try clear hcz15_5
                    try clear hcz15_6
                    try clear hcz15_7
                    try clear hfz11_0
                    try clear hfz11_1
                    try clear hfz11_2
                    try clear hfz11_3
                    try clear hfz11_4
                    try clear hfz11_5
                    try clear hfz11_6
                    try clear hfz11_7
                    try clear hfz13_0
                    try clear hfz13_1
                    try clear hfz13_2
                    try clear hfz13_3
                    try clear hfz13_4
                    try clear hfz13_5
                    try clear hfz13_6
                    try clear hfz13_7
                    try clear hfz15_0
                    try clear hfz15_1
                    try clear hfz15_2
                    try clear hfz15_3
                    try clear hfz15_4
                    try clear hfz15_5
                    try clear hfz15_6
                    try clear hfz15_7
                    try clear hx280_0
                    try clear hx280_1
                    try clear hx280_2
                    try clear hx280_3
                    try clear hx280_4
                    try clear hx280_5
                    try clear hx280_6
                    try clear hx280_7
                    try clear hx286_0
                    try clear hx286_1
                    try clear hx286_2
                    try clear hx286_3
                    try clear hx286_4
                    try clear hx286_5
                    try clear hx286_6
                    try clear hx286_7
                    try clear p2
                    try clear p280
                    try clear p286
                    try clear p6
                    try clear q2
                    try clear q280
                    try clear q286
                    obtain ⟨kq, x9_26, rfl, HA, HJ26, BK281, HB⟩ := hcut
                    cases kq with
                    | zero => exact absurd HA.out (by simp [amphoraref09_Check.j2])
                    | succ kj26 =>
                      have H := HA.out
                      clear HA
                      simp only [amphoraref09_Check.j2] at H
                      have HC31 := Aside0.mk H
                      clear H
                      go_upto_region 14 with (fail)
                      go_cut [9] (fun v9 wc => ∃ (kq : Nat) (x9_30 : Bool), v9 = .bool x9_30 ∧ Aside0 (amphoraref09_Check.j3 kq l0 x4_1 x5_1 x9_30 ((rd_T28 l0 x5_1).f0) ((rd_T28 l0 x5_1).f1) ((rd_T28 l0 x5_1).f2) ((rd_T28 l0 x5_1).f3) ((rd_T28 l0 x5_1).f4) ((rd_T28 l0 x5_1).f5) ((rd_T28 l0 x5_1).f6) ((rd_T28 l0 x5_1).f7) = some (r1, r2)) ∧ Aside0 (kq ≤ kj26) ∧ Aside0 (wc.heap[gb281]? = some (.cells #[.string ((rd_T28 l0 x5_1).f0), .int .i64 ((rd_T28 l0 x5_1).f1), .int .i64 ((rd_T28 l0 x5_1).f2), .int .i64 ((rd_T28 l0 x5_1).f3), .int .i64 ((rd_T28 l0 x5_1).f4), .int .i64 ((rd_T28 l0 x5_1).f5), .string ((rd_T28 l0 x5_1).f6), (.slice A280_7 ((rd_T28 l0 x5_1).f7).length c280_7)] 28 (0, 0))) ∧ Aside0 (Below w.heap.size w wc))
                      case first =>
                        have H := HC31.out
                        clear HC31
                        by_cases c32 : x9_26 = true
                        · subst c32
                          have H1 : (amphoraref09_Check.j3 kj26 l0 x4_1 x5_1 true ((rd_T28 l0 x5_1).f0) ((rd_T28 l0 x5_1).f1) ((rd_T28 l0 x5_1).f2) ((rd_T28 l0 x5_1).f3) ((rd_T28 l0 x5_1).f4) ((rd_T28 l0 x5_1).f5) ((rd_T28 l0 x5_1).f6) ((rd_T28 l0 x5_1).f7)) = some (r1, r2) := by rw [if_pos rfl] at H; exact H
                          clear H
                          have H := H1
                          clear H1
                          have H' := Aside0.mk H
                          clear H
                          go_wp2
                          go_meet
                          case rel => exact ⟨_, (true), (by first | rfl | (simp; done) | (simp [*]; done)), H', ⟨by have := HK1.out; have := HJ8.out; have := HJ26.out; first | omega | exact Nat.le_refl _⟩, ⟨by (with_reducible repeat (first | refine blk_drewN ?_ _ | refine blk_drew ?_ | refine blk_alloc ?_ _)); exact BK281.out⟩, ⟨by repeat (first | (with_reducible first | exact HB.out | apply below_alloc | apply pw_below_drewN | apply below_drew1 | refine below_set ?_ GE281.out) | exact HB.out)⟩⟩
                        · replace c32 := Bool.eq_false_iff.mpr c32
                          subst c32
                          have H1 : (if ((rd_T28 l0 x5_1).f1) = 4 then ((amphoraref09_kind.f kj26 l0 x5_1 ((rd_T28 l0 x5_1).f6)).bind fun t289 => (amphoraref09_Check.j3 kj26 l0 x4_1 x5_1 (t289 != 2) ((rd_T28 l0 x5_1).f0) ((rd_T28 l0 x5_1).f1) ((rd_T28 l0 x5_1).f2) ((rd_T28 l0 x5_1).f3) ((rd_T28 l0 x5_1).f4) ((rd_T28 l0 x5_1).f5) ((rd_T28 l0 x5_1).f6) ((rd_T28 l0 x5_1).f7))) else (amphoraref09_Check.j3 kj26 l0 x4_1 x5_1 false ((rd_T28 l0 x5_1).f0) ((rd_T28 l0 x5_1).f1) ((rd_T28 l0 x5_1).f2) ((rd_T28 l0 x5_1).f3) ((rd_T28 l0 x5_1).f4) ((rd_T28 l0 x5_1).f5) ((rd_T28 l0 x5_1).f6) ((rd_T28 l0 x5_1).f7))) = some (r1, r2) := by rw [if_neg (show ¬ (false = true) by decide)] at H; exact H
                          clear H
                          have H := H1
                          clear H1
                          by_cases c33 : ((rd_T28 l0 x5_1).f1) = 4
                          · rw [if_pos c33] at H
                            have c33b0 : (((rd_T28 l0 x5_1).f1) == 4) = true := beq_iff_eq.mpr c33
                            have c33b1 : (((rd_T28 l0 x5_1).f1) != 4) = false := bne_eq_false_iff_eq.mpr c33
                            clear c33
                            (first | rw [c33b0] | (simp only [i64_w, i32_w]; rw [c33b0]) | rw [c33b1] | skip)
                            replace H := Option.bind_eq_some_iff.mp H
                            obtain ⟨t289, A340, H⟩ := H
                            replace H : (amphoraref09_Check.j3 kj26 l0 x4_1 x5_1 (t289 != 2) ((rd_T28 l0 x5_1).f0) ((rd_T28 l0 x5_1).f1) ((rd_T28 l0 x5_1).f2) ((rd_T28 l0 x5_1).f3) ((rd_T28 l0 x5_1).f4) ((rd_T28 l0 x5_1).f5) ((rd_T28 l0 x5_1).f6) ((rd_T28 l0 x5_1).f7)) = some (r1, r2) := H
                            have A34 := Aside0.mk A340
                            clear A340
                            have H' := Aside0.mk H
                            clear H
                            have hcz35_0 : wc.cell? ⟨gb281, 0, none⟩ = some (.string ((rd_T28 l0 x5_1).f0)) := (blk_cell BK281.out 0).trans rfl
                            have hcz35_1 : wc.cell? ⟨gb281, 1, none⟩ = some (.int .i64 ((rd_T28 l0 x5_1).f1)) := (blk_cell BK281.out 1).trans rfl
                            have hcz35_2 : wc.cell? ⟨gb281, 2, none⟩ = some (.int .i64 ((rd_T28 l0 x5_1).f2)) := (blk_cell BK281.out 2).trans rfl
                            have hcz35_3 : wc.cell? ⟨gb281, 3, none⟩ = some (.int .i64 ((rd_T28 l0 x5_1).f3)) := (blk_cell BK281.out 3).trans rfl
                            have hcz35_4 : wc.cell? ⟨gb281, 4, none⟩ = some (.int .i64 ((rd_T28 l0 x5_1).f4)) := (blk_cell BK281.out 4).trans rfl
                            have hcz35_5 : wc.cell? ⟨gb281, 5, none⟩ = some (.int .i64 ((rd_T28 l0 x5_1).f5)) := (blk_cell BK281.out 5).trans rfl
                            have hcz35_6 : wc.cell? ⟨gb281, 6, none⟩ = some (.string ((rd_T28 l0 x5_1).f6)) := (blk_cell BK281.out 6).trans rfl
                            have hcz35_7 : wc.cell? ⟨gb281, 7, none⟩ = some (.slice A280_7 ((rd_T28 l0 x5_1).f7).length c280_7) := (blk_cell BK281.out 7).trans rfl
                            have hfz35_0 := blk_frozen BK281.out 0
                            have hfz35_1 := blk_frozen BK281.out 1
                            have hfz35_2 := blk_frozen BK281.out 2
                            have hfz35_3 := blk_frozen BK281.out 3
                            have hfz35_4 := blk_frozen BK281.out 4
                            have hfz35_5 := blk_frozen BK281.out 5
                            have hfz35_6 := blk_frozen BK281.out 6
                            have hfz35_7 := blk_frozen BK281.out 7
                            go_wp2_with (first | (go_at_call 41; (with_reducible refine (amphoraref09_kind.calls kj26 _ _ l0 x5_1 ((rd_T28 l0 x5_1).f6) t289 _ ?side1 ?side2 ?side3 A34.out).mono ?_); (case side1 => repeat (first | exact (Kd.C_below HR0.out HB.out) | (with_reducible refine Kd.C_alloc ?_ _) | (with_reducible refine Kd.C_drewN ?_ _) | (with_reducible refine Kd.C_drew ?_))); (case side2 => exact HC0.out); (case side3 => first | (with_reducible exact HGL.out) | (with_reducible exact Gl.drewN HGL.out _) | exact Gl.of HGL.out (by repeat (first | (with_reducible first | exact HB.out | apply below_alloc | apply pw_below_drewN | apply below_drew1 | refine below_set ?_ GE281.out) | exact HB.out))); rintro e w' ⟨rfl, ⟨nd, rfl⟩⟩))
                            go_meet
                            case rel => exact ⟨_, ((t289 != 2)), (by first | rfl | (simp; done) | (simp [*]; done)), H', ⟨by have := HK1.out; have := HJ8.out; have := HJ26.out; first | omega | exact Nat.le_refl _⟩, ⟨by (with_reducible repeat (first | refine blk_drewN ?_ _ | refine blk_drew ?_ | refine blk_alloc ?_ _)); exact BK281.out⟩, ⟨by repeat (first | (with_reducible first | exact HB.out | apply below_alloc | apply pw_below_drewN | apply below_drew1 | refine below_set ?_ GE281.out) | exact HB.out)⟩⟩
                          · rw [if_neg c33] at H
                            have c33b0 : (((rd_T28 l0 x5_1).f1) == 4) = false := beq_eq_false_iff_ne.mpr c33
                            have c33b1 : (((rd_T28 l0 x5_1).f1) != 4) = true := bne_iff_ne.mpr c33
                            (first | rw [c33b0] | (simp only [i64_w, i32_w]; rw [c33b0]) | rw [c33b1] | skip)
                            have H' := Aside0.mk H
                            clear H
                            have hcz36_0 : wc.cell? ⟨gb281, 0, none⟩ = some (.string ((rd_T28 l0 x5_1).f0)) := (blk_cell BK281.out 0).trans rfl
                            have hcz36_1 : wc.cell? ⟨gb281, 1, none⟩ = some (.int .i64 ((rd_T28 l0 x5_1).f1)) := (blk_cell BK281.out 1).trans rfl
                            have hcz36_2 : wc.cell? ⟨gb281, 2, none⟩ = some (.int .i64 ((rd_T28 l0 x5_1).f2)) := (blk_cell BK281.out 2).trans rfl
                            have hcz36_3 : wc.cell? ⟨gb281, 3, none⟩ = some (.int .i64 ((rd_T28 l0 x5_1).f3)) := (blk_cell BK281.out 3).trans rfl
                            have hcz36_4 : wc.cell? ⟨gb281, 4, none⟩ = some (.int .i64 ((rd_T28 l0 x5_1).f4)) := (blk_cell BK281.out 4).trans rfl
                            have hcz36_5 : wc.cell? ⟨gb281, 5, none⟩ = some (.int .i64 ((rd_T28 l0 x5_1).f5)) := (blk_cell BK281.out 5).trans rfl
                            have hcz36_6 : wc.cell? ⟨gb281, 6, none⟩ = some (.string ((rd_T28 l0 x5_1).f6)) := (blk_cell BK281.out 6).trans rfl
                            have hcz36_7 : wc.cell? ⟨gb281, 7, none⟩ = some (.slice A280_7 ((rd_T28 l0 x5_1).f7).length c280_7) := (blk_cell BK281.out 7).trans rfl
                            have hfz36_0 := blk_frozen BK281.out 0
                            have hfz36_1 := blk_frozen BK281.out 1
                            have hfz36_2 := blk_frozen BK281.out 2
                            have hfz36_3 := blk_frozen BK281.out 3
                            have hfz36_4 := blk_frozen BK281.out 4
                            have hfz36_5 := blk_frozen BK281.out 5
                            have hfz36_6 := blk_frozen BK281.out 6
                            have hfz36_7 := blk_frozen BK281.out 7
                            go_wp2
                            go_meet
                            case rel => exact ⟨_, (false), (by first | rfl | (simp; done) | (simp [*]; done)), H', ⟨by have := HK1.out; have := HJ8.out; have := HJ26.out; first | omega | exact Nat.le_refl _⟩, ⟨by (with_reducible repeat (first | refine blk_drewN ?_ _ | refine blk_drew ?_ | refine blk_alloc ?_ _)); exact BK281.out⟩, ⟨by repeat (first | (with_reducible first | exact HB.out | apply below_alloc | apply pw_below_drewN | apply below_drew1 | refine below_set ?_ GE281.out) | exact HB.out)⟩⟩
                      case rest =>
                        clear HC31
                        try clear c1
                        try clear c2
                        try clear c2b0
                        try clear c2b1
                        try clear p2
                        try clear q2
                        try clear hx2
                        try clear c3
                        try clear c3b0
                        try clear c4
                        try clear c4b0
                        try clear c6
                        try clear p6
                        try clear c17
                        try clear c18
                        try clear c18b0
                        try clear c20
                        try clear c20b0
                        try clear c21
                        try clear c21b0
                        try clear c28
                        try clear p28
                        try clear q28
                        try clear hx28
                        try clear c29
                        try clear c32
                        try clear c33
                        try clear c33b0
                        try clear c33b1
                        try clear hcz11_0
                        try clear hcz11_1
                        try clear hcz11_2
                        try clear hcz11_3
                        try clear hcz11_4
                        try clear hcz11_5
                        try clear hcz11_6
                        try clear hcz11_7
                        try clear hcz13_0
                        try clear hcz13_1
                        try clear hcz13_2
                        try clear hcz13_3
                        try clear hcz13_4
                        try clear hcz13_5
                        try clear hcz13_6
                        try clear hcz13_7
                        try clear hcz15_0
                        try clear hcz15_1
                        try clear hcz15_2
                        try clear hcz15_3
                        try clear hcz15_4
                        try clear hcz15_5
                        try clear hcz15_6
                        try clear hcz15_7
                        try clear hcz35_0
                        try clear hcz35_1
                        try clear hcz35_2
                        try clear hcz35_3
                        try clear hcz35_4
                        try clear hcz35_5
                        try clear hcz35_6
                        try clear hcz35_7
                        try clear hcz36_0
                        try clear hcz36_1
                        try clear hcz36_2
                        try clear hcz36_3
                        try clear hcz36_4
                        try clear hcz36_5
                        try clear hcz36_6
                        try clear hcz36_7
                        try clear hfz11_0
                        try clear hfz11_1
                        try clear hfz11_2
                        try clear hfz11_3
                        try clear hfz11_4
                        try clear hfz11_5
                        try clear hfz11_6
                        try clear hfz11_7
                        try clear hfz13_0
                        try clear hfz13_1
                        try clear hfz13_2
                        try clear hfz13_3
                        try clear hfz13_4
                        try clear hfz13_5
                        try clear hfz13_6
                        try clear hfz13_7
                        try clear hfz15_0
                        try clear hfz15_1
                        try clear hfz15_2
                        try clear hfz15_3
                        try clear hfz15_4
                        try clear hfz15_5
                        try clear hfz15_6
                        try clear hfz15_7
                        try clear hfz35_0
                        try clear hfz35_1
                        try clear hfz35_2
                        try clear hfz35_3
                        try clear hfz35_4
                        try clear hfz35_5
                        try clear hfz35_6
                        try clear hfz35_7
                        try clear hfz36_0
                        try clear hfz36_1
                        try clear hfz36_2
                        try clear hfz36_3
                        try clear hfz36_4
                        try clear hfz36_5
                        try clear hfz36_6
                        try clear hfz36_7
                        try clear hx280_0
                        try clear hx280_1
                        try clear hx280_2
                        try clear hx280_3
                        try clear hx280_4
                        try clear hx280_5
                        try clear hx280_6
                        try clear hx280_7
                        try clear hx286_0
                        try clear hx286_1
                        try clear hx286_2
                        try clear hx286_3
                        try clear hx286_4
                        try clear hx286_5
                        try clear hx286_6
                        try clear hx286_7
                        try clear p2
                        try clear p28
                        try clear p280
                        try clear p286
                        try clear p6
                        try clear q2
                        try clear q28
                        try clear q280
                        try clear q286
                        obtain ⟨kq, x9_30, rfl, HA, HJ30, BK281, HB⟩ := hcut
                        cases kq with
                        | zero => exact absurd HA.out (by simp [amphoraref09_Check.j3])
                        | succ kj30 =>
                          have H := HA.out
                          clear HA
                          simp only [amphoraref09_Check.j3] at H
                          by_cases c37 : x9_30 = true
                          · subst c37
                            have H1 : (some (x5_1, 13)) = some (r1, r2) := by rw [if_pos rfl] at H; exact H
                            clear H
                            have H := H1
                            clear H1
                            simp only [Option.some.injEq, Prod.mk.injEq] at H
                            obtain ⟨rfl, rfl⟩ := H
                            go_wp2
                            go_ret2
                            exact ⟨by first | rfl | (simp [errW_none, errW_some] <;> rfl) | (simp [*, errW_none, errW_some] <;> rfl), by repeat (first | (with_reducible first | exact HB.out | apply below_alloc | apply pw_below_drewN | apply below_drew1 | refine below_set ?_ GE281.out) | exact HB.out)⟩
                          · replace c37 := Bool.eq_false_iff.mpr c37
                            subst c37
                            have H1 : (if (wrap64 (x4_1 + (((rd_T28 l0 x5_1).f7).length : Int))) > 1048576 then (some (x5_1, 18)) else (amphoraref09_Check.l0 kj30 l0 (wrap64 (x4_1 + (((rd_T28 l0 x5_1).f7).length : Int))) (wrap64 (x5_1 + 1)))) = some (r1, r2) := by rw [if_neg (show ¬ (false = true) by decide)] at H; exact H
                            clear H
                            have H := H1
                            clear H1
                            by_cases c38 : (wrap64 (x4_1 + (((rd_T28 l0 x5_1).f7).length : Int))) > 1048576
                            · rw [if_pos c38] at H
                              have c38b0 : decide (1048576 < (wrap64 (x4_1 + (((rd_T28 l0 x5_1).f7).length : Int)))) = true := decide_eq_true c38
                              clear c38
                              simp only [Option.some.injEq, Prod.mk.injEq] at H
                              obtain ⟨rfl, rfl⟩ := H
                              have hcz39_0 : wc.cell? ⟨gb281, 0, none⟩ = some (.string ((rd_T28 l0 x5_1).f0)) := (blk_cell BK281.out 0).trans rfl
                              have hcz39_1 : wc.cell? ⟨gb281, 1, none⟩ = some (.int .i64 ((rd_T28 l0 x5_1).f1)) := (blk_cell BK281.out 1).trans rfl
                              have hcz39_2 : wc.cell? ⟨gb281, 2, none⟩ = some (.int .i64 ((rd_T28 l0 x5_1).f2)) := (blk_cell BK281.out 2).trans rfl
                              have hcz39_3 : wc.cell? ⟨gb281, 3, none⟩ = some (.int .i64 ((rd_T28 l0 x5_1).f3)) := (blk_cell BK281.out 3).trans rfl
                              have hcz39_4 : wc.cell? ⟨gb281, 4, none⟩ = some (.int .i64 ((rd_T28 l0 x5_1).f4)) := (blk_cell BK281.out 4).trans rfl
                              have hcz39_5 : wc.cell? ⟨gb281, 5, none⟩ = some (.int .i64 ((rd_T28 l0 x5_1).f5)) := (blk_cell BK281.out 5).trans rfl
                              have hcz39_6 : wc.cell? ⟨gb281, 6, none⟩ = some (.string ((rd_T28 l0 x5_1).f6)) := (blk_cell BK281.out 6).trans rfl
                              have hcz39_7 : wc.cell? ⟨gb281, 7, none⟩ = some (.slice A280_7 ((rd_T28 l0 x5_1).f7).length c280_7) := (blk_cell BK281.out 7).trans rfl
                              have hfz39_0 := blk_frozen BK281.out 0
                              have hfz39_1 := blk_frozen BK281.out 1
                              have hfz39_2 := blk_frozen BK281.out 2
                              have hfz39_3 := blk_frozen BK281.out 3
                              have hfz39_4 := blk_frozen BK281.out 4
                              have hfz39_5 := blk_frozen BK281.out 5
                              have hfz39_6 := blk_frozen BK281.out 6
                              have hfz39_7 := blk_frozen BK281.out 7
                              go_wp2
                              go_ret2
                              exact ⟨by first | rfl | (simp [errW_none, errW_some] <;> rfl) | (simp [*, errW_none, errW_some] <;> rfl), by repeat (first | (with_reducible first | exact HB.out | apply below_alloc | apply pw_below_drewN | apply below_drew1 | refine below_set ?_ GE281.out) | exact HB.out)⟩
                            · rw [if_neg c38] at H
                              have c38b0 : decide (1048576 < (wrap64 (x4_1 + (((rd_T28 l0 x5_1).f7).length : Int)))) = false := decide_eq_false c38
                              clear c38
                              have H' := Aside0.mk H
                              clear H
                              have hcz40_0 : wc.cell? ⟨gb281, 0, none⟩ = some (.string ((rd_T28 l0 x5_1).f0)) := (blk_cell BK281.out 0).trans rfl
                              have hcz40_1 : wc.cell? ⟨gb281, 1, none⟩ = some (.int .i64 ((rd_T28 l0 x5_1).f1)) := (blk_cell BK281.out 1).trans rfl
                              have hcz40_2 : wc.cell? ⟨gb281, 2, none⟩ = some (.int .i64 ((rd_T28 l0 x5_1).f2)) := (blk_cell BK281.out 2).trans rfl
                              have hcz40_3 : wc.cell? ⟨gb281, 3, none⟩ = some (.int .i64 ((rd_T28 l0 x5_1).f3)) := (blk_cell BK281.out 3).trans rfl
                              have hcz40_4 : wc.cell? ⟨gb281, 4, none⟩ = some (.int .i64 ((rd_T28 l0 x5_1).f4)) := (blk_cell BK281.out 4).trans rfl
                              have hcz40_5 : wc.cell? ⟨gb281, 5, none⟩ = some (.int .i64 ((rd_T28 l0 x5_1).f5)) := (blk_cell BK281.out 5).trans rfl
                              have hcz40_6 : wc.cell? ⟨gb281, 6, none⟩ = some (.string ((rd_T28 l0 x5_1).f6)) := (blk_cell BK281.out 6).trans rfl
                              have hcz40_7 : wc.cell? ⟨gb281, 7, none⟩ = some (.slice A280_7 ((rd_T28 l0 x5_1).f7).length c280_7) := (blk_cell BK281.out 7).trans rfl
                              have hfz40_0 := blk_frozen BK281.out 0
                              have hfz40_1 := blk_frozen BK281.out 1
                              have hfz40_2 := blk_frozen BK281.out 2
                              have hfz40_3 := blk_frozen BK281.out 3
                              have hfz40_4 := blk_frozen BK281.out 4
                              have hfz40_5 := blk_frozen BK281.out 5
                              have hfz40_6 := blk_frozen BK281.out 6
                              have hfz40_7 := blk_frozen BK281.out 7
                              go_wp2
                              go_roundg kj30
                              case measure => have := HK1.out; have := HJ8.out; have := HJ26.out; have := HJ30.out; omega
                              case rel => exact ⟨(wrap64 (x4_1 + (((rd_T28 l0 x5_1).f7).length : Int))), (wrap64 (x5_1 + 1)), (by first | rfl | (simp; done) | (simp [*]; done)), (by first | rfl | (simp; done) | (simp [*]; done)), H', ⟨by have := HK1.out; have := HJ8.out; have := HJ26.out; have := HJ30.out; omega⟩, ⟨by repeat (first | (with_reducible first | exact HB.out | apply below_alloc | apply pw_below_drewN | apply below_drew1 | refine below_set ?_ GE281.out) | exact HB.out)⟩⟩
            · replace c6 := Bool.eq_false_iff.mpr c6
              subst c6
              have H1 : (some (x5_1, 12)) = some (r1, r2) := by rw [if_neg (show ¬ (false = true) by decide)] at H; exact H
              clear H
              have H := H1
              clear H1
              simp only [Option.some.injEq, Prod.mk.injEq] at H
              obtain ⟨rfl, rfl⟩ := H
              have p280 : 0 ≤ (x5_1 : Int) := of_decide_eq_true (by first | (with_reducible assumption) | assumption)
              have q280 : x5_1 < (l0.length : Int) := of_decide_eq_true (by first | (with_reducible assumption) | assumption)
              obtain ⟨ad280, A280_7, c280_7, e280, hx280_0, hx280_1, hx280_2, hx280_3, hx280_4, hx280_5, hx280_6, hx280_7, hl280_7, hi280_7⟩ := at_T28 HR0.out x5_1 p280 q280
              cases e280
              replace hx280_0 := (HB.out.cell (World.block_lt_of_cell? w _ hx280_0)).trans hx280_0
              replace hx280_1 := (HB.out.cell (World.block_lt_of_cell? w _ hx280_1)).trans hx280_1
              replace hx280_2 := (HB.out.cell (World.block_lt_of_cell? w _ hx280_2)).trans hx280_2
              replace hx280_3 := (HB.out.cell (World.block_lt_of_cell? w _ hx280_3)).trans hx280_3
              replace hx280_4 := (HB.out.cell (World.block_lt_of_cell? w _ hx280_4)).trans hx280_4
              replace hx280_5 := (HB.out.cell (World.block_lt_of_cell? w _ hx280_5)).trans hx280_5
              replace hx280_6 := (HB.out.cell (World.block_lt_of_cell? w _ hx280_6)).trans hx280_6
              replace hx280_7 := (HB.out.cell (World.block_lt_of_cell? w _ hx280_7)).trans hx280_7
              have HR280_7 := Aside0.mk hi280_7
              have HC280_7 := Aside0.mk hl280_7
              clear hi280_7 hl280_7
              replace p280 := eq_true p280
              replace q280 := eq_true q280
              go_wp2_with (first | ((with_reducible refine gate_dst (N := 6) rfl ?_); refine box_event ?hg (N := 6) ?hd (cs := #[.string (⟨#[]⟩ : ByteArray), .int .i64 0, .int .i64 0, .int .i64 0, .int .i64 0, .int .i64 0, .string (⟨#[]⟩ : ByteArray), .slice none 0 0]) (t := 28) ?hr ?_; (case hd => rfl); (case hg => rfl); (case hr => first | (go_simp; done) | (go_simp; rfl)); intro gb281 hg w41 hbox hb; have n0_ := Aside0.mk (below_step (by repeat (first | (with_reducible first | exact HB.out | apply below_alloc | apply pw_below_drewN | apply below_drew1) | exact HB.out)) hb); have n1_ := Aside0.mk (hbox); have n2_ := Aside0.mk ((by rw [hg]; exact (below_size (by repeat (first | (with_reducible first | exact HB.out | apply below_alloc | apply pw_below_drewN | apply below_drew1) | exact HB.out))) : w.heap.size ≤ gb281)); have n3_ := Aside0.mk ((by rw [hg]; exact (below_size (by repeat (first | (with_reducible first | exact HB.out | apply below_alloc | apply pw_below_drewN | apply below_drew1) | exact HB.out))) : w.heap.size ≤ gb281)); clear HB; have HB := n0_; have BK281 := n1_; have GW281 := n2_; have GE281 := n3_; clear n0_ n1_ n2_ n3_; clear hb hbox hg; have hcz42_0 : w41.cell? ⟨gb281, 0, none⟩ = some (.string (⟨#[]⟩ : ByteArray)) := (blk_cell BK281.out 0).trans rfl; have hcz42_1 : w41.cell? ⟨gb281, 1, none⟩ = some (.int .i64 0) := (blk_cell BK281.out 1).trans rfl; have hcz42_2 : w41.cell? ⟨gb281, 2, none⟩ = some (.int .i64 0) := (blk_cell BK281.out 2).trans rfl; have hcz42_3 : w41.cell? ⟨gb281, 3, none⟩ = some (.int .i64 0) := (blk_cell BK281.out 3).trans rfl; have hcz42_4 : w41.cell? ⟨gb281, 4, none⟩ = some (.int .i64 0) := (blk_cell BK281.out 4).trans rfl; have hcz42_5 : w41.cell? ⟨gb281, 5, none⟩ = some (.int .i64 0) := (blk_cell BK281.out 5).trans rfl; have hcz42_6 : w41.cell? ⟨gb281, 6, none⟩ = some (.string (⟨#[]⟩ : ByteArray)) := (blk_cell BK281.out 6).trans rfl; have hcz42_7 : w41.cell? ⟨gb281, 7, none⟩ = some (.slice none 0 0) := (blk_cell BK281.out 7).trans rfl; have hfz42_0 := blk_frozen BK281.out 0; have hfz42_1 := blk_frozen BK281.out 1; have hfz42_2 := blk_frozen BK281.out 2; have hfz42_3 := blk_frozen BK281.out 3; have hfz42_4 := blk_frozen BK281.out 4; have hfz42_5 := blk_frozen BK281.out 5; have hfz42_6 := blk_frozen BK281.out 6; have hfz42_7 := blk_frozen BK281.out 7) | ((with_reducible refine gate_callee (f := 38) rfl ?_); refine goesL_ (some 27) rfl rfl Tryz.func38 (by kernel_rfl) rfl #[.string ((rd_T28 l0 x5_1).f0)] rfl (by (try simp only [List.map_toArray, List.map_cons, List.map_nil]); first | done | rfl | (simp only [List.length_drop, List.length_take]; rfl)) ?_; (with_reducible refine (amphoraref08_Good.calls k1 ((rd_T28 l0 x5_1).f0) false _ ?side1 A5.out).mono ?_); (case side1 => first | (with_reducible exact HGL.out) | (with_reducible exact Gl.drewN HGL.out _) | exact Gl.of HGL.out (by repeat (first | (with_reducible first | exact HB.out | apply below_alloc | apply pw_below_drewN | apply below_drew1 | refine below_set ?_ GE281.out) | exact HB.out))); rintro e w43 ⟨rfl, hb⟩; refine ⟨_, rfl, ?_⟩; have n0_ := Aside0.mk (blk_below (g := gb281) (o := .cells #[.string ((rd_T28 l0 x5_1).f0), .int .i64 ((rd_T28 l0 x5_1).f1), .int .i64 ((rd_T28 l0 x5_1).f2), .int .i64 ((rd_T28 l0 x5_1).f3), .int .i64 ((rd_T28 l0 x5_1).f4), .int .i64 ((rd_T28 l0 x5_1).f5), .string ((rd_T28 l0 x5_1).f6), .slice A280_7 ((rd_T28 l0 x5_1).f7).length c280_7] 28 (0, 0)) (by (with_reducible repeat (first | refine blk_drewN ?_ _ | refine blk_drew ?_ | refine blk_alloc ?_ _)); refine blk_put (cs := #[.string ((rd_T28 l0 x5_1).f0), .int .i64 ((rd_T28 l0 x5_1).f1), .int .i64 ((rd_T28 l0 x5_1).f2), .int .i64 ((rd_T28 l0 x5_1).f3), .int .i64 ((rd_T28 l0 x5_1).f4), .int .i64 ((rd_T28 l0 x5_1).f5), .string ((rd_T28 l0 x5_1).f6), .slice none 0 0]) ?_ 7 _ rfl; (with_reducible repeat (first | refine blk_drewN ?_ _ | refine blk_drew ?_ | refine blk_alloc ?_ _)); refine blk_put (cs := #[.string ((rd_T28 l0 x5_1).f0), .int .i64 ((rd_T28 l0 x5_1).f1), .int .i64 ((rd_T28 l0 x5_1).f2), .int .i64 ((rd_T28 l0 x5_1).f3), .int .i64 ((rd_T28 l0 x5_1).f4), .int .i64 ((rd_T28 l0 x5_1).f5), .string (⟨#[]⟩ : ByteArray), .slice none 0 0]) ?_ 6 _ rfl; (with_reducible repeat (first | refine blk_drewN ?_ _ | refine blk_drew ?_ | refine blk_alloc ?_ _)); refine blk_put (cs := #[.string ((rd_T28 l0 x5_1).f0), .int .i64 ((rd_T28 l0 x5_1).f1), .int .i64 ((rd_T28 l0 x5_1).f2), .int .i64 ((rd_T28 l0 x5_1).f3), .int .i64 ((rd_T28 l0 x5_1).f4), .int .i64 0, .string (⟨#[]⟩ : ByteArray), .slice none 0 0]) ?_ 5 _ rfl; (with_reducible repeat (first | refine blk_drewN ?_ _ | refine blk_drew ?_ | refine blk_alloc ?_ _)); refine blk_put (cs := #[.string ((rd_T28 l0 x5_1).f0), .int .i64 ((rd_T28 l0 x5_1).f1), .int .i64 ((rd_T28 l0 x5_1).f2), .int .i64 ((rd_T28 l0 x5_1).f3), .int .i64 0, .int .i64 0, .string (⟨#[]⟩ : ByteArray), .slice none 0 0]) ?_ 4 _ rfl; (with_reducible repeat (first | refine blk_drewN ?_ _ | refine blk_drew ?_ | refine blk_alloc ?_ _)); refine blk_put (cs := #[.string ((rd_T28 l0 x5_1).f0), .int .i64 ((rd_T28 l0 x5_1).f1), .int .i64 ((rd_T28 l0 x5_1).f2), .int .i64 0, .int .i64 0, .int .i64 0, .string (⟨#[]⟩ : ByteArray), .slice none 0 0]) ?_ 3 _ rfl; (with_reducible repeat (first | refine blk_drewN ?_ _ | refine blk_drew ?_ | refine blk_alloc ?_ _)); refine blk_put (cs := #[.string ((rd_T28 l0 x5_1).f0), .int .i64 ((rd_T28 l0 x5_1).f1), .int .i64 0, .int .i64 0, .int .i64 0, .int .i64 0, .string (⟨#[]⟩ : ByteArray), .slice none 0 0]) ?_ 2 _ rfl; (with_reducible repeat (first | refine blk_drewN ?_ _ | refine blk_drew ?_ | refine blk_alloc ?_ _)); refine blk_put (cs := #[.string ((rd_T28 l0 x5_1).f0), .int .i64 0, .int .i64 0, .int .i64 0, .int .i64 0, .int .i64 0, .string (⟨#[]⟩ : ByteArray), .slice none 0 0]) ?_ 1 _ rfl; (with_reducible repeat (first | refine blk_drewN ?_ _ | refine blk_drew ?_ | refine blk_alloc ?_ _)); refine blk_put (cs := #[.string (⟨#[]⟩ : ByteArray), .int .i64 0, .int .i64 0, .int .i64 0, .int .i64 0, .int .i64 0, .string (⟨#[]⟩ : ByteArray), .slice none 0 0]) ?_ 0 _ rfl; (with_reducible repeat (first | refine blk_drewN ?_ _ | refine blk_drew ?_ | refine blk_alloc ?_ _)); exact BK281.out) hb); have n1_ := Aside0.mk (below_step (by repeat (first | (with_reducible first | exact HB.out | apply below_alloc | apply pw_below_drewN | apply below_drew1 | refine below_set ?_ GE281.out) | exact HB.out)) hb); clear BK281; clear HB; have BK281 := n0_; have HB := n1_; clear n0_ n1_; (try clear hb); (try clear hb2); (try clear hk); (try clear hi)))
              go_ret2
              exact ⟨by first | rfl | (simp [errW_none, errW_some] <;> rfl) | (simp [*, errW_none, errW_some] <;> rfl), by repeat (first | (with_reducible first | exact HB.out | apply below_alloc | apply pw_below_drewN | apply below_drew1 | refine below_set ?_ GE281.out) | exact HB.out)⟩
          · rw [if_neg c4] at H
            exact absurd H (by simp)
        · rw [if_neg c3] at H
          have c3b0 : decide (x5_1 < (l0.length : Int)) = false := decide_eq_false c3
          clear c3
          simp only [Option.some.injEq, Prod.mk.injEq] at H
          obtain ⟨rfl, rfl⟩ := H
          go_wp2
          go_ret2
          exact ⟨by first | rfl | (simp [errW_none, errW_some] <;> rfl) | (simp [*, errW_none, errW_some] <;> rfl), by repeat (first | (with_reducible first | exact HB.out | apply below_alloc | apply pw_below_drewN | apply below_drew1) | exact HB.out)⟩

end Go.Proofs.YtfkbmjfhakooiaaGreatDoor.PTree
