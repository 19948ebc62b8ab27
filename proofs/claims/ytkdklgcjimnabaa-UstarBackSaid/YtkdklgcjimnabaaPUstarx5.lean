/- Printed for this claim by a copy of the kit's print.py that takes functions walked by our own texts. Conditions: none. -/
import Derived.Test.YtkdklgcjimnabaaPUstarx0
import Derived.Test.YtkdklgcjimnabaaPUstarx4
namespace Go.Proofs.Ytkdklgcjimnabaa.PUstar
open Go.RowKit Go.Proofs.YtkdklgcjimnabaaW.PrintWords Go.Proofs.YtkdklgcjimnabaaW.PrintLast Go.Proofs.YtkdklgcjimnabaaW.PrintMore
attribute [local go_sem] max2_int min2_int max_two min_two max_three min_three max_four min_four   -- for this text's walks alone
set_option linter.unusedVariables false
set_option linter.unusedSimpArgs false

/-! ### ustar_Decode: function 10 -/
def ustar_Decode.j0 : Nat → List Int → ByteArray → Int → Int → Int → Int → Int → Int → ByteArray → Option (ByteArray × Int × Int × Int × Int × Int × Int × ByteArray × Option Int)
  | 0, _, _, _, _, _, _, _, _, _ => none
  | k + 1, x0, x160000, x160001, x160002, x160003, x160004, x160005, x160006, x160007 => (ustar_Encode.f k x160000 x160001 x160002 x160003 x160004 x160005 x160006 x160007).bind fun bt161 => (if bt161.2.isNone = true then ((bytes_Equal.f bt161.1 x0).bind fun t166 => (if t166 = true then (some (x160000, x160001, x160002, x160003, x160004, x160005, x160006, x160007, none)) else (some ((⟨#[]⟩ : ByteArray), 0, 0, 0, 0, 0, 0, (⟨#[]⟩ : ByteArray), some 14)))) else (some ((⟨#[]⟩ : ByteArray), 0, 0, 0, 0, 0, 0, (⟨#[]⟩ : ByteArray), some 14)))
def ustar_Decode.f (k : Nat) (l0 : List Int) : Option (ByteArray × Int × Int × Int × Int × Int × Int × ByteArray × Option Int) := if (l0.length : Int) = 512 then ((ustar_block_text.f l0 0 100).bind fun t151 => ((ustar_block_number.f k l0 100 7).bind fun t152 => ((ustar_block_number.f k l0 108 7).bind fun t153 => ((ustar_block_number.f k l0 116 7).bind fun t154 => ((ustar_block_number.f k l0 124 11).bind fun t155 => ((ustar_block_number.f k l0 136 11).bind fun t156 => (if 156 < (l0.length : Int) then ((ustar_block_text.f l0 157 100).bind fun t158 => ((ustar_block_text.f l0 345 155).bind fun t160 => (if t160.toList = ([] : List UInt8) then (ustar_Decode.j0 k l0 t151 t152 t153 t154 t155 t156 (rd l0 156) t158) else (if t160.size + 1 ≤ 9223372036854775807 then (if (t160 ++ (⟨#[47]⟩ : ByteArray)).size + t151.size ≤ 9223372036854775807 then (ustar_Decode.j0 k l0 ((t160 ++ (⟨#[47]⟩ : ByteArray)) ++ t151) t152 t153 t154 t155 t156 (rd l0 156) t158) else (none)) else (none))))) else (none)))))))) else (some ((⟨#[]⟩ : ByteArray), 0, 0, 0, 0, 0, 0, (⟨#[]⟩ : ByteArray), some 14))
theorem ustar_Decode.mono_l : ∀ k, (∀ y0 y1 y2 y3 y4 y5 y6 y7 y8, LeO (ustar_Decode.j0 k y0 y1 y2 y3 y4 y5 y6 y7 y8) (ustar_Decode.j0 (k + 1) y0 y1 y2 y3 y4 y5 y6 y7 y8))
  | 0 => fun _ _ _ _ _ _ _ _ _ r h => by simp [ustar_Decode.j0] at h
  | k + 1 => by
    have ih0 := ustar_Decode.mono_l k
    · intro y0 y1 y2 y3 y4 y5 y6 y7 y8
      unfold ustar_Decode.j0
      repeat' first
      | (with_reducible exact ih0 _ _ _ _ _ _ _ _ _)
      | (with_reducible exact ustar_Encode.mono _ _ _ _ _ _ _ _ _)
      | (with_reducible exact ustar_block_number.mono _ _ _ _)
      | (with_reducible exact LeO.refl _)
      | (with_reducible exact LeO.none _)
      | (with_reducible refine LeO.ite ?_ ?_)
      | (with_reducible refine LeO.bind ?_ (fun _ => ?_))
      | exact ih0 _ _ _ _ _ _ _ _ _
      | exact ustar_Encode.mono _ _ _ _ _ _ _ _ _
      | exact ustar_block_number.mono _ _ _ _
      | exact LeO.none _
      | refine LeO.ite ?_ ?_
      | refine LeO.bind ?_ (fun _ => ?_)
theorem ustar_Decode.mono : ∀ a0 k, LeO (ustar_Decode.f k a0) (ustar_Decode.f (k + 1) a0) := by
  intro a0 k
  have ih0 := ustar_Decode.mono_l k
  unfold ustar_Decode.f
  repeat' first
      | (with_reducible exact ih0 _ _ _ _ _ _ _ _ _)
      | (with_reducible exact ustar_Encode.mono _ _ _ _ _ _ _ _ _)
      | (with_reducible exact ustar_block_number.mono _ _ _ _)
      | (with_reducible exact LeO.refl _)
      | (with_reducible exact LeO.none _)
      | (with_reducible refine LeO.ite ?_ ?_)
      | (with_reducible refine LeO.bind ?_ (fun _ => ?_))
      | exact ih0 _ _ _ _ _ _ _ _ _
      | exact ustar_Encode.mono _ _ _ _ _ _ _ _ _
      | exact ustar_block_number.mono _ _ _ _
      | exact LeO.none _
      | refine LeO.ite ?_ ?_
      | refine LeO.bind ?_ (fun _ => ?_)
def ustar_Decode.T4 : Bool × List (List Nat × List Nat) := (true, [([], []), ([0], [0]), ([], []), ([2, 1], [2]), ([], []), ([4, 3], [4]), ([], []), ([6, 5], [6]), ([], []), ([8, 7], [8]), ([], []), ([10, 9], [10]), ([], []), ([12], [12]), ([13], [13]), ([], []), ([15, 11], [15]), ([1, 3, 5, 7, 9, 11, 14, 16], [1, 3, 5, 7, 9, 11, 14, 16]), ([], []), ([18, 17, 16, 0, 1, 2, 3, 4, 5, 6, 7, 8, 9, 10, 11, 12, 13, 14, 15, 16, 17, 18], [17, 18])])
def ustar_Decode.B4 : List Nat := [0, 1, 0, 7, 0, 31, 0, 127, 0, 511, 0, 2047, 0, 4096, 12288, 0, 36863, 131071, 0, 524287]
theorem ustar_Decode.tab4 : rtab .any (opsOf Try.f10 4) = ustar_Decode.T4 := by kernel_rfl
theorem ustar_Decode.bits4 : waitsOk ustar_Decode.T4.2 ustar_Decode.B4 = true := by kernel_rfl
set_option maxHeartbeats 8000000 in
set_option maxRecDepth 100000 in
theorem ustar_Decode.calls (k : Nat) (A0 : Option Addr) (c0 : Nat) (l0 : List Int) (r1 : ByteArray) (r2 : Int) (r3 : Int) (r4 : Int) (r5 : Int) (r6 : Int) (r7 : Int) (r8 : ByteArray) (r9 : Option Int) (w : World) (hr0 : Kd.C (Kd.int .u8) w A0 l0.length l0) (hc0 : l0.length ≤ c0) (h : ustar_Decode.f k l0 = some (r1, r2, r3, r4, r5, r6, r7, r8, r9)) :
    Calls Try.prog 10 #[.slice A0 l0.length c0] w fun e w' => e = .returned (.tuple #[.agg #[.string r1, .int .i64 r2, .int .i64 r3, .int .i64 r4, .int .i64 r5, .int .i64 r6, .int .u8 r7, .string r8], errW r9]) ∧ Below w.heap.size w w' := by
  have hu26 := Try.underlying26
  have hu28 := Try.underlying28
  have hu40 := Try.underlying40
  have HR0 := Aside0.mk hr0
  have HC0 := Aside0.mk hc0
  clear hr0 hc0
  have HB := Aside0.mk (Below.refl w.heap.size w)
  have H : (if (l0.length : Int) = 512 then ((ustar_block_text.f l0 0 100).bind fun t151 => ((ustar_block_number.f k l0 100 7).bind fun t152 => ((ustar_block_number.f k l0 108 7).bind fun t153 => ((ustar_block_number.f k l0 116 7).bind fun t154 => ((ustar_block_number.f k l0 124 11).bind fun t155 => ((ustar_block_number.f k l0 136 11).bind fun t156 => (if 156 < (l0.length : Int) then ((ustar_block_text.f l0 157 100).bind fun t158 => ((ustar_block_text.f l0 345 155).bind fun t160 => (if t160.toList = ([] : List UInt8) then (ustar_Decode.j0 k l0 t151 t152 t153 t154 t155 t156 (rd l0 156) t158) else (if t160.size + 1 ≤ 9223372036854775807 then (if (t160 ++ (⟨#[47]⟩ : ByteArray)).size + t151.size ≤ 9223372036854775807 then (ustar_Decode.j0 k l0 ((t160 ++ (⟨#[47]⟩ : ByteArray)) ++ t151) t152 t153 t154 t155 t156 (rd l0 156) t158) else (none)) else (none))))) else (none)))))))) else (some ((⟨#[]⟩ : ByteArray), 0, 0, 0, 0, 0, 0, (⟨#[]⟩ : ByteArray), some 14))) = some (r1, r2, r3, r4, r5, r6, r7, r8, r9) := h
  clear h
  by_cases c2 : (l0.length : Int) = 512
  · rw [if_pos c2] at H
    have c2b0 : ((l0.length : Int) == 512) = true := beq_iff_eq.mpr c2
    have c2b1 : ((l0.length : Int) != 512) = false := bne_eq_false_iff_eq.mpr c2
    clear c2
    replace H := Option.bind_eq_some_iff.mp H
    obtain ⟨t151, A30, H⟩ := H
    replace H : ((ustar_block_number.f k l0 100 7).bind fun t152 => ((ustar_block_number.f k l0 108 7).bind fun t153 => ((ustar_block_number.f k l0 116 7).bind fun t154 => ((ustar_block_number.f k l0 124 11).bind fun t155 => ((ustar_block_number.f k l0 136 11).bind fun t156 => (if 156 < (l0.length : Int) then ((ustar_block_text.f l0 157 100).bind fun t158 => ((ustar_block_text.f l0 345 155).bind fun t160 => (if t160.toList = ([] : List UInt8) then (ustar_Decode.j0 k l0 t151 t152 t153 t154 t155 t156 (rd l0 156) t158) else (if t160.size + 1 ≤ 9223372036854775807 then (if (t160 ++ (⟨#[47]⟩ : ByteArray)).size + t151.size ≤ 9223372036854775807 then (ustar_Decode.j0 k l0 ((t160 ++ (⟨#[47]⟩ : ByteArray)) ++ t151) t152 t153 t154 t155 t156 (rd l0 156) t158) else (none)) else (none))))) else (none))))))) = some (r1, r2, r3, r4, r5, r6, r7, r8, r9) := H
    have A3 := Aside0.mk A30
    clear A30
    replace H := Option.bind_eq_some_iff.mp H
    obtain ⟨t152, A40, H⟩ := H
    replace H : ((ustar_block_number.f k l0 108 7).bind fun t153 => ((ustar_block_number.f k l0 116 7).bind fun t154 => ((ustar_block_number.f k l0 124 11).bind fun t155 => ((ustar_block_number.f k l0 136 11).bind fun t156 => (if 156 < (l0.length : Int) then ((ustar_block_text.f l0 157 100).bind fun t158 => ((ustar_block_text.f l0 345 155).bind fun t160 => (if t160.toList = ([] : List UInt8) then (ustar_Decode.j0 k l0 t151 t152 t153 t154 t155 t156 (rd l0 156) t158) else (if t160.size + 1 ≤ 9223372036854775807 then (if (t160 ++ (⟨#[47]⟩ : ByteArray)).size + t151.size ≤ 9223372036854775807 then (ustar_Decode.j0 k l0 ((t160 ++ (⟨#[47]⟩ : ByteArray)) ++ t151) t152 t153 t154 t155 t156 (rd l0 156) t158) else (none)) else (none))))) else (none)))))) = some (r1, r2, r3, r4, r5, r6, r7, r8, r9) := H
    have A4 := Aside0.mk A40
    clear A40
    replace H := Option.bind_eq_some_iff.mp H
    obtain ⟨t153, A50, H⟩ := H
    replace H : ((ustar_block_number.f k l0 116 7).bind fun t154 => ((ustar_block_number.f k l0 124 11).bind fun t155 => ((ustar_block_number.f k l0 136 11).bind fun t156 => (if 156 < (l0.length : Int) then ((ustar_block_text.f l0 157 100).bind fun t158 => ((ustar_block_text.f l0 345 155).bind fun t160 => (if t160.toList = ([] : List UInt8) then (ustar_Decode.j0 k l0 t151 t152 t153 t154 t155 t156 (rd l0 156) t158) else (if t160.size + 1 ≤ 9223372036854775807 then (if (t160 ++ (⟨#[47]⟩ : ByteArray)).size + t151.size ≤ 9223372036854775807 then (ustar_Decode.j0 k l0 ((t160 ++ (⟨#[47]⟩ : ByteArray)) ++ t151) t152 t153 t154 t155 t156 (rd l0 156) t158) else (none)) else (none))))) else (none))))) = some (r1, r2, r3, r4, r5, r6, r7, r8, r9) := H
    have A5 := Aside0.mk A50
    clear A50
    replace H := Option.bind_eq_some_iff.mp H
    obtain ⟨t154, A60, H⟩ := H
    replace H : ((ustar_block_number.f k l0 124 11).bind fun t155 => ((ustar_block_number.f k l0 136 11).bind fun t156 => (if 156 < (l0.length : Int) then ((ustar_block_text.f l0 157 100).bind fun t158 => ((ustar_block_text.f l0 345 155).bind fun t160 => (if t160.toList = ([] : List UInt8) then (ustar_Decode.j0 k l0 t151 t152 t153 t154 t155 t156 (rd l0 156) t158) else (if t160.size + 1 ≤ 9223372036854775807 then (if (t160 ++ (⟨#[47]⟩ : ByteArray)).size + t151.size ≤ 9223372036854775807 then (ustar_Decode.j0 k l0 ((t160 ++ (⟨#[47]⟩ : ByteArray)) ++ t151) t152 t153 t154 t155 t156 (rd l0 156) t158) else (none)) else (none))))) else (none)))) = some (r1, r2, r3, r4, r5, r6, r7, r8, r9) := H
    have A6 := Aside0.mk A60
    clear A60
    replace H := Option.bind_eq_some_iff.mp H
    obtain ⟨t155, A70, H⟩ := H
    replace H : ((ustar_block_number.f k l0 136 11).bind fun t156 => (if 156 < (l0.length : Int) then ((ustar_block_text.f l0 157 100).bind fun t158 => ((ustar_block_text.f l0 345 155).bind fun t160 => (if t160.toList = ([] : List UInt8) then (ustar_Decode.j0 k l0 t151 t152 t153 t154 t155 t156 (rd l0 156) t158) else (if t160.size + 1 ≤ 9223372036854775807 then (if (t160 ++ (⟨#[47]⟩ : ByteArray)).size + t151.size ≤ 9223372036854775807 then (ustar_Decode.j0 k l0 ((t160 ++ (⟨#[47]⟩ : ByteArray)) ++ t151) t152 t153 t154 t155 t156 (rd l0 156) t158) else (none)) else (none))))) else (none))) = some (r1, r2, r3, r4, r5, r6, r7, r8, r9) := H
    have A7 := Aside0.mk A70
    clear A70
    replace H := Option.bind_eq_some_iff.mp H
    obtain ⟨t156, A80, H⟩ := H
    replace H : (if 156 < (l0.length : Int) then ((ustar_block_text.f l0 157 100).bind fun t158 => ((ustar_block_text.f l0 345 155).bind fun t160 => (if t160.toList = ([] : List UInt8) then (ustar_Decode.j0 k l0 t151 t152 t153 t154 t155 t156 (rd l0 156) t158) else (if t160.size + 1 ≤ 9223372036854775807 then (if (t160 ++ (⟨#[47]⟩ : ByteArray)).size + t151.size ≤ 9223372036854775807 then (ustar_Decode.j0 k l0 ((t160 ++ (⟨#[47]⟩ : ByteArray)) ++ t151) t152 t153 t154 t155 t156 (rd l0 156) t158) else (none)) else (none))))) else (none)) = some (r1, r2, r3, r4, r5, r6, r7, r8, r9) := H
    have A8 := Aside0.mk A80
    clear A80
    by_cases c9 : 156 < (l0.length : Int)
    · rw [if_pos c9] at H
      have c9b0 : decide (156 < (l0.length : Int)) = true := decide_eq_true c9
      have c9b1 : decide (156 < l0.length) = true := decide_eq_true (by omega)
      clear c9
      replace H := Option.bind_eq_some_iff.mp H
      obtain ⟨t158, A100, H⟩ := H
      replace H : ((ustar_block_text.f l0 345 155).bind fun t160 => (if t160.toList = ([] : List UInt8) then (ustar_Decode.j0 k l0 t151 t152 t153 t154 t155 t156 (rd l0 156) t158) else (if t160.size + 1 ≤ 9223372036854775807 then (if (t160 ++ (⟨#[47]⟩ : ByteArray)).size + t151.size ≤ 9223372036854775807 then (ustar_Decode.j0 k l0 ((t160 ++ (⟨#[47]⟩ : ByteArray)) ++ t151) t152 t153 t154 t155 t156 (rd l0 156) t158) else (none)) else (none)))) = some (r1, r2, r3, r4, r5, r6, r7, r8, r9) := H
      have A10 := Aside0.mk A100
      clear A100
      replace H := Option.bind_eq_some_iff.mp H
      obtain ⟨t160, A110, H⟩ := H
      replace H : (if t160.toList = ([] : List UInt8) then (ustar_Decode.j0 k l0 t151 t152 t153 t154 t155 t156 (rd l0 156) t158) else (if t160.size + 1 ≤ 9223372036854775807 then (if (t160 ++ (⟨#[47]⟩ : ByteArray)).size + t151.size ≤ 9223372036854775807 then (ustar_Decode.j0 k l0 ((t160 ++ (⟨#[47]⟩ : ByteArray)) ++ t151) t152 t153 t154 t155 t156 (rd l0 156) t158) else (none)) else (none))) = some (r1, r2, r3, r4, r5, r6, r7, r8, r9) := H
      have A11 := Aside0.mk A110
      clear A110
      have HC12 := Aside0.mk H
      clear H
      go_enter Try.func10, Try.ntmps10
      try go_wp2_with (first | ((with_reducible refine gate_dst (N := 2) rfl ?_); refine box_event ?hg (N := 2) ?hd (cs := #[.string (⟨#[]⟩ : ByteArray), .int .i64 0, .int .i64 0, .int .i64 0, .int .i64 0, .int .i64 0, .int .u8 0, .string (⟨#[]⟩ : ByteArray)]) (t := 26) ?hr ?_; (case hd => rfl); (case hg => rfl); (case hr => first | (go_simp; done) | (go_simp; rfl)); intro gb150 hg w13 hbox hb; have n0_ := Aside0.mk (below_step (by repeat (first | (with_reducible first | exact HB.out | apply below_alloc | apply pw_below_drewN | apply below_drew1) | exact HB.out)) hb); have n1_ := Aside0.mk (hbox); have n2_ := Aside0.mk ((by rw [hg]; exact (below_size (by repeat (first | (with_reducible first | exact HB.out | apply below_alloc | apply pw_below_drewN | apply below_drew1) | exact HB.out))) : w.heap.size ≤ gb150)); have n3_ := Aside0.mk ((by rw [hg]; exact (below_size (by repeat (first | (with_reducible first | exact HB.out | apply below_alloc | apply pw_below_drewN | apply below_drew1) | exact HB.out))) : w.heap.size ≤ gb150)); clear HB; have HB := n0_; have BK150 := n1_; have GW150 := n2_; have GE150 := n3_; clear n0_ n1_ n2_ n3_; clear hb hbox hg))
      have n0_ := Aside0.mk (blk_drew BK150.out)
      have n1_ := Aside0.mk (below_drew1 HB.out)
      clear BK150
      clear HB
      have BK150 := n0_
      have HB := n1_
      clear n0_ n1_
      have p157 : 0 ≤ (156 : Int) := (by omega)
      have q157 : 156 < (l0.length : Int) := of_decide_eq_true (by first | (with_reducible assumption) | assumption)
      obtain ⟨ad157, e157, hx157_0⟩ := Kd.at_int HR0.out 156 p157 q157
      have hw157_0 := hx157_0
      (try rw [show ((156 : Int)).toNat = 156 from rfl] at hw157_0)
      (try rw [show 156 * 1 = 156 from rfl] at hw157_0)
      (try simp only [Nat.reduceMul, Nat.reduceEqDiff, Go.Addr.add, ↓reduceIte] at hw157_0)
      cases e157
      (try simp only [show (156 : Int).toNat = 156 from rfl, Nat.reduceMul, Nat.reduceEqDiff, Go.Addr.add, ↓reduceIte] at hx157_0)
      have qi157 : (156 < l0.length) = True := eq_true (by omega)
      (try rw [show ((156 : Int)).toNat = 156 from rfl] at hx157_0)
      replace hx157_0 := (HB.out.cell (World.block_lt_of_cell? w _ hx157_0)).trans hx157_0
      replace p157 := eq_true p157
      replace q157 := eq_true q157
      refine start_ (n := 20) (S := fun w' => w'.cell? ⟨ad157.block, ad157.off + 156, none⟩ = some (.int .u8 (rd l0 156))) (ds := []) #[false, false, false, false, false, false, false, false, false, false, false, false, false, false, false, false, false, false, false, false] (by kernel_rfl) rfl rfl (((HB.out.cell (World.block_lt_of_cell? w _ hw157_0)).trans hw157_0)) (fun hHeld => ?_); refine with_tabW ustar_Decode.tab4 ustar_Decode.bits4 (fun HT_ HW_ => ?_)
      generalize w13.drew = w14 at BK150 HB hx157_0 hHeld ⊢
      refine pure_ (i := 0) (N := some 15) (v := ?_) (a' := ?_) #[true, false, false, false, false, false, false, false, false, false, false, false, false, false, false, false, false, false, false, false] rfl rfl (any_of HT_.out (by kernel_rfl)) (fun _ _ _ h => h) (Or.inl ⟨by rfl, ?_⟩) ?_ ?_
      rotate_left
      · intro w'
        go_simp
        with_reducible rfl
      rotate_left
      · simp only [Act.put, List.setIfInBounds_toArray, List.set_cons_zero, List.set_cons_succ, i64_w, i32_w]
        rfl
      refine pure_ (i := 2) (N := some 17) (v := ?_) (a' := ?_) #[true, false, true, false, false, false, false, false, false, false, false, false, false, false, false, false, false, false, false, false] rfl rfl (any_of HT_.out (by kernel_rfl)) (fun _ _ _ h => h) (Or.inl ⟨by rfl, ?_⟩) ?_ ?_
      rotate_left
      · intro w'
        go_simp
        with_reducible rfl
      rotate_left
      · simp only [Act.put, List.setIfInBounds_toArray, List.set_cons_zero, List.set_cons_succ, i64_w, i32_w]
        rfl
      refine pure_ (i := 4) (N := some 19) (v := ?_) (a' := ?_) #[true, false, true, false, true, false, false, false, false, false, false, false, false, false, false, false, false, false, false, false] rfl rfl (any_of HT_.out (by kernel_rfl)) (fun _ _ _ h => h) (Or.inl ⟨by rfl, ?_⟩) ?_ ?_
      rotate_left
      · intro w'
        go_simp
        with_reducible rfl
      rotate_left
      · simp only [Act.put, List.setIfInBounds_toArray, List.set_cons_zero, List.set_cons_succ, i64_w, i32_w]
        rfl
      refine pure_ (i := 6) (N := some 21) (v := ?_) (a' := ?_) #[true, false, true, false, true, false, true, false, false, false, false, false, false, false, false, false, false, false, false, false] rfl rfl (any_of HT_.out (by kernel_rfl)) (fun _ _ _ h => h) (Or.inl ⟨by rfl, ?_⟩) ?_ ?_
      rotate_left
      · intro w'
        go_simp
        with_reducible rfl
      rotate_left
      · simp only [Act.put, List.setIfInBounds_toArray, List.set_cons_zero, List.set_cons_succ, i64_w, i32_w]
        rfl
      refine pure_ (i := 8) (N := some 23) (v := ?_) (a' := ?_) #[true, false, true, false, true, false, true, false, true, false, false, false, false, false, false, false, false, false, false, false] rfl rfl (any_of HT_.out (by kernel_rfl)) (fun _ _ _ h => h) (Or.inl ⟨by rfl, ?_⟩) ?_ ?_
      rotate_left
      · intro w'
        go_simp
        with_reducible rfl
      rotate_left
      · simp only [Act.put, List.setIfInBounds_toArray, List.set_cons_zero, List.set_cons_succ, i64_w, i32_w]
        rfl
      refine pure_ (i := 10) (N := some 25) (v := ?_) (a' := ?_) #[true, false, true, false, true, false, true, false, true, false, true, false, false, false, false, false, false, false, false, false] rfl rfl (any_of HT_.out (by kernel_rfl)) (fun _ _ _ h => h) (Or.inl ⟨by rfl, ?_⟩) ?_ ?_
      rotate_left
      · intro w'
        go_simp
        with_reducible rfl
      rotate_left
      · simp only [Act.put, List.setIfInBounds_toArray, List.set_cons_zero, List.set_cons_succ, i64_w, i32_w]
        rfl
      refine pure_ (i := 12) (N := some 27) (v := ?_) (a' := ?_) #[true, false, true, false, true, false, true, false, true, false, true, false, true, false, false, false, false, false, false, false] rfl rfl (any_of HT_.out (by kernel_rfl)) (fun _ _ _ h => h) (Or.inl ⟨by rfl, ?_⟩) ?_ ?_
      rotate_left
      · intro w'
        go_simp
        with_reducible rfl
      rotate_left
      · simp only [Act.put, List.setIfInBounds_toArray, List.set_cons_zero, List.set_cons_succ, i64_w, i32_w]
        rfl
      refine pure_ (i := 13) (N := some 28) (v := ?_) (a' := ?_) #[true, false, true, false, true, false, true, false, true, false, true, false, true, true, false, false, false, false, false, false] rfl rfl (any_of HT_.out (by kernel_rfl)) (fun _ _ _ h => h) (Or.inl ⟨by rfl, ?_⟩) ?_ ?_
      rotate_left
      · intro w'
        go_simp
        with_reducible rfl
      rotate_left
      · simp only [Act.put, List.setIfInBounds_toArray, List.set_cons_zero, List.set_cons_succ, i64_w, i32_w]
        rfl
      refine pure_ (i := 15) (N := some 30) (v := ?_) (a' := ?_) #[true, false, true, false, true, false, true, false, true, false, true, false, true, true, false, true, false, false, false, false] rfl rfl (any_of HT_.out (by kernel_rfl)) (fun _ _ _ h => h) (Or.inl ⟨by rfl, ?_⟩) ?_ ?_
      rotate_left
      · intro w'
        go_simp
        with_reducible rfl
      rotate_left
      · simp only [Act.put, List.setIfInBounds_toArray, List.set_cons_zero, List.set_cons_succ, i64_w, i32_w]
        rfl
      refine take_ (i := 14) (N := some 29) (v := ?_) (a' := ?_) #[true, false, true, false, true, false, true, false, true, false, true, false, true, true, true, true, false, false, false, false] rfl rfl (take_ofW HT_.out HW_.out (by kernel_rfl)) (fun _ _ _ h => h) (Or.inl ⟨by rfl, ?_⟩) hHeld ?_ ?_
      rotate_left
      · intro w' s0
        go_simp
        with_reducible rfl
      rotate_left
      · simp only [Act.put, List.setIfInBounds_toArray, List.set_cons_zero, List.set_cons_succ, i64_w, i32_w]
        rfl
      refine join_ (σ := Nat) 1 #[true, true, true, true, true, true, true, true, true, true, true, true, true, true, true, true, true, true, true, false] (fun s_ => [(16, .string t151), (18, .int .i64 t152), (20, .int .i64 t153), (22, .int .i64 t154), (24, .int .i64 t155), (26, .int .i64 t156), (31, .string t158), (5, .pointer (some ⟨s_, 0, none⟩)), (32, .agg #[.string t151, .int .i64 t152, .int .i64 t153, .int .i64 t154, .int .i64 t155, .int .i64 t156, .int .u8 (rd l0 156), .string t158])]) (fun s_ w' => (w'.cell? ⟨ad157.block, ad157.off + 156, none⟩ = some (.int .u8 (rd l0 156))) ∧ (w'.heap[gb150]? = some (.cells #[.string (⟨#[]⟩ : ByteArray), .int .i64 0, .int .i64 0, .int .i64 0, .int .i64 0, .int .i64 0, .int .u8 0, .string (⟨#[]⟩ : ByteArray)] 26 (0, 0))) ∧ (w'.heap[s_]? = some (.cells #[.string (⟨#[]⟩ : ByteArray), .int .i64 0, .int .i64 0, .int .i64 0, .int .i64 0, .int .i64 0, .int .u8 0, .string (⟨#[]⟩ : ByteArray)] 26 (0, 0))) ∧ (w.heap.size ≤ s_) ∧ (w.heap.size ≤ s_) ∧ (gb150 ≠ s_) ∧ (s_ ≠ gb150) ∧ (Below w.heap.size w w')) ?_ ?_
      rotate_left
      · intro hJ1_3_5_7_9_11_16_18
        refine join_ (σ := Unit) 2 #[true, true, true, true, true, true, true, true, true, true, true, true, true, true, true, true, true, true, false, false] (fun s_ => [(16, .string t151), (18, .int .i64 t152), (20, .int .i64 t153), (22, .int .i64 t154), (24, .int .i64 t155), (26, .int .i64 t156), (31, .string t158), (32, .agg #[.string t151, .int .i64 t152, .int .i64 t153, .int .i64 t154, .int .i64 t155, .int .i64 t156, .int .u8 (rd l0 156), .string t158])]) (fun s_ w' => (w'.cell? ⟨ad157.block, ad157.off + 156, none⟩ = some (.int .u8 (rd l0 156))) ∧ (w'.heap[gb150]? = some (.cells #[.string (⟨#[]⟩ : ByteArray), .int .i64 0, .int .i64 0, .int .i64 0, .int .i64 0, .int .i64 0, .int .u8 0, .string (⟨#[]⟩ : ByteArray)] 26 (0, 0))) ∧ (Below w.heap.size w w')) ?_ ?_
        rotate_left
        · intro hJ1_3_5_7_9_11_16
          refine join_ (σ := Nat) 3 #[true, true, true, true, true, true, true, true, true, true, true, true, true, true, true, true, false, false, true, false] (fun s_ => [(16, .string t151), (18, .int .i64 t152), (20, .int .i64 t153), (22, .int .i64 t154), (24, .int .i64 t155), (26, .int .i64 t156), (5, .pointer (some ⟨s_, 0, none⟩))]) (fun s_ w' => (w'.cell? ⟨ad157.block, ad157.off + 156, none⟩ = some (.int .u8 (rd l0 156))) ∧ (w'.heap[gb150]? = some (.cells #[.string (⟨#[]⟩ : ByteArray), .int .i64 0, .int .i64 0, .int .i64 0, .int .i64 0, .int .i64 0, .int .u8 0, .string (⟨#[]⟩ : ByteArray)] 26 (0, 0))) ∧ (w'.heap[s_]? = some (.cells #[.string (⟨#[]⟩ : ByteArray), .int .i64 0, .int .i64 0, .int .i64 0, .int .i64 0, .int .i64 0, .int .u8 0, .string (⟨#[]⟩ : ByteArray)] 26 (0, 0))) ∧ (w.heap.size ≤ s_) ∧ (w.heap.size ≤ s_) ∧ (gb150 ≠ s_) ∧ (s_ ≠ gb150) ∧ (Below w.heap.size w w')) ?_ ?_
          rotate_left
          · intro hJ1_3_5_7_9_11_18
            refine join_ (σ := Unit) 4 #[true, true, true, true, true, true, true, true, true, true, true, true, true, true, true, true, false, false, false, false] (fun s_ => [(16, .string t151), (18, .int .i64 t152), (20, .int .i64 t153), (22, .int .i64 t154), (24, .int .i64 t155), (26, .int .i64 t156)]) (fun s_ w' => (w'.cell? ⟨ad157.block, ad157.off + 156, none⟩ = some (.int .u8 (rd l0 156))) ∧ (w'.heap[gb150]? = some (.cells #[.string (⟨#[]⟩ : ByteArray), .int .i64 0, .int .i64 0, .int .i64 0, .int .i64 0, .int .i64 0, .int .u8 0, .string (⟨#[]⟩ : ByteArray)] 26 (0, 0))) ∧ (Below w.heap.size w w')) ?_ ?_
            rotate_left
            · intro hJ1_3_5_7_9_11
              refine join_ (σ := Nat) 4 #[true, true, true, true, true, true, true, true, true, true, true, false, true, true, true, true, false, false, true, false] (fun s_ => [(16, .string t151), (18, .int .i64 t152), (20, .int .i64 t153), (22, .int .i64 t154), (24, .int .i64 t155), (5, .pointer (some ⟨s_, 0, none⟩))]) (fun s_ w' => (w'.cell? ⟨ad157.block, ad157.off + 156, none⟩ = some (.int .u8 (rd l0 156))) ∧ (w'.heap[gb150]? = some (.cells #[.string (⟨#[]⟩ : ByteArray), .int .i64 0, .int .i64 0, .int .i64 0, .int .i64 0, .int .i64 0, .int .u8 0, .string (⟨#[]⟩ : ByteArray)] 26 (0, 0))) ∧ (w'.heap[s_]? = some (.cells #[.string (⟨#[]⟩ : ByteArray), .int .i64 0, .int .i64 0, .int .i64 0, .int .i64 0, .int .i64 0, .int .u8 0, .string (⟨#[]⟩ : ByteArray)] 26 (0, 0))) ∧ (w.heap.size ≤ s_) ∧ (w.heap.size ≤ s_) ∧ (gb150 ≠ s_) ∧ (s_ ≠ gb150) ∧ (Below w.heap.size w w')) ?_ ?_
              rotate_left
              · intro hJ1_3_5_7_9_18
                refine join_ (σ := Unit) 5 #[true, true, true, true, true, true, true, true, true, true, true, false, true, true, true, true, false, false, false, false] (fun s_ => [(16, .string t151), (18, .int .i64 t152), (20, .int .i64 t153), (22, .int .i64 t154), (24, .int .i64 t155)]) (fun s_ w' => (w'.cell? ⟨ad157.block, ad157.off + 156, none⟩ = some (.int .u8 (rd l0 156))) ∧ (w'.heap[gb150]? = some (.cells #[.string (⟨#[]⟩ : ByteArray), .int .i64 0, .int .i64 0, .int .i64 0, .int .i64 0, .int .i64 0, .int .u8 0, .string (⟨#[]⟩ : ByteArray)] 26 (0, 0))) ∧ (Below w.heap.size w w')) ?_ ?_
                rotate_left
                · intro hJ1_3_5_7_9
                  refine join_ (σ := Nat) 5 #[true, true, true, true, true, true, true, true, true, false, true, false, true, true, true, true, false, false, true, false] (fun s_ => [(16, .string t151), (18, .int .i64 t152), (20, .int .i64 t153), (22, .int .i64 t154), (5, .pointer (some ⟨s_, 0, none⟩))]) (fun s_ w' => (w'.cell? ⟨ad157.block, ad157.off + 156, none⟩ = some (.int .u8 (rd l0 156))) ∧ (w'.heap[gb150]? = some (.cells #[.string (⟨#[]⟩ : ByteArray), .int .i64 0, .int .i64 0, .int .i64 0, .int .i64 0, .int .i64 0, .int .u8 0, .string (⟨#[]⟩ : ByteArray)] 26 (0, 0))) ∧ (w'.heap[s_]? = some (.cells #[.string (⟨#[]⟩ : ByteArray), .int .i64 0, .int .i64 0, .int .i64 0, .int .i64 0, .int .i64 0, .int .u8 0, .string (⟨#[]⟩ : ByteArray)] 26 (0, 0))) ∧ (w.heap.size ≤ s_) ∧ (w.heap.size ≤ s_) ∧ (gb150 ≠ s_) ∧ (s_ ≠ gb150) ∧ (Below w.heap.size w w')) ?_ ?_
                  rotate_left
                  · intro hJ1_3_5_7_18
                    refine join_ (σ := Unit) 6 #[true, true, true, true, true, true, true, true, true, false, true, false, true, true, true, true, false, false, false, false] (fun s_ => [(16, .string t151), (18, .int .i64 t152), (20, .int .i64 t153), (22, .int .i64 t154)]) (fun s_ w' => (w'.cell? ⟨ad157.block, ad157.off + 156, none⟩ = some (.int .u8 (rd l0 156))) ∧ (w'.heap[gb150]? = some (.cells #[.string (⟨#[]⟩ : ByteArray), .int .i64 0, .int .i64 0, .int .i64 0, .int .i64 0, .int .i64 0, .int .u8 0, .string (⟨#[]⟩ : ByteArray)] 26 (0, 0))) ∧ (Below w.heap.size w w')) ?_ ?_
                    rotate_left
                    · intro hJ1_3_5_7
                      refine join_ (σ := Nat) 6 #[true, true, true, true, true, true, true, false, true, false, true, false, true, true, true, true, false, false, true, false] (fun s_ => [(16, .string t151), (18, .int .i64 t152), (20, .int .i64 t153), (5, .pointer (some ⟨s_, 0, none⟩))]) (fun s_ w' => (w'.cell? ⟨ad157.block, ad157.off + 156, none⟩ = some (.int .u8 (rd l0 156))) ∧ (w'.heap[gb150]? = some (.cells #[.string (⟨#[]⟩ : ByteArray), .int .i64 0, .int .i64 0, .int .i64 0, .int .i64 0, .int .i64 0, .int .u8 0, .string (⟨#[]⟩ : ByteArray)] 26 (0, 0))) ∧ (w'.heap[s_]? = some (.cells #[.string (⟨#[]⟩ : ByteArray), .int .i64 0, .int .i64 0, .int .i64 0, .int .i64 0, .int .i64 0, .int .u8 0, .string (⟨#[]⟩ : ByteArray)] 26 (0, 0))) ∧ (w.heap.size ≤ s_) ∧ (w.heap.size ≤ s_) ∧ (gb150 ≠ s_) ∧ (s_ ≠ gb150) ∧ (Below w.heap.size w w')) ?_ ?_
                      rotate_left
                      · intro hJ1_3_5_18
                        refine join_ (σ := Unit) 7 #[true, true, true, true, true, true, true, false, true, false, true, false, true, true, true, true, false, false, false, false] (fun s_ => [(16, .string t151), (18, .int .i64 t152), (20, .int .i64 t153)]) (fun s_ w' => (w'.cell? ⟨ad157.block, ad157.off + 156, none⟩ = some (.int .u8 (rd l0 156))) ∧ (w'.heap[gb150]? = some (.cells #[.string (⟨#[]⟩ : ByteArray), .int .i64 0, .int .i64 0, .int .i64 0, .int .i64 0, .int .i64 0, .int .u8 0, .string (⟨#[]⟩ : ByteArray)] 26 (0, 0))) ∧ (Below w.heap.size w w')) ?_ ?_
                        rotate_left
                        · intro hJ1_3_5
                          refine join_ (σ := Nat) 7 #[true, true, true, true, true, false, true, false, true, false, true, false, true, true, true, true, false, false, true, false] (fun s_ => [(16, .string t151), (18, .int .i64 t152), (5, .pointer (some ⟨s_, 0, none⟩))]) (fun s_ w' => (w'.cell? ⟨ad157.block, ad157.off + 156, none⟩ = some (.int .u8 (rd l0 156))) ∧ (w'.heap[gb150]? = some (.cells #[.string (⟨#[]⟩ : ByteArray), .int .i64 0, .int .i64 0, .int .i64 0, .int .i64 0, .int .i64 0, .int .u8 0, .string (⟨#[]⟩ : ByteArray)] 26 (0, 0))) ∧ (w'.heap[s_]? = some (.cells #[.string (⟨#[]⟩ : ByteArray), .int .i64 0, .int .i64 0, .int .i64 0, .int .i64 0, .int .i64 0, .int .u8 0, .string (⟨#[]⟩ : ByteArray)] 26 (0, 0))) ∧ (w.heap.size ≤ s_) ∧ (w.heap.size ≤ s_) ∧ (gb150 ≠ s_) ∧ (s_ ≠ gb150) ∧ (Below w.heap.size w w')) ?_ ?_
                          rotate_left
                          · intro hJ1_3_18
                            refine join_ (σ := Unit) 8 #[true, true, true, true, true, false, true, false, true, false, true, false, true, true, true, true, false, false, false, false] (fun s_ => [(16, .string t151), (18, .int .i64 t152)]) (fun s_ w' => (w'.cell? ⟨ad157.block, ad157.off + 156, none⟩ = some (.int .u8 (rd l0 156))) ∧ (w'.heap[gb150]? = some (.cells #[.string (⟨#[]⟩ : ByteArray), .int .i64 0, .int .i64 0, .int .i64 0, .int .i64 0, .int .i64 0, .int .u8 0, .string (⟨#[]⟩ : ByteArray)] 26 (0, 0))) ∧ (Below w.heap.size w w')) ?_ ?_
                            rotate_left
                            · intro hJ1_3
                              refine join_ (σ := Nat) 8 #[true, true, true, false, true, false, true, false, true, false, true, false, true, true, true, true, false, false, true, false] (fun s_ => [(16, .string t151), (5, .pointer (some ⟨s_, 0, none⟩))]) (fun s_ w' => (w'.cell? ⟨ad157.block, ad157.off + 156, none⟩ = some (.int .u8 (rd l0 156))) ∧ (w'.heap[gb150]? = some (.cells #[.string (⟨#[]⟩ : ByteArray), .int .i64 0, .int .i64 0, .int .i64 0, .int .i64 0, .int .i64 0, .int .u8 0, .string (⟨#[]⟩ : ByteArray)] 26 (0, 0))) ∧ (w'.heap[s_]? = some (.cells #[.string (⟨#[]⟩ : ByteArray), .int .i64 0, .int .i64 0, .int .i64 0, .int .i64 0, .int .i64 0, .int .u8 0, .string (⟨#[]⟩ : ByteArray)] 26 (0, 0))) ∧ (w.heap.size ≤ s_) ∧ (w.heap.size ≤ s_) ∧ (gb150 ≠ s_) ∧ (s_ ≠ gb150) ∧ (Below w.heap.size w w')) ?_ ?_
                              rotate_left
                              · intro hJ1_18
                                refine join_ (σ := Unit) 9 #[true, true, true, false, true, false, true, false, true, false, true, false, true, true, true, true, false, false, false, false] (fun s_ => [(16, .string t151)]) (fun s_ w' => (w'.cell? ⟨ad157.block, ad157.off + 156, none⟩ = some (.int .u8 (rd l0 156))) ∧ (w'.heap[gb150]? = some (.cells #[.string (⟨#[]⟩ : ByteArray), .int .i64 0, .int .i64 0, .int .i64 0, .int .i64 0, .int .i64 0, .int .u8 0, .string (⟨#[]⟩ : ByteArray)] 26 (0, 0))) ∧ (Below w.heap.size w w')) ?_ ?_
                                rotate_left
                                · intro hJ1
                                  refine join_ (σ := Nat) 9 #[true, false, true, false, true, false, true, false, true, false, true, false, true, true, true, true, false, false, true, false] (fun s_ => [(5, .pointer (some ⟨s_, 0, none⟩))]) (fun s_ w' => (w'.cell? ⟨ad157.block, ad157.off + 156, none⟩ = some (.int .u8 (rd l0 156))) ∧ (w'.heap[gb150]? = some (.cells #[.string (⟨#[]⟩ : ByteArray), .int .i64 0, .int .i64 0, .int .i64 0, .int .i64 0, .int .i64 0, .int .u8 0, .string (⟨#[]⟩ : ByteArray)] 26 (0, 0))) ∧ (w'.heap[s_]? = some (.cells #[.string (⟨#[]⟩ : ByteArray), .int .i64 0, .int .i64 0, .int .i64 0, .int .i64 0, .int .i64 0, .int .u8 0, .string (⟨#[]⟩ : ByteArray)] 26 (0, 0))) ∧ (w.heap.size ≤ s_) ∧ (w.heap.size ≤ s_) ∧ (gb150 ≠ s_) ∧ (s_ ≠ gb150) ∧ (Below w.heap.size w w')) ?_ ?_
                                  rotate_left
                                  · intro hJ18
                                    refine two_ (i := 1) (j := 18) (Ni := some 16) (Nj := some 5) #[true, true, true, false, true, false, true, false, true, false, true, false, true, true, true, true, false, false, false, false] #[true, false, true, false, true, false, true, false, true, false, true, false, true, true, true, true, false, false, true, false] rfl rfl rfl rfl (two_of HT_.out (by kernel_rfl)) (by decide) (by decide) (fun K hK => ?_) (fun K hK => ?_)
                                    · skip
                                      refine goes_ Try.func25 (by kernel_rfl) rfl #[.slice (some ad157) l0.length c0, .int .i64 0, .int .i64 100] (by rfl) rfl rfl (by (try simp only [List.map_toArray, List.map_cons, List.map_nil]); first | done | rfl | (simp only [List.length_drop, List.length_take]; rfl)) ?_
                                      with_reducible refine (ustar_block_text.calls _ _ l0 0 100 t151 _ ?side1 ?side2 A3.out).mono ?_
                                      (case side1 => repeat (first | exact (Kd.C_below HR0.out HB.out) | (with_reducible refine Kd.C_alloc ?_ _) | (with_reducible refine Kd.C_drewN ?_ _) | (with_reducible refine Kd.C_drew ?_)))
                                      (case side2 => exact HC0.out)
                                      rintro e w15 ⟨rfl, hb⟩
                                      refine ⟨_, rfl, ?_⟩
                                      have n0_ := Aside0.mk (blk_below (g := gb150) (o := .cells #[.string (⟨#[]⟩ : ByteArray), .int .i64 0, .int .i64 0, .int .i64 0, .int .i64 0, .int .i64 0, .int .u8 0, .string (⟨#[]⟩ : ByteArray)] 26 (0, 0)) (by (with_reducible repeat (first | refine blk_drewN ?_ _ | refine blk_drew ?_ | refine blk_alloc ?_ _)); exact BK150.out) hb)
                                      have n1_ := Aside0.mk (below_step (by repeat (first | (with_reducible first | exact HB.out | apply below_alloc | apply pw_below_drewN | apply below_drew1 | refine below_set ?_ GE150.out) | exact HB.out)) hb)
                                      clear BK150
                                      clear HB
                                      have BK150 := n0_
                                      have HB := n1_
                                      clear n0_ n1_
                                      (try clear hb)
                                      (try clear hb2)
                                      (try clear hk)
                                      (try clear hi)
                                      refine hK.out _ _ (((HB.out.cell (World.block_lt_of_cell? w _ hw157_0)).trans hw157_0)) (fun hHeld => ?_)
                                      clear hK K
                                      refine norm_ (a' := ?_) ?_ ?_
                                      rotate_left
                                      · show Act.put _ (some 16) _ = _
                                        simp only [Act.put, List.setIfInBounds_toArray, List.set_cons_zero, List.set_cons_succ, i64_w, i32_w]
                                        rfl
                                      exact norm_ (by first | (simp only [putAll, Act.put, List.setIfInBounds_toArray, List.set_cons_zero, List.set_cons_succ]; done) | (simp only [putAll, Act.put, List.setIfInBounds_toArray, List.set_cons_zero, List.set_cons_succ]; rfl)) (hJ1 () _ ⟨hHeld, (by (with_reducible repeat (first | refine blk_drewN ?_ _ | refine blk_drew ?_ | refine blk_alloc ?_ _)); exact BK150.out), (by repeat (first | (with_reducible first | exact HB.out | apply below_alloc | apply pw_below_drewN | apply below_drew1 | refine below_set ?_ GE150.out) | exact HB.out))⟩)
                                    · skip
                                      refine box_step ?hg (N := 5) ?hd (cs := #[.string (⟨#[]⟩ : ByteArray), .int .i64 0, .int .i64 0, .int .i64 0, .int .i64 0, .int .i64 0, .int .u8 0, .string (⟨#[]⟩ : ByteArray)]) (t := 26) ?hr ?_; (case hd => rfl); (case hg => rfl); (case hr => first | (go_simp; done) | (go_simp; rfl))
                                      intro gb159 hg w15 hbox hb
                                      have n0_ := Aside0.mk (blk_below (g := gb150) (o := .cells #[.string (⟨#[]⟩ : ByteArray), .int .i64 0, .int .i64 0, .int .i64 0, .int .i64 0, .int .i64 0, .int .u8 0, .string (⟨#[]⟩ : ByteArray)] 26 (0, 0)) (by (with_reducible repeat (first | refine blk_drewN ?_ _ | refine blk_drew ?_ | refine blk_alloc ?_ _)); exact BK150.out) hb)
                                      have n1_ := Aside0.mk (below_step (by repeat (first | (with_reducible first | exact HB.out | apply below_alloc | apply pw_below_drewN | apply below_drew1 | refine below_set ?_ GE150.out) | exact HB.out)) hb)
                                      have n2_ := Aside0.mk (hbox)
                                      have n3_ := Aside0.mk ((by rw [hg]; exact (below_size (by repeat (first | (with_reducible first | exact HB.out | apply below_alloc | apply pw_below_drewN | apply below_drew1 | refine below_set ?_ GE150.out) | exact HB.out))) : w.heap.size ≤ gb159))
                                      have n4_ := Aside0.mk ((by rw [hg]; exact (below_size (by repeat (first | (with_reducible first | exact HB.out | apply below_alloc | apply pw_below_drewN | apply below_drew1 | refine below_set ?_ GE150.out) | exact HB.out))) : w.heap.size ≤ gb159))
                                      have n5_ := Aside0.mk ((by rw [hg]; exact Nat.ne_of_lt (blk_lt (g := gb150) (o := .cells #[.string (⟨#[]⟩ : ByteArray), .int .i64 0, .int .i64 0, .int .i64 0, .int .i64 0, .int .i64 0, .int .u8 0, .string (⟨#[]⟩ : ByteArray)] 26 (0, 0)) (by (with_reducible repeat (first | refine blk_drewN ?_ _ | refine blk_drew ?_ | refine blk_alloc ?_ _)); exact BK150.out)) : gb150 ≠ gb159))
                                      have n6_ := Aside0.mk ((by rw [hg]; exact Nat.ne_of_gt (blk_lt (g := gb150) (o := .cells #[.string (⟨#[]⟩ : ByteArray), .int .i64 0, .int .i64 0, .int .i64 0, .int .i64 0, .int .i64 0, .int .u8 0, .string (⟨#[]⟩ : ByteArray)] 26 (0, 0)) (by (with_reducible repeat (first | refine blk_drewN ?_ _ | refine blk_drew ?_ | refine blk_alloc ?_ _)); exact BK150.out)) : gb159 ≠ gb150))
                                      clear BK150
                                      clear HB
                                      have BK150 := n0_
                                      have HB := n1_
                                      have BK159 := n2_
                                      have GW159 := n3_
                                      have GE159 := n4_
                                      have NB150_159 := n5_
                                      have NB159_150 := n6_
                                      clear n0_ n1_ n2_ n3_ n4_ n5_ n6_
                                      clear hb hbox hg
                                      refine hK.out _ _ (((HB.out.cell (World.block_lt_of_cell? w _ hw157_0)).trans hw157_0)) (fun hHeld => ?_)
                                      clear hK K
                                      refine norm_ (a' := ?_) ?_ ?_
                                      rotate_left
                                      · show Act.put _ (some 5) _ = _
                                        simp only [Act.put, List.setIfInBounds_toArray, List.set_cons_zero, List.set_cons_succ, i64_w, i32_w]
                                        rfl
                                      exact norm_ (by first | (simp only [putAll, Act.put, List.setIfInBounds_toArray, List.set_cons_zero, List.set_cons_succ]; done) | (simp only [putAll, Act.put, List.setIfInBounds_toArray, List.set_cons_zero, List.set_cons_succ]; rfl)) (hJ18 (gb159) _ ⟨hHeld, (by (with_reducible repeat (first | refine blk_drewN ?_ _ | refine blk_drew ?_ | refine blk_alloc ?_ _)); exact BK150.out), (by (with_reducible repeat (first | refine blk_drewN ?_ _ | refine blk_drew ?_ | refine blk_alloc ?_ _)); exact BK159.out), GW159.out, GE159.out, NB150_159.out, NB159_150.out, (by repeat (first | (with_reducible first | exact HB.out | apply below_alloc | apply pw_below_drewN | apply below_drew1 | refine below_set ?_ GE150.out | refine below_set ?_ GE159.out) | exact HB.out))⟩)
                                  · skip
                                    rintro gb159 w16 ⟨hS_, h0_, h1_, h2_, h3_, h4_, h5_, h6_⟩
                                    have n0_ : Aside0 (w16.heap[gb150]? = some (.cells #[.string (⟨#[]⟩ : ByteArray), .int .i64 0, .int .i64 0, .int .i64 0, .int .i64 0, .int .i64 0, .int .u8 0, .string (⟨#[]⟩ : ByteArray)] 26 (0, 0))) := ⟨h0_⟩
                                    have n1_ : Aside0 (w16.heap[gb159]? = some (.cells #[.string (⟨#[]⟩ : ByteArray), .int .i64 0, .int .i64 0, .int .i64 0, .int .i64 0, .int .i64 0, .int .u8 0, .string (⟨#[]⟩ : ByteArray)] 26 (0, 0))) := ⟨h1_⟩
                                    have n2_ : Aside0 (w.heap.size ≤ gb159) := ⟨h2_⟩
                                    have n3_ : Aside0 (w.heap.size ≤ gb159) := ⟨h3_⟩
                                    have n4_ : Aside0 (gb150 ≠ gb159) := ⟨h4_⟩
                                    have n5_ : Aside0 (gb159 ≠ gb150) := ⟨h5_⟩
                                    have n6_ : Aside0 (Below w.heap.size w w16) := ⟨h6_⟩
                                    clear BK150
                                    clear HB
                                    clear h0_ h1_ h2_ h3_ h4_ h5_ h6_
                                    have BK150 := n0_
                                    have BK159 := n1_
                                    have GW159 := n2_
                                    have GE159 := n3_
                                    have NB150_159 := n4_
                                    have NB159_150 := n5_
                                    have HB := n6_
                                    clear n0_ n1_ n2_ n3_ n4_ n5_ n6_
                                    have hHeld : w16.cell? ⟨ad157.block, ad157.off + 156, none⟩ = some (.int .u8 (rd l0 156)) := hS_
                                    refine norm_ (a' := ?_) ?_ ?_
                                    rotate_left
                                    · simp only [putAll, Act.put, List.setIfInBounds_toArray, List.set_cons_zero, List.set_cons_succ]
                                      rfl
                                    refine one_ (i := 1) (N := some 16) #[true, true, true, false, true, false, true, false, true, false, true, false, true, true, true, true, false, false, true, false] rfl rfl (one_of HT_.out (by kernel_rfl)) (by decide) (fun K hK => ?_)
                                    refine goes_ Try.func25 (by kernel_rfl) rfl #[.slice (some ad157) l0.length c0, .int .i64 0, .int .i64 100] (by rfl) rfl rfl (by (try simp only [List.map_toArray, List.map_cons, List.map_nil]); first | done | rfl | (simp only [List.length_drop, List.length_take]; rfl)) ?_
                                    with_reducible refine (ustar_block_text.calls _ _ l0 0 100 t151 _ ?side1 ?side2 A3.out).mono ?_
                                    (case side1 => repeat (first | exact (Kd.C_below HR0.out HB.out) | (with_reducible refine Kd.C_alloc ?_ _) | (with_reducible refine Kd.C_drewN ?_ _) | (with_reducible refine Kd.C_drew ?_)))
                                    (case side2 => exact HC0.out)
                                    rintro e w17 ⟨rfl, hb⟩
                                    refine ⟨_, rfl, ?_⟩
                                    have n0_ := Aside0.mk (blk_below (g := gb150) (o := .cells #[.string (⟨#[]⟩ : ByteArray), .int .i64 0, .int .i64 0, .int .i64 0, .int .i64 0, .int .i64 0, .int .u8 0, .string (⟨#[]⟩ : ByteArray)] 26 (0, 0)) (by (with_reducible repeat (first | refine blk_drewN ?_ _ | refine blk_drew ?_ | refine blk_alloc ?_ _)); exact BK150.out) hb)
                                    have n1_ := Aside0.mk (blk_below (g := gb159) (o := .cells #[.string (⟨#[]⟩ : ByteArray), .int .i64 0, .int .i64 0, .int .i64 0, .int .i64 0, .int .i64 0, .int .u8 0, .string (⟨#[]⟩ : ByteArray)] 26 (0, 0)) (by (with_reducible repeat (first | refine blk_drewN ?_ _ | refine blk_drew ?_ | refine blk_alloc ?_ _)); exact BK159.out) hb)
                                    have n2_ := Aside0.mk (below_step (by repeat (first | (with_reducible first | exact HB.out | apply below_alloc | apply pw_below_drewN | apply below_drew1 | refine below_set ?_ GE150.out | refine below_set ?_ GE159.out) | exact HB.out)) hb)
                                    clear BK150
                                    clear BK159
                                    clear HB
                                    have BK150 := n0_
                                    have BK159 := n1_
                                    have HB := n2_
                                    clear n0_ n1_ n2_
                                    (try clear hb)
                                    (try clear hb2)
                                    (try clear hk)
                                    (try clear hi)
                                    refine hK.out _ _ (((HB.out.cell (World.block_lt_of_cell? w _ hw157_0)).trans hw157_0)) (fun hHeld => ?_)
                                    clear hK K
                                    refine norm_ (a' := ?_) ?_ ?_
                                    rotate_left
                                    · show Act.put _ (some 16) _ = _
                                      simp only [Act.put, List.setIfInBounds_toArray, List.set_cons_zero, List.set_cons_succ, i64_w, i32_w]
                                      rfl
                                    exact norm_ (by first | (simp only [putAll, Act.put, List.setIfInBounds_toArray, List.set_cons_zero, List.set_cons_succ]; done) | (simp only [putAll, Act.put, List.setIfInBounds_toArray, List.set_cons_zero, List.set_cons_succ]; rfl)) (hJ1_18 (gb159) _ ⟨hHeld, (by (with_reducible repeat (first | refine blk_drewN ?_ _ | refine blk_drew ?_ | refine blk_alloc ?_ _)); exact BK150.out), (by (with_reducible repeat (first | refine blk_drewN ?_ _ | refine blk_drew ?_ | refine blk_alloc ?_ _)); exact BK159.out), GW159.out, GE159.out, NB150_159.out, NB159_150.out, (by repeat (first | (with_reducible first | exact HB.out | apply below_alloc | apply pw_below_drewN | apply below_drew1 | refine below_set ?_ GE150.out | refine below_set ?_ GE159.out) | exact HB.out))⟩)
                                · skip
                                  rintro _ w16 ⟨hS_, h0_, h1_⟩
                                  have n0_ : Aside0 (w16.heap[gb150]? = some (.cells #[.string (⟨#[]⟩ : ByteArray), .int .i64 0, .int .i64 0, .int .i64 0, .int .i64 0, .int .i64 0, .int .u8 0, .string (⟨#[]⟩ : ByteArray)] 26 (0, 0))) := ⟨h0_⟩
                                  have n1_ : Aside0 (Below w.heap.size w w16) := ⟨h1_⟩
                                  clear BK150
                                  clear HB
                                  clear h0_ h1_
                                  have BK150 := n0_
                                  have HB := n1_
                                  clear n0_ n1_
                                  have hHeld : w16.cell? ⟨ad157.block, ad157.off + 156, none⟩ = some (.int .u8 (rd l0 156)) := hS_
                                  refine norm_ (a' := ?_) ?_ ?_
                                  rotate_left
                                  · simp only [putAll, Act.put, List.setIfInBounds_toArray, List.set_cons_zero, List.set_cons_succ]
                                    rfl
                                  refine two_ (i := 3) (j := 18) (Ni := some 18) (Nj := some 5) #[true, true, true, true, true, false, true, false, true, false, true, false, true, true, true, true, false, false, false, false] #[true, true, true, false, true, false, true, false, true, false, true, false, true, true, true, true, false, false, true, false] rfl rfl rfl rfl (two_of HT_.out (by kernel_rfl)) (by decide) (by decide) (fun K hK => ?_) (fun K hK => ?_)
                                  · skip
                                    refine goes_ Try.func26 (by kernel_rfl) rfl #[.slice (some ad157) l0.length c0, .int .i64 100, .int .i64 7] (by rfl) rfl rfl (by (try simp only [List.map_toArray, List.map_cons, List.map_nil]); first | done | rfl | (simp only [List.length_drop, List.length_take]; rfl)) ?_
                                    with_reducible refine (ustar_block_number.calls k _ _ l0 100 7 t152 _ ?side1 ?side2 A4.out).mono ?_
                                    (case side1 => repeat (first | exact (Kd.C_below HR0.out HB.out) | (with_reducible refine Kd.C_alloc ?_ _) | (with_reducible refine Kd.C_drewN ?_ _) | (with_reducible refine Kd.C_drew ?_)))
                                    (case side2 => exact HC0.out)
                                    rintro e w' ⟨rfl, ⟨nd, rfl⟩⟩
                                    refine ⟨_, rfl, ?_⟩
                                    refine hK.out _ _ (((HB.out.cell (World.block_lt_of_cell? w _ hw157_0)).trans hw157_0)) (fun hHeld => ?_)
                                    clear hK K
                                    refine norm_ (a' := ?_) ?_ ?_
                                    rotate_left
                                    · show Act.put _ (some 18) _ = _
                                      simp only [Act.put, List.setIfInBounds_toArray, List.set_cons_zero, List.set_cons_succ, i64_w, i32_w]
                                      rfl
                                    exact norm_ (by first | (simp only [putAll, Act.put, List.setIfInBounds_toArray, List.set_cons_zero, List.set_cons_succ]; done) | (simp only [putAll, Act.put, List.setIfInBounds_toArray, List.set_cons_zero, List.set_cons_succ]; rfl)) (hJ1_3 () _ ⟨hHeld, (by (with_reducible repeat (first | refine blk_drewN ?_ _ | refine blk_drew ?_ | refine blk_alloc ?_ _)); exact BK150.out), (by repeat (first | (with_reducible first | exact HB.out | apply below_alloc | apply pw_below_drewN | apply below_drew1 | refine below_set ?_ GE150.out) | exact HB.out))⟩)
                                  · skip
                                    refine box_step ?hg (N := 5) ?hd (cs := #[.string (⟨#[]⟩ : ByteArray), .int .i64 0, .int .i64 0, .int .i64 0, .int .i64 0, .int .i64 0, .int .u8 0, .string (⟨#[]⟩ : ByteArray)]) (t := 26) ?hr ?_; (case hd => rfl); (case hg => rfl); (case hr => first | (go_simp; done) | (go_simp; rfl))
                                    intro gb159 hg w17 hbox hb
                                    have n0_ := Aside0.mk (blk_below (g := gb150) (o := .cells #[.string (⟨#[]⟩ : ByteArray), .int .i64 0, .int .i64 0, .int .i64 0, .int .i64 0, .int .i64 0, .int .u8 0, .string (⟨#[]⟩ : ByteArray)] 26 (0, 0)) (by (with_reducible repeat (first | refine blk_drewN ?_ _ | refine blk_drew ?_ | refine blk_alloc ?_ _)); exact BK150.out) hb)
                                    have n1_ := Aside0.mk (below_step (by repeat (first | (with_reducible first | exact HB.out | apply below_alloc | apply pw_below_drewN | apply below_drew1 | refine below_set ?_ GE150.out) | exact HB.out)) hb)
                                    have n2_ := Aside0.mk (hbox)
                                    have n3_ := Aside0.mk ((by rw [hg]; exact (below_size (by repeat (first | (with_reducible first | exact HB.out | apply below_alloc | apply pw_below_drewN | apply below_drew1 | refine below_set ?_ GE150.out) | exact HB.out))) : w.heap.size ≤ gb159))
                                    have n4_ := Aside0.mk ((by rw [hg]; exact (below_size (by repeat (first | (with_reducible first | exact HB.out | apply below_alloc | apply pw_below_drewN | apply below_drew1 | refine below_set ?_ GE150.out) | exact HB.out))) : w.heap.size ≤ gb159))
                                    have n5_ := Aside0.mk ((by rw [hg]; exact Nat.ne_of_lt (blk_lt (g := gb150) (o := .cells #[.string (⟨#[]⟩ : ByteArray), .int .i64 0, .int .i64 0, .int .i64 0, .int .i64 0, .int .i64 0, .int .u8 0, .string (⟨#[]⟩ : ByteArray)] 26 (0, 0)) (by (with_reducible repeat (first | refine blk_drewN ?_ _ | refine blk_drew ?_ | refine blk_alloc ?_ _)); exact BK150.out)) : gb150 ≠ gb159))
                                    have n6_ := Aside0.mk ((by rw [hg]; exact Nat.ne_of_gt (blk_lt (g := gb150) (o := .cells #[.string (⟨#[]⟩ : ByteArray), .int .i64 0, .int .i64 0, .int .i64 0, .int .i64 0, .int .i64 0, .int .u8 0, .string (⟨#[]⟩ : ByteArray)] 26 (0, 0)) (by (with_reducible repeat (first | refine blk_drewN ?_ _ | refine blk_drew ?_ | refine blk_alloc ?_ _)); exact BK150.out)) : gb159 ≠ gb150))
                                    clear BK150
                                    clear HB
                                    have BK150 := n0_
                                    have HB := n1_
                                    have BK159 := n2_
                                    have GW159 := n3_
                                    have GE159 := n4_
                                    have NB150_159 := n5_
                                    have NB159_150 := n6_
                                    clear n0_ n1_ n2_ n3_ n4_ n5_ n6_
                                    clear hb hbox hg
                                    refine hK.out _ _ (((HB.out.cell (World.block_lt_of_cell? w _ hw157_0)).trans hw157_0)) (fun hHeld => ?_)
                                    clear hK K
                                    refine norm_ (a' := ?_) ?_ ?_
                                    rotate_left
                                    · show Act.put _ (some 5) _ = _
                                      simp only [Act.put, List.setIfInBounds_toArray, List.set_cons_zero, List.set_cons_succ, i64_w, i32_w]
                                      rfl
                                    exact norm_ (by first | (simp only [putAll, Act.put, List.setIfInBounds_toArray, List.set_cons_zero, List.set_cons_succ]; done) | (simp only [putAll, Act.put, List.setIfInBounds_toArray, List.set_cons_zero, List.set_cons_succ]; rfl)) (hJ1_18 (gb159) _ ⟨hHeld, (by (with_reducible repeat (first | refine blk_drewN ?_ _ | refine blk_drew ?_ | refine blk_alloc ?_ _)); exact BK150.out), (by (with_reducible repeat (first | refine blk_drewN ?_ _ | refine blk_drew ?_ | refine blk_alloc ?_ _)); exact BK159.out), GW159.out, GE159.out, NB150_159.out, NB159_150.out, (by repeat (first | (with_reducible first | exact HB.out | apply below_alloc | apply pw_below_drewN | apply below_drew1 | refine below_set ?_ GE150.out | refine below_set ?_ GE159.out) | exact HB.out))⟩)
                              · skip
                                rintro gb159 w17 ⟨hS_, h0_, h1_, h2_, h3_, h4_, h5_, h6_⟩
                                have n0_ : Aside0 (w17.heap[gb150]? = some (.cells #[.string (⟨#[]⟩ : ByteArray), .int .i64 0, .int .i64 0, .int .i64 0, .int .i64 0, .int .i64 0, .int .u8 0, .string (⟨#[]⟩ : ByteArray)] 26 (0, 0))) := ⟨h0_⟩
                                have n1_ : Aside0 (w17.heap[gb159]? = some (.cells #[.string (⟨#[]⟩ : ByteArray), .int .i64 0, .int .i64 0, .int .i64 0, .int .i64 0, .int .i64 0, .int .u8 0, .string (⟨#[]⟩ : ByteArray)] 26 (0, 0))) := ⟨h1_⟩
                                have n2_ : Aside0 (w.heap.size ≤ gb159) := ⟨h2_⟩
                                have n3_ : Aside0 (w.heap.size ≤ gb159) := ⟨h3_⟩
                                have n4_ : Aside0 (gb150 ≠ gb159) := ⟨h4_⟩
                                have n5_ : Aside0 (gb159 ≠ gb150) := ⟨h5_⟩
                                have n6_ : Aside0 (Below w.heap.size w w17) := ⟨h6_⟩
                                clear BK150
                                clear HB
                                clear h0_ h1_ h2_ h3_ h4_ h5_ h6_
                                have BK150 := n0_
                                have BK159 := n1_
                                have GW159 := n2_
                                have GE159 := n3_
                                have NB150_159 := n4_
                                have NB159_150 := n5_
                                have HB := n6_
                                clear n0_ n1_ n2_ n3_ n4_ n5_ n6_
                                have hHeld : w17.cell? ⟨ad157.block, ad157.off + 156, none⟩ = some (.int .u8 (rd l0 156)) := hS_
                                refine norm_ (a' := ?_) ?_ ?_
                                rotate_left
                                · simp only [putAll, Act.put, List.setIfInBounds_toArray, List.set_cons_zero, List.set_cons_succ]
                                  rfl
                                refine one_ (i := 3) (N := some 18) #[true, true, true, true, true, false, true, false, true, false, true, false, true, true, true, true, false, false, true, false] rfl rfl (one_of HT_.out (by kernel_rfl)) (by decide) (fun K hK => ?_)
                                refine goes_ Try.func26 (by kernel_rfl) rfl #[.slice (some ad157) l0.length c0, .int .i64 100, .int .i64 7] (by rfl) rfl rfl (by (try simp only [List.map_toArray, List.map_cons, List.map_nil]); first | done | rfl | (simp only [List.length_drop, List.length_take]; rfl)) ?_
                                with_reducible refine (ustar_block_number.calls k _ _ l0 100 7 t152 _ ?side1 ?side2 A4.out).mono ?_
                                (case side1 => repeat (first | exact (Kd.C_below HR0.out HB.out) | (with_reducible refine Kd.C_alloc ?_ _) | (with_reducible refine Kd.C_drewN ?_ _) | (with_reducible refine Kd.C_drew ?_)))
                                (case side2 => exact HC0.out)
                                rintro e w' ⟨rfl, ⟨nd, rfl⟩⟩
                                refine ⟨_, rfl, ?_⟩
                                refine hK.out _ _ (((HB.out.cell (World.block_lt_of_cell? w _ hw157_0)).trans hw157_0)) (fun hHeld => ?_)
                                clear hK K
                                refine norm_ (a' := ?_) ?_ ?_
                                rotate_left
                                · show Act.put _ (some 18) _ = _
                                  simp only [Act.put, List.setIfInBounds_toArray, List.set_cons_zero, List.set_cons_succ, i64_w, i32_w]
                                  rfl
                                exact norm_ (by first | (simp only [putAll, Act.put, List.setIfInBounds_toArray, List.set_cons_zero, List.set_cons_succ]; done) | (simp only [putAll, Act.put, List.setIfInBounds_toArray, List.set_cons_zero, List.set_cons_succ]; rfl)) (hJ1_3_18 (gb159) _ ⟨hHeld, (by (with_reducible repeat (first | refine blk_drewN ?_ _ | refine blk_drew ?_ | refine blk_alloc ?_ _)); exact BK150.out), (by (with_reducible repeat (first | refine blk_drewN ?_ _ | refine blk_drew ?_ | refine blk_alloc ?_ _)); exact BK159.out), GW159.out, GE159.out, NB150_159.out, NB159_150.out, (by repeat (first | (with_reducible first | exact HB.out | apply below_alloc | apply pw_below_drewN | apply below_drew1 | refine below_set ?_ GE150.out | refine below_set ?_ GE159.out) | exact HB.out))⟩)
                            · skip
                              rintro _ w16 ⟨hS_, h0_, h1_⟩
                              have n0_ : Aside0 (w16.heap[gb150]? = some (.cells #[.string (⟨#[]⟩ : ByteArray), .int .i64 0, .int .i64 0, .int .i64 0, .int .i64 0, .int .i64 0, .int .u8 0, .string (⟨#[]⟩ : ByteArray)] 26 (0, 0))) := ⟨h0_⟩
                              have n1_ : Aside0 (Below w.heap.size w w16) := ⟨h1_⟩
                              clear BK150
                              clear HB
                              clear h0_ h1_
                              have BK150 := n0_
                              have HB := n1_
                              clear n0_ n1_
                              have hHeld : w16.cell? ⟨ad157.block, ad157.off + 156, none⟩ = some (.int .u8 (rd l0 156)) := hS_
                              refine norm_ (a' := ?_) ?_ ?_
                              rotate_left
                              · simp only [putAll, Act.put, List.setIfInBounds_toArray, List.set_cons_zero, List.set_cons_succ]
                                rfl
                              refine two_ (i := 5) (j := 18) (Ni := some 20) (Nj := some 5) #[true, true, true, true, true, true, true, false, true, false, true, false, true, true, true, true, false, false, false, false] #[true, true, true, true, true, false, true, false, true, false, true, false, true, true, true, true, false, false, true, false] rfl rfl rfl rfl (two_of HT_.out (by kernel_rfl)) (by decide) (by decide) (fun K hK => ?_) (fun K hK => ?_)
                              · skip
                                refine goes_ Try.func26 (by kernel_rfl) rfl #[.slice (some ad157) l0.length c0, .int .i64 108, .int .i64 7] (by rfl) rfl rfl (by (try simp only [List.map_toArray, List.map_cons, List.map_nil]); first | done | rfl | (simp only [List.length_drop, List.length_take]; rfl)) ?_
                                with_reducible refine (ustar_block_number.calls k _ _ l0 108 7 t153 _ ?side1 ?side2 A5.out).mono ?_
                                (case side1 => repeat (first | exact (Kd.C_below HR0.out HB.out) | (with_reducible refine Kd.C_alloc ?_ _) | (with_reducible refine Kd.C_drewN ?_ _) | (with_reducible refine Kd.C_drew ?_)))
                                (case side2 => exact HC0.out)
                                rintro e w' ⟨rfl, ⟨nd, rfl⟩⟩
                                refine ⟨_, rfl, ?_⟩
                                refine hK.out _ _ (((HB.out.cell (World.block_lt_of_cell? w _ hw157_0)).trans hw157_0)) (fun hHeld => ?_)
                                clear hK K
                                refine norm_ (a' := ?_) ?_ ?_
                                rotate_left
                                · show Act.put _ (some 20) _ = _
                                  simp only [Act.put, List.setIfInBounds_toArray, List.set_cons_zero, List.set_cons_succ, i64_w, i32_w]
                                  rfl
                                exact norm_ (by first | (simp only [putAll, Act.put, List.setIfInBounds_toArray, List.set_cons_zero, List.set_cons_succ]; done) | (simp only [putAll, Act.put, List.setIfInBounds_toArray, List.set_cons_zero, List.set_cons_succ]; rfl)) (hJ1_3_5 () _ ⟨hHeld, (by (with_reducible repeat (first | refine blk_drewN ?_ _ | refine blk_drew ?_ | refine blk_alloc ?_ _)); exact BK150.out), (by repeat (first | (with_reducible first | exact HB.out | apply below_alloc | apply pw_below_drewN | apply below_drew1 | refine below_set ?_ GE150.out) | exact HB.out))⟩)
                              · skip
                                refine box_step ?hg (N := 5) ?hd (cs := #[.string (⟨#[]⟩ : ByteArray), .int .i64 0, .int .i64 0, .int .i64 0, .int .i64 0, .int .i64 0, .int .u8 0, .string (⟨#[]⟩ : ByteArray)]) (t := 26) ?hr ?_; (case hd => rfl); (case hg => rfl); (case hr => first | (go_simp; done) | (go_simp; rfl))
                                intro gb159 hg w17 hbox hb
                                have n0_ := Aside0.mk (blk_below (g := gb150) (o := .cells #[.string (⟨#[]⟩ : ByteArray), .int .i64 0, .int .i64 0, .int .i64 0, .int .i64 0, .int .i64 0, .int .u8 0, .string (⟨#[]⟩ : ByteArray)] 26 (0, 0)) (by (with_reducible repeat (first | refine blk_drewN ?_ _ | refine blk_drew ?_ | refine blk_alloc ?_ _)); exact BK150.out) hb)
                                have n1_ := Aside0.mk (below_step (by repeat (first | (with_reducible first | exact HB.out | apply below_alloc | apply pw_below_drewN | apply below_drew1 | refine below_set ?_ GE150.out) | exact HB.out)) hb)
                                have n2_ := Aside0.mk (hbox)
                                have n3_ := Aside0.mk ((by rw [hg]; exact (below_size (by repeat (first | (with_reducible first | exact HB.out | apply below_alloc | apply pw_below_drewN | apply below_drew1 | refine below_set ?_ GE150.out) | exact HB.out))) : w.heap.size ≤ gb159))
                                have n4_ := Aside0.mk ((by rw [hg]; exact (below_size (by repeat (first | (with_reducible first | exact HB.out | apply below_alloc | apply pw_below_drewN | apply below_drew1 | refine below_set ?_ GE150.out) | exact HB.out))) : w.heap.size ≤ gb159))
                                have n5_ := Aside0.mk ((by rw [hg]; exact Nat.ne_of_lt (blk_lt (g := gb150) (o := .cells #[.string (⟨#[]⟩ : ByteArray), .int .i64 0, .int .i64 0, .int .i64 0, .int .i64 0, .int .i64 0, .int .u8 0, .string (⟨#[]⟩ : ByteArray)] 26 (0, 0)) (by (with_reducible repeat (first | refine blk_drewN ?_ _ | refine blk_drew ?_ | refine blk_alloc ?_ _)); exact BK150.out)) : gb150 ≠ gb159))
                                have n6_ := Aside0.mk ((by rw [hg]; exact Nat.ne_of_gt (blk_lt (g := gb150) (o := .cells #[.string (⟨#[]⟩ : ByteArray), .int .i64 0, .int .i64 0, .int .i64 0, .int .i64 0, .int .i64 0, .int .u8 0, .string (⟨#[]⟩ : ByteArray)] 26 (0, 0)) (by (with_reducible repeat (first | refine blk_drewN ?_ _ | refine blk_drew ?_ | refine blk_alloc ?_ _)); exact BK150.out)) : gb159 ≠ gb150))
                                clear BK150
                                clear HB
                                have BK150 := n0_
                                have HB := n1_
                                have BK159 := n2_
                                have GW159 := n3_
                                have GE159 := n4_
                                have NB150_159 := n5_
                                have NB159_150 := n6_
                                clear n0_ n1_ n2_ n3_ n4_ n5_ n6_
                                clear hb hbox hg
                                refine hK.out _ _ (((HB.out.cell (World.block_lt_of_cell? w _ hw157_0)).trans hw157_0)) (fun hHeld => ?_)
                                clear hK K
                                refine norm_ (a' := ?_) ?_ ?_
                                rotate_left
                                · show Act.put _ (some 5) _ = _
                                  simp only [Act.put, List.setIfInBounds_toArray, List.set_cons_zero, List.set_cons_succ, i64_w, i32_w]
                                  rfl
                                exact norm_ (by first | (simp only [putAll, Act.put, List.setIfInBounds_toArray, List.set_cons_zero, List.set_cons_succ]; done) | (simp only [putAll, Act.put, List.setIfInBounds_toArray, List.set_cons_zero, List.set_cons_succ]; rfl)) (hJ1_3_18 (gb159) _ ⟨hHeld, (by (with_reducible repeat (first | refine blk_drewN ?_ _ | refine blk_drew ?_ | refine blk_alloc ?_ _)); exact BK150.out), (by (with_reducible repeat (first | refine blk_drewN ?_ _ | refine blk_drew ?_ | refine blk_alloc ?_ _)); exact BK159.out), GW159.out, GE159.out, NB150_159.out, NB159_150.out, (by repeat (first | (with_reducible first | exact HB.out | apply below_alloc | apply pw_below_drewN | apply below_drew1 | refine below_set ?_ GE150.out | refine below_set ?_ GE159.out) | exact HB.out))⟩)
                          · skip
                            rintro gb159 w17 ⟨hS_, h0_, h1_, h2_, h3_, h4_, h5_, h6_⟩
                            have n0_ : Aside0 (w17.heap[gb150]? = some (.cells #[.string (⟨#[]⟩ : ByteArray), .int .i64 0, .int .i64 0, .int .i64 0, .int .i64 0, .int .i64 0, .int .u8 0, .string (⟨#[]⟩ : ByteArray)] 26 (0, 0))) := ⟨h0_⟩
                            have n1_ : Aside0 (w17.heap[gb159]? = some (.cells #[.string (⟨#[]⟩ : ByteArray), .int .i64 0, .int .i64 0, .int .i64 0, .int .i64 0, .int .i64 0, .int .u8 0, .string (⟨#[]⟩ : ByteArray)] 26 (0, 0))) := ⟨h1_⟩
                            have n2_ : Aside0 (w.heap.size ≤ gb159) := ⟨h2_⟩
                            have n3_ : Aside0 (w.heap.size ≤ gb159) := ⟨h3_⟩
                            have n4_ : Aside0 (gb150 ≠ gb159) := ⟨h4_⟩
                            have n5_ : Aside0 (gb159 ≠ gb150) := ⟨h5_⟩
                            have n6_ : Aside0 (Below w.heap.size w w17) := ⟨h6_⟩
                            clear BK150
                            clear HB
                            clear h0_ h1_ h2_ h3_ h4_ h5_ h6_
                            have BK150 := n0_
                            have BK159 := n1_
                            have GW159 := n2_
                            have GE159 := n3_
                            have NB150_159 := n4_
                            have NB159_150 := n5_
                            have HB := n6_
                            clear n0_ n1_ n2_ n3_ n4_ n5_ n6_
                            have hHeld : w17.cell? ⟨ad157.block, ad157.off + 156, none⟩ = some (.int .u8 (rd l0 156)) := hS_
                            refine norm_ (a' := ?_) ?_ ?_
                            rotate_left
                            · simp only [putAll, Act.put, List.setIfInBounds_toArray, List.set_cons_zero, List.set_cons_succ]
                              rfl
                            refine one_ (i := 5) (N := some 20) #[true, true, true, true, true, true, true, false, true, false, true, false, true, true, true, true, false, false, true, false] rfl rfl (one_of HT_.out (by kernel_rfl)) (by decide) (fun K hK => ?_)
                            refine goes_ Try.func26 (by kernel_rfl) rfl #[.slice (some ad157) l0.length c0, .int .i64 108, .int .i64 7] (by rfl) rfl rfl (by (try simp only [List.map_toArray, List.map_cons, List.map_nil]); first | done | rfl | (simp only [List.length_drop, List.length_take]; rfl)) ?_
                            with_reducible refine (ustar_block_number.calls k _ _ l0 108 7 t153 _ ?side1 ?side2 A5.out).mono ?_
                            (case side1 => repeat (first | exact (Kd.C_below HR0.out HB.out) | (with_reducible refine Kd.C_alloc ?_ _) | (with_reducible refine Kd.C_drewN ?_ _) | (with_reducible refine Kd.C_drew ?_)))
                            (case side2 => exact HC0.out)
                            rintro e w' ⟨rfl, ⟨nd, rfl⟩⟩
                            refine ⟨_, rfl, ?_⟩
                            refine hK.out _ _ (((HB.out.cell (World.block_lt_of_cell? w _ hw157_0)).trans hw157_0)) (fun hHeld => ?_)
                            clear hK K
                            refine norm_ (a' := ?_) ?_ ?_
                            rotate_left
                            · show Act.put _ (some 20) _ = _
                              simp only [Act.put, List.setIfInBounds_toArray, List.set_cons_zero, List.set_cons_succ, i64_w, i32_w]
                              rfl
                            exact norm_ (by first | (simp only [putAll, Act.put, List.setIfInBounds_toArray, List.set_cons_zero, List.set_cons_succ]; done) | (simp only [putAll, Act.put, List.setIfInBounds_toArray, List.set_cons_zero, List.set_cons_succ]; rfl)) (hJ1_3_5_18 (gb159) _ ⟨hHeld, (by (with_reducible repeat (first | refine blk_drewN ?_ _ | refine blk_drew ?_ | refine blk_alloc ?_ _)); exact BK150.out), (by (with_reducible repeat (first | refine blk_drewN ?_ _ | refine blk_drew ?_ | refine blk_alloc ?_ _)); exact BK159.out), GW159.out, GE159.out, NB150_159.out, NB159_150.out, (by repeat (first | (with_reducible first | exact HB.out | apply below_alloc | apply pw_below_drewN | apply below_drew1 | refine below_set ?_ GE150.out | refine below_set ?_ GE159.out) | exact HB.out))⟩)
                        · skip
                          rintro _ w16 ⟨hS_, h0_, h1_⟩
                          have n0_ : Aside0 (w16.heap[gb150]? = some (.cells #[.string (⟨#[]⟩ : ByteArray), .int .i64 0, .int .i64 0, .int .i64 0, .int .i64 0, .int .i64 0, .int .u8 0, .string (⟨#[]⟩ : ByteArray)] 26 (0, 0))) := ⟨h0_⟩
                          have n1_ : Aside0 (Below w.heap.size w w16) := ⟨h1_⟩
                          clear BK150
                          clear HB
                          clear h0_ h1_
                          have BK150 := n0_
                          have HB := n1_
                          clear n0_ n1_
                          have hHeld : w16.cell? ⟨ad157.block, ad157.off + 156, none⟩ = some (.int .u8 (rd l0 156)) := hS_
                          refine norm_ (a' := ?_) ?_ ?_
                          rotate_left
                          · simp only [putAll, Act.put, List.setIfInBounds_toArray, List.set_cons_zero, List.set_cons_succ]
                            rfl
                          refine two_ (i := 7) (j := 18) (Ni := some 22) (Nj := some 5) #[true, true, true, true, true, true, true, true, true, false, true, false, true, true, true, true, false, false, false, false] #[true, true, true, true, true, true, true, false, true, false, true, false, true, true, true, true, false, false, true, false] rfl rfl rfl rfl (two_of HT_.out (by kernel_rfl)) (by decide) (by decide) (fun K hK => ?_) (fun K hK => ?_)
                          · skip
                            refine goes_ Try.func26 (by kernel_rfl) rfl #[.slice (some ad157) l0.length c0, .int .i64 116, .int .i64 7] (by rfl) rfl rfl (by (try simp only [List.map_toArray, List.map_cons, List.map_nil]); first | done | rfl | (simp only [List.length_drop, List.length_take]; rfl)) ?_
                            with_reducible refine (ustar_block_number.calls k _ _ l0 116 7 t154 _ ?side1 ?side2 A6.out).mono ?_
                            (case side1 => repeat (first | exact (Kd.C_below HR0.out HB.out) | (with_reducible refine Kd.C_alloc ?_ _) | (with_reducible refine Kd.C_drewN ?_ _) | (with_reducible refine Kd.C_drew ?_)))
                            (case side2 => exact HC0.out)
                            rintro e w' ⟨rfl, ⟨nd, rfl⟩⟩
                            refine ⟨_, rfl, ?_⟩
                            refine hK.out _ _ (((HB.out.cell (World.block_lt_of_cell? w _ hw157_0)).trans hw157_0)) (fun hHeld => ?_)
                            clear hK K
                            refine norm_ (a' := ?_) ?_ ?_
                            rotate_left
                            · show Act.put _ (some 22) _ = _
                              simp only [Act.put, List.setIfInBounds_toArray, List.set_cons_zero, List.set_cons_succ, i64_w, i32_w]
                              rfl
                            exact norm_ (by first | (simp only [putAll, Act.put, List.setIfInBounds_toArray, List.set_cons_zero, List.set_cons_succ]; done) | (simp only [putAll, Act.put, List.setIfInBounds_toArray, List.set_cons_zero, List.set_cons_succ]; rfl)) (hJ1_3_5_7 () _ ⟨hHeld, (by (with_reducible repeat (first | refine blk_drewN ?_ _ | refine blk_drew ?_ | refine blk_alloc ?_ _)); exact BK150.out), (by repeat (first | (with_reducible first | exact HB.out | apply below_alloc | apply pw_below_drewN | apply below_drew1 | refine below_set ?_ GE150.out) | exact HB.out))⟩)
                          · skip
                            refine box_step ?hg (N := 5) ?hd (cs := #[.string (⟨#[]⟩ : ByteArray), .int .i64 0, .int .i64 0, .int .i64 0, .int .i64 0, .int .i64 0, .int .u8 0, .string (⟨#[]⟩ : ByteArray)]) (t := 26) ?hr ?_; (case hd => rfl); (case hg => rfl); (case hr => first | (go_simp; done) | (go_simp; rfl))
                            intro gb159 hg w17 hbox hb
                            have n0_ := Aside0.mk (blk_below (g := gb150) (o := .cells #[.string (⟨#[]⟩ : ByteArray), .int .i64 0, .int .i64 0, .int .i64 0, .int .i64 0, .int .i64 0, .int .u8 0, .string (⟨#[]⟩ : ByteArray)] 26 (0, 0)) (by (with_reducible repeat (first | refine blk_drewN ?_ _ | refine blk_drew ?_ | refine blk_alloc ?_ _)); exact BK150.out) hb)
                            have n1_ := Aside0.mk (below_step (by repeat (first | (with_reducible first | exact HB.out | apply below_alloc | apply pw_below_drewN | apply below_drew1 | refine below_set ?_ GE150.out) | exact HB.out)) hb)
                            have n2_ := Aside0.mk (hbox)
                            have n3_ := Aside0.mk ((by rw [hg]; exact (below_size (by repeat (first | (with_reducible first | exact HB.out | apply below_alloc | apply pw_below_drewN | apply below_drew1 | refine below_set ?_ GE150.out) | exact HB.out))) : w.heap.size ≤ gb159))
                            have n4_ := Aside0.mk ((by rw [hg]; exact (below_size (by repeat (first | (with_reducible first | exact HB.out | apply below_alloc | apply pw_below_drewN | apply below_drew1 | refine below_set ?_ GE150.out) | exact HB.out))) : w.heap.size ≤ gb159))
                            have n5_ := Aside0.mk ((by rw [hg]; exact Nat.ne_of_lt (blk_lt (g := gb150) (o := .cells #[.string (⟨#[]⟩ : ByteArray), .int .i64 0, .int .i64 0, .int .i64 0, .int .i64 0, .int .i64 0, .int .u8 0, .string (⟨#[]⟩ : ByteArray)] 26 (0, 0)) (by (with_reducible repeat (first | refine blk_drewN ?_ _ | refine blk_drew ?_ | refine blk_alloc ?_ _)); exact BK150.out)) : gb150 ≠ gb159))
                            have n6_ := Aside0.mk ((by rw [hg]; exact Nat.ne_of_gt (blk_lt (g := gb150) (o := .cells #[.string (⟨#[]⟩ : ByteArray), .int .i64 0, .int .i64 0, .int .i64 0, .int .i64 0, .int .i64 0, .int .u8 0, .string (⟨#[]⟩ : ByteArray)] 26 (0, 0)) (by (with_reducible repeat (first | refine blk_drewN ?_ _ | refine blk_drew ?_ | refine blk_alloc ?_ _)); exact BK150.out)) : gb159 ≠ gb150))
                            clear BK150
                            clear HB
                            have BK150 := n0_
                            have HB := n1_
                            have BK159 := n2_
                            have GW159 := n3_
                            have GE159 := n4_
                            have NB150_159 := n5_
                            have NB159_150 := n6_
                            clear n0_ n1_ n2_ n3_ n4_ n5_ n6_
                            clear hb hbox hg
                            refine hK.out _ _ (((HB.out.cell (World.block_lt_of_cell? w _ hw157_0)).trans hw157_0)) (fun hHeld => ?_)
                            clear hK K
                            refine norm_ (a' := ?_) ?_ ?_
                            rotate_left
                            · show Act.put _ (some 5) _ = _
                              simp only [Act.put, List.setIfInBounds_toArray, List.set_cons_zero, List.set_cons_succ, i64_w, i32_w]
                              rfl
                            exact norm_ (by first | (simp only [putAll, Act.put, List.setIfInBounds_toArray, List.set_cons_zero, List.set_cons_succ]; done) | (simp only [putAll, Act.put, List.setIfInBounds_toArray, List.set_cons_zero, List.set_cons_succ]; rfl)) (hJ1_3_5_18 (gb159) _ ⟨hHeld, (by (with_reducible repeat (first | refine blk_drewN ?_ _ | refine blk_drew ?_ | refine blk_alloc ?_ _)); exact BK150.out), (by (with_reducible repeat (first | refine blk_drewN ?_ _ | refine blk_drew ?_ | refine blk_alloc ?_ _)); exact BK159.out), GW159.out, GE159.out, NB150_159.out, NB159_150.out, (by repeat (first | (with_reducible first | exact HB.out | apply below_alloc | apply pw_below_drewN | apply below_drew1 | refine below_set ?_ GE150.out | refine below_set ?_ GE159.out) | exact HB.out))⟩)
                      · skip
                        rintro gb159 w17 ⟨hS_, h0_, h1_, h2_, h3_, h4_, h5_, h6_⟩
                        have n0_ : Aside0 (w17.heap[gb150]? = some (.cells #[.string (⟨#[]⟩ : ByteArray), .int .i64 0, .int .i64 0, .int .i64 0, .int .i64 0, .int .i64 0, .int .u8 0, .string (⟨#[]⟩ : ByteArray)] 26 (0, 0))) := ⟨h0_⟩
                        have n1_ : Aside0 (w17.heap[gb159]? = some (.cells #[.string (⟨#[]⟩ : ByteArray), .int .i64 0, .int .i64 0, .int .i64 0, .int .i64 0, .int .i64 0, .int .u8 0, .string (⟨#[]⟩ : ByteArray)] 26 (0, 0))) := ⟨h1_⟩
                        have n2_ : Aside0 (w.heap.size ≤ gb159) := ⟨h2_⟩
                        have n3_ : Aside0 (w.heap.size ≤ gb159) := ⟨h3_⟩
                        have n4_ : Aside0 (gb150 ≠ gb159) := ⟨h4_⟩
                        have n5_ : Aside0 (gb159 ≠ gb150) := ⟨h5_⟩
                        have n6_ : Aside0 (Below w.heap.size w w17) := ⟨h6_⟩
                        clear BK150
                        clear HB
                        clear h0_ h1_ h2_ h3_ h4_ h5_ h6_
                        have BK150 := n0_
                        have BK159 := n1_
                        have GW159 := n2_
                        have GE159 := n3_
                        have NB150_159 := n4_
                        have NB159_150 := n5_
                        have HB := n6_
                        clear n0_ n1_ n2_ n3_ n4_ n5_ n6_
                        have hHeld : w17.cell? ⟨ad157.block, ad157.off + 156, none⟩ = some (.int .u8 (rd l0 156)) := hS_
                        refine norm_ (a' := ?_) ?_ ?_
                        rotate_left
                        · simp only [putAll, Act.put, List.setIfInBounds_toArray, List.set_cons_zero, List.set_cons_succ]
                          rfl
                        refine one_ (i := 7) (N := some 22) #[true, true, true, true, true, true, true, true, true, false, true, false, true, true, true, true, false, false, true, false] rfl rfl (one_of HT_.out (by kernel_rfl)) (by decide) (fun K hK => ?_)
                        refine goes_ Try.func26 (by kernel_rfl) rfl #[.slice (some ad157) l0.length c0, .int .i64 116, .int .i64 7] (by rfl) rfl rfl (by (try simp only [List.map_toArray, List.map_cons, List.map_nil]); first | done | rfl | (simp only [List.length_drop, List.length_take]; rfl)) ?_
                        with_reducible refine (ustar_block_number.calls k _ _ l0 116 7 t154 _ ?side1 ?side2 A6.out).mono ?_
                        (case side1 => repeat (first | exact (Kd.C_below HR0.out HB.out) | (with_reducible refine Kd.C_alloc ?_ _) | (with_reducible refine Kd.C_drewN ?_ _) | (with_reducible refine Kd.C_drew ?_)))
                        (case side2 => exact HC0.out)
                        rintro e w' ⟨rfl, ⟨nd, rfl⟩⟩
                        refine ⟨_, rfl, ?_⟩
                        refine hK.out _ _ (((HB.out.cell (World.block_lt_of_cell? w _ hw157_0)).trans hw157_0)) (fun hHeld => ?_)
                        clear hK K
                        refine norm_ (a' := ?_) ?_ ?_
                        rotate_left
                        · show Act.put _ (some 22) _ = _
                          simp only [Act.put, List.setIfInBounds_toArray, List.set_cons_zero, List.set_cons_succ, i64_w, i32_w]
                          rfl
                        exact norm_ (by first | (simp only [putAll, Act.put, List.setIfInBounds_toArray, List.set_cons_zero, List.set_cons_succ]; done) | (simp only [putAll, Act.put, List.setIfInBounds_toArray, List.set_cons_zero, List.set_cons_succ]; rfl)) (hJ1_3_5_7_18 (gb159) _ ⟨hHeld, (by (with_reducible repeat (first | refine blk_drewN ?_ _ | refine blk_drew ?_ | refine blk_alloc ?_ _)); exact BK150.out), (by (with_reducible repeat (first | refine blk_drewN ?_ _ | refine blk_drew ?_ | refine blk_alloc ?_ _)); exact BK159.out), GW159.out, GE159.out, NB150_159.out, NB159_150.out, (by repeat (first | (with_reducible first | exact HB.out | apply below_alloc | apply pw_below_drewN | apply below_drew1 | refine below_set ?_ GE150.out | refine below_set ?_ GE159.out) | exact HB.out))⟩)
                    · skip
                      rintro _ w16 ⟨hS_, h0_, h1_⟩
                      have n0_ : Aside0 (w16.heap[gb150]? = some (.cells #[.string (⟨#[]⟩ : ByteArray), .int .i64 0, .int .i64 0, .int .i64 0, .int .i64 0, .int .i64 0, .int .u8 0, .string (⟨#[]⟩ : ByteArray)] 26 (0, 0))) := ⟨h0_⟩
                      have n1_ : Aside0 (Below w.heap.size w w16) := ⟨h1_⟩
                      clear BK150
                      clear HB
                      clear h0_ h1_
                      have BK150 := n0_
                      have HB := n1_
                      clear n0_ n1_
                      have hHeld : w16.cell? ⟨ad157.block, ad157.off + 156, none⟩ = some (.int .u8 (rd l0 156)) := hS_
                      refine norm_ (a' := ?_) ?_ ?_
                      rotate_left
                      · simp only [putAll, Act.put, List.setIfInBounds_toArray, List.set_cons_zero, List.set_cons_succ]
                        rfl
                      refine two_ (i := 9) (j := 18) (Ni := some 24) (Nj := some 5) #[true, true, true, true, true, true, true, true, true, true, true, false, true, true, true, true, false, false, false, false] #[true, true, true, true, true, true, true, true, true, false, true, false, true, true, true, true, false, false, true, false] rfl rfl rfl rfl (two_of HT_.out (by kernel_rfl)) (by decide) (by decide) (fun K hK => ?_) (fun K hK => ?_)
                      · skip
                        refine goes_ Try.func26 (by kernel_rfl) rfl #[.slice (some ad157) l0.length c0, .int .i64 124, .int .i64 11] (by rfl) rfl rfl (by (try simp only [List.map_toArray, List.map_cons, List.map_nil]); first | done | rfl | (simp only [List.length_drop, List.length_take]; rfl)) ?_
                        with_reducible refine (ustar_block_number.calls k _ _ l0 124 11 t155 _ ?side1 ?side2 A7.out).mono ?_
                        (case side1 => repeat (first | exact (Kd.C_below HR0.out HB.out) | (with_reducible refine Kd.C_alloc ?_ _) | (with_reducible refine Kd.C_drewN ?_ _) | (with_reducible refine Kd.C_drew ?_)))
                        (case side2 => exact HC0.out)
                        rintro e w' ⟨rfl, ⟨nd, rfl⟩⟩
                        refine ⟨_, rfl, ?_⟩
                        refine hK.out _ _ (((HB.out.cell (World.block_lt_of_cell? w _ hw157_0)).trans hw157_0)) (fun hHeld => ?_)
                        clear hK K
                        refine norm_ (a' := ?_) ?_ ?_
                        rotate_left
                        · show Act.put _ (some 24) _ = _
                          simp only [Act.put, List.setIfInBounds_toArray, List.set_cons_zero, List.set_cons_succ, i64_w, i32_w]
                          rfl
                        exact norm_ (by first | (simp only [putAll, Act.put, List.setIfInBounds_toArray, List.set_cons_zero, List.set_cons_succ]; done) | (simp only [putAll, Act.put, List.setIfInBounds_toArray, List.set_cons_zero, List.set_cons_succ]; rfl)) (hJ1_3_5_7_9 () _ ⟨hHeld, (by (with_reducible repeat (first | refine blk_drewN ?_ _ | refine blk_drew ?_ | refine blk_alloc ?_ _)); exact BK150.out), (by repeat (first | (with_reducible first | exact HB.out | apply below_alloc | apply pw_below_drewN | apply below_drew1 | refine below_set ?_ GE150.out) | exact HB.out))⟩)
                      · skip
                        refine box_step ?hg (N := 5) ?hd (cs := #[.string (⟨#[]⟩ : ByteArray), .int .i64 0, .int .i64 0, .int .i64 0, .int .i64 0, .int .i64 0, .int .u8 0, .string (⟨#[]⟩ : ByteArray)]) (t := 26) ?hr ?_; (case hd => rfl); (case hg => rfl); (case hr => first | (go_simp; done) | (go_simp; rfl))
                        intro gb159 hg w17 hbox hb
                        have n0_ := Aside0.mk (blk_below (g := gb150) (o := .cells #[.string (⟨#[]⟩ : ByteArray), .int .i64 0, .int .i64 0, .int .i64 0, .int .i64 0, .int .i64 0, .int .u8 0, .string (⟨#[]⟩ : ByteArray)] 26 (0, 0)) (by (with_reducible repeat (first | refine blk_drewN ?_ _ | refine blk_drew ?_ | refine blk_alloc ?_ _)); exact BK150.out) hb)
                        have n1_ := Aside0.mk (below_step (by repeat (first | (with_reducible first | exact HB.out | apply below_alloc | apply pw_below_drewN | apply below_drew1 | refine below_set ?_ GE150.out) | exact HB.out)) hb)
                        have n2_ := Aside0.mk (hbox)
                        have n3_ := Aside0.mk ((by rw [hg]; exact (below_size (by repeat (first | (with_reducible first | exact HB.out | apply below_alloc | apply pw_below_drewN | apply below_drew1 | refine below_set ?_ GE150.out) | exact HB.out))) : w.heap.size ≤ gb159))
                        have n4_ := Aside0.mk ((by rw [hg]; exact (below_size (by repeat (first | (with_reducible first | exact HB.out | apply below_alloc | apply pw_below_drewN | apply below_drew1 | refine below_set ?_ GE150.out) | exact HB.out))) : w.heap.size ≤ gb159))
                        have n5_ := Aside0.mk ((by rw [hg]; exact Nat.ne_of_lt (blk_lt (g := gb150) (o := .cells #[.string (⟨#[]⟩ : ByteArray), .int .i64 0, .int .i64 0, .int .i64 0, .int .i64 0, .int .i64 0, .int .u8 0, .string (⟨#[]⟩ : ByteArray)] 26 (0, 0)) (by (with_reducible repeat (first | refine blk_drewN ?_ _ | refine blk_drew ?_ | refine blk_alloc ?_ _)); exact BK150.out)) : gb150 ≠ gb159))
                        have n6_ := Aside0.mk ((by rw [hg]; exact Nat.ne_of_gt (blk_lt (g := gb150) (o := .cells #[.string (⟨#[]⟩ : ByteArray), .int .i64 0, .int .i64 0, .int .i64 0, .int .i64 0, .int .i64 0, .int .u8 0, .string (⟨#[]⟩ : ByteArray)] 26 (0, 0)) (by (with_reducible repeat (first | refine blk_drewN ?_ _ | refine blk_drew ?_ | refine blk_alloc ?_ _)); exact BK150.out)) : gb159 ≠ gb150))
                        clear BK150
                        clear HB
                        have BK150 := n0_
                        have HB := n1_
                        have BK159 := n2_
                        have GW159 := n3_
                        have GE159 := n4_
                        have NB150_159 := n5_
                        have NB159_150 := n6_
                        clear n0_ n1_ n2_ n3_ n4_ n5_ n6_
                        clear hb hbox hg
                        refine hK.out _ _ (((HB.out.cell (World.block_lt_of_cell? w _ hw157_0)).trans hw157_0)) (fun hHeld => ?_)
                        clear hK K
                        refine norm_ (a' := ?_) ?_ ?_
                        rotate_left
                        · show Act.put _ (some 5) _ = _
                          simp only [Act.put, List.setIfInBounds_toArray, List.set_cons_zero, List.set_cons_succ, i64_w, i32_w]
                          rfl
                        exact norm_ (by first | (simp only [putAll, Act.put, List.setIfInBounds_toArray, List.set_cons_zero, List.set_cons_succ]; done) | (simp only [putAll, Act.put, List.setIfInBounds_toArray, List.set_cons_zero, List.set_cons_succ]; rfl)) (hJ1_3_5_7_18 (gb159) _ ⟨hHeld, (by (with_reducible repeat (first | refine blk_drewN ?_ _ | refine blk_drew ?_ | refine blk_alloc ?_ _)); exact BK150.out), (by (with_reducible repeat (first | refine blk_drewN ?_ _ | refine blk_drew ?_ | refine blk_alloc ?_ _)); exact BK159.out), GW159.out, GE159.out, NB150_159.out, NB159_150.out, (by repeat (first | (with_reducible first | exact HB.out | apply below_alloc | apply pw_below_drewN | apply below_drew1 | refine below_set ?_ GE150.out | refine below_set ?_ GE159.out) | exact HB.out))⟩)
                  · skip
                    rintro gb159 w17 ⟨hS_, h0_, h1_, h2_, h3_, h4_, h5_, h6_⟩
                    have n0_ : Aside0 (w17.heap[gb150]? = some (.cells #[.string (⟨#[]⟩ : ByteArray), .int .i64 0, .int .i64 0, .int .i64 0, .int .i64 0, .int .i64 0, .int .u8 0, .string (⟨#[]⟩ : ByteArray)] 26 (0, 0))) := ⟨h0_⟩
                    have n1_ : Aside0 (w17.heap[gb159]? = some (.cells #[.string (⟨#[]⟩ : ByteArray), .int .i64 0, .int .i64 0, .int .i64 0, .int .i64 0, .int .i64 0, .int .u8 0, .string (⟨#[]⟩ : ByteArray)] 26 (0, 0))) := ⟨h1_⟩
                    have n2_ : Aside0 (w.heap.size ≤ gb159) := ⟨h2_⟩
                    have n3_ : Aside0 (w.heap.size ≤ gb159) := ⟨h3_⟩
                    have n4_ : Aside0 (gb150 ≠ gb159) := ⟨h4_⟩
                    have n5_ : Aside0 (gb159 ≠ gb150) := ⟨h5_⟩
                    have n6_ : Aside0 (Below w.heap.size w w17) := ⟨h6_⟩
                    clear BK150
                    clear HB
                    clear h0_ h1_ h2_ h3_ h4_ h5_ h6_
                    have BK150 := n0_
                    have BK159 := n1_
                    have GW159 := n2_
                    have GE159 := n3_
                    have NB150_159 := n4_
                    have NB159_150 := n5_
                    have HB := n6_
                    clear n0_ n1_ n2_ n3_ n4_ n5_ n6_
                    have hHeld : w17.cell? ⟨ad157.block, ad157.off + 156, none⟩ = some (.int .u8 (rd l0 156)) := hS_
                    refine norm_ (a' := ?_) ?_ ?_
                    rotate_left
                    · simp only [putAll, Act.put, List.setIfInBounds_toArray, List.set_cons_zero, List.set_cons_succ]
                      rfl
                    refine one_ (i := 9) (N := some 24) #[true, true, true, true, true, true, true, true, true, true, true, false, true, true, true, true, false, false, true, false] rfl rfl (one_of HT_.out (by kernel_rfl)) (by decide) (fun K hK => ?_)
                    refine goes_ Try.func26 (by kernel_rfl) rfl #[.slice (some ad157) l0.length c0, .int .i64 124, .int .i64 11] (by rfl) rfl rfl (by (try simp only [List.map_toArray, List.map_cons, List.map_nil]); first | done | rfl | (simp only [List.length_drop, List.length_take]; rfl)) ?_
                    with_reducible refine (ustar_block_number.calls k _ _ l0 124 11 t155 _ ?side1 ?side2 A7.out).mono ?_
                    (case side1 => repeat (first | exact (Kd.C_below HR0.out HB.out) | (with_reducible refine Kd.C_alloc ?_ _) | (with_reducible refine Kd.C_drewN ?_ _) | (with_reducible refine Kd.C_drew ?_)))
                    (case side2 => exact HC0.out)
                    rintro e w' ⟨rfl, ⟨nd, rfl⟩⟩
                    refine ⟨_, rfl, ?_⟩
                    refine hK.out _ _ (((HB.out.cell (World.block_lt_of_cell? w _ hw157_0)).trans hw157_0)) (fun hHeld => ?_)
                    clear hK K
                    refine norm_ (a' := ?_) ?_ ?_
                    rotate_left
                    · show Act.put _ (some 24) _ = _
                      simp only [Act.put, List.setIfInBounds_toArray, List.set_cons_zero, List.set_cons_succ, i64_w, i32_w]
                      rfl
                    exact norm_ (by first | (simp only [putAll, Act.put, List.setIfInBounds_toArray, List.set_cons_zero, List.set_cons_succ]; done) | (simp only [putAll, Act.put, List.setIfInBounds_toArray, List.set_cons_zero, List.set_cons_succ]; rfl)) (hJ1_3_5_7_9_18 (gb159) _ ⟨hHeld, (by (with_reducible repeat (first | refine blk_drewN ?_ _ | refine blk_drew ?_ | refine blk_alloc ?_ _)); exact BK150.out), (by (with_reducible repeat (first | refine blk_drewN ?_ _ | refine blk_drew ?_ | refine blk_alloc ?_ _)); exact BK159.out), GW159.out, GE159.out, NB150_159.out, NB159_150.out, (by repeat (first | (with_reducible first | exact HB.out | apply below_alloc | apply pw_below_drewN | apply below_drew1 | refine below_set ?_ GE150.out | refine below_set ?_ GE159.out) | exact HB.out))⟩)
                · skip
                  rintro _ w16 ⟨hS_, h0_, h1_⟩
                  have n0_ : Aside0 (w16.heap[gb150]? = some (.cells #[.string (⟨#[]⟩ : ByteArray), .int .i64 0, .int .i64 0, .int .i64 0, .int .i64 0, .int .i64 0, .int .u8 0, .string (⟨#[]⟩ : ByteArray)] 26 (0, 0))) := ⟨h0_⟩
                  have n1_ : Aside0 (Below w.heap.size w w16) := ⟨h1_⟩
                  clear BK150
                  clear HB
                  clear h0_ h1_
                  have BK150 := n0_
                  have HB := n1_
                  clear n0_ n1_
                  have hHeld : w16.cell? ⟨ad157.block, ad157.off + 156, none⟩ = some (.int .u8 (rd l0 156)) := hS_
                  refine norm_ (a' := ?_) ?_ ?_
                  rotate_left
                  · simp only [putAll, Act.put, List.setIfInBounds_toArray, List.set_cons_zero, List.set_cons_succ]
                    rfl
                  refine two_ (i := 11) (j := 18) (Ni := some 26) (Nj := some 5) #[true, true, true, true, true, true, true, true, true, true, true, true, true, true, true, true, false, false, false, false] #[true, true, true, true, true, true, true, true, true, true, true, false, true, true, true, true, false, false, true, false] rfl rfl rfl rfl (two_of HT_.out (by kernel_rfl)) (by decide) (by decide) (fun K hK => ?_) (fun K hK => ?_)
                  · skip
                    refine goes_ Try.func26 (by kernel_rfl) rfl #[.slice (some ad157) l0.length c0, .int .i64 136, .int .i64 11] (by rfl) rfl rfl (by (try simp only [List.map_toArray, List.map_cons, List.map_nil]); first | done | rfl | (simp only [List.length_drop, List.length_take]; rfl)) ?_
                    with_reducible refine (ustar_block_number.calls k _ _ l0 136 11 t156 _ ?side1 ?side2 A8.out).mono ?_
                    (case side1 => repeat (first | exact (Kd.C_below HR0.out HB.out) | (with_reducible refine Kd.C_alloc ?_ _) | (with_reducible refine Kd.C_drewN ?_ _) | (with_reducible refine Kd.C_drew ?_)))
                    (case side2 => exact HC0.out)
                    rintro e w' ⟨rfl, ⟨nd, rfl⟩⟩
                    refine ⟨_, rfl, ?_⟩
                    refine hK.out _ _ (((HB.out.cell (World.block_lt_of_cell? w _ hw157_0)).trans hw157_0)) (fun hHeld => ?_)
                    clear hK K
                    refine norm_ (a' := ?_) ?_ ?_
                    rotate_left
                    · show Act.put _ (some 26) _ = _
                      simp only [Act.put, List.setIfInBounds_toArray, List.set_cons_zero, List.set_cons_succ, i64_w, i32_w]
                      rfl
                    exact norm_ (by first | (simp only [putAll, Act.put, List.setIfInBounds_toArray, List.set_cons_zero, List.set_cons_succ]; done) | (simp only [putAll, Act.put, List.setIfInBounds_toArray, List.set_cons_zero, List.set_cons_succ]; rfl)) (hJ1_3_5_7_9_11 () _ ⟨hHeld, (by (with_reducible repeat (first | refine blk_drewN ?_ _ | refine blk_drew ?_ | refine blk_alloc ?_ _)); exact BK150.out), (by repeat (first | (with_reducible first | exact HB.out | apply below_alloc | apply pw_below_drewN | apply below_drew1 | refine below_set ?_ GE150.out) | exact HB.out))⟩)
                  · skip
                    refine box_step ?hg (N := 5) ?hd (cs := #[.string (⟨#[]⟩ : ByteArray), .int .i64 0, .int .i64 0, .int .i64 0, .int .i64 0, .int .i64 0, .int .u8 0, .string (⟨#[]⟩ : ByteArray)]) (t := 26) ?hr ?_; (case hd => rfl); (case hg => rfl); (case hr => first | (go_simp; done) | (go_simp; rfl))
                    intro gb159 hg w17 hbox hb
                    have n0_ := Aside0.mk (blk_below (g := gb150) (o := .cells #[.string (⟨#[]⟩ : ByteArray), .int .i64 0, .int .i64 0, .int .i64 0, .int .i64 0, .int .i64 0, .int .u8 0, .string (⟨#[]⟩ : ByteArray)] 26 (0, 0)) (by (with_reducible repeat (first | refine blk_drewN ?_ _ | refine blk_drew ?_ | refine blk_alloc ?_ _)); exact BK150.out) hb)
                    have n1_ := Aside0.mk (below_step (by repeat (first | (with_reducible first | exact HB.out | apply below_alloc | apply pw_below_drewN | apply below_drew1 | refine below_set ?_ GE150.out) | exact HB.out)) hb)
                    have n2_ := Aside0.mk (hbox)
                    have n3_ := Aside0.mk ((by rw [hg]; exact (below_size (by repeat (first | (with_reducible first | exact HB.out | apply below_alloc | apply pw_below_drewN | apply below_drew1 | refine below_set ?_ GE150.out) | exact HB.out))) : w.heap.size ≤ gb159))
                    have n4_ := Aside0.mk ((by rw [hg]; exact (below_size (by repeat (first | (with_reducible first | exact HB.out | apply below_alloc | apply pw_below_drewN | apply below_drew1 | refine below_set ?_ GE150.out) | exact HB.out))) : w.heap.size ≤ gb159))
                    have n5_ := Aside0.mk ((by rw [hg]; exact Nat.ne_of_lt (blk_lt (g := gb150) (o := .cells #[.string (⟨#[]⟩ : ByteArray), .int .i64 0, .int .i64 0, .int .i64 0, .int .i64 0, .int .i64 0, .int .u8 0, .string (⟨#[]⟩ : ByteArray)] 26 (0, 0)) (by (with_reducible repeat (first | refine blk_drewN ?_ _ | refine blk_drew ?_ | refine blk_alloc ?_ _)); exact BK150.out)) : gb150 ≠ gb159))
                    have n6_ := Aside0.mk ((by rw [hg]; exact Nat.ne_of_gt (blk_lt (g := gb150) (o := .cells #[.string (⟨#[]⟩ : ByteArray), .int .i64 0, .int .i64 0, .int .i64 0, .int .i64 0, .int .i64 0, .int .u8 0, .string (⟨#[]⟩ : ByteArray)] 26 (0, 0)) (by (with_reducible repeat (first | refine blk_drewN ?_ _ | refine blk_drew ?_ | refine blk_alloc ?_ _)); exact BK150.out)) : gb159 ≠ gb150))
                    clear BK150
                    clear HB
                    have BK150 := n0_
                    have HB := n1_
                    have BK159 := n2_
                    have GW159 := n3_
                    have GE159 := n4_
                    have NB150_159 := n5_
                    have NB159_150 := n6_
                    clear n0_ n1_ n2_ n3_ n4_ n5_ n6_
                    clear hb hbox hg
                    refine hK.out _ _ (((HB.out.cell (World.block_lt_of_cell? w _ hw157_0)).trans hw157_0)) (fun hHeld => ?_)
                    clear hK K
                    refine norm_ (a' := ?_) ?_ ?_
                    rotate_left
                    · show Act.put _ (some 5) _ = _
                      simp only [Act.put, List.setIfInBounds_toArray, List.set_cons_zero, List.set_cons_succ, i64_w, i32_w]
                      rfl
                    exact norm_ (by first | (simp only [putAll, Act.put, List.setIfInBounds_toArray, List.set_cons_zero, List.set_cons_succ]; done) | (simp only [putAll, Act.put, List.setIfInBounds_toArray, List.set_cons_zero, List.set_cons_succ]; rfl)) (hJ1_3_5_7_9_18 (gb159) _ ⟨hHeld, (by (with_reducible repeat (first | refine blk_drewN ?_ _ | refine blk_drew ?_ | refine blk_alloc ?_ _)); exact BK150.out), (by (with_reducible repeat (first | refine blk_drewN ?_ _ | refine blk_drew ?_ | refine blk_alloc ?_ _)); exact BK159.out), GW159.out, GE159.out, NB150_159.out, NB159_150.out, (by repeat (first | (with_reducible first | exact HB.out | apply below_alloc | apply pw_below_drewN | apply below_drew1 | refine below_set ?_ GE150.out | refine below_set ?_ GE159.out) | exact HB.out))⟩)
              · skip
                rintro gb159 w17 ⟨hS_, h0_, h1_, h2_, h3_, h4_, h5_, h6_⟩
                have n0_ : Aside0 (w17.heap[gb150]? = some (.cells #[.string (⟨#[]⟩ : ByteArray), .int .i64 0, .int .i64 0, .int .i64 0, .int .i64 0, .int .i64 0, .int .u8 0, .string (⟨#[]⟩ : ByteArray)] 26 (0, 0))) := ⟨h0_⟩
                have n1_ : Aside0 (w17.heap[gb159]? = some (.cells #[.string (⟨#[]⟩ : ByteArray), .int .i64 0, .int .i64 0, .int .i64 0, .int .i64 0, .int .i64 0, .int .u8 0, .string (⟨#[]⟩ : ByteArray)] 26 (0, 0))) := ⟨h1_⟩
                have n2_ : Aside0 (w.heap.size ≤ gb159) := ⟨h2_⟩
                have n3_ : Aside0 (w.heap.size ≤ gb159) := ⟨h3_⟩
                have n4_ : Aside0 (gb150 ≠ gb159) := ⟨h4_⟩
                have n5_ : Aside0 (gb159 ≠ gb150) := ⟨h5_⟩
                have n6_ : Aside0 (Below w.heap.size w w17) := ⟨h6_⟩
                clear BK150
                clear HB
                clear h0_ h1_ h2_ h3_ h4_ h5_ h6_
                have BK150 := n0_
                have BK159 := n1_
                have GW159 := n2_
                have GE159 := n3_
                have NB150_159 := n4_
                have NB159_150 := n5_
                have HB := n6_
                clear n0_ n1_ n2_ n3_ n4_ n5_ n6_
                have hHeld : w17.cell? ⟨ad157.block, ad157.off + 156, none⟩ = some (.int .u8 (rd l0 156)) := hS_
                refine norm_ (a' := ?_) ?_ ?_
                rotate_left
                · simp only [putAll, Act.put, List.setIfInBounds_toArray, List.set_cons_zero, List.set_cons_succ]
                  rfl
                refine one_ (i := 11) (N := some 26) #[true, true, true, true, true, true, true, true, true, true, true, true, true, true, true, true, false, false, true, false] rfl rfl (one_of HT_.out (by kernel_rfl)) (by decide) (fun K hK => ?_)
                refine goes_ Try.func26 (by kernel_rfl) rfl #[.slice (some ad157) l0.length c0, .int .i64 136, .int .i64 11] (by rfl) rfl rfl (by (try simp only [List.map_toArray, List.map_cons, List.map_nil]); first | done | rfl | (simp only [List.length_drop, List.length_take]; rfl)) ?_
                with_reducible refine (ustar_block_number.calls k _ _ l0 136 11 t156 _ ?side1 ?side2 A8.out).mono ?_
                (case side1 => repeat (first | exact (Kd.C_below HR0.out HB.out) | (with_reducible refine Kd.C_alloc ?_ _) | (with_reducible refine Kd.C_drewN ?_ _) | (with_reducible refine Kd.C_drew ?_)))
                (case side2 => exact HC0.out)
                rintro e w' ⟨rfl, ⟨nd, rfl⟩⟩
                refine ⟨_, rfl, ?_⟩
                refine hK.out _ _ (((HB.out.cell (World.block_lt_of_cell? w _ hw157_0)).trans hw157_0)) (fun hHeld => ?_)
                clear hK K
                refine norm_ (a' := ?_) ?_ ?_
                rotate_left
                · show Act.put _ (some 26) _ = _
                  simp only [Act.put, List.setIfInBounds_toArray, List.set_cons_zero, List.set_cons_succ, i64_w, i32_w]
                  rfl
                exact norm_ (by first | (simp only [putAll, Act.put, List.setIfInBounds_toArray, List.set_cons_zero, List.set_cons_succ]; done) | (simp only [putAll, Act.put, List.setIfInBounds_toArray, List.set_cons_zero, List.set_cons_succ]; rfl)) (hJ1_3_5_7_9_11_18 (gb159) _ ⟨hHeld, (by (with_reducible repeat (first | refine blk_drewN ?_ _ | refine blk_drew ?_ | refine blk_alloc ?_ _)); exact BK150.out), (by (with_reducible repeat (first | refine blk_drewN ?_ _ | refine blk_drew ?_ | refine blk_alloc ?_ _)); exact BK159.out), GW159.out, GE159.out, NB150_159.out, NB159_150.out, (by repeat (first | (with_reducible first | exact HB.out | apply below_alloc | apply pw_below_drewN | apply below_drew1 | refine below_set ?_ GE150.out | refine below_set ?_ GE159.out) | exact HB.out))⟩)
            · skip
              rintro _ w16 ⟨hS_, h0_, h1_⟩
              have n0_ : Aside0 (w16.heap[gb150]? = some (.cells #[.string (⟨#[]⟩ : ByteArray), .int .i64 0, .int .i64 0, .int .i64 0, .int .i64 0, .int .i64 0, .int .u8 0, .string (⟨#[]⟩ : ByteArray)] 26 (0, 0))) := ⟨h0_⟩
              have n1_ : Aside0 (Below w.heap.size w w16) := ⟨h1_⟩
              clear BK150
              clear HB
              clear h0_ h1_
              have BK150 := n0_
              have HB := n1_
              clear n0_ n1_
              have hHeld : w16.cell? ⟨ad157.block, ad157.off + 156, none⟩ = some (.int .u8 (rd l0 156)) := hS_
              refine norm_ (a' := ?_) ?_ ?_
              rotate_left
              · simp only [putAll, Act.put, List.setIfInBounds_toArray, List.set_cons_zero, List.set_cons_succ]
                rfl
              refine two_ (i := 16) (j := 18) (Ni := some 31) (Nj := some 5) #[true, true, true, true, true, true, true, true, true, true, true, true, true, true, true, true, true, false, false, false] #[true, true, true, true, true, true, true, true, true, true, true, true, true, true, true, true, false, false, true, false] rfl rfl rfl rfl (two_of HT_.out (by kernel_rfl)) (by decide) (by decide) (fun K hK => ?_) (fun K hK => ?_)
              · skip
                refine goes_ Try.func25 (by kernel_rfl) rfl #[.slice (some ad157) l0.length c0, .int .i64 157, .int .i64 100] (by rfl) rfl rfl (by (try simp only [List.map_toArray, List.map_cons, List.map_nil]); first | done | rfl | (simp only [List.length_drop, List.length_take]; rfl)) ?_
                with_reducible refine (ustar_block_text.calls _ _ l0 157 100 t158 _ ?side1 ?side2 A10.out).mono ?_
                (case side1 => repeat (first | exact (Kd.C_below HR0.out HB.out) | (with_reducible refine Kd.C_alloc ?_ _) | (with_reducible refine Kd.C_drewN ?_ _) | (with_reducible refine Kd.C_drew ?_)))
                (case side2 => exact HC0.out)
                rintro e w17 ⟨rfl, hb⟩
                refine ⟨_, rfl, ?_⟩
                have n0_ := Aside0.mk (blk_below (g := gb150) (o := .cells #[.string (⟨#[]⟩ : ByteArray), .int .i64 0, .int .i64 0, .int .i64 0, .int .i64 0, .int .i64 0, .int .u8 0, .string (⟨#[]⟩ : ByteArray)] 26 (0, 0)) (by (with_reducible repeat (first | refine blk_drewN ?_ _ | refine blk_drew ?_ | refine blk_alloc ?_ _)); exact BK150.out) hb)
                have n1_ := Aside0.mk (below_step (by repeat (first | (with_reducible first | exact HB.out | apply below_alloc | apply pw_below_drewN | apply below_drew1 | refine below_set ?_ GE150.out) | exact HB.out)) hb)
                clear BK150
                clear HB
                have BK150 := n0_
                have HB := n1_
                clear n0_ n1_
                (try clear hb)
                (try clear hb2)
                (try clear hk)
                (try clear hi)
                refine hK.out _ _ (((HB.out.cell (World.block_lt_of_cell? w _ hw157_0)).trans hw157_0)) (fun hHeld => ?_)
                clear hK K
                refine norm_ (a' := ?_) ?_ ?_
                rotate_left
                · show Act.put _ (some 31) _ = _
                  simp only [Act.put, List.setIfInBounds_toArray, List.set_cons_zero, List.set_cons_succ, i64_w, i32_w]
                  rfl
                refine pure_ (i := 17) (N := some 32) (v := ?_) (a' := ?_) #[true, true, true, true, true, true, true, true, true, true, true, true, true, true, true, true, true, true, false, false] rfl rfl (any_of HT_.out (by kernel_rfl)) (fun _ _ _ h => h) (Or.inl ⟨by rfl, ?_⟩) ?_ ?_
                rotate_left
                · intro w'
                  go_simp
                  with_reducible rfl
                rotate_left
                · simp only [Act.put, List.setIfInBounds_toArray, List.set_cons_zero, List.set_cons_succ, i64_w, i32_w]
                  rfl
                exact norm_ (by first | (simp only [putAll, Act.put, List.setIfInBounds_toArray, List.set_cons_zero, List.set_cons_succ]; done) | (simp only [putAll, Act.put, List.setIfInBounds_toArray, List.set_cons_zero, List.set_cons_succ]; rfl)) (hJ1_3_5_7_9_11_16 () _ ⟨hHeld, (by (with_reducible repeat (first | refine blk_drewN ?_ _ | refine blk_drew ?_ | refine blk_alloc ?_ _)); exact BK150.out), (by repeat (first | (with_reducible first | exact HB.out | apply below_alloc | apply pw_below_drewN | apply below_drew1 | refine below_set ?_ GE150.out) | exact HB.out))⟩)
              · skip
                refine box_step ?hg (N := 5) ?hd (cs := #[.string (⟨#[]⟩ : ByteArray), .int .i64 0, .int .i64 0, .int .i64 0, .int .i64 0, .int .i64 0, .int .u8 0, .string (⟨#[]⟩ : ByteArray)]) (t := 26) ?hr ?_; (case hd => rfl); (case hg => rfl); (case hr => first | (go_simp; done) | (go_simp; rfl))
                intro gb159 hg w17 hbox hb
                have n0_ := Aside0.mk (blk_below (g := gb150) (o := .cells #[.string (⟨#[]⟩ : ByteArray), .int .i64 0, .int .i64 0, .int .i64 0, .int .i64 0, .int .i64 0, .int .u8 0, .string (⟨#[]⟩ : ByteArray)] 26 (0, 0)) (by (with_reducible repeat (first | refine blk_drewN ?_ _ | refine blk_drew ?_ | refine blk_alloc ?_ _)); exact BK150.out) hb)
                have n1_ := Aside0.mk (below_step (by repeat (first | (with_reducible first | exact HB.out | apply below_alloc | apply pw_below_drewN | apply below_drew1 | refine below_set ?_ GE150.out) | exact HB.out)) hb)
                have n2_ := Aside0.mk (hbox)
                have n3_ := Aside0.mk ((by rw [hg]; exact (below_size (by repeat (first | (with_reducible first | exact HB.out | apply below_alloc | apply pw_below_drewN | apply below_drew1 | refine below_set ?_ GE150.out) | exact HB.out))) : w.heap.size ≤ gb159))
                have n4_ := Aside0.mk ((by rw [hg]; exact (below_size (by repeat (first | (with_reducible first | exact HB.out | apply below_alloc | apply pw_below_drewN | apply below_drew1 | refine below_set ?_ GE150.out) | exact HB.out))) : w.heap.size ≤ gb159))
                have n5_ := Aside0.mk ((by rw [hg]; exact Nat.ne_of_lt (blk_lt (g := gb150) (o := .cells #[.string (⟨#[]⟩ : ByteArray), .int .i64 0, .int .i64 0, .int .i64 0, .int .i64 0, .int .i64 0, .int .u8 0, .string (⟨#[]⟩ : ByteArray)] 26 (0, 0)) (by (with_reducible repeat (first | refine blk_drewN ?_ _ | refine blk_drew ?_ | refine blk_alloc ?_ _)); exact BK150.out)) : gb150 ≠ gb159))
                have n6_ := Aside0.mk ((by rw [hg]; exact Nat.ne_of_gt (blk_lt (g := gb150) (o := .cells #[.string (⟨#[]⟩ : ByteArray), .int .i64 0, .int .i64 0, .int .i64 0, .int .i64 0, .int .i64 0, .int .u8 0, .string (⟨#[]⟩ : ByteArray)] 26 (0, 0)) (by (with_reducible repeat (first | refine blk_drewN ?_ _ | refine blk_drew ?_ | refine blk_alloc ?_ _)); exact BK150.out)) : gb159 ≠ gb150))
                clear BK150
                clear HB
                have BK150 := n0_
                have HB := n1_
                have BK159 := n2_
                have GW159 := n3_
                have GE159 := n4_
                have NB150_159 := n5_
                have NB159_150 := n6_
                clear n0_ n1_ n2_ n3_ n4_ n5_ n6_
                clear hb hbox hg
                refine hK.out _ _ (((HB.out.cell (World.block_lt_of_cell? w _ hw157_0)).trans hw157_0)) (fun hHeld => ?_)
                clear hK K
                refine norm_ (a' := ?_) ?_ ?_
                rotate_left
                · show Act.put _ (some 5) _ = _
                  simp only [Act.put, List.setIfInBounds_toArray, List.set_cons_zero, List.set_cons_succ, i64_w, i32_w]
                  rfl
                exact norm_ (by first | (simp only [putAll, Act.put, List.setIfInBounds_toArray, List.set_cons_zero, List.set_cons_succ]; done) | (simp only [putAll, Act.put, List.setIfInBounds_toArray, List.set_cons_zero, List.set_cons_succ]; rfl)) (hJ1_3_5_7_9_11_18 (gb159) _ ⟨hHeld, (by (with_reducible repeat (first | refine blk_drewN ?_ _ | refine blk_drew ?_ | refine blk_alloc ?_ _)); exact BK150.out), (by (with_reducible repeat (first | refine blk_drewN ?_ _ | refine blk_drew ?_ | refine blk_alloc ?_ _)); exact BK159.out), GW159.out, GE159.out, NB150_159.out, NB159_150.out, (by repeat (first | (with_reducible first | exact HB.out | apply below_alloc | apply pw_below_drewN | apply below_drew1 | refine below_set ?_ GE150.out | refine below_set ?_ GE159.out) | exact HB.out))⟩)
          · skip
            rintro gb159 w17 ⟨hS_, h0_, h1_, h2_, h3_, h4_, h5_, h6_⟩
            have n0_ : Aside0 (w17.heap[gb150]? = some (.cells #[.string (⟨#[]⟩ : ByteArray), .int .i64 0, .int .i64 0, .int .i64 0, .int .i64 0, .int .i64 0, .int .u8 0, .string (⟨#[]⟩ : ByteArray)] 26 (0, 0))) := ⟨h0_⟩
            have n1_ : Aside0 (w17.heap[gb159]? = some (.cells #[.string (⟨#[]⟩ : ByteArray), .int .i64 0, .int .i64 0, .int .i64 0, .int .i64 0, .int .i64 0, .int .u8 0, .string (⟨#[]⟩ : ByteArray)] 26 (0, 0))) := ⟨h1_⟩
            have n2_ : Aside0 (w.heap.size ≤ gb159) := ⟨h2_⟩
            have n3_ : Aside0 (w.heap.size ≤ gb159) := ⟨h3_⟩
            have n4_ : Aside0 (gb150 ≠ gb159) := ⟨h4_⟩
            have n5_ : Aside0 (gb159 ≠ gb150) := ⟨h5_⟩
            have n6_ : Aside0 (Below w.heap.size w w17) := ⟨h6_⟩
            clear BK150
            clear HB
            clear h0_ h1_ h2_ h3_ h4_ h5_ h6_
            have BK150 := n0_
            have BK159 := n1_
            have GW159 := n2_
            have GE159 := n3_
            have NB150_159 := n4_
            have NB159_150 := n5_
            have HB := n6_
            clear n0_ n1_ n2_ n3_ n4_ n5_ n6_
            have hHeld : w17.cell? ⟨ad157.block, ad157.off + 156, none⟩ = some (.int .u8 (rd l0 156)) := hS_
            refine norm_ (a' := ?_) ?_ ?_
            rotate_left
            · simp only [putAll, Act.put, List.setIfInBounds_toArray, List.set_cons_zero, List.set_cons_succ]
              rfl
            refine one_ (i := 16) (N := some 31) #[true, true, true, true, true, true, true, true, true, true, true, true, true, true, true, true, true, false, true, false] rfl rfl (one_of HT_.out (by kernel_rfl)) (by decide) (fun K hK => ?_)
            refine goes_ Try.func25 (by kernel_rfl) rfl #[.slice (some ad157) l0.length c0, .int .i64 157, .int .i64 100] (by rfl) rfl rfl (by (try simp only [List.map_toArray, List.map_cons, List.map_nil]); first | done | rfl | (simp only [List.length_drop, List.length_take]; rfl)) ?_
            with_reducible refine (ustar_block_text.calls _ _ l0 157 100 t158 _ ?side1 ?side2 A10.out).mono ?_
            (case side1 => repeat (first | exact (Kd.C_below HR0.out HB.out) | (with_reducible refine Kd.C_alloc ?_ _) | (with_reducible refine Kd.C_drewN ?_ _) | (with_reducible refine Kd.C_drew ?_)))
            (case side2 => exact HC0.out)
            rintro e w18 ⟨rfl, hb⟩
            refine ⟨_, rfl, ?_⟩
            have n0_ := Aside0.mk (blk_below (g := gb150) (o := .cells #[.string (⟨#[]⟩ : ByteArray), .int .i64 0, .int .i64 0, .int .i64 0, .int .i64 0, .int .i64 0, .int .u8 0, .string (⟨#[]⟩ : ByteArray)] 26 (0, 0)) (by (with_reducible repeat (first | refine blk_drewN ?_ _ | refine blk_drew ?_ | refine blk_alloc ?_ _)); exact BK150.out) hb)
            have n1_ := Aside0.mk (blk_below (g := gb159) (o := .cells #[.string (⟨#[]⟩ : ByteArray), .int .i64 0, .int .i64 0, .int .i64 0, .int .i64 0, .int .i64 0, .int .u8 0, .string (⟨#[]⟩ : ByteArray)] 26 (0, 0)) (by (with_reducible repeat (first | refine blk_drewN ?_ _ | refine blk_drew ?_ | refine blk_alloc ?_ _)); exact BK159.out) hb)
            have n2_ := Aside0.mk (below_step (by repeat (first | (with_reducible first | exact HB.out | apply below_alloc | apply pw_below_drewN | apply below_drew1 | refine below_set ?_ GE150.out | refine below_set ?_ GE159.out) | exact HB.out)) hb)
            clear BK150
            clear BK159
            clear HB
            have BK150 := n0_
            have BK159 := n1_
            have HB := n2_
            clear n0_ n1_ n2_
            (try clear hb)
            (try clear hb2)
            (try clear hk)
            (try clear hi)
            refine hK.out _ _ (((HB.out.cell (World.block_lt_of_cell? w _ hw157_0)).trans hw157_0)) (fun hHeld => ?_)
            clear hK K
            refine norm_ (a' := ?_) ?_ ?_
            rotate_left
            · show Act.put _ (some 31) _ = _
              simp only [Act.put, List.setIfInBounds_toArray, List.set_cons_zero, List.set_cons_succ, i64_w, i32_w]
              rfl
            refine pure_ (i := 17) (N := some 32) (v := ?_) (a' := ?_) #[true, true, true, true, true, true, true, true, true, true, true, true, true, true, true, true, true, true, true, false] rfl rfl (any_of HT_.out (by kernel_rfl)) (fun _ _ _ h => h) (Or.inl ⟨by rfl, ?_⟩) ?_ ?_
            rotate_left
            · intro w'
              go_simp
              with_reducible rfl
            rotate_left
            · simp only [Act.put, List.setIfInBounds_toArray, List.set_cons_zero, List.set_cons_succ, i64_w, i32_w]
              rfl
            exact norm_ (by first | (simp only [putAll, Act.put, List.setIfInBounds_toArray, List.set_cons_zero, List.set_cons_succ]; done) | (simp only [putAll, Act.put, List.setIfInBounds_toArray, List.set_cons_zero, List.set_cons_succ]; rfl)) (hJ1_3_5_7_9_11_16_18 (gb159) _ ⟨hHeld, (by (with_reducible repeat (first | refine blk_drewN ?_ _ | refine blk_drew ?_ | refine blk_alloc ?_ _)); exact BK150.out), (by (with_reducible repeat (first | refine blk_drewN ?_ _ | refine blk_drew ?_ | refine blk_alloc ?_ _)); exact BK159.out), GW159.out, GE159.out, NB150_159.out, NB159_150.out, (by repeat (first | (with_reducible first | exact HB.out | apply below_alloc | apply pw_below_drewN | apply below_drew1 | refine below_set ?_ GE150.out | refine below_set ?_ GE159.out) | exact HB.out))⟩)
        · skip
          rintro _ w17 ⟨hS_, h0_, h1_⟩
          have n0_ : Aside0 (w17.heap[gb150]? = some (.cells #[.string (⟨#[]⟩ : ByteArray), .int .i64 0, .int .i64 0, .int .i64 0, .int .i64 0, .int .i64 0, .int .u8 0, .string (⟨#[]⟩ : ByteArray)] 26 (0, 0))) := ⟨h0_⟩
          have n1_ : Aside0 (Below w.heap.size w w17) := ⟨h1_⟩
          clear BK150
          clear HB
          clear h0_ h1_
          have BK150 := n0_
          have HB := n1_
          clear n0_ n1_
          have hHeld : w17.cell? ⟨ad157.block, ad157.off + 156, none⟩ = some (.int .u8 (rd l0 156)) := hS_
          refine norm_ (a' := ?_) ?_ ?_
          rotate_left
          · simp only [putAll, Act.put, List.setIfInBounds_toArray, List.set_cons_zero, List.set_cons_succ]
            rfl
          refine one_ (i := 18) (N := some 5) #[true, true, true, true, true, true, true, true, true, true, true, true, true, true, true, true, true, true, true, false] rfl rfl (one_of HT_.out (by kernel_rfl)) (by decide) (fun K hK => ?_)
          refine box_step ?hg (N := 5) ?hd (cs := #[.string (⟨#[]⟩ : ByteArray), .int .i64 0, .int .i64 0, .int .i64 0, .int .i64 0, .int .i64 0, .int .u8 0, .string (⟨#[]⟩ : ByteArray)]) (t := 26) ?hr ?_; (case hd => rfl); (case hg => rfl); (case hr => first | (go_simp; done) | (go_simp; rfl))
          intro gb159 hg w18 hbox hb
          have n0_ := Aside0.mk (blk_below (g := gb150) (o := .cells #[.string (⟨#[]⟩ : ByteArray), .int .i64 0, .int .i64 0, .int .i64 0, .int .i64 0, .int .i64 0, .int .u8 0, .string (⟨#[]⟩ : ByteArray)] 26 (0, 0)) (by (with_reducible repeat (first | refine blk_drewN ?_ _ | refine blk_drew ?_ | refine blk_alloc ?_ _)); exact BK150.out) hb)
          have n1_ := Aside0.mk (below_step (by repeat (first | (with_reducible first | exact HB.out | apply below_alloc | apply pw_below_drewN | apply below_drew1 | refine below_set ?_ GE150.out) | exact HB.out)) hb)
          have n2_ := Aside0.mk (hbox)
          have n3_ := Aside0.mk ((by rw [hg]; exact (below_size (by repeat (first | (with_reducible first | exact HB.out | apply below_alloc | apply pw_below_drewN | apply below_drew1 | refine below_set ?_ GE150.out) | exact HB.out))) : w.heap.size ≤ gb159))
          have n4_ := Aside0.mk ((by rw [hg]; exact (below_size (by repeat (first | (with_reducible first | exact HB.out | apply below_alloc | apply pw_below_drewN | apply below_drew1 | refine below_set ?_ GE150.out) | exact HB.out))) : w.heap.size ≤ gb159))
          have n5_ := Aside0.mk ((by rw [hg]; exact Nat.ne_of_lt (blk_lt (g := gb150) (o := .cells #[.string (⟨#[]⟩ : ByteArray), .int .i64 0, .int .i64 0, .int .i64 0, .int .i64 0, .int .i64 0, .int .u8 0, .string (⟨#[]⟩ : ByteArray)] 26 (0, 0)) (by (with_reducible repeat (first | refine blk_drewN ?_ _ | refine blk_drew ?_ | refine blk_alloc ?_ _)); exact BK150.out)) : gb150 ≠ gb159))
          have n6_ := Aside0.mk ((by rw [hg]; exact Nat.ne_of_gt (blk_lt (g := gb150) (o := .cells #[.string (⟨#[]⟩ : ByteArray), .int .i64 0, .int .i64 0, .int .i64 0, .int .i64 0, .int .i64 0, .int .u8 0, .string (⟨#[]⟩ : ByteArray)] 26 (0, 0)) (by (with_reducible repeat (first | refine blk_drewN ?_ _ | refine blk_drew ?_ | refine blk_alloc ?_ _)); exact BK150.out)) : gb159 ≠ gb150))
          clear BK150
          clear HB
          have BK150 := n0_
          have HB := n1_
          have BK159 := n2_
          have GW159 := n3_
          have GE159 := n4_
          have NB150_159 := n5_
          have NB159_150 := n6_
          clear n0_ n1_ n2_ n3_ n4_ n5_ n6_
          clear hb hbox hg
          refine hK.out _ _ (((HB.out.cell (World.block_lt_of_cell? w _ hw157_0)).trans hw157_0)) (fun hHeld => ?_)
          clear hK K
          refine norm_ (a' := ?_) ?_ ?_
          rotate_left
          · show Act.put _ (some 5) _ = _
            simp only [Act.put, List.setIfInBounds_toArray, List.set_cons_zero, List.set_cons_succ, i64_w, i32_w]
            rfl
          exact norm_ (by first | (simp only [putAll, Act.put, List.setIfInBounds_toArray, List.set_cons_zero, List.set_cons_succ]; done) | (simp only [putAll, Act.put, List.setIfInBounds_toArray, List.set_cons_zero, List.set_cons_succ]; rfl)) (hJ1_3_5_7_9_11_16_18 (gb159) _ ⟨hHeld, (by (with_reducible repeat (first | refine blk_drewN ?_ _ | refine blk_drew ?_ | refine blk_alloc ?_ _)); exact BK150.out), (by (with_reducible repeat (first | refine blk_drewN ?_ _ | refine blk_drew ?_ | refine blk_alloc ?_ _)); exact BK159.out), GW159.out, GE159.out, NB150_159.out, NB159_150.out, (by repeat (first | (with_reducible first | exact HB.out | apply below_alloc | apply pw_below_drewN | apply below_drew1 | refine below_set ?_ GE150.out | refine below_set ?_ GE159.out) | exact HB.out))⟩)
      rintro gb159 w18 ⟨hS_, h0_, h1_, h2_, h3_, h4_, h5_, h6_⟩
      have n0_ : Aside0 (w18.heap[gb150]? = some (.cells #[.string (⟨#[]⟩ : ByteArray), .int .i64 0, .int .i64 0, .int .i64 0, .int .i64 0, .int .i64 0, .int .u8 0, .string (⟨#[]⟩ : ByteArray)] 26 (0, 0))) := ⟨h0_⟩
      have n1_ : Aside0 (w18.heap[gb159]? = some (.cells #[.string (⟨#[]⟩ : ByteArray), .int .i64 0, .int .i64 0, .int .i64 0, .int .i64 0, .int .i64 0, .int .u8 0, .string (⟨#[]⟩ : ByteArray)] 26 (0, 0))) := ⟨h1_⟩
      have n2_ : Aside0 (w.heap.size ≤ gb159) := ⟨h2_⟩
      have n3_ : Aside0 (w.heap.size ≤ gb159) := ⟨h3_⟩
      have n4_ : Aside0 (gb150 ≠ gb159) := ⟨h4_⟩
      have n5_ : Aside0 (gb159 ≠ gb150) := ⟨h5_⟩
      have n6_ : Aside0 (Below w.heap.size w w18) := ⟨h6_⟩
      clear BK150
      clear HB
      clear h0_ h1_ h2_ h3_ h4_ h5_ h6_
      have BK150 := n0_
      have BK159 := n1_
      have GW159 := n2_
      have GE159 := n3_
      have NB150_159 := n4_
      have NB159_150 := n5_
      have HB := n6_
      clear n0_ n1_ n2_ n3_ n4_ n5_ n6_
      have hHeld : w18.cell? ⟨ad157.block, ad157.off + 156, none⟩ = some (.int .u8 (rd l0 156)) := hS_
      refine norm_ (a' := ?_) ?_ ?_
      rotate_left
      · simp only [putAll, Act.put, List.setIfInBounds_toArray, List.set_cons_zero, List.set_cons_succ]
        rfl
      refine one_ (i := 19) (N := none) #[true, true, true, true, true, true, true, true, true, true, true, true, true, true, true, true, true, true, true, true] rfl rfl (one_of HT_.out (by kernel_rfl)) (by decide) (fun K hK => ?_)
      have hs19 : w18.cell? ⟨gb159, 0, none⟩ = some (.string (⟨#[]⟩ : ByteArray)) := (blk_cell BK159.out 0).trans rfl
      have hfs19 := blk_frozen BK159.out 0
      have hns19_0 := NB150_159.out
      have hms19_0 := NB159_150.out
      have hs20 : w18.cell? ⟨gb159, 1, none⟩ = some (.int .i64 0) := (blk_cell BK159.out 1).trans rfl
      have hfs20 := blk_frozen BK159.out 1
      have hns20_0 := NB150_159.out
      have hms20_0 := NB159_150.out
      have hs21 : w18.cell? ⟨gb159, 2, none⟩ = some (.int .i64 0) := (blk_cell BK159.out 2).trans rfl
      have hfs21 := blk_frozen BK159.out 2
      have hns21_0 := NB150_159.out
      have hms21_0 := NB159_150.out
      have hs22 : w18.cell? ⟨gb159, 3, none⟩ = some (.int .i64 0) := (blk_cell BK159.out 3).trans rfl
      have hfs22 := blk_frozen BK159.out 3
      have hns22_0 := NB150_159.out
      have hms22_0 := NB159_150.out
      have hs23 : w18.cell? ⟨gb159, 4, none⟩ = some (.int .i64 0) := (blk_cell BK159.out 4).trans rfl
      have hfs23 := blk_frozen BK159.out 4
      have hns23_0 := NB150_159.out
      have hms23_0 := NB159_150.out
      have hs24 : w18.cell? ⟨gb159, 5, none⟩ = some (.int .i64 0) := (blk_cell BK159.out 5).trans rfl
      have hfs24 := blk_frozen BK159.out 5
      have hns24_0 := NB150_159.out
      have hms24_0 := NB159_150.out
      have hs25 : w18.cell? ⟨gb159, 6, none⟩ = some (.int .u8 0) := (blk_cell BK159.out 6).trans rfl
      have hfs25 := blk_frozen BK159.out 6
      have hns25_0 := NB150_159.out
      have hms25_0 := NB159_150.out
      have hs26 : w18.cell? ⟨gb159, 7, none⟩ = some (.string (⟨#[]⟩ : ByteArray)) := (blk_cell BK159.out 7).trans rfl
      have hfs26 := blk_frozen BK159.out 7
      have hns26_0 := NB150_159.out
      have hms26_0 := NB159_150.out
      refine skip_ (w1 := ?_) (by rfl) rfl ?_ ?_
      rotate_left
      · go_simp
        rfl
      refine hK.out _ _ (((cell_far (p := ⟨gb159, _, none⟩) (by first | exact Nat.ne_of_lt (Nat.lt_of_lt_of_le (by have := World.block_lt_of_cell? _ _ hw157_0; first | rwa [add_block] at this | exact this) GW159.out) | (rw [add_block]; exact Nat.ne_of_lt (Nat.lt_of_lt_of_le (by have := World.block_lt_of_cell? _ _ hw157_0; first | rwa [add_block] at this | exact this) GW159.out)) | (show (Addr.add _ _).block ≠ _; rw [add_block]; exact Nat.ne_of_lt (Nat.lt_of_lt_of_le (by have := World.block_lt_of_cell? _ _ hw157_0; first | rwa [add_block] at this | exact this) GW159.out)) | (dsimp only; exact Nat.ne_of_lt (Nat.lt_of_lt_of_le (by have := World.block_lt_of_cell? _ _ hw157_0; first | rwa [add_block] at this | exact this) GW159.out))) _).trans (((cell_far (p := ⟨gb159, _, none⟩) (by first | exact Nat.ne_of_lt (Nat.lt_of_lt_of_le (by have := World.block_lt_of_cell? _ _ hw157_0; first | rwa [add_block] at this | exact this) GW159.out) | (rw [add_block]; exact Nat.ne_of_lt (Nat.lt_of_lt_of_le (by have := World.block_lt_of_cell? _ _ hw157_0; first | rwa [add_block] at this | exact this) GW159.out)) | (show (Addr.add _ _).block ≠ _; rw [add_block]; exact Nat.ne_of_lt (Nat.lt_of_lt_of_le (by have := World.block_lt_of_cell? _ _ hw157_0; first | rwa [add_block] at this | exact this) GW159.out)) | (dsimp only; exact Nat.ne_of_lt (Nat.lt_of_lt_of_le (by have := World.block_lt_of_cell? _ _ hw157_0; first | rwa [add_block] at this | exact this) GW159.out))) _).trans (((cell_far (p := ⟨gb159, _, none⟩) (by first | exact Nat.ne_of_lt (Nat.lt_of_lt_of_le (by have := World.block_lt_of_cell? _ _ hw157_0; first | rwa [add_block] at this | exact this) GW159.out) | (rw [add_block]; exact Nat.ne_of_lt (Nat.lt_of_lt_of_le (by have := World.block_lt_of_cell? _ _ hw157_0; first | rwa [add_block] at this | exact this) GW159.out)) | (show (Addr.add _ _).block ≠ _; rw [add_block]; exact Nat.ne_of_lt (Nat.lt_of_lt_of_le (by have := World.block_lt_of_cell? _ _ hw157_0; first | rwa [add_block] at this | exact this) GW159.out)) | (dsimp only; exact Nat.ne_of_lt (Nat.lt_of_lt_of_le (by have := World.block_lt_of_cell? _ _ hw157_0; first | rwa [add_block] at this | exact this) GW159.out))) _).trans (((cell_far (p := ⟨gb159, _, none⟩) (by first | exact Nat.ne_of_lt (Nat.lt_of_lt_of_le (by have := World.block_lt_of_cell? _ _ hw157_0; first | rwa [add_block] at this | exact this) GW159.out) | (rw [add_block]; exact Nat.ne_of_lt (Nat.lt_of_lt_of_le (by have := World.block_lt_of_cell? _ _ hw157_0; first | rwa [add_block] at this | exact this) GW159.out)) | (show (Addr.add _ _).block ≠ _; rw [add_block]; exact Nat.ne_of_lt (Nat.lt_of_lt_of_le (by have := World.block_lt_of_cell? _ _ hw157_0; first | rwa [add_block] at this | exact this) GW159.out)) | (dsimp only; exact Nat.ne_of_lt (Nat.lt_of_lt_of_le (by have := World.block_lt_of_cell? _ _ hw157_0; first | rwa [add_block] at this | exact this) GW159.out))) _).trans (((cell_far (p := ⟨gb159, _, none⟩) (by first | exact Nat.ne_of_lt (Nat.lt_of_lt_of_le (by have := World.block_lt_of_cell? _ _ hw157_0; first | rwa [add_block] at this | exact this) GW159.out) | (rw [add_block]; exact Nat.ne_of_lt (Nat.lt_of_lt_of_le (by have := World.block_lt_of_cell? _ _ hw157_0; first | rwa [add_block] at this | exact this) GW159.out)) | (show (Addr.add _ _).block ≠ _; rw [add_block]; exact Nat.ne_of_lt (Nat.lt_of_lt_of_le (by have := World.block_lt_of_cell? _ _ hw157_0; first | rwa [add_block] at this | exact this) GW159.out)) | (dsimp only; exact Nat.ne_of_lt (Nat.lt_of_lt_of_le (by have := World.block_lt_of_cell? _ _ hw157_0; first | rwa [add_block] at this | exact this) GW159.out))) _).trans (((cell_far (p := ⟨gb159, _, none⟩) (by first | exact Nat.ne_of_lt (Nat.lt_of_lt_of_le (by have := World.block_lt_of_cell? _ _ hw157_0; first | rwa [add_block] at this | exact this) GW159.out) | (rw [add_block]; exact Nat.ne_of_lt (Nat.lt_of_lt_of_le (by have := World.block_lt_of_cell? _ _ hw157_0; first | rwa [add_block] at this | exact this) GW159.out)) | (show (Addr.add _ _).block ≠ _; rw [add_block]; exact Nat.ne_of_lt (Nat.lt_of_lt_of_le (by have := World.block_lt_of_cell? _ _ hw157_0; first | rwa [add_block] at this | exact this) GW159.out)) | (dsimp only; exact Nat.ne_of_lt (Nat.lt_of_lt_of_le (by have := World.block_lt_of_cell? _ _ hw157_0; first | rwa [add_block] at this | exact this) GW159.out))) _).trans (((cell_far (p := ⟨gb159, _, none⟩) (by first | exact Nat.ne_of_lt (Nat.lt_of_lt_of_le (by have := World.block_lt_of_cell? _ _ hw157_0; first | rwa [add_block] at this | exact this) GW159.out) | (rw [add_block]; exact Nat.ne_of_lt (Nat.lt_of_lt_of_le (by have := World.block_lt_of_cell? _ _ hw157_0; first | rwa [add_block] at this | exact this) GW159.out)) | (show (Addr.add _ _).block ≠ _; rw [add_block]; exact Nat.ne_of_lt (Nat.lt_of_lt_of_le (by have := World.block_lt_of_cell? _ _ hw157_0; first | rwa [add_block] at this | exact this) GW159.out)) | (dsimp only; exact Nat.ne_of_lt (Nat.lt_of_lt_of_le (by have := World.block_lt_of_cell? _ _ hw157_0; first | rwa [add_block] at this | exact this) GW159.out))) _).trans (((cell_far (p := ⟨gb159, _, none⟩) (by first | exact Nat.ne_of_lt (Nat.lt_of_lt_of_le (by have := World.block_lt_of_cell? _ _ hw157_0; first | rwa [add_block] at this | exact this) GW159.out) | (rw [add_block]; exact Nat.ne_of_lt (Nat.lt_of_lt_of_le (by have := World.block_lt_of_cell? _ _ hw157_0; first | rwa [add_block] at this | exact this) GW159.out)) | (show (Addr.add _ _).block ≠ _; rw [add_block]; exact Nat.ne_of_lt (Nat.lt_of_lt_of_le (by have := World.block_lt_of_cell? _ _ hw157_0; first | rwa [add_block] at this | exact this) GW159.out)) | (dsimp only; exact Nat.ne_of_lt (Nat.lt_of_lt_of_le (by have := World.block_lt_of_cell? _ _ hw157_0; first | rwa [add_block] at this | exact this) GW159.out))) _).trans (hHeld))))))))))))))))) (fun hHeld => ?_)
      clear hK K
      refine done_ (done_of HT_.out (by kernel_rfl)) ?_
      go_upto_if 36 with (first | ((with_reducible refine gate_callee (f := 25) rfl ?_); refine goesL_ (some 34) rfl rfl Try.func25 (by kernel_rfl) rfl #[.slice (some ad157) l0.length c0, .int .i64 345, .int .i64 155] rfl (by (try simp only [List.map_toArray, List.map_cons, List.map_nil]); first | done | rfl | (simp only [List.length_drop, List.length_take]; rfl)) ?_; (with_reducible refine (ustar_block_text.calls _ _ l0 345 155 t160 _ ?side1 ?side2 A11.out).mono ?_); (case side1 => exact Kd.C_below HR0.out (by repeat (first | (with_reducible first | exact HB.out | apply below_alloc | apply pw_below_drewN | apply below_drew1 | refine below_set ?_ GE150.out | refine below_set ?_ GE159.out) | exact HB.out))); (case side2 => exact HC0.out); rintro e w27 ⟨rfl, hb⟩; refine ⟨_, rfl, ?_⟩; have n0_ := Aside0.mk (blk_below (g := gb150) (o := .cells #[.string (⟨#[]⟩ : ByteArray), .int .i64 0, .int .i64 0, .int .i64 0, .int .i64 0, .int .i64 0, .int .u8 0, .string (⟨#[]⟩ : ByteArray)] 26 (0, 0)) (by (with_reducible repeat (first | refine blk_drewN ?_ _ | refine blk_drew ?_ | refine blk_alloc ?_ _)); refine blk_far ?_ NB150_159.out _; (with_reducible repeat (first | refine blk_drewN ?_ _ | refine blk_drew ?_ | refine blk_alloc ?_ _)); refine blk_far ?_ NB150_159.out _; (with_reducible repeat (first | refine blk_drewN ?_ _ | refine blk_drew ?_ | refine blk_alloc ?_ _)); refine blk_far ?_ NB150_159.out _; (with_reducible repeat (first | refine blk_drewN ?_ _ | refine blk_drew ?_ | refine blk_alloc ?_ _)); refine blk_far ?_ NB150_159.out _; (with_reducible repeat (first | refine blk_drewN ?_ _ | refine blk_drew ?_ | refine blk_alloc ?_ _)); refine blk_far ?_ NB150_159.out _; (with_reducible repeat (first | refine blk_drewN ?_ _ | refine blk_drew ?_ | refine blk_alloc ?_ _)); refine blk_far ?_ NB150_159.out _; (with_reducible repeat (first | refine blk_drewN ?_ _ | refine blk_drew ?_ | refine blk_alloc ?_ _)); refine blk_far ?_ NB150_159.out _; (with_reducible repeat (first | refine blk_drewN ?_ _ | refine blk_drew ?_ | refine blk_alloc ?_ _)); refine blk_far ?_ NB150_159.out _; (with_reducible repeat (first | refine blk_drewN ?_ _ | refine blk_drew ?_ | refine blk_alloc ?_ _)); exact BK150.out) hb); have n1_ := Aside0.mk (blk_below (g := gb159) (o := .cells #[.string t151, .int .i64 t152, .int .i64 t153, .int .i64 t154, .int .i64 t155, .int .i64 t156, .int .u8 (rd l0 156), .string t158] 26 (0, 0)) (by (with_reducible repeat (first | refine blk_drewN ?_ _ | refine blk_drew ?_ | refine blk_alloc ?_ _)); refine blk_put (cs := #[.string t151, .int .i64 t152, .int .i64 t153, .int .i64 t154, .int .i64 t155, .int .i64 t156, .int .u8 (rd l0 156), .string (⟨#[]⟩ : ByteArray)]) ?_ 7 _ rfl; (with_reducible repeat (first | refine blk_drewN ?_ _ | refine blk_drew ?_ | refine blk_alloc ?_ _)); refine blk_put (cs := #[.string t151, .int .i64 t152, .int .i64 t153, .int .i64 t154, .int .i64 t155, .int .i64 t156, .int .u8 0, .string (⟨#[]⟩ : ByteArray)]) ?_ 6 _ rfl; (with_reducible repeat (first | refine blk_drewN ?_ _ | refine blk_drew ?_ | refine blk_alloc ?_ _)); refine blk_put (cs := #[.string t151, .int .i64 t152, .int .i64 t153, .int .i64 t154, .int .i64 t155, .int .i64 0, .int .u8 0, .string (⟨#[]⟩ : ByteArray)]) ?_ 5 _ rfl; (with_reducible repeat (first | refine blk_drewN ?_ _ | refine blk_drew ?_ | refine blk_alloc ?_ _)); refine blk_put (cs := #[.string t151, .int .i64 t152, .int .i64 t153, .int .i64 t154, .int .i64 0, .int .i64 0, .int .u8 0, .string (⟨#[]⟩ : ByteArray)]) ?_ 4 _ rfl; (with_reducible repeat (first | refine blk_drewN ?_ _ | refine blk_drew ?_ | refine blk_alloc ?_ _)); refine blk_put (cs := #[.string t151, .int .i64 t152, .int .i64 t153, .int .i64 0, .int .i64 0, .int .i64 0, .int .u8 0, .string (⟨#[]⟩ : ByteArray)]) ?_ 3 _ rfl; (with_reducible repeat (first | refine blk_drewN ?_ _ | refine blk_drew ?_ | refine blk_alloc ?_ _)); refine blk_put (cs := #[.string t151, .int .i64 t152, .int .i64 0, .int .i64 0, .int .i64 0, .int .i64 0, .int .u8 0, .string (⟨#[]⟩ : ByteArray)]) ?_ 2 _ rfl; (with_reducible repeat (first | refine blk_drewN ?_ _ | refine blk_drew ?_ | refine blk_alloc ?_ _)); refine blk_put (cs := #[.string t151, .int .i64 0, .int .i64 0, .int .i64 0, .int .i64 0, .int .i64 0, .int .u8 0, .string (⟨#[]⟩ : ByteArray)]) ?_ 1 _ rfl; (with_reducible repeat (first | refine blk_drewN ?_ _ | refine blk_drew ?_ | refine blk_alloc ?_ _)); refine blk_put (cs := #[.string (⟨#[]⟩ : ByteArray), .int .i64 0, .int .i64 0, .int .i64 0, .int .i64 0, .int .i64 0, .int .u8 0, .string (⟨#[]⟩ : ByteArray)]) ?_ 0 _ rfl; (with_reducible repeat (first | refine blk_drewN ?_ _ | refine blk_drew ?_ | refine blk_alloc ?_ _)); exact BK159.out) hb); have n2_ := Aside0.mk (below_step (by repeat (first | (with_reducible first | exact HB.out | apply below_alloc | apply pw_below_drewN | apply below_drew1 | refine below_set ?_ GE150.out | refine below_set ?_ GE159.out) | exact HB.out)) hb); clear BK150; clear BK159; clear HB; have BK150 := n0_; have BK159 := n1_; have HB := n2_; clear n0_ n1_ n2_; (try clear hb); (try clear hb2); (try clear hk); (try clear hi)))
      (try simp only [Act.put, List.setIfInBounds_toArray, List.set_cons_zero, List.set_cons_succ])
      go_cut [] (fun wc => ∃ (kq : Nat) (x160000_11 : ByteArray), Aside0 (ustar_Decode.j0 kq l0 x160000_11 t152 t153 t154 t155 t156 (rd l0 156) t158 = some (r1, r2, r3, r4, r5, r6, r7, r8, r9)) ∧ Aside0 (kq ≤ k) ∧ Aside0 (wc.heap[gb150]? = some (.cells #[.string (⟨#[]⟩ : ByteArray), .int .i64 0, .int .i64 0, .int .i64 0, .int .i64 0, .int .i64 0, .int .u8 0, .string (⟨#[]⟩ : ByteArray)] 26 (0, 0))) ∧ Aside0 (wc.heap[gb159]? = some (.cells #[.string x160000_11, .int .i64 t152, .int .i64 t153, .int .i64 t154, .int .i64 t155, .int .i64 t156, .int .u8 (rd l0 156), .string t158] 26 (0, 0))) ∧ Aside0 (Below w.heap.size w wc))
      case first =>
        have H := HC12.out
        clear HC12
        by_cases c28 : t160.toList = ([] : List UInt8)
        · rw [if_pos c28] at H
          have c28b0 : (t160.toList == ([] : List UInt8)) = true := beq_iff_eq.mpr c28
          have c28b1 : (t160.toList != ([] : List UInt8)) = false := bne_eq_false_iff_eq.mpr c28
          have c28b2 : t160.toList.isEmpty = true := List.isEmpty_iff.2 c28
          clear c28
          (try rw [c28b2])
          (try simp only [Bool.not_true, Bool.not_false])
          (first | rw [c28b0] | (simp only [i64_w, i32_w]; rw [c28b0]) | skip)
          have H' := Aside0.mk H
          clear H
          go_wp2
          go_meet
          case rel => exact ⟨_, (t151), H', ⟨by first | omega | exact Nat.le_refl _⟩, ⟨by (with_reducible repeat (first | refine blk_drewN ?_ _ | refine blk_drew ?_ | refine blk_alloc ?_ _)); exact BK150.out⟩, ⟨by (with_reducible repeat (first | refine blk_drewN ?_ _ | refine blk_drew ?_ | refine blk_alloc ?_ _)); exact BK159.out⟩, ⟨by repeat (first | (with_reducible first | exact HB.out | apply below_alloc | apply pw_below_drewN | apply below_drew1 | refine below_set ?_ GE150.out | refine below_set ?_ GE159.out) | exact HB.out)⟩⟩
        · rw [if_neg c28] at H
          have c28b0 : (t160.toList == ([] : List UInt8)) = false := beq_eq_false_iff_ne.mpr c28
          have c28b1 : (t160.toList != ([] : List UInt8)) = true := bne_iff_ne.mpr c28
          have c28b2 : t160.toList.isEmpty = false := Bool.eq_false_iff.2 (fun h_ => c28 (List.isEmpty_iff.1 h_))
          (try rw [c28b2])
          (try simp only [Bool.not_true, Bool.not_false])
          (first | rw [c28b0] | (simp only [i64_w, i32_w]; rw [c28b0]) | skip)
          by_cases c29 : t160.size + 1 ≤ 9223372036854775807
          · rw [if_pos c29] at H
            have c29b0 := eq_true c29
            have c29b1 : decide (t160.size + 1 ≤ 9223372036854775807) = true := decide_eq_true c29
            try have c29b2 : (9223372036854775807 < t160.size + 1) = False := eq_false (Nat.not_lt.2 c29)
            by_cases c30 : (t160 ++ (⟨#[47]⟩ : ByteArray)).size + t151.size ≤ 9223372036854775807
            · rw [if_pos c30] at H
              have c30b0 := eq_true c30
              have c30b1 : decide ((t160 ++ (⟨#[47]⟩ : ByteArray)).size + t151.size ≤ 9223372036854775807) = true := decide_eq_true c30
              try have c30b2 : (9223372036854775807 < (t160 ++ (⟨#[47]⟩ : ByteArray)).size + t151.size) = False := eq_false (Nat.not_lt.2 c30)
              have H' := Aside0.mk H
              clear H
              have hnb31 := NB159_150.out
              have hnc31 := NB150_159.out
              have hcz32_0 : w27.cell? ⟨gb159, 0, none⟩ = some (.string t151) := (blk_cell BK159.out 0).trans rfl
              have hcz32_1 : w27.cell? ⟨gb159, 1, none⟩ = some (.int .i64 t152) := (blk_cell BK159.out 1).trans rfl
              have hcz32_2 : w27.cell? ⟨gb159, 2, none⟩ = some (.int .i64 t153) := (blk_cell BK159.out 2).trans rfl
              have hcz32_3 : w27.cell? ⟨gb159, 3, none⟩ = some (.int .i64 t154) := (blk_cell BK159.out 3).trans rfl
              have hcz32_4 : w27.cell? ⟨gb159, 4, none⟩ = some (.int .i64 t155) := (blk_cell BK159.out 4).trans rfl
              have hcz32_5 : w27.cell? ⟨gb159, 5, none⟩ = some (.int .i64 t156) := (blk_cell BK159.out 5).trans rfl
              have hcz32_6 : w27.cell? ⟨gb159, 6, none⟩ = some (.int .u8 (rd l0 156)) := (blk_cell BK159.out 6).trans rfl
              have hcz32_7 : w27.cell? ⟨gb159, 7, none⟩ = some (.string t158) := (blk_cell BK159.out 7).trans rfl
              have hfz32_0 := blk_frozen BK159.out 0
              have hfz32_1 := blk_frozen BK159.out 1
              have hfz32_2 := blk_frozen BK159.out 2
              have hfz32_3 := blk_frozen BK159.out 3
              have hfz32_4 := blk_frozen BK159.out 4
              have hfz32_5 := blk_frozen BK159.out 5
              have hfz32_6 := blk_frozen BK159.out 6
              have hfz32_7 := blk_frozen BK159.out 7
              go_wp2
              go_meet
              case rel => exact ⟨_, ((t160 ++ (⟨#[47]⟩ : ByteArray)) ++ t151), H', ⟨by first | omega | exact Nat.le_refl _⟩, ⟨by (with_reducible repeat (first | refine blk_drewN ?_ _ | refine blk_drew ?_ | refine blk_alloc ?_ _)); refine blk_far ?_ NB150_159.out _; (with_reducible repeat (first | refine blk_drewN ?_ _ | refine blk_drew ?_ | refine blk_alloc ?_ _)); exact BK150.out⟩, ⟨by (with_reducible repeat (first | refine blk_drewN ?_ _ | refine blk_drew ?_ | refine blk_alloc ?_ _)); refine blk_put (cs := #[.string t151, .int .i64 t152, .int .i64 t153, .int .i64 t154, .int .i64 t155, .int .i64 t156, .int .u8 (rd l0 156), .string t158]) ?_ 0 _ rfl; (with_reducible repeat (first | refine blk_drewN ?_ _ | refine blk_drew ?_ | refine blk_alloc ?_ _)); exact BK159.out⟩, ⟨by repeat (first | (with_reducible first | exact HB.out | apply below_alloc | apply pw_below_drewN | apply below_drew1 | refine below_set ?_ GE150.out | refine below_set ?_ GE159.out) | exact HB.out)⟩⟩
            · rw [if_neg c30] at H
              exact absurd H (by simp)
          · rw [if_neg c29] at H
            exact absurd H (by simp)
      case rest =>
        clear HC12
        try clear c2
        try clear p2
        try clear c3
        try clear c25
        try clear c26
        try clear c28
        try clear c28b0
        try clear c28b1
        try clear c29
        try clear c29b0
        try clear c29b1
        try clear c29b2
        try clear c30
        try clear c30b0
        try clear c30b1
        try clear c30b2
        try clear c31
        try clear hcz32_0
        try clear hcz32_1
        try clear hcz32_2
        try clear hcz32_3
        try clear hcz32_4
        try clear hcz32_5
        try clear hcz32_6
        try clear hcz32_7
        try clear hfz32_0
        try clear hfz32_1
        try clear hfz32_2
        try clear hfz32_3
        try clear hfz32_4
        try clear hfz32_5
        try clear hfz32_6
        try clear hfz32_7
        obtain ⟨kq, x160000_11, HA, HJ11, BK150, BK159, HB⟩ := hcut
        cases kq with
        | zero => exact absurd HA.out (by simp [ustar_Decode.j0])
        | succ kj11 =>
          have H := HA.out
          clear HA
          simp only [ustar_Decode.j0] at H
          replace H := Option.bind_eq_some_iff.mp H
          obtain ⟨⟨t161, t164⟩, A330, H⟩ := H
          replace H : (if t164.isNone = true then ((bytes_Equal.f t161 l0).bind fun t166 => (if t166 = true then (some (x160000_11, t152, t153, t154, t155, t156, (rd l0 156), t158, none)) else (some ((⟨#[]⟩ : ByteArray), 0, 0, 0, 0, 0, 0, (⟨#[]⟩ : ByteArray), some 14)))) else (some ((⟨#[]⟩ : ByteArray), 0, 0, 0, 0, 0, 0, (⟨#[]⟩ : ByteArray), some 14))) = some (r1, r2, r3, r4, r5, r6, r7, r8, r9) := H
          have A33 := Aside0.mk A330
          clear A330
          rcases t164 with _ | q165
          · have H1 : ((bytes_Equal.f t161 l0).bind fun t166 => (if t166 = true then (some (x160000_11, t152, t153, t154, t155, t156, (rd l0 156), t158, none)) else (some ((⟨#[]⟩ : ByteArray), 0, 0, 0, 0, 0, 0, (⟨#[]⟩ : ByteArray), some 14)))) = some (r1, r2, r3, r4, r5, r6, r7, r8, r9) := by rw [if_pos (show (none : Option Int).isNone = true by rfl)] at H; exact H
            clear H
            have H := H1
            clear H1
            try simp only [errW_none, errW_some]
            replace H := Option.bind_eq_some_iff.mp H
            obtain ⟨t166, A340, H⟩ := H
            replace H : (if t166 = true then (some (x160000_11, t152, t153, t154, t155, t156, (rd l0 156), t158, none)) else (some ((⟨#[]⟩ : ByteArray), 0, 0, 0, 0, 0, 0, (⟨#[]⟩ : ByteArray), some 14))) = some (r1, r2, r3, r4, r5, r6, r7, r8, r9) := H
            have A34 := Aside0.mk A340
            clear A340
            by_cases c35 : t166 = true
            · subst c35
              have H1 : (some (x160000_11, t152, t153, t154, t155, t156, (rd l0 156), t158, none)) = some (r1, r2, r3, r4, r5, r6, r7, r8, r9) := by rw [if_pos rfl] at H; exact H
              clear H
              have H := H1
              clear H1
              simp only [Option.some.injEq, Prod.mk.injEq] at H
              obtain ⟨rfl, rfl, rfl, rfl, rfl, rfl, rfl, rfl, rfl⟩ := H
              have hnb36 := NB159_150.out
              have hnc36 := NB150_159.out
              have hcz37_0 : wc.cell? ⟨gb159, 0, none⟩ = some (.string x160000_11) := (blk_cell BK159.out 0).trans rfl
              have hcz37_1 : wc.cell? ⟨gb159, 1, none⟩ = some (.int .i64 t152) := (blk_cell BK159.out 1).trans rfl
              have hcz37_2 : wc.cell? ⟨gb159, 2, none⟩ = some (.int .i64 t153) := (blk_cell BK159.out 2).trans rfl
              have hcz37_3 : wc.cell? ⟨gb159, 3, none⟩ = some (.int .i64 t154) := (blk_cell BK159.out 3).trans rfl
              have hcz37_4 : wc.cell? ⟨gb159, 4, none⟩ = some (.int .i64 t155) := (blk_cell BK159.out 4).trans rfl
              have hcz37_5 : wc.cell? ⟨gb159, 5, none⟩ = some (.int .i64 t156) := (blk_cell BK159.out 5).trans rfl
              have hcz37_6 : wc.cell? ⟨gb159, 6, none⟩ = some (.int .u8 (rd l0 156)) := (blk_cell BK159.out 6).trans rfl
              have hcz37_7 : wc.cell? ⟨gb159, 7, none⟩ = some (.string t158) := (blk_cell BK159.out 7).trans rfl
              have hfz37_0 := blk_frozen BK159.out 0
              have hfz37_1 := blk_frozen BK159.out 1
              have hfz37_2 := blk_frozen BK159.out 2
              have hfz37_3 := blk_frozen BK159.out 3
              have hfz37_4 := blk_frozen BK159.out 4
              have hfz37_5 := blk_frozen BK159.out 5
              have hfz37_6 := blk_frozen BK159.out 6
              have hfz37_7 := blk_frozen BK159.out 7
              go_wp2_with (first | ((with_reducible refine gate_callee (f := 14) rfl ?_); refine goesL_ (some 45) rfl rfl Try.func14 (by kernel_rfl) rfl #[.agg #[.string x160000_11, .int .i64 t152, .int .i64 t153, .int .i64 t154, .int .i64 t155, .int .i64 t156, .int .u8 (rd l0 156), .string t158]] rfl (by (try simp only [List.map_toArray, List.map_cons, List.map_nil]); first | done | rfl | (simp only [List.length_drop, List.length_take]; rfl)) ?_; (with_reducible refine (ustar_Encode.calls kj11 x160000_11 t152 t153 t154 t155 t156 (rd l0 156) t158 t161 none _ A33.out).mono ?_); rintro e w38 ⟨v162, rfl, ho0, hb⟩; refine ⟨_, rfl, ?_⟩; have n0_ := Aside0.mk (Kd.R_lower ho0 (below_size (by repeat (first | (with_reducible first | exact HB.out | apply below_alloc | apply pw_below_drewN | apply below_drew1 | refine below_set ?_ GE150.out | refine below_set ?_ GE159.out) | exact HB.out)))); have n1_ := Aside0.mk (blk_below (g := gb150) (o := .cells #[.string (⟨#[]⟩ : ByteArray), .int .i64 0, .int .i64 0, .int .i64 0, .int .i64 0, .int .i64 0, .int .u8 0, .string (⟨#[]⟩ : ByteArray)] 26 (0, 0)) (by (with_reducible repeat (first | refine blk_drewN ?_ _ | refine blk_drew ?_ | refine blk_alloc ?_ _)); exact BK150.out) hb); have n2_ := Aside0.mk (blk_below (g := gb159) (o := .cells #[.string x160000_11, .int .i64 t152, .int .i64 t153, .int .i64 t154, .int .i64 t155, .int .i64 t156, .int .u8 (rd l0 156), .string t158] 26 (0, 0)) (by (with_reducible repeat (first | refine blk_drewN ?_ _ | refine blk_drew ?_ | refine blk_alloc ?_ _)); exact BK159.out) hb); have n3_ := Aside0.mk (below_step (by repeat (first | (with_reducible first | exact HB.out | apply below_alloc | apply pw_below_drewN | apply below_drew1 | refine below_set ?_ GE150.out | refine below_set ?_ GE159.out) | exact HB.out)) hb); clear BK150; clear BK159; clear HB; have HO163 := n0_; have BK150 := n1_; have BK159 := n2_; have HB := n3_; clear n0_ n1_ n2_ n3_; (try clear hb); (try clear hb2); (try clear hk); (try clear hi); (try clear ho0); (try simp only [errW_none, errW_some]); obtain ⟨Ao39, co39, eo39⟩ := Kd.R_slice HO163.out; subst eo39) | (go_at_call 27; (with_reducible refine (bytes_Equal.calls _ _ t161 _ _ l0 true _ ?side1 ?side2 ?side3 ?side4 A34.out).mono ?_); (case side1 => repeat (first | exact (Kd.R_reads' HO163.out).2.2 | (with_reducible refine Kd.C_alloc ?_ _) | (with_reducible refine Kd.C_drewN ?_ _) | (with_reducible refine Kd.C_drew ?_))); (case side2 => exact (Kd.R_reads' HO163.out).2.1); (case side3 => repeat (first | exact (Kd.C_below HR0.out HB.out) | (with_reducible refine Kd.C_alloc ?_ _) | (with_reducible refine Kd.C_drewN ?_ _) | (with_reducible refine Kd.C_drew ?_))); (case side4 => exact HC0.out); rintro e w' ⟨rfl, ⟨nd, rfl⟩⟩; (try (rw [drewN_self w38]; generalize hq_ : World.drewN w38 _ = w38; have n0_ : Aside0 (Kd.R (Kd.int .u8) 5 w38 w.heap.size (fun _ => True) (.slice Ao39 t161.length co39) t161) := ⟨by rw [← hq_]; exact (by (with_reducible repeat (first | apply Kd.R_alloc | apply Kd.R_drewN | apply Kd.R_drew)); exact HO163.out)⟩; have n1_ : Aside0 (w38.heap[gb150]? = some (.cells #[.string (⟨#[]⟩ : ByteArray), .int .i64 0, .int .i64 0, .int .i64 0, .int .i64 0, .int .i64 0, .int .u8 0, .string (⟨#[]⟩ : ByteArray)] 26 (0, 0))) := ⟨by rw [← hq_]; exact (by (with_reducible repeat (first | refine blk_drewN ?_ _ | refine blk_drew ?_ | refine blk_alloc ?_ _)); exact BK150.out)⟩; have n2_ : Aside0 (w38.heap[gb159]? = some (.cells #[.string x160000_11, .int .i64 t152, .int .i64 t153, .int .i64 t154, .int .i64 t155, .int .i64 t156, .int .u8 (rd l0 156), .string t158] 26 (0, 0))) := ⟨by rw [← hq_]; exact (by (with_reducible repeat (first | refine blk_drewN ?_ _ | refine blk_drew ?_ | refine blk_alloc ?_ _)); exact BK159.out)⟩; have n3_ : Aside0 (Below w.heap.size w w38) := ⟨by rw [← hq_]; exact (by repeat (first | (with_reducible first | exact HB.out | apply below_alloc | apply pw_below_drewN | apply below_drew1 | refine below_set ?_ GE150.out | refine below_set ?_ GE159.out) | exact HB.out))⟩; clear HO163 BK150 BK159 HB hq_; have HO163 := n0_; have BK150 := n1_; have BK159 := n2_; have HB := n3_; clear n0_ n1_ n2_ n3_)); have hcz40_0 : w38.cell? ⟨gb159, 0, none⟩ = some (.string x160000_11) := (blk_cell BK159.out 0).trans rfl; have hcz40_1 : w38.cell? ⟨gb159, 1, none⟩ = some (.int .i64 t152) := (blk_cell BK159.out 1).trans rfl; have hcz40_2 : w38.cell? ⟨gb159, 2, none⟩ = some (.int .i64 t153) := (blk_cell BK159.out 2).trans rfl; have hcz40_3 : w38.cell? ⟨gb159, 3, none⟩ = some (.int .i64 t154) := (blk_cell BK159.out 3).trans rfl; have hcz40_4 : w38.cell? ⟨gb159, 4, none⟩ = some (.int .i64 t155) := (blk_cell BK159.out 4).trans rfl; have hcz40_5 : w38.cell? ⟨gb159, 5, none⟩ = some (.int .i64 t156) := (blk_cell BK159.out 5).trans rfl; have hcz40_6 : w38.cell? ⟨gb159, 6, none⟩ = some (.int .u8 (rd l0 156)) := (blk_cell BK159.out 6).trans rfl; have hcz40_7 : w38.cell? ⟨gb159, 7, none⟩ = some (.string t158) := (blk_cell BK159.out 7).trans rfl; have hfz40_0 := blk_frozen BK159.out 0; have hfz40_1 := blk_frozen BK159.out 1; have hfz40_2 := blk_frozen BK159.out 2; have hfz40_3 := blk_frozen BK159.out 3; have hfz40_4 := blk_frozen BK159.out 4; have hfz40_5 := blk_frozen BK159.out 5; have hfz40_6 := blk_frozen BK159.out 6; have hfz40_7 := blk_frozen BK159.out 7; have hcz41_0 : w38.cell? ⟨gb150, 0, none⟩ = some (.string (⟨#[]⟩ : ByteArray)) := (blk_cell BK150.out 0).trans rfl; have hcz41_1 : w38.cell? ⟨gb150, 1, none⟩ = some (.int .i64 0) := (blk_cell BK150.out 1).trans rfl; have hcz41_2 : w38.cell? ⟨gb150, 2, none⟩ = some (.int .i64 0) := (blk_cell BK150.out 2).trans rfl; have hcz41_3 : w38.cell? ⟨gb150, 3, none⟩ = some (.int .i64 0) := (blk_cell BK150.out 3).trans rfl; have hcz41_4 : w38.cell? ⟨gb150, 4, none⟩ = some (.int .i64 0) := (blk_cell BK150.out 4).trans rfl; have hcz41_5 : w38.cell? ⟨gb150, 5, none⟩ = some (.int .i64 0) := (blk_cell BK150.out 5).trans rfl; have hcz41_6 : w38.cell? ⟨gb150, 6, none⟩ = some (.int .u8 0) := (blk_cell BK150.out 6).trans rfl; have hcz41_7 : w38.cell? ⟨gb150, 7, none⟩ = some (.string (⟨#[]⟩ : ByteArray)) := (blk_cell BK150.out 7).trans rfl; have hfz41_0 := blk_frozen BK150.out 0; have hfz41_1 := blk_frozen BK150.out 1; have hfz41_2 := blk_frozen BK150.out 2; have hfz41_3 := blk_frozen BK150.out 3; have hfz41_4 := blk_frozen BK150.out 4; have hfz41_5 := blk_frozen BK150.out 5; have hfz41_6 := blk_frozen BK150.out 6; have hfz41_7 := blk_frozen BK150.out 7))
              refine bodyPost_ret (results_ct rfl _ _ gb150 26 #[.string x160000_11, .int .i64 t152, .int .i64 t153, .int .i64 t154, .int .i64 t155, .int .i64 t156, .int .u8 (rd l0 156), .string t158] (0, 0) _ rfl (by (with_reducible repeat (first | refine blk_drewN ?_ _ | refine blk_drew ?_ | refine blk_alloc ?_ _)); refine blk_put (cs := #[.string x160000_11, .int .i64 t152, .int .i64 t153, .int .i64 t154, .int .i64 t155, .int .i64 t156, .int .u8 (rd l0 156), .string (⟨#[]⟩ : ByteArray)]) ?_ 7 _ rfl; (with_reducible repeat (first | refine blk_drewN ?_ _ | refine blk_drew ?_ | refine blk_alloc ?_ _)); refine blk_put (cs := #[.string x160000_11, .int .i64 t152, .int .i64 t153, .int .i64 t154, .int .i64 t155, .int .i64 t156, .int .u8 0, .string (⟨#[]⟩ : ByteArray)]) ?_ 6 _ rfl; (with_reducible repeat (first | refine blk_drewN ?_ _ | refine blk_drew ?_ | refine blk_alloc ?_ _)); refine blk_put (cs := #[.string x160000_11, .int .i64 t152, .int .i64 t153, .int .i64 t154, .int .i64 t155, .int .i64 0, .int .u8 0, .string (⟨#[]⟩ : ByteArray)]) ?_ 5 _ rfl; (with_reducible repeat (first | refine blk_drewN ?_ _ | refine blk_drew ?_ | refine blk_alloc ?_ _)); refine blk_put (cs := #[.string x160000_11, .int .i64 t152, .int .i64 t153, .int .i64 t154, .int .i64 0, .int .i64 0, .int .u8 0, .string (⟨#[]⟩ : ByteArray)]) ?_ 4 _ rfl; (with_reducible repeat (first | refine blk_drewN ?_ _ | refine blk_drew ?_ | refine blk_alloc ?_ _)); refine blk_put (cs := #[.string x160000_11, .int .i64 t152, .int .i64 t153, .int .i64 0, .int .i64 0, .int .i64 0, .int .u8 0, .string (⟨#[]⟩ : ByteArray)]) ?_ 3 _ rfl; (with_reducible repeat (first | refine blk_drewN ?_ _ | refine blk_drew ?_ | refine blk_alloc ?_ _)); refine blk_put (cs := #[.string x160000_11, .int .i64 t152, .int .i64 0, .int .i64 0, .int .i64 0, .int .i64 0, .int .u8 0, .string (⟨#[]⟩ : ByteArray)]) ?_ 2 _ rfl; (with_reducible repeat (first | refine blk_drewN ?_ _ | refine blk_drew ?_ | refine blk_alloc ?_ _)); refine blk_put (cs := #[.string x160000_11, .int .i64 0, .int .i64 0, .int .i64 0, .int .i64 0, .int .i64 0, .int .u8 0, .string (⟨#[]⟩ : ByteArray)]) ?_ 1 _ rfl; (with_reducible repeat (first | refine blk_drewN ?_ _ | refine blk_drew ?_ | refine blk_alloc ?_ _)); refine blk_put (cs := #[.string (⟨#[]⟩ : ByteArray), .int .i64 0, .int .i64 0, .int .i64 0, .int .i64 0, .int .i64 0, .int .u8 0, .string (⟨#[]⟩ : ByteArray)]) ?_ 0 _ rfl; (with_reducible repeat (first | refine blk_drewN ?_ _ | refine blk_drew ?_ | refine blk_alloc ?_ _)); exact BK150.out) Try.underlying26 rfl (by kernel_rfl)) rfl ?_
              exact ⟨by first | rfl | (simp [errW_none, errW_some] <;> rfl) | (simp [*, errW_none, errW_some] <;> rfl), by repeat (first | (with_reducible first | exact HB.out | apply below_alloc | apply pw_below_drewN | apply below_drew1 | refine below_set ?_ GE150.out | refine below_set ?_ GE159.out) | exact HB.out)⟩
            · replace c35 := Bool.eq_false_iff.mpr c35
              subst c35
              have H1 : (some ((⟨#[]⟩ : ByteArray), 0, 0, 0, 0, 0, 0, (⟨#[]⟩ : ByteArray), some 14)) = some (r1, r2, r3, r4, r5, r6, r7, r8, r9) := by rw [if_neg (show ¬ (false = true) by decide)] at H; exact H
              clear H
              have H := H1
              clear H1
              simp only [Option.some.injEq, Prod.mk.injEq] at H
              obtain ⟨rfl, rfl, rfl, rfl, rfl, rfl, rfl, rfl, rfl⟩ := H
              have hnb42 := NB159_150.out
              have hnc42 := NB150_159.out
              have hcz43_0 : wc.cell? ⟨gb159, 0, none⟩ = some (.string x160000_11) := (blk_cell BK159.out 0).trans rfl
              have hcz43_1 : wc.cell? ⟨gb159, 1, none⟩ = some (.int .i64 t152) := (blk_cell BK159.out 1).trans rfl
              have hcz43_2 : wc.cell? ⟨gb159, 2, none⟩ = some (.int .i64 t153) := (blk_cell BK159.out 2).trans rfl
              have hcz43_3 : wc.cell? ⟨gb159, 3, none⟩ = some (.int .i64 t154) := (blk_cell BK159.out 3).trans rfl
              have hcz43_4 : wc.cell? ⟨gb159, 4, none⟩ = some (.int .i64 t155) := (blk_cell BK159.out 4).trans rfl
              have hcz43_5 : wc.cell? ⟨gb159, 5, none⟩ = some (.int .i64 t156) := (blk_cell BK159.out 5).trans rfl
              have hcz43_6 : wc.cell? ⟨gb159, 6, none⟩ = some (.int .u8 (rd l0 156)) := (blk_cell BK159.out 6).trans rfl
              have hcz43_7 : wc.cell? ⟨gb159, 7, none⟩ = some (.string t158) := (blk_cell BK159.out 7).trans rfl
              have hfz43_0 := blk_frozen BK159.out 0
              have hfz43_1 := blk_frozen BK159.out 1
              have hfz43_2 := blk_frozen BK159.out 2
              have hfz43_3 := blk_frozen BK159.out 3
              have hfz43_4 := blk_frozen BK159.out 4
              have hfz43_5 := blk_frozen BK159.out 5
              have hfz43_6 := blk_frozen BK159.out 6
              have hfz43_7 := blk_frozen BK159.out 7
              go_wp2_with (first | ((with_reducible refine gate_callee (f := 14) rfl ?_); refine goesL_ (some 45) rfl rfl Try.func14 (by kernel_rfl) rfl #[.agg #[.string x160000_11, .int .i64 t152, .int .i64 t153, .int .i64 t154, .int .i64 t155, .int .i64 t156, .int .u8 (rd l0 156), .string t158]] rfl (by (try simp only [List.map_toArray, List.map_cons, List.map_nil]); first | done | rfl | (simp only [List.length_drop, List.length_take]; rfl)) ?_; (with_reducible refine (ustar_Encode.calls kj11 x160000_11 t152 t153 t154 t155 t156 (rd l0 156) t158 t161 none _ A33.out).mono ?_); rintro e w44 ⟨v162, rfl, ho0, hb⟩; refine ⟨_, rfl, ?_⟩; have n0_ := Aside0.mk (Kd.R_lower ho0 (below_size (by repeat (first | (with_reducible first | exact HB.out | apply below_alloc | apply pw_below_drewN | apply below_drew1 | refine below_set ?_ GE150.out | refine below_set ?_ GE159.out) | exact HB.out)))); have n1_ := Aside0.mk (blk_below (g := gb150) (o := .cells #[.string (⟨#[]⟩ : ByteArray), .int .i64 0, .int .i64 0, .int .i64 0, .int .i64 0, .int .i64 0, .int .u8 0, .string (⟨#[]⟩ : ByteArray)] 26 (0, 0)) (by (with_reducible repeat (first | refine blk_drewN ?_ _ | refine blk_drew ?_ | refine blk_alloc ?_ _)); exact BK150.out) hb); have n2_ := Aside0.mk (blk_below (g := gb159) (o := .cells #[.string x160000_11, .int .i64 t152, .int .i64 t153, .int .i64 t154, .int .i64 t155, .int .i64 t156, .int .u8 (rd l0 156), .string t158] 26 (0, 0)) (by (with_reducible repeat (first | refine blk_drewN ?_ _ | refine blk_drew ?_ | refine blk_alloc ?_ _)); exact BK159.out) hb); have n3_ := Aside0.mk (below_step (by repeat (first | (with_reducible first | exact HB.out | apply below_alloc | apply pw_below_drewN | apply below_drew1 | refine below_set ?_ GE150.out | refine below_set ?_ GE159.out) | exact HB.out)) hb); clear BK150; clear BK159; clear HB; have HO163 := n0_; have BK150 := n1_; have BK159 := n2_; have HB := n3_; clear n0_ n1_ n2_ n3_; (try clear hb); (try clear hb2); (try clear hk); (try clear hi); (try clear ho0); (try simp only [errW_none, errW_some]); obtain ⟨Ao45, co45, eo45⟩ := Kd.R_slice HO163.out; subst eo45) | (go_at_call 27; (with_reducible refine (bytes_Equal.calls _ _ t161 _ _ l0 false _ ?side1 ?side2 ?side3 ?side4 A34.out).mono ?_); (case side1 => repeat (first | exact (Kd.R_reads' HO163.out).2.2 | (with_reducible refine Kd.C_alloc ?_ _) | (with_reducible refine Kd.C_drewN ?_ _) | (with_reducible refine Kd.C_drew ?_))); (case side2 => exact (Kd.R_reads' HO163.out).2.1); (case side3 => repeat (first | exact (Kd.C_below HR0.out HB.out) | (with_reducible refine Kd.C_alloc ?_ _) | (with_reducible refine Kd.C_drewN ?_ _) | (with_reducible refine Kd.C_drew ?_))); (case side4 => exact HC0.out); rintro e w' ⟨rfl, ⟨nd, rfl⟩⟩; (try (rw [drewN_self w44]; generalize hq_ : World.drewN w44 _ = w44; have n0_ : Aside0 (Kd.R (Kd.int .u8) 5 w44 w.heap.size (fun _ => True) (.slice Ao45 t161.length co45) t161) := ⟨by rw [← hq_]; exact (by (with_reducible repeat (first | apply Kd.R_alloc | apply Kd.R_drewN | apply Kd.R_drew)); exact HO163.out)⟩; have n1_ : Aside0 (w44.heap[gb150]? = some (.cells #[.string (⟨#[]⟩ : ByteArray), .int .i64 0, .int .i64 0, .int .i64 0, .int .i64 0, .int .i64 0, .int .u8 0, .string (⟨#[]⟩ : ByteArray)] 26 (0, 0))) := ⟨by rw [← hq_]; exact (by (with_reducible repeat (first | refine blk_drewN ?_ _ | refine blk_drew ?_ | refine blk_alloc ?_ _)); exact BK150.out)⟩; have n2_ : Aside0 (w44.heap[gb159]? = some (.cells #[.string x160000_11, .int .i64 t152, .int .i64 t153, .int .i64 t154, .int .i64 t155, .int .i64 t156, .int .u8 (rd l0 156), .string t158] 26 (0, 0))) := ⟨by rw [← hq_]; exact (by (with_reducible repeat (first | refine blk_drewN ?_ _ | refine blk_drew ?_ | refine blk_alloc ?_ _)); exact BK159.out)⟩; have n3_ : Aside0 (Below w.heap.size w w44) := ⟨by rw [← hq_]; exact (by repeat (first | (with_reducible first | exact HB.out | apply below_alloc | apply pw_below_drewN | apply below_drew1 | refine below_set ?_ GE150.out | refine below_set ?_ GE159.out) | exact HB.out))⟩; clear HO163 BK150 BK159 HB hq_; have HO163 := n0_; have BK150 := n1_; have BK159 := n2_; have HB := n3_; clear n0_ n1_ n2_ n3_)); have hcz46_0 : w44.cell? ⟨gb150, 0, none⟩ = some (.string (⟨#[]⟩ : ByteArray)) := (blk_cell BK150.out 0).trans rfl; have hcz46_1 : w44.cell? ⟨gb150, 1, none⟩ = some (.int .i64 0) := (blk_cell BK150.out 1).trans rfl; have hcz46_2 : w44.cell? ⟨gb150, 2, none⟩ = some (.int .i64 0) := (blk_cell BK150.out 2).trans rfl; have hcz46_3 : w44.cell? ⟨gb150, 3, none⟩ = some (.int .i64 0) := (blk_cell BK150.out 3).trans rfl; have hcz46_4 : w44.cell? ⟨gb150, 4, none⟩ = some (.int .i64 0) := (blk_cell BK150.out 4).trans rfl; have hcz46_5 : w44.cell? ⟨gb150, 5, none⟩ = some (.int .i64 0) := (blk_cell BK150.out 5).trans rfl; have hcz46_6 : w44.cell? ⟨gb150, 6, none⟩ = some (.int .u8 0) := (blk_cell BK150.out 6).trans rfl; have hcz46_7 : w44.cell? ⟨gb150, 7, none⟩ = some (.string (⟨#[]⟩ : ByteArray)) := (blk_cell BK150.out 7).trans rfl; have hfz46_0 := blk_frozen BK150.out 0; have hfz46_1 := blk_frozen BK150.out 1; have hfz46_2 := blk_frozen BK150.out 2; have hfz46_3 := blk_frozen BK150.out 3; have hfz46_4 := blk_frozen BK150.out 4; have hfz46_5 := blk_frozen BK150.out 5; have hfz46_6 := blk_frozen BK150.out 6; have hfz46_7 := blk_frozen BK150.out 7))
              refine bodyPost_ret (results_ct rfl _ _ gb150 26 #[.string (⟨#[]⟩ : ByteArray), .int .i64 0, .int .i64 0, .int .i64 0, .int .i64 0, .int .i64 0, .int .u8 0, .string (⟨#[]⟩ : ByteArray)] (0, 0) _ rfl (by (with_reducible repeat (first | refine blk_drewN ?_ _ | refine blk_drew ?_ | refine blk_alloc ?_ _)); refine blk_put (cs := #[.string (⟨#[]⟩ : ByteArray), .int .i64 0, .int .i64 0, .int .i64 0, .int .i64 0, .int .i64 0, .int .u8 0, .string (⟨#[]⟩ : ByteArray)]) ?_ 7 _ rfl; (with_reducible repeat (first | refine blk_drewN ?_ _ | refine blk_drew ?_ | refine blk_alloc ?_ _)); refine blk_put (cs := #[.string (⟨#[]⟩ : ByteArray), .int .i64 0, .int .i64 0, .int .i64 0, .int .i64 0, .int .i64 0, .int .u8 0, .string (⟨#[]⟩ : ByteArray)]) ?_ 6 _ rfl; (with_reducible repeat (first | refine blk_drewN ?_ _ | refine blk_drew ?_ | refine blk_alloc ?_ _)); refine blk_put (cs := #[.string (⟨#[]⟩ : ByteArray), .int .i64 0, .int .i64 0, .int .i64 0, .int .i64 0, .int .i64 0, .int .u8 0, .string (⟨#[]⟩ : ByteArray)]) ?_ 5 _ rfl; (with_reducible repeat (first | refine blk_drewN ?_ _ | refine blk_drew ?_ | refine blk_alloc ?_ _)); refine blk_put (cs := #[.string (⟨#[]⟩ : ByteArray), .int .i64 0, .int .i64 0, .int .i64 0, .int .i64 0, .int .i64 0, .int .u8 0, .string (⟨#[]⟩ : ByteArray)]) ?_ 4 _ rfl; (with_reducible repeat (first | refine blk_drewN ?_ _ | refine blk_drew ?_ | refine blk_alloc ?_ _)); refine blk_put (cs := #[.string (⟨#[]⟩ : ByteArray), .int .i64 0, .int .i64 0, .int .i64 0, .int .i64 0, .int .i64 0, .int .u8 0, .string (⟨#[]⟩ : ByteArray)]) ?_ 3 _ rfl; (with_reducible repeat (first | refine blk_drewN ?_ _ | refine blk_drew ?_ | refine blk_alloc ?_ _)); refine blk_put (cs := #[.string (⟨#[]⟩ : ByteArray), .int .i64 0, .int .i64 0, .int .i64 0, .int .i64 0, .int .i64 0, .int .u8 0, .string (⟨#[]⟩ : ByteArray)]) ?_ 2 _ rfl; (with_reducible repeat (first | refine blk_drewN ?_ _ | refine blk_drew ?_ | refine blk_alloc ?_ _)); refine blk_put (cs := #[.string (⟨#[]⟩ : ByteArray), .int .i64 0, .int .i64 0, .int .i64 0, .int .i64 0, .int .i64 0, .int .u8 0, .string (⟨#[]⟩ : ByteArray)]) ?_ 1 _ rfl; (with_reducible repeat (first | refine blk_drewN ?_ _ | refine blk_drew ?_ | refine blk_alloc ?_ _)); refine blk_put (cs := #[.string (⟨#[]⟩ : ByteArray), .int .i64 0, .int .i64 0, .int .i64 0, .int .i64 0, .int .i64 0, .int .u8 0, .string (⟨#[]⟩ : ByteArray)]) ?_ 0 _ rfl; (with_reducible repeat (first | refine blk_drewN ?_ _ | refine blk_drew ?_ | refine blk_alloc ?_ _)); exact BK150.out) Try.underlying26 rfl (by kernel_rfl)) rfl ?_
              exact ⟨by first | rfl | (simp [errW_none, errW_some] <;> rfl) | (simp [*, errW_none, errW_some] <;> rfl), by repeat (first | (with_reducible first | exact HB.out | apply below_alloc | apply pw_below_drewN | apply below_drew1 | refine below_set ?_ GE150.out | refine below_set ?_ GE159.out) | exact HB.out)⟩
          · have H1 : (some ((⟨#[]⟩ : ByteArray), 0, 0, 0, 0, 0, 0, (⟨#[]⟩ : ByteArray), some 14)) = some (r1, r2, r3, r4, r5, r6, r7, r8, r9) := by rw [if_neg (show ¬ (some q165).isNone = true by simp)] at H; exact H
            clear H
            have H := H1
            clear H1
            try simp only [errW_none, errW_some]
            simp only [Option.some.injEq, Prod.mk.injEq] at H
            obtain ⟨rfl, rfl, rfl, rfl, rfl, rfl, rfl, rfl, rfl⟩ := H
            have hnb47 := NB159_150.out
            have hnc47 := NB150_159.out
            have hcz48_0 : wc.cell? ⟨gb159, 0, none⟩ = some (.string x160000_11) := (blk_cell BK159.out 0).trans rfl
            have hcz48_1 : wc.cell? ⟨gb159, 1, none⟩ = some (.int .i64 t152) := (blk_cell BK159.out 1).trans rfl
            have hcz48_2 : wc.cell? ⟨gb159, 2, none⟩ = some (.int .i64 t153) := (blk_cell BK159.out 2).trans rfl
            have hcz48_3 : wc.cell? ⟨gb159, 3, none⟩ = some (.int .i64 t154) := (blk_cell BK159.out 3).trans rfl
            have hcz48_4 : wc.cell? ⟨gb159, 4, none⟩ = some (.int .i64 t155) := (blk_cell BK159.out 4).trans rfl
            have hcz48_5 : wc.cell? ⟨gb159, 5, none⟩ = some (.int .i64 t156) := (blk_cell BK159.out 5).trans rfl
            have hcz48_6 : wc.cell? ⟨gb159, 6, none⟩ = some (.int .u8 (rd l0 156)) := (blk_cell BK159.out 6).trans rfl
            have hcz48_7 : wc.cell? ⟨gb159, 7, none⟩ = some (.string t158) := (blk_cell BK159.out 7).trans rfl
            have hfz48_0 := blk_frozen BK159.out 0
            have hfz48_1 := blk_frozen BK159.out 1
            have hfz48_2 := blk_frozen BK159.out 2
            have hfz48_3 := blk_frozen BK159.out 3
            have hfz48_4 := blk_frozen BK159.out 4
            have hfz48_5 := blk_frozen BK159.out 5
            have hfz48_6 := blk_frozen BK159.out 6
            have hfz48_7 := blk_frozen BK159.out 7
            go_wp2_with (first | ((with_reducible refine gate_callee (f := 14) rfl ?_); refine goesL_ (some 45) rfl rfl Try.func14 (by kernel_rfl) rfl #[.agg #[.string x160000_11, .int .i64 t152, .int .i64 t153, .int .i64 t154, .int .i64 t155, .int .i64 t156, .int .u8 (rd l0 156), .string t158]] rfl (by (try simp only [List.map_toArray, List.map_cons, List.map_nil]); first | done | rfl | (simp only [List.length_drop, List.length_take]; rfl)) ?_; (with_reducible refine (ustar_Encode.calls kj11 x160000_11 t152 t153 t154 t155 t156 (rd l0 156) t158 t161 (some q165) _ A33.out).mono ?_); rintro e w49 ⟨v162, rfl, ho0, hb⟩; refine ⟨_, rfl, ?_⟩; have n0_ := Aside0.mk (Kd.R_lower ho0 (below_size (by repeat (first | (with_reducible first | exact HB.out | apply below_alloc | apply pw_below_drewN | apply below_drew1 | refine below_set ?_ GE150.out | refine below_set ?_ GE159.out) | exact HB.out)))); have n1_ := Aside0.mk (blk_below (g := gb150) (o := .cells #[.string (⟨#[]⟩ : ByteArray), .int .i64 0, .int .i64 0, .int .i64 0, .int .i64 0, .int .i64 0, .int .u8 0, .string (⟨#[]⟩ : ByteArray)] 26 (0, 0)) (by (with_reducible repeat (first | refine blk_drewN ?_ _ | refine blk_drew ?_ | refine blk_alloc ?_ _)); exact BK150.out) hb); have n2_ := Aside0.mk (blk_below (g := gb159) (o := .cells #[.string x160000_11, .int .i64 t152, .int .i64 t153, .int .i64 t154, .int .i64 t155, .int .i64 t156, .int .u8 (rd l0 156), .string t158] 26 (0, 0)) (by (with_reducible repeat (first | refine blk_drewN ?_ _ | refine blk_drew ?_ | refine blk_alloc ?_ _)); exact BK159.out) hb); have n3_ := Aside0.mk (below_step (by repeat (first | (with_reducible first | exact HB.out | apply below_alloc | apply pw_below_drewN | apply below_drew1 | refine below_set ?_ GE150.out | refine below_set ?_ GE159.out) | exact HB.out)) hb); clear BK150; clear BK159; clear HB; have HO163 := n0_; have BK150 := n1_; have BK159 := n2_; have HB := n3_; clear n0_ n1_ n2_ n3_; (try clear hb); (try clear hb2); (try clear hk); (try clear hi); (try clear ho0); (try simp only [errW_none, errW_some]); have hcz50_0 : w49.cell? ⟨gb150, 0, none⟩ = some (.string (⟨#[]⟩ : ByteArray)) := (blk_cell BK150.out 0).trans rfl; have hcz50_1 : w49.cell? ⟨gb150, 1, none⟩ = some (.int .i64 0) := (blk_cell BK150.out 1).trans rfl; have hcz50_2 : w49.cell? ⟨gb150, 2, none⟩ = some (.int .i64 0) := (blk_cell BK150.out 2).trans rfl; have hcz50_3 : w49.cell? ⟨gb150, 3, none⟩ = some (.int .i64 0) := (blk_cell BK150.out 3).trans rfl; have hcz50_4 : w49.cell? ⟨gb150, 4, none⟩ = some (.int .i64 0) := (blk_cell BK150.out 4).trans rfl; have hcz50_5 : w49.cell? ⟨gb150, 5, none⟩ = some (.int .i64 0) := (blk_cell BK150.out 5).trans rfl; have hcz50_6 : w49.cell? ⟨gb150, 6, none⟩ = some (.int .u8 0) := (blk_cell BK150.out 6).trans rfl; have hcz50_7 : w49.cell? ⟨gb150, 7, none⟩ = some (.string (⟨#[]⟩ : ByteArray)) := (blk_cell BK150.out 7).trans rfl; have hfz50_0 := blk_frozen BK150.out 0; have hfz50_1 := blk_frozen BK150.out 1; have hfz50_2 := blk_frozen BK150.out 2; have hfz50_3 := blk_frozen BK150.out 3; have hfz50_4 := blk_frozen BK150.out 4; have hfz50_5 := blk_frozen BK150.out 5; have hfz50_6 := blk_frozen BK150.out 6; have hfz50_7 := blk_frozen BK150.out 7))
            refine bodyPost_ret (results_ct rfl _ _ gb150 26 #[.string (⟨#[]⟩ : ByteArray), .int .i64 0, .int .i64 0, .int .i64 0, .int .i64 0, .int .i64 0, .int .u8 0, .string (⟨#[]⟩ : ByteArray)] (0, 0) _ rfl (by (with_reducible repeat (first | refine blk_drewN ?_ _ | refine blk_drew ?_ | refine blk_alloc ?_ _)); refine blk_put (cs := #[.string (⟨#[]⟩ : ByteArray), .int .i64 0, .int .i64 0, .int .i64 0, .int .i64 0, .int .i64 0, .int .u8 0, .string (⟨#[]⟩ : ByteArray)]) ?_ 7 _ rfl; (with_reducible repeat (first | refine blk_drewN ?_ _ | refine blk_drew ?_ | refine blk_alloc ?_ _)); refine blk_put (cs := #[.string (⟨#[]⟩ : ByteArray), .int .i64 0, .int .i64 0, .int .i64 0, .int .i64 0, .int .i64 0, .int .u8 0, .string (⟨#[]⟩ : ByteArray)]) ?_ 6 _ rfl; (with_reducible repeat (first | refine blk_drewN ?_ _ | refine blk_drew ?_ | refine blk_alloc ?_ _)); refine blk_put (cs := #[.string (⟨#[]⟩ : ByteArray), .int .i64 0, .int .i64 0, .int .i64 0, .int .i64 0, .int .i64 0, .int .u8 0, .string (⟨#[]⟩ : ByteArray)]) ?_ 5 _ rfl; (with_reducible repeat (first | refine blk_drewN ?_ _ | refine blk_drew ?_ | refine blk_alloc ?_ _)); refine blk_put (cs := #[.string (⟨#[]⟩ : ByteArray), .int .i64 0, .int .i64 0, .int .i64 0, .int .i64 0, .int .i64 0, .int .u8 0, .string (⟨#[]⟩ : ByteArray)]) ?_ 4 _ rfl; (with_reducible repeat (first | refine blk_drewN ?_ _ | refine blk_drew ?_ | refine blk_alloc ?_ _)); refine blk_put (cs := #[.string (⟨#[]⟩ : ByteArray), .int .i64 0, .int .i64 0, .int .i64 0, .int .i64 0, .int .i64 0, .int .u8 0, .string (⟨#[]⟩ : ByteArray)]) ?_ 3 _ rfl; (with_reducible repeat (first | refine blk_drewN ?_ _ | refine blk_drew ?_ | refine blk_alloc ?_ _)); refine blk_put (cs := #[.string (⟨#[]⟩ : ByteArray), .int .i64 0, .int .i64 0, .int .i64 0, .int .i64 0, .int .i64 0, .int .u8 0, .string (⟨#[]⟩ : ByteArray)]) ?_ 2 _ rfl; (with_reducible repeat (first | refine blk_drewN ?_ _ | refine blk_drew ?_ | refine blk_alloc ?_ _)); refine blk_put (cs := #[.string (⟨#[]⟩ : ByteArray), .int .i64 0, .int .i64 0, .int .i64 0, .int .i64 0, .int .i64 0, .int .u8 0, .string (⟨#[]⟩ : ByteArray)]) ?_ 1 _ rfl; (with_reducible repeat (first | refine blk_drewN ?_ _ | refine blk_drew ?_ | refine blk_alloc ?_ _)); refine blk_put (cs := #[.string (⟨#[]⟩ : ByteArray), .int .i64 0, .int .i64 0, .int .i64 0, .int .i64 0, .int .i64 0, .int .u8 0, .string (⟨#[]⟩ : ByteArray)]) ?_ 0 _ rfl; (with_reducible repeat (first | refine blk_drewN ?_ _ | refine blk_drew ?_ | refine blk_alloc ?_ _)); exact BK150.out) Try.underlying26 rfl (by kernel_rfl)) rfl ?_
            exact ⟨by first | rfl | (simp [errW_none, errW_some] <;> rfl) | (simp [*, errW_none, errW_some] <;> rfl), by repeat (first | (with_reducible first | exact HB.out | apply below_alloc | apply pw_below_drewN | apply below_drew1 | refine below_set ?_ GE150.out | refine below_set ?_ GE159.out) | exact HB.out)⟩
    · rw [if_neg c9] at H
      exact absurd H (by simp)
  · rw [if_neg c2] at H
    have c2b0 : ((l0.length : Int) == 512) = false := beq_eq_false_iff_ne.mpr c2
    have c2b1 : ((l0.length : Int) != 512) = true := bne_iff_ne.mpr c2
    simp only [Option.some.injEq, Prod.mk.injEq] at H
    obtain ⟨rfl, rfl, rfl, rfl, rfl, rfl, rfl, rfl, rfl⟩ := H
    go_enter Try.func10, Try.ntmps10
    go_wp2_with (first | ((with_reducible refine gate_dst (N := 2) rfl ?_); refine box_event ?hg (N := 2) ?hd (cs := #[.string (⟨#[]⟩ : ByteArray), .int .i64 0, .int .i64 0, .int .i64 0, .int .i64 0, .int .i64 0, .int .u8 0, .string (⟨#[]⟩ : ByteArray)]) (t := 26) ?hr ?_; (case hd => rfl); (case hg => rfl); (case hr => first | (go_simp; done) | (go_simp; rfl)); intro gb150 hg w51 hbox hb; have n0_ := Aside0.mk (below_step (by repeat (first | (with_reducible first | exact HB.out | apply below_alloc | apply pw_below_drewN | apply below_drew1) | exact HB.out)) hb); have n1_ := Aside0.mk (hbox); have n2_ := Aside0.mk ((by rw [hg]; exact (below_size (by repeat (first | (with_reducible first | exact HB.out | apply below_alloc | apply pw_below_drewN | apply below_drew1) | exact HB.out))) : w.heap.size ≤ gb150)); have n3_ := Aside0.mk ((by rw [hg]; exact (below_size (by repeat (first | (with_reducible first | exact HB.out | apply below_alloc | apply pw_below_drewN | apply below_drew1) | exact HB.out))) : w.heap.size ≤ gb150)); clear HB; have HB := n0_; have BK150 := n1_; have GW150 := n2_; have GE150 := n3_; clear n0_ n1_ n2_ n3_; clear hb hbox hg; have hcz52_0 : w51.cell? ⟨gb150, 0, none⟩ = some (.string (⟨#[]⟩ : ByteArray)) := (blk_cell BK150.out 0).trans rfl; have hcz52_1 : w51.cell? ⟨gb150, 1, none⟩ = some (.int .i64 0) := (blk_cell BK150.out 1).trans rfl; have hcz52_2 : w51.cell? ⟨gb150, 2, none⟩ = some (.int .i64 0) := (blk_cell BK150.out 2).trans rfl; have hcz52_3 : w51.cell? ⟨gb150, 3, none⟩ = some (.int .i64 0) := (blk_cell BK150.out 3).trans rfl; have hcz52_4 : w51.cell? ⟨gb150, 4, none⟩ = some (.int .i64 0) := (blk_cell BK150.out 4).trans rfl; have hcz52_5 : w51.cell? ⟨gb150, 5, none⟩ = some (.int .i64 0) := (blk_cell BK150.out 5).trans rfl; have hcz52_6 : w51.cell? ⟨gb150, 6, none⟩ = some (.int .u8 0) := (blk_cell BK150.out 6).trans rfl; have hcz52_7 : w51.cell? ⟨gb150, 7, none⟩ = some (.string (⟨#[]⟩ : ByteArray)) := (blk_cell BK150.out 7).trans rfl; have hfz52_0 := blk_frozen BK150.out 0; have hfz52_1 := blk_frozen BK150.out 1; have hfz52_2 := blk_frozen BK150.out 2; have hfz52_3 := blk_frozen BK150.out 3; have hfz52_4 := blk_frozen BK150.out 4; have hfz52_5 := blk_frozen BK150.out 5; have hfz52_6 := blk_frozen BK150.out 6; have hfz52_7 := blk_frozen BK150.out 7))
    refine bodyPost_ret (results_ct rfl _ _ gb150 26 #[.string (⟨#[]⟩ : ByteArray), .int .i64 0, .int .i64 0, .int .i64 0, .int .i64 0, .int .i64 0, .int .u8 0, .string (⟨#[]⟩ : ByteArray)] (0, 0) _ rfl (by (with_reducible repeat (first | refine blk_drewN ?_ _ | refine blk_drew ?_ | refine blk_alloc ?_ _)); refine blk_put (cs := #[.string (⟨#[]⟩ : ByteArray), .int .i64 0, .int .i64 0, .int .i64 0, .int .i64 0, .int .i64 0, .int .u8 0, .string (⟨#[]⟩ : ByteArray)]) ?_ 7 _ rfl; (with_reducible repeat (first | refine blk_drewN ?_ _ | refine blk_drew ?_ | refine blk_alloc ?_ _)); refine blk_put (cs := #[.string (⟨#[]⟩ : ByteArray), .int .i64 0, .int .i64 0, .int .i64 0, .int .i64 0, .int .i64 0, .int .u8 0, .string (⟨#[]⟩ : ByteArray)]) ?_ 6 _ rfl; (with_reducible repeat (first | refine blk_drewN ?_ _ | refine blk_drew ?_ | refine blk_alloc ?_ _)); refine blk_put (cs := #[.string (⟨#[]⟩ : ByteArray), .int .i64 0, .int .i64 0, .int .i64 0, .int .i64 0, .int .i64 0, .int .u8 0, .string (⟨#[]⟩ : ByteArray)]) ?_ 5 _ rfl; (with_reducible repeat (first | refine blk_drewN ?_ _ | refine blk_drew ?_ | refine blk_alloc ?_ _)); refine blk_put (cs := #[.string (⟨#[]⟩ : ByteArray), .int .i64 0, .int .i64 0, .int .i64 0, .int .i64 0, .int .i64 0, .int .u8 0, .string (⟨#[]⟩ : ByteArray)]) ?_ 4 _ rfl; (with_reducible repeat (first | refine blk_drewN ?_ _ | refine blk_drew ?_ | refine blk_alloc ?_ _)); refine blk_put (cs := #[.string (⟨#[]⟩ : ByteArray), .int .i64 0, .int .i64 0, .int .i64 0, .int .i64 0, .int .i64 0, .int .u8 0, .string (⟨#[]⟩ : ByteArray)]) ?_ 3 _ rfl; (with_reducible repeat (first | refine blk_drewN ?_ _ | refine blk_drew ?_ | refine blk_alloc ?_ _)); refine blk_put (cs := #[.string (⟨#[]⟩ : ByteArray), .int .i64 0, .int .i64 0, .int .i64 0, .int .i64 0, .int .i64 0, .int .u8 0, .string (⟨#[]⟩ : ByteArray)]) ?_ 2 _ rfl; (with_reducible repeat (first | refine blk_drewN ?_ _ | refine blk_drew ?_ | refine blk_alloc ?_ _)); refine blk_put (cs := #[.string (⟨#[]⟩ : ByteArray), .int .i64 0, .int .i64 0, .int .i64 0, .int .i64 0, .int .i64 0, .int .u8 0, .string (⟨#[]⟩ : ByteArray)]) ?_ 1 _ rfl; (with_reducible repeat (first | refine blk_drewN ?_ _ | refine blk_drew ?_ | refine blk_alloc ?_ _)); refine blk_put (cs := #[.string (⟨#[]⟩ : ByteArray), .int .i64 0, .int .i64 0, .int .i64 0, .int .i64 0, .int .i64 0, .int .u8 0, .string (⟨#[]⟩ : ByteArray)]) ?_ 0 _ rfl; (with_reducible repeat (first | refine blk_drewN ?_ _ | refine blk_drew ?_ | refine blk_alloc ?_ _)); exact BK150.out) Try.underlying26 rfl (by kernel_rfl)) rfl ?_
    exact ⟨by first | rfl | (simp [errW_none, errW_some] <;> rfl) | (simp [*, errW_none, errW_some] <;> rfl), by repeat (first | (with_reducible first | exact HB.out | apply below_alloc | apply pw_below_drewN | apply below_drew1 | refine below_set ?_ GE150.out) | exact HB.out)⟩

end Go.Proofs.Ytkdklgcjimnabaa.PUstar
