/- Printed for this claim by a copy of the kit's print.py that takes functions walked by our own texts. Conditions: none. -/
import Derived.Test.YtfkbmjfhakooiaaGreatDoorPTreex0
import Derived.Test.YtfkbmjfhakooiaaGreatDoorPTreex1
namespace Go.Proofs.YtfkbmjfhakooiaaGreatDoor.PTree
open Go.RowKit Go.Proofs.YtfkbmjfhakooiaaGreatDoorW.PrintWords Go.Proofs.YtfkbmjfhakooiaaGreatDoorW.PrintLast Go.Proofs.YtfkbmjfhakooiaaGreatDoorW.PrintMore
attribute [local go_sem] max2_int min2_int max_two min_two max_three min_three max_four min_four   -- for this text's walks alone
set_option linter.unusedVariables false
set_option linter.unusedSimpArgs false

/-! ### bytes_Clone: function 47 -/
def bytes_Clone.f (l : List Int) : Option (List Int) := if l.length ≤ 1000000000000 then some l else none
theorem bytes_Clone.calls (A0 : Option Addr) (c0 : Nat) (l0 : List Int) (r : List Int) (w : World) (hr0 : Kd.C (Kd.int .u8) w A0 l0.length l0) (hc0 : l0.length ≤ c0) (hGl : Gl w) (h : bytes_Clone.f l0 = some r) :
    Calls Tryz.prog 47 #[.slice A0 l0.length c0] w fun e w' => ∃ v0_ : Value, e = .returned v0_ ∧ Kd.R (Kd.int .u8) 5 w' w.heap.size (fun _ => True) v0_ r ∧ Below w.heap.size w w' := by
  unfold bytes_Clone.f at h
  by_cases hc : l0.length ≤ 1000000000000
  · rw [if_pos hc] at h
    obtain rfl := Option.some.inj h
    cases A0 with
    | none =>
      have h0 : l0.length = 0 := by
        rcases Nat.eq_zero_or_pos l0.length with h | h
        · exact h
        · obtain ⟨ad, e, _⟩ := hr0.2.2 h
          cases e
      obtain rfl : l0 = [] := List.eq_nil_of_length_eq_zero h0
      refine (Tryz.bytes_Clone_nil _ c0 w).mono ?_
      rintro e w' ⟨rfl, rfl⟩
      exact ⟨_, rfl, Kd.R_nil _ _ _ _ _, Below.refl _ _⟩
    | some ad =>
      refine (Tryz.bytes_Clone_at ad l0.length c0 l0 w rfl (by omega) (fun i hi => ?_)).mono ?_
      · obtain ⟨ad', e, hx⟩ := Kd.at_int hr0 (i : Int) (by omega) (by omega)
        cases e
        rw [show ((i : Int)).toNat = i from rfl] at hx
        rw [hx]
        unfold rd
        rw [show ((i : Int)).toNat = i from rfl]
      · rintro e w' ⟨v', rfl, hown, _, hb⟩
        exact ⟨v', rfl, Kd.R_of_own (enc := Value.int .u8) hown (fun _ _ => trivial), hb⟩
  · rw [if_neg hc] at h; cases h

-- NOT PRINTED: function 89 (strings_splitSeq)

-- NOT PRINTED: function 70 (strings_SplitSeq)

/-! ### strings_Contains: function 86 -/
def strings_Contains.f (a0 : ByteArray) (a1 : ByteArray) : Option (Bool) := (strings_Index.f a0 a1).bind fun t134 => (some (decide (t134 ≥ 0)))
set_option maxHeartbeats 8000000 in
set_option maxRecDepth 100000 in
theorem strings_Contains.calls (a0 : ByteArray) (a1 : ByteArray) (r : Bool) (w : World) (hGl : Gl w) (h : strings_Contains.f a0 a1 = some r) :
    Calls Tryz.prog 86 #[.string a0, .string a1] w fun e w' => e = .returned (.bool r) ∧ Drawn0 w w' := by
  have HGL := Aside0.mk hGl
  clear hGl
  have H : ((strings_Index.f a0 a1).bind fun t134 => (some (decide (t134 ≥ 0)))) = some r := h
  clear h
  replace H := Option.bind_eq_some_iff.mp H
  obtain ⟨t134, A30, H⟩ := H
  replace H : (some (decide (t134 ≥ 0))) = some r := H
  have A3 := Aside0.mk A30
  clear A30
  obtain rfl := Option.some.inj H
  go_enter Tryz.func86, Tryz.ntmps86
  go_wp2_with (first | ((with_reducible refine gate_callee (f := 100) rfl ?_); refine goesL_ (some 7) rfl rfl Tryz.func100 (by kernel_rfl) rfl #[.string a0, .string a1] rfl (by (try simp only [List.map_toArray, List.map_cons, List.map_nil]); first | done | rfl | (simp only [List.length_drop, List.length_take]; rfl)) ?_; (with_reducible refine (strings_Index.calls a0 a1 t134 _ ?side1 A3.out).mono ?_); (case side1 => first | exact HGL.out | exact Gl.drewN HGL.out _ | exact Gl.of HGL.out (by repeat (first | (with_reducible first | exact HB.out | apply below_alloc | apply pw_below_drewN | apply below_drew1) | exact HB.out))); rintro e w' ⟨rfl, ⟨nd, rfl⟩⟩; refine ⟨_, rfl, ?_⟩))
  go_ret
  exact ⟨by first | rfl | (simp; done) | (simp [*]; done), by repeat (first | exact Drawn0.refl _ | apply Drawn0.step)⟩

/-! ### path_part: function 65 -/
def path_part.f (a0 : ByteArray) : Option (Bool) := (path_Text.f a0 120).bind fun t135 => (if t135 = true then (if a0.toList = ([46] : List UInt8) then (some false) else (if a0.toList = ([46, 46] : List UInt8) then (some false) else ((strings_Contains.f a0 (⟨#[47]⟩ : ByteArray)).bind fun t136 => (some (!t136))))) else (some false))
set_option maxHeartbeats 8000000 in
set_option maxRecDepth 100000 in
theorem path_part.calls (a0 : ByteArray) (r : Bool) (w : World) (hGl : Gl w) (h : path_part.f a0 = some r) :
    Calls Tryz.prog 65 #[.string a0] w fun e w' => e = .returned (.bool r) ∧ Below w.heap.size w w' := by
  have HB := Aside0.mk (Below.refl w.heap.size w)
  have HGL := Aside0.mk hGl
  clear hGl
  have H : ((path_Text.f a0 120).bind fun t135 => (if t135 = true then (if a0.toList = ([46] : List UInt8) then (some false) else (if a0.toList = ([46, 46] : List UInt8) then (some false) else ((strings_Contains.f a0 (⟨#[47]⟩ : ByteArray)).bind fun t136 => (some (!t136))))) else (some false))) = some r := h
  clear h
  replace H := Option.bind_eq_some_iff.mp H
  obtain ⟨t135, A20, H⟩ := H
  replace H : (if t135 = true then (if a0.toList = ([46] : List UInt8) then (some false) else (if a0.toList = ([46, 46] : List UInt8) then (some false) else ((strings_Contains.f a0 (⟨#[47]⟩ : ByteArray)).bind fun t136 => (some (!t136))))) else (some false)) = some r := H
  have A2 := Aside0.mk A20
  clear A20
  by_cases c3 : t135 = true
  · subst c3
    have H1 : (if a0.toList = ([46] : List UInt8) then (some false) else (if a0.toList = ([46, 46] : List UInt8) then (some false) else ((strings_Contains.f a0 (⟨#[47]⟩ : ByteArray)).bind fun t136 => (some (!t136))))) = some r := by rw [if_pos rfl] at H; exact H
    clear H
    have H := H1
    clear H1
    by_cases c4 : a0.toList = ([46] : List UInt8)
    · rw [if_pos c4] at H
      have c4b0 : (a0.toList == ([46] : List UInt8)) = true := beq_iff_eq.mpr c4
      have c4b1 : (a0.toList != ([46] : List UInt8)) = false := bne_eq_false_iff_eq.mpr c4
      clear c4
      obtain rfl := Option.some.inj H
      go_enter Tryz.func65, Tryz.ntmps65
      go_wp2_with (first | ((with_reducible refine gate_callee (f := 68) rfl ?_); refine goesL_ (some 4) rfl rfl Tryz.func68 (by kernel_rfl) rfl #[.string a0, .int .i64 120] rfl (by (try simp only [List.map_toArray, List.map_cons, List.map_nil]); first | done | rfl | (simp only [List.length_drop, List.length_take]; rfl)) ?_; (with_reducible refine (path_Text.calls a0 120 true _ ?side1 A2.out).mono ?_); (case side1 => first | exact HGL.out | exact Gl.drewN HGL.out _ | exact Gl.of HGL.out (by repeat (first | (with_reducible first | exact HB.out | apply below_alloc | apply pw_below_drewN | apply below_drew1) | exact HB.out))); rintro e w5 ⟨rfl, hb⟩; refine ⟨_, rfl, ?_⟩; have n0_ := Aside0.mk (below_step (by repeat (first | (with_reducible first | exact HB.out | apply below_alloc | apply pw_below_drewN | apply below_drew1) | exact HB.out)) hb); clear HB; have HB := n0_; clear n0_; (try clear hb); (try clear hb2); (try clear hk); (try clear hi)))
      go_ret
      exact ⟨by first | rfl | (simp [errW_none, errW_some] <;> rfl) | (simp [*, errW_none, errW_some] <;> rfl), by repeat (first | (with_reducible first | exact HB.out | apply below_alloc | apply pw_below_drewN | apply below_drew1) | exact HB.out)⟩
    · rw [if_neg c4] at H
      have c4b0 : (a0.toList == ([46] : List UInt8)) = false := beq_eq_false_iff_ne.mpr c4
      have c4b1 : (a0.toList != ([46] : List UInt8)) = true := bne_iff_ne.mpr c4
      by_cases c6 : a0.toList = ([46, 46] : List UInt8)
      · rw [if_pos c6] at H
        have c6b0 : (a0.toList == ([46, 46] : List UInt8)) = true := beq_iff_eq.mpr c6
        have c6b1 : (a0.toList != ([46, 46] : List UInt8)) = false := bne_eq_false_iff_eq.mpr c6
        clear c6
        obtain rfl := Option.some.inj H
        go_enter Tryz.func65, Tryz.ntmps65
        go_wp2_with (first | ((with_reducible refine gate_callee (f := 68) rfl ?_); refine goesL_ (some 4) rfl rfl Tryz.func68 (by kernel_rfl) rfl #[.string a0, .int .i64 120] rfl (by (try simp only [List.map_toArray, List.map_cons, List.map_nil]); first | done | rfl | (simp only [List.length_drop, List.length_take]; rfl)) ?_; (with_reducible refine (path_Text.calls a0 120 true _ ?side1 A2.out).mono ?_); (case side1 => first | exact HGL.out | exact Gl.drewN HGL.out _ | exact Gl.of HGL.out (by repeat (first | (with_reducible first | exact HB.out | apply below_alloc | apply pw_below_drewN | apply below_drew1) | exact HB.out))); rintro e w7 ⟨rfl, hb⟩; refine ⟨_, rfl, ?_⟩; have n0_ := Aside0.mk (below_step (by repeat (first | (with_reducible first | exact HB.out | apply below_alloc | apply pw_below_drewN | apply below_drew1) | exact HB.out)) hb); clear HB; have HB := n0_; clear n0_; (try clear hb); (try clear hb2); (try clear hk); (try clear hi)))
        go_ret
        exact ⟨by first | rfl | (simp [errW_none, errW_some] <;> rfl) | (simp [*, errW_none, errW_some] <;> rfl), by repeat (first | (with_reducible first | exact HB.out | apply below_alloc | apply pw_below_drewN | apply below_drew1) | exact HB.out)⟩
      · rw [if_neg c6] at H
        have c6b0 : (a0.toList == ([46, 46] : List UInt8)) = false := beq_eq_false_iff_ne.mpr c6
        have c6b1 : (a0.toList != ([46, 46] : List UInt8)) = true := bne_iff_ne.mpr c6
        replace H := Option.bind_eq_some_iff.mp H
        obtain ⟨t136, A80, H⟩ := H
        replace H : (some (!t136)) = some r := H
        have A8 := Aside0.mk A80
        clear A80
        obtain rfl := Option.some.inj H
        go_enter Tryz.func65, Tryz.ntmps65
        go_wp2_with (first | ((with_reducible refine gate_callee (f := 68) rfl ?_); refine goesL_ (some 4) rfl rfl Tryz.func68 (by kernel_rfl) rfl #[.string a0, .int .i64 120] rfl (by (try simp only [List.map_toArray, List.map_cons, List.map_nil]); first | done | rfl | (simp only [List.length_drop, List.length_take]; rfl)) ?_; (with_reducible refine (path_Text.calls a0 120 true _ ?side1 A2.out).mono ?_); (case side1 => first | exact HGL.out | exact Gl.drewN HGL.out _ | exact Gl.of HGL.out (by repeat (first | (with_reducible first | exact HB.out | apply below_alloc | apply pw_below_drewN | apply below_drew1) | exact HB.out))); rintro e w9 ⟨rfl, hb⟩; refine ⟨_, rfl, ?_⟩; have n0_ := Aside0.mk (below_step (by repeat (first | (with_reducible first | exact HB.out | apply below_alloc | apply pw_below_drewN | apply below_drew1) | exact HB.out)) hb); clear HB; have HB := n0_; clear n0_; (try clear hb); (try clear hb2); (try clear hk); (try clear hi)) | (go_at_call 86; (with_reducible refine (strings_Contains.calls a0 (⟨#[47]⟩ : ByteArray) t136 _ ?side1 A8.out).mono ?_); (case side1 => first | exact HGL.out | exact Gl.drewN HGL.out _ | exact Gl.of HGL.out (by repeat (first | (with_reducible first | exact HB.out | apply below_alloc | apply pw_below_drewN | apply below_drew1) | exact HB.out))); rintro e w' ⟨rfl, ⟨nd, rfl⟩⟩))
        go_ret
        exact ⟨by first | rfl | (simp [errW_none, errW_some] <;> rfl) | (simp [*, errW_none, errW_some] <;> rfl), by repeat (first | (with_reducible first | exact HB.out | apply below_alloc | apply pw_below_drewN | apply below_drew1) | exact HB.out)⟩
  · replace c3 := Bool.eq_false_iff.mpr c3
    subst c3
    have H1 : (some false) = some r := by rw [if_neg (show ¬ (false = true) by decide)] at H; exact H
    clear H
    have H := H1
    clear H1
    obtain rfl := Option.some.inj H
    go_enter Tryz.func65, Tryz.ntmps65
    go_wp2_with (first | ((with_reducible refine gate_callee (f := 68) rfl ?_); refine goesL_ (some 4) rfl rfl Tryz.func68 (by kernel_rfl) rfl #[.string a0, .int .i64 120] rfl (by (try simp only [List.map_toArray, List.map_cons, List.map_nil]); first | done | rfl | (simp only [List.length_drop, List.length_take]; rfl)) ?_; (with_reducible refine (path_Text.calls a0 120 false _ ?side1 A2.out).mono ?_); (case side1 => first | exact HGL.out | exact Gl.drewN HGL.out _ | exact Gl.of HGL.out (by repeat (first | (with_reducible first | exact HB.out | apply below_alloc | apply pw_below_drewN | apply below_drew1) | exact HB.out))); rintro e w10 ⟨rfl, hb⟩; refine ⟨_, rfl, ?_⟩; have n0_ := Aside0.mk (below_step (by repeat (first | (with_reducible first | exact HB.out | apply below_alloc | apply pw_below_drewN | apply below_drew1) | exact HB.out)) hb); clear HB; have HB := n0_; clear n0_; (try clear hb); (try clear hb2); (try clear hk); (try clear hi)))
    go_ret
    exact ⟨by first | rfl | (simp [errW_none, errW_some] <;> rfl) | (simp [*, errW_none, errW_some] <;> rfl), by repeat (first | (with_reducible first | exact HB.out | apply below_alloc | apply pw_below_drewN | apply below_drew1) | exact HB.out)⟩

/-! ### path_Split: function 49 -/
def anyBad : List ByteArray → Option Bool
  | [] => some false
  | x :: r => (path_part.f x).bind fun p => (anyBad r).bind fun b => some (!p || b)
def path_Split.f (k : Nat) (s : ByteArray) : Option (List ByteArray) := if (s.size : Int) > 400 then some ([] : List ByteArray) else (strings_Split.f k s (⟨#[47]⟩ : ByteArray)).bind fun l => if l.length ≤ 1000000 then (anyBad l).bind fun b => (if b = true then some ([] : List ByteArray) else some l) else none
theorem path_Split.mono : ∀ a0 k, LeO (path_Split.f k a0) (path_Split.f (k + 1) a0) := by
  intro a0 k
  unfold path_Split.f
  exact LeO.ite (LeO.refl _) (LeO.bind (strings_Split.mono _ _ _) fun _ => LeO.refl _)
set_option maxHeartbeats 4000000 in
theorem split1_calls (p : ByteArray) (b : Bool) (w : World) (hGl : Gl w) (h : path_part.f p = some b) :
    Calls Tryz.prog 64 #[.string p] w fun e w' => e = .returned (.bool (!b)) ∧ Below w.heap.size w w' := by
  have HB := Aside0.mk (Below.refl w.heap.size w)
  have HGL := Aside0.mk hGl
  have A1 := Aside0.mk h
  clear h hGl
  go_enter Tryz.func64, Tryz.ntmps64
  go_wp2_with (first
    | (go_at_call 65; (with_reducible refine (path_part.calls p b _ ?s1 A1.out).mono ?_); (case s1 => exact HGL.out); rintro e1 w1 ⟨rfl, hb⟩; have n0_ := Aside0.mk (below_step HB.out hb); clear HB hb; have HB := n0_; clear n0_))
  go_ret
  exact ⟨by first | rfl | (simp; done) | (simp [*]; done), HB.out⟩
theorem anyBad_cons {x : ByteArray} {r : List ByteArray} {b : Bool} (h : anyBad (x :: r) = some b) : ∃ p b', path_part.f x = some p ∧ anyBad r = some b' ∧ b = (!p || b') := by
  unfold anyBad at h
  obtain ⟨p, h1, h⟩ := Option.bind_eq_some_iff.1 h
  obtain ⟨b', h2, h⟩ := Option.bind_eq_some_iff.1 h
  exact ⟨p, b', h1, h2, (Option.some.inj h).symm⟩
set_option maxHeartbeats 8000000 in
set_option maxRecDepth 100000 in
theorem idxf_calls (A : Option Addr) (c : Nat) (l : List ByteArray) (b : Bool) (w : World) (hC : Kd.C Kd.string w A l.length l) (hc : l.length ≤ c) (hl : l.length ≤ 1000000) (hGl : Gl w) (h : anyBad l = some b) :
    Calls Tryz.prog 85 #[.slice A l.length c, .func (.func 64) #[] #[]] w fun e w' => ∃ j : Int, e = .returned (.int .i64 j) ∧ decide (0 ≤ j) = b ∧ Below w.heap.size w w' := by
  have HC := Aside0.mk hC
  have HL := Aside0.mk hc
  have HLL := Aside0.mk hl
  have HGL := Aside0.mk hGl
  have HA := Aside0.mk h
  clear hC hc hl hGl h
  go_enter Tryz.func85, Tryz.ntmps85
  go_wp2
  go_loopg [8] (l.length + 1) (fun kq v8 wr => ∃ i : Nat, v8 = .int .i64 (i : Int) ∧ Aside0 (i + kq = l.length + 1) ∧ Aside0 (i ≤ l.length) ∧ Aside0 (anyBad (l.drop i) = some b) ∧ Aside0 (Below w.heap.size w wr))
  case atStart => exact ⟨0, rfl, ⟨by omega⟩, ⟨by omega⟩, HA, ⟨Below.refl _ _⟩⟩
  case round =>
    clear HA
    obtain ⟨i, rfl, HI, HJ, HA, HB⟩ := hrel
    cases gk with
    | zero => exact absurd HI.out (by have := HJ.out; omega)
    | succ k1 =>
      by_cases c1 : (i : Int) < (l.length : Int)
      · have hi : i < l.length := by omega
        have c1b := decide_eq_true c1
        obtain ⟨ad, ea, hx⟩ := Kd.at_string HC.out (i : Int) (by omega) c1
        subst ea
        replace hx := (HB.out.cell (World.block_lt_of_cell? w _ hx)).trans hx
        have hA := HA.out
        rw [List.drop_eq_getElem_cons hi] at hA
        obtain ⟨p, b', e1, e2, e3⟩ := anyBad_cons hA
        have hrd : rdOf ByteArray.empty l (i : Int) = l[i] := by unfold rdOf; rw [Int.toNat_natCast, List.getD_eq_getElem?_getD, List.getElem?_eq_getElem hi]; rfl
        rw [hrd] at hx
        obtain ⟨x, hxx⟩ : ∃ x, x = l[i] := ⟨_, rfl⟩
        rw [← hxx] at hx e1
        simp only [Int.toNat_natCast] at hx
        have E1 := Aside0.mk e1
        have E2 := Aside0.mk e2
        have E3 := Aside0.mk e3
        have HI2 := HI.out
        have m1 : wrap64 ((i : Int) + 1) = ((i + 1 : Nat) : Int) := by unfold wrap64; have := HLL.out; omega
        have p0 := eq_true (show (0 : Int) ≤ (i : Int) by omega)
        have p1 := eq_true c1
        clear hA e1 e2 e3 hrd hxx HA
        cases p with
        | false =>
          go_wp2_with (first
            | (go_at_call 64; refine (split1_calls x false _ ?s1 E1.out).mono ?_; (case s1 => exact HGL.out.of HB.out); rintro e1 w1 ⟨rfl, hb⟩; have n0_ := Aside0.mk (below_step HB.out hb); clear HB hb; have HB := n0_; clear n0_))
          go_ret
          exact ⟨_, rfl, by rw [E3.out]; simp, HB.out⟩
        | true =>
          go_wp2_with (first
            | (go_at_call 64; refine (split1_calls x true _ ?s1 E1.out).mono ?_; (case s1 => exact HGL.out.of HB.out); rintro e1 w1 ⟨rfl, hb⟩; have n0_ := Aside0.mk (below_step HB.out hb); clear HB hb; have HB := n0_; clear n0_))
          go_roundg k1
          case measure => omega
          case rel => exact ⟨i + 1, (by first | rfl | (simp [m1]; done)), ⟨by omega⟩, ⟨by omega⟩, ⟨by rw [E2.out, E3.out]; simp⟩, HB⟩
      · have hi : i = l.length := by have := HJ.out; omega
        subst hi
        have c1b := decide_eq_false c1
        have hA := HA.out
        rw [List.drop_eq_nil_of_le (Nat.le_refl _)] at hA
        have hA := Option.some.inj hA
        subst hA
        go_wp2
        go_ret
        exact ⟨_, rfl, by decide, HB.out⟩
set_option maxHeartbeats 4000000 in
theorem contf_calls (A : Option Addr) (c : Nat) (l : List ByteArray) (b : Bool) (w : World) (hC : Kd.C Kd.string w A l.length l) (hc : l.length ≤ c) (hl : l.length ≤ 1000000) (hGl : Gl w) (h : anyBad l = some b) :
    Calls Tryz.prog 63 #[.slice A l.length c, .func (.func 64) #[] #[]] w fun e w' => e = .returned (.bool b) ∧ Below w.heap.size w w' := by
  have HC := Aside0.mk hC
  have HL := Aside0.mk hc
  have HLL := Aside0.mk hl
  have HGL := Aside0.mk hGl
  have HA := Aside0.mk h
  clear hC hc hl hGl h
  go_enter Tryz.func63, Tryz.ntmps63
  go_wp2_with (first
    | (go_at_call 85; refine (idxf_calls A c l b _ HC.out HL.out HLL.out HGL.out HA.out).mono ?_; rintro e1 w1 ⟨j, rfl, hj, hb⟩; have HB := Aside0.mk hb; have HJ := Aside0.mk hj; clear hb hj))
  go_ret
  exact ⟨by first | (rw [← HJ.out]; done) | (rw [← HJ.out]; rfl) | (simp [← HJ.out]; done), HB.out⟩
set_option maxHeartbeats 4000000 in
theorem path_Split.calls (k : Nat) (s : ByteArray) (r : List ByteArray) (w : World) (hGl : Gl w) (h : path_Split.f k s = some r) :
    Calls Tryz.prog 49 #[.string s] w fun e w' => ∃ v0_ : Value, e = .returned v0_ ∧ Kd.R Kd.string 9 w' w.heap.size (fun _ => True) v0_ r ∧ Below w.heap.size w w' := by
  unfold path_Split.f at h
  have HB := Aside0.mk (Below.refl w.heap.size w)
  have HGL := Aside0.mk hGl
  by_cases c1 : (s.size : Int) > 400
  · rw [if_pos c1] at h
    obtain rfl := Option.some.inj h
    have c1b : decide ((s.size : Int) > 400) = true := decide_eq_true c1
    have p1 := eq_true (show (400 : Int) < (s.size : Int) by omega)
    clear hGl h
    go_enter Tryz.func49, Tryz.ntmps49
    go_wp2
    go_ret
    exact ⟨_, rfl, Kd.R_nil _ _ _ _ _, HB.out⟩
  · rw [if_neg c1] at h
    obtain ⟨l, h1, h⟩ := Option.bind_eq_some_iff.1 h
    by_cases hl : l.length ≤ 1000000
    · rw [if_pos hl] at h
      obtain ⟨b, h2, h⟩ := Option.bind_eq_some_iff.1 h
      have c1b : decide ((s.size : Int) > 400) = false := decide_eq_false c1
      have p1 := eq_false (show ¬ (400 : Int) < (s.size : Int) by omega)
      have A1 := Aside0.mk h1
      have A2 := Aside0.mk h2
      have A3 := Aside0.mk hl
      have A4 := Aside0.mk h
      clear hGl h1 h2 hl h
      go_enter Tryz.func49, Tryz.ntmps49
      cases b with
      | true =>
        have A5 := Aside0.mk (show r = [] by have := A4.out; rw [if_pos rfl] at this; exact (Option.some.inj this).symm)
        go_wp2_with (first
          | (go_at_call 62; refine (strings_Split.calls k s _ l _ ?s1 A1.out).mono ?_; (case s1 => exact HGL.out.of HB.out); rintro e1 w1 ⟨v1, rfl, ho, hb⟩; have n0_ := Aside0.mk (below_step HB.out hb); clear HB hb; have HB := n0_; clear n0_; obtain ⟨A9, c9, eo, hc9, hC9⟩ := Kd.R_reads ho; subst eo; have HO := Aside0.mk ho; have HC := Aside0.mk hC9; have HCL := Aside0.mk hc9; clear ho hC9 hc9)
          | (go_at_call 63; refine (contf_calls _ _ l true _ HC.out HCL.out A3.out ?s1 A2.out).mono ?_; (case s1 => exact HGL.out.of HB.out); rintro e1 w2 ⟨rfl, hb⟩; have n0_ := Aside0.mk (below_step HB.out hb); clear HB hb; have HB := n0_; clear n0_))
        go_ret
        exact ⟨_, rfl, by rw [A5.out]; exact Kd.R_nil _ _ _ _ _, HB.out⟩
      | false =>
        have A5 := Aside0.mk (show r = l by have := A4.out; rw [if_neg (by simp)] at this; exact (Option.some.inj this).symm)
        go_wp2_with (first
          | (go_at_call 62; refine (strings_Split.calls k s _ l _ ?s1 A1.out).mono ?_; (case s1 => exact HGL.out.of HB.out); rintro e1 w1 ⟨v1, rfl, ho, hb⟩; have n0_ := Aside0.mk (below_step HB.out hb); clear HB hb; have HB := n0_; clear n0_; obtain ⟨A9, c9, eo, hc9, hC9⟩ := Kd.R_reads ho; subst eo; have HO := Aside0.mk ho; have HC := Aside0.mk hC9; have HCL := Aside0.mk hc9; clear ho hC9 hc9)
          | (go_at_call 63; refine (contf_calls _ _ l false _ HC.out HCL.out A3.out ?s1 A2.out).mono ?_; (case s1 => exact HGL.out.of HB.out); rintro e1 w2 ⟨rfl, hb⟩; have n1_ := Aside0.mk (Kd.R_below HO.out hb); have n0_ := Aside0.mk (below_step HB.out hb); clear HB hb HO; have HB := n0_; have HO := n1_; clear n0_ n1_))
        go_ret
        exact ⟨_, rfl, by rw [A5.out]; exact HO.out, HB.out⟩
    · rw [if_neg hl] at h; cases h

/-! ### path_Good: function 30 -/
def path_Good.f (k : Nat) (a0 : ByteArray) : Option (Bool) := (path_Split.f k a0).bind fun t137 => (some (decide ((t137.length : Int) > 0)))
theorem path_Good.mono : ∀ a0 k, LeO (path_Good.f k a0) (path_Good.f (k + 1) a0) := by
  intro a0 k
  unfold path_Good.f
  repeat' first
      | (with_reducible exact path_Split.mono _ _)
      | (with_reducible exact LeO.refl _)
      | (with_reducible exact LeO.none _)
      | (with_reducible refine LeO.ite ?_ ?_)
      | (with_reducible refine LeO.bind ?_ (fun _ => ?_))
      | exact path_Split.mono _ _
      | exact LeO.none _
      | refine LeO.ite ?_ ?_
      | refine LeO.bind ?_ (fun _ => ?_)
set_option maxHeartbeats 8000000 in
set_option maxRecDepth 100000 in
theorem path_Good.calls (k : Nat) (a0 : ByteArray) (r : Bool) (w : World) (hGl : Gl w) (h : path_Good.f k a0 = some r) :
    Calls Tryz.prog 30 #[.string a0] w fun e w' => e = .returned (.bool r) ∧ Below w.heap.size w w' := by
  have HB := Aside0.mk (Below.refl w.heap.size w)
  have HGL := Aside0.mk hGl
  clear hGl
  have H : ((path_Split.f k a0).bind fun t137 => (some (decide ((t137.length : Int) > 0)))) = some r := h
  clear h
  replace H := Option.bind_eq_some_iff.mp H
  obtain ⟨t137, A20, H⟩ := H
  replace H : (some (decide ((t137.length : Int) > 0))) = some r := H
  have A2 := Aside0.mk A20
  clear A20
  obtain rfl := Option.some.inj H
  go_enter Tryz.func30, Tryz.ntmps30
  go_wp2_with (first | ((with_reducible refine gate_callee (f := 49) rfl ?_); refine goesL_ (some 4) rfl rfl Tryz.func49 (by kernel_rfl) rfl #[.string a0] rfl (by (try simp only [List.map_toArray, List.map_cons, List.map_nil]); first | done | rfl | (simp only [List.length_drop, List.length_take]; rfl)) ?_; (with_reducible refine (path_Split.calls k a0 t137 _ ?side1 A2.out).mono ?_); (case side1 => first | exact HGL.out | exact Gl.drewN HGL.out _ | exact Gl.of HGL.out (by repeat (first | (with_reducible first | exact HB.out | apply below_alloc | apply pw_below_drewN | apply below_drew1) | exact HB.out))); rintro e w3 ⟨v138, rfl, ho0, hb⟩; refine ⟨_, rfl, ?_⟩; have n0_ := Aside0.mk (Kd.R_lower ho0 (below_size (by repeat (first | (with_reducible first | exact HB.out | apply below_alloc | apply pw_below_drewN | apply below_drew1) | exact HB.out)))); have n1_ := Aside0.mk (below_step (by repeat (first | (with_reducible first | exact HB.out | apply below_alloc | apply pw_below_drewN | apply below_drew1) | exact HB.out)) hb); clear HB; have HO139 := n0_; have HB := n1_; clear n0_ n1_; (try clear hb); (try clear hb2); (try clear hk); (try clear hi); (try clear ho0); obtain ⟨Ao4, co4, eo4⟩ := Kd.R_slice HO139.out; subst eo4))
  go_ret
  exact ⟨by first | rfl | (simp [errW_none, errW_some] <;> rfl) | (simp [*, errW_none, errW_some] <;> rfl), by repeat (first | (with_reducible first | exact HB.out | apply below_alloc | apply pw_below_drewN | apply below_drew1) | exact HB.out)⟩

/-! ### tree_goodFields: function 54 -/
def metaB (n least : Int) : Bool := decide (least ≤ n) && decide (n ≤ 1099511627776)
theorem meta_calls (n least : Int) (b : Bool) (w : World) (h : metaB n least = b) : Calls Tryz.prog 67 #[.int .i64 n, .int .i64 least] w fun e w' => e = .returned (.bool b) ∧ w' = w := by
  unfold metaB at h
  by_cases c1 : least ≤ n
  · have c1b : decide (n ≥ least) = true := decide_eq_true c1
    have c1c : decide (least ≤ n) = true := decide_eq_true c1
    rw [c1c, Bool.true_and] at h
    have c2b : decide (n ≤ 1099511627776) = b := h
    have c1' := eq_true c1
    clear h
    go_enter Tryz.func67, Tryz.ntmps67
    go_wp2
    go_ret
    exact ⟨rfl, rfl⟩
  · have c1b : decide (n ≥ least) = false := decide_eq_false c1
    have c1c : decide (least ≤ n) = false := decide_eq_false c1
    have c1' := eq_false c1
    rw [c1c, Bool.false_and] at h
    subst h
    go_enter Tryz.func67, Tryz.ntmps67
    go_wp2
    go_ret
    exact ⟨rfl, rfl⟩
def tree_goodFields.f (k : Nat) (p : ByteArray) (kd md u g t : Int) (ln : ByteArray) (d : List Int) : Option Bool := (if md < 0 then some (false) else (if md > 4095 then some (false) else (if metaB u (0) = true then (if metaB g (0) = true then (if metaB t (-1099511627776) = true then (if kd = 1 then (if ln.toList = ([] : List UInt8) then (if (d.length : Int) = 0 then some (true) else some (false)) else some (false)) else (if kd = 2 then (if ln.toList = ([] : List UInt8) then (if (d.length : Int) ≤ 65536 then some (true) else some (false)) else some (false)) else (if kd = 3 then ((path_Text.f ln 400).bind fun b_ => (if b_ = true then (if (d.length : Int) = 0 then some (true) else some (false)) else some (false))) else (if kd = 4 then ((path_Good.f k ln).bind fun b_ => (if b_ = true then (if (d.length : Int) = 0 then (if md = 0 then (if u = 0 then (if g = 0 then (if t = 0 then some (true) else some (false)) else some (false)) else some (false)) else some (false)) else some (false)) else some (false))) else some (false))))) else some (false)) else some (false)) else some (false))))
theorem tree_goodFields.mono : ∀ a0 a1 a2 a3 a4 a5 a6 a7 k, LeO (tree_goodFields.f k a0 a1 a2 a3 a4 a5 a6 a7) (tree_goodFields.f (k + 1) a0 a1 a2 a3 a4 a5 a6 a7) := by
  intro a0 a1 a2 a3 a4 a5 a6 a7 k
  unfold tree_goodFields.f
  repeat' first
      | (with_reducible exact path_Good.mono _ _)
      | (with_reducible exact LeO.refl _)
      | (with_reducible exact LeO.none _)
      | (with_reducible refine LeO.ite ?_ ?_)
      | (with_reducible refine LeO.bind ?_ (fun _ => ?_))
theorem good_cells {g : Nat} {W : World} {v0 v1 v2 v3 v4 v5 v6 v7 : Value} (h : W.heap[g]? = some (.cells #[v0, v1, v2, v3, v4, v5, v6, v7] 28 (0, 0))) :
    W.cell? ⟨g, 0, none⟩ = some v0 ∧ W.cell? ⟨g, 1, none⟩ = some v1 ∧ W.cell? ⟨g, 2, none⟩ = some v2 ∧ W.cell? ⟨g, 3, none⟩ = some v3 ∧ W.cell? ⟨g, 4, none⟩ = some v4 ∧ W.cell? ⟨g, 5, none⟩ = some v5 ∧ W.cell? ⟨g, 6, none⟩ = some v6 ∧ W.cell? ⟨g, 7, none⟩ = some v7 :=
  ⟨blk_cell h 0, blk_cell h 1, blk_cell h 2, blk_cell h 3, blk_cell h 4, blk_cell h 5, blk_cell h 6, blk_cell h 7⟩
theorem blk_stay {g : Nat} {W W1 : World} {cs : Array Value} {t : TypeId} (h : W.heap[g]? = some (.cells cs t (0, 0))) (hb : Below W.heap.size W W1) : W1.heap[g]? = some (.cells cs t (0, 0)) := (hb.block g (blk_lt h)).trans h
set_option maxHeartbeats 8000000 in
set_option maxRecDepth 100000 in
theorem tree_goodFields.calls (k : Nat) (p : ByteArray) (kd md u g t : Int) (ln : ByteArray) (A7 : Option Addr) (c7 : Nat) (d : List Int) (r : Bool) (w : World) (hd : d.length ≤ 9223372036854775807) (hGl : Gl w) (h : tree_goodFields.f k p kd md u g t ln d = some r) :
    Calls Tryz.prog 54 #[.agg #[.string p, .int .i64 kd, .int .i64 md, .int .i64 u, .int .i64 g, .int .i64 t, .string ln, .slice A7 d.length c7]] w fun e w' => e = .returned (.bool r) ∧ Below w.heap.size w w' := by
  unfold tree_goodFields.f at h
  have hu31 := Tryz.underlying28
  have HGL := Aside0.mk (hGl.of (below_alloc (Below.refl _ _) (.cells #[.string p, .int .i64 kd, .int .i64 md, .int .i64 u, .int .i64 g, .int .i64 t, .string ln, .slice A7 d.length c7] 28)))
  have HB := Aside0.mk (below_alloc (Below.refl w.heap.size w) (.cells #[.string p, .int .i64 kd, .int .i64 md, .int .i64 u, .int .i64 g, .int .i64 t, .string ln, .slice A7 d.length c7] 28))
  have BK := Aside0.mk (heap_alloc_new w (.cells #[.string p, .int .i64 kd, .int .i64 md, .int .i64 u, .int .i64 g, .int .i64 t, .string ln, .slice A7 d.length c7] 28))
  clear hGl
  by_cases cm0 : md < 0
  · rw [if_pos cm0] at h
    have cm0b : decide (md < 0) = true := decide_eq_true cm0
    clear cm0
    obtain rfl := Option.some.inj h
    go_enter Tryz.func54, Tryz.ntmps54
    go_wp2
    go_ret
    exact ⟨rfl, HB.out⟩
  · rw [if_neg cm0] at h
    have cm0b : decide (md < 0) = false := decide_eq_false cm0
    skip
    by_cases cm1 : md > 4095
    · rw [if_pos cm1] at h
      have cm1b : decide (md > 4095) = true := decide_eq_true cm1
      clear cm1
      obtain rfl := Option.some.inj h
      go_enter Tryz.func54, Tryz.ntmps54
      go_wp2
      go_ret
      exact ⟨rfl, HB.out⟩
    · rw [if_neg cm1] at h
      have cm1b : decide (md > 4095) = false := decide_eq_false cm1
      skip
      cases hu : metaB u (0) with
      | true =>
        rw [hu] at h
        rw [if_pos rfl] at h
        have Mu := Aside0.mk hu
        clear hu
        cases hg : metaB g (0) with
        | true =>
          rw [hg] at h
          rw [if_pos rfl] at h
          have Mg := Aside0.mk hg
          clear hg
          cases ht : metaB t (-1099511627776) with
          | true =>
            rw [ht] at h
            rw [if_pos rfl] at h
            have Mt := Aside0.mk ht
            clear ht
            by_cases ck1 : kd = 1
            · rw [if_pos ck1] at h
              have ck1b : (kd == 1) = true := beq_iff_eq.mpr ck1
              clear ck1
              by_cases cl : ln.toList = ([] : List UInt8)
              · rw [if_pos cl] at h
                have clb : (ln.toList == ([] : List UInt8)) = true := beq_iff_eq.mpr cl
                clear cl
                by_cases cd : (d.length : Int) = 0
                · rw [if_pos cd] at h
                  have cdb : ((d.length : Int) == 0) = true := beq_iff_eq.mpr cd
                  clear cd
                  obtain rfl := Option.some.inj h
                  go_enter Tryz.func54, Tryz.ntmps54
                  go_wp2_with (first | (go_at_call 67; (with_reducible refine (meta_calls u (0) true _ Mu.out).mono ?_); rintro e1 w9 ⟨rfl, rfl⟩) | (go_at_call 67; (with_reducible refine (meta_calls g (0) true _ Mg.out).mono ?_); rintro e1 w9 ⟨rfl, rfl⟩) | (go_at_call 67; (with_reducible refine (meta_calls t (-1099511627776) true _ Mt.out).mono ?_); rintro e1 w9 ⟨rfl, rfl⟩))
                  go_ret
                  exact ⟨rfl, HB.out⟩
                · rw [if_neg cd] at h
                  have cdb : ((d.length : Int) == 0) = false := beq_eq_false_iff_ne.mpr cd
                  clear cd
                  obtain rfl := Option.some.inj h
                  go_enter Tryz.func54, Tryz.ntmps54
                  go_wp2_with (first | (go_at_call 67; (with_reducible refine (meta_calls u (0) true _ Mu.out).mono ?_); rintro e1 w9 ⟨rfl, rfl⟩) | (go_at_call 67; (with_reducible refine (meta_calls g (0) true _ Mg.out).mono ?_); rintro e1 w9 ⟨rfl, rfl⟩) | (go_at_call 67; (with_reducible refine (meta_calls t (-1099511627776) true _ Mt.out).mono ?_); rintro e1 w9 ⟨rfl, rfl⟩))
                  go_ret
                  exact ⟨rfl, HB.out⟩
              · rw [if_neg cl] at h
                have clb : (ln.toList == ([] : List UInt8)) = false := beq_eq_false_iff_ne.mpr cl
                clear cl
                obtain rfl := Option.some.inj h
                go_enter Tryz.func54, Tryz.ntmps54
                go_wp2_with (first | (go_at_call 67; (with_reducible refine (meta_calls u (0) true _ Mu.out).mono ?_); rintro e1 w9 ⟨rfl, rfl⟩) | (go_at_call 67; (with_reducible refine (meta_calls g (0) true _ Mg.out).mono ?_); rintro e1 w9 ⟨rfl, rfl⟩) | (go_at_call 67; (with_reducible refine (meta_calls t (-1099511627776) true _ Mt.out).mono ?_); rintro e1 w9 ⟨rfl, rfl⟩))
                go_ret
                exact ⟨rfl, HB.out⟩
            · rw [if_neg ck1] at h
              have ck1b : (kd == 1) = false := beq_eq_false_iff_ne.mpr ck1
              clear ck1
              by_cases ck2 : kd = 2
              · rw [if_pos ck2] at h
                have ck2b : (kd == 2) = true := beq_iff_eq.mpr ck2
                clear ck2
                by_cases cl : ln.toList = ([] : List UInt8)
                · rw [if_pos cl] at h
                  have clb : (ln.toList == ([] : List UInt8)) = true := beq_iff_eq.mpr cl
                  clear cl
                  by_cases cdb : (d.length : Int) ≤ 65536
                  · rw [if_pos cdb] at h
                    have cdbb : decide ((d.length : Int) ≤ 65536) = true := decide_eq_true cdb
                    clear cdb
                    obtain rfl := Option.some.inj h
                    go_enter Tryz.func54, Tryz.ntmps54
                    go_wp2_with (first | (go_at_call 67; (with_reducible refine (meta_calls u (0) true _ Mu.out).mono ?_); rintro e1 w9 ⟨rfl, rfl⟩) | (go_at_call 67; (with_reducible refine (meta_calls g (0) true _ Mg.out).mono ?_); rintro e1 w9 ⟨rfl, rfl⟩) | (go_at_call 67; (with_reducible refine (meta_calls t (-1099511627776) true _ Mt.out).mono ?_); rintro e1 w9 ⟨rfl, rfl⟩))
                    go_ret
                    exact ⟨rfl, HB.out⟩
                  · rw [if_neg cdb] at h
                    have cdbb : decide ((d.length : Int) ≤ 65536) = false := decide_eq_false cdb
                    clear cdb
                    obtain rfl := Option.some.inj h
                    go_enter Tryz.func54, Tryz.ntmps54
                    go_wp2_with (first | (go_at_call 67; (with_reducible refine (meta_calls u (0) true _ Mu.out).mono ?_); rintro e1 w9 ⟨rfl, rfl⟩) | (go_at_call 67; (with_reducible refine (meta_calls g (0) true _ Mg.out).mono ?_); rintro e1 w9 ⟨rfl, rfl⟩) | (go_at_call 67; (with_reducible refine (meta_calls t (-1099511627776) true _ Mt.out).mono ?_); rintro e1 w9 ⟨rfl, rfl⟩))
                    go_ret
                    exact ⟨rfl, HB.out⟩
                · rw [if_neg cl] at h
                  have clb : (ln.toList == ([] : List UInt8)) = false := beq_eq_false_iff_ne.mpr cl
                  clear cl
                  obtain rfl := Option.some.inj h
                  go_enter Tryz.func54, Tryz.ntmps54
                  go_wp2_with (first | (go_at_call 67; (with_reducible refine (meta_calls u (0) true _ Mu.out).mono ?_); rintro e1 w9 ⟨rfl, rfl⟩) | (go_at_call 67; (with_reducible refine (meta_calls g (0) true _ Mg.out).mono ?_); rintro e1 w9 ⟨rfl, rfl⟩) | (go_at_call 67; (with_reducible refine (meta_calls t (-1099511627776) true _ Mt.out).mono ?_); rintro e1 w9 ⟨rfl, rfl⟩))
                  go_ret
                  exact ⟨rfl, HB.out⟩
              · rw [if_neg ck2] at h
                have ck2b : (kd == 2) = false := beq_eq_false_iff_ne.mpr ck2
                clear ck2
                by_cases ck3 : kd = 3
                · rw [if_pos ck3] at h
                  have ck3b : (kd == 3) = true := beq_iff_eq.mpr ck3
                  clear ck3
                  obtain ⟨b_, X0, h⟩ := Option.bind_eq_some_iff.mp h
                  have X := Aside0.mk X0
                  clear X0
                  cases b_ with
                  | true =>
                    replace h : (if true = true then (if (d.length : Int) = 0 then some (true) else some (false)) else some (false)) = some r := h
                    rw [if_pos rfl] at h
                    by_cases cd : (d.length : Int) = 0
                    · rw [if_pos cd] at h
                      have cdb : ((d.length : Int) == 0) = true := beq_iff_eq.mpr cd
                      clear cd
                      obtain rfl := Option.some.inj h
                      go_enter Tryz.func54, Tryz.ntmps54
                      go_wp2_with (first | (go_at_call 67; (with_reducible refine (meta_calls u (0) true _ Mu.out).mono ?_); rintro e1 w9 ⟨rfl, rfl⟩) | (go_at_call 67; (with_reducible refine (meta_calls g (0) true _ Mg.out).mono ?_); rintro e1 w9 ⟨rfl, rfl⟩) | (go_at_call 67; (with_reducible refine (meta_calls t (-1099511627776) true _ Mt.out).mono ?_); rintro e1 w9 ⟨rfl, rfl⟩) | (go_at_call 68; (with_reducible refine (path_Text.calls ln 400 true _ ?s1 X.out).mono ?_); (case s1 => exact HGL.out); rintro e1 w9 ⟨rfl, hb⟩; have BK9 := Aside0.mk (blk_stay BK.out hb); have n0_ := Aside0.mk (below_step HB.out hb); clear HB BK hb; have HB := n0_; clear n0_; obtain ⟨j0, j1, j2, j3, j4, j5, j6, j7⟩ := good_cells BK9.out))
                      go_ret
                      exact ⟨rfl, HB.out⟩
                    · rw [if_neg cd] at h
                      have cdb : ((d.length : Int) == 0) = false := beq_eq_false_iff_ne.mpr cd
                      clear cd
                      obtain rfl := Option.some.inj h
                      go_enter Tryz.func54, Tryz.ntmps54
                      go_wp2_with (first | (go_at_call 67; (with_reducible refine (meta_calls u (0) true _ Mu.out).mono ?_); rintro e1 w9 ⟨rfl, rfl⟩) | (go_at_call 67; (with_reducible refine (meta_calls g (0) true _ Mg.out).mono ?_); rintro e1 w9 ⟨rfl, rfl⟩) | (go_at_call 67; (with_reducible refine (meta_calls t (-1099511627776) true _ Mt.out).mono ?_); rintro e1 w9 ⟨rfl, rfl⟩) | (go_at_call 68; (with_reducible refine (path_Text.calls ln 400 true _ ?s1 X.out).mono ?_); (case s1 => exact HGL.out); rintro e1 w9 ⟨rfl, hb⟩; have BK9 := Aside0.mk (blk_stay BK.out hb); have n0_ := Aside0.mk (below_step HB.out hb); clear HB BK hb; have HB := n0_; clear n0_; obtain ⟨j0, j1, j2, j3, j4, j5, j6, j7⟩ := good_cells BK9.out))
                      go_ret
                      exact ⟨rfl, HB.out⟩
                  | false =>
                    replace h : (if false = true then (if (d.length : Int) = 0 then some (true) else some (false)) else some (false)) = some r := h
                    rw [if_neg (by decide)] at h
                    obtain rfl := Option.some.inj h
                    go_enter Tryz.func54, Tryz.ntmps54
                    go_wp2_with (first | (go_at_call 67; (with_reducible refine (meta_calls u (0) true _ Mu.out).mono ?_); rintro e1 w9 ⟨rfl, rfl⟩) | (go_at_call 67; (with_reducible refine (meta_calls g (0) true _ Mg.out).mono ?_); rintro e1 w9 ⟨rfl, rfl⟩) | (go_at_call 67; (with_reducible refine (meta_calls t (-1099511627776) true _ Mt.out).mono ?_); rintro e1 w9 ⟨rfl, rfl⟩) | (go_at_call 68; (with_reducible refine (path_Text.calls ln 400 false _ ?s1 X.out).mono ?_); (case s1 => exact HGL.out); rintro e1 w9 ⟨rfl, hb⟩; have BK9 := Aside0.mk (blk_stay BK.out hb); have n0_ := Aside0.mk (below_step HB.out hb); clear HB BK hb; have HB := n0_; clear n0_; obtain ⟨j0, j1, j2, j3, j4, j5, j6, j7⟩ := good_cells BK9.out))
                    go_ret
                    exact ⟨rfl, HB.out⟩
                · rw [if_neg ck3] at h
                  have ck3b : (kd == 3) = false := beq_eq_false_iff_ne.mpr ck3
                  clear ck3
                  by_cases ck4 : kd = 4
                  · rw [if_pos ck4] at h
                    have ck4b : (kd == 4) = true := beq_iff_eq.mpr ck4
                    clear ck4
                    obtain ⟨b_, X0, h⟩ := Option.bind_eq_some_iff.mp h
                    have X := Aside0.mk X0
                    clear X0
                    cases b_ with
                    | true =>
                      replace h : (if true = true then (if (d.length : Int) = 0 then (if md = 0 then (if u = 0 then (if g = 0 then (if t = 0 then some (true) else some (false)) else some (false)) else some (false)) else some (false)) else some (false)) else some (false)) = some r := h
                      rw [if_pos rfl] at h
                      by_cases cd : (d.length : Int) = 0
                      · rw [if_pos cd] at h
                        have cdb : ((d.length : Int) == 0) = true := beq_iff_eq.mpr cd
                        clear cd
                        by_cases cmd0 : md = 0
                        · rw [if_pos cmd0] at h
                          have cmd0b : (md == 0) = true := beq_iff_eq.mpr cmd0
                          clear cmd0
                          by_cases cu0 : u = 0
                          · rw [if_pos cu0] at h
                            have cu0b : (u == 0) = true := beq_iff_eq.mpr cu0
                            clear cu0
                            by_cases cg0 : g = 0
                            · rw [if_pos cg0] at h
                              have cg0b : (g == 0) = true := beq_iff_eq.mpr cg0
                              clear cg0
                              by_cases ct0 : t = 0
                              · rw [if_pos ct0] at h
                                have ct0b : (t == 0) = true := beq_iff_eq.mpr ct0
                                clear ct0
                                obtain rfl := Option.some.inj h
                                go_enter Tryz.func54, Tryz.ntmps54
                                go_wp2_with (first | (go_at_call 67; (with_reducible refine (meta_calls u (0) true _ Mu.out).mono ?_); rintro e1 w9 ⟨rfl, rfl⟩) | (go_at_call 67; (with_reducible refine (meta_calls g (0) true _ Mg.out).mono ?_); rintro e1 w9 ⟨rfl, rfl⟩) | (go_at_call 67; (with_reducible refine (meta_calls t (-1099511627776) true _ Mt.out).mono ?_); rintro e1 w9 ⟨rfl, rfl⟩) | (go_at_call 30; (with_reducible refine (path_Good.calls k ln true _ ?s1 X.out).mono ?_); (case s1 => exact HGL.out); rintro e1 w9 ⟨rfl, hb⟩; have BK9 := Aside0.mk (blk_stay BK.out hb); have n0_ := Aside0.mk (below_step HB.out hb); clear HB BK hb; have HB := n0_; clear n0_; obtain ⟨j0, j1, j2, j3, j4, j5, j6, j7⟩ := good_cells BK9.out))
                                go_ret
                                exact ⟨rfl, HB.out⟩
                              · rw [if_neg ct0] at h
                                have ct0b : (t == 0) = false := beq_eq_false_iff_ne.mpr ct0
                                clear ct0
                                obtain rfl := Option.some.inj h
                                go_enter Tryz.func54, Tryz.ntmps54
                                go_wp2_with (first | (go_at_call 67; (with_reducible refine (meta_calls u (0) true _ Mu.out).mono ?_); rintro e1 w9 ⟨rfl, rfl⟩) | (go_at_call 67; (with_reducible refine (meta_calls g (0) true _ Mg.out).mono ?_); rintro e1 w9 ⟨rfl, rfl⟩) | (go_at_call 67; (with_reducible refine (meta_calls t (-1099511627776) true _ Mt.out).mono ?_); rintro e1 w9 ⟨rfl, rfl⟩) | (go_at_call 30; (with_reducible refine (path_Good.calls k ln true _ ?s1 X.out).mono ?_); (case s1 => exact HGL.out); rintro e1 w9 ⟨rfl, hb⟩; have BK9 := Aside0.mk (blk_stay BK.out hb); have n0_ := Aside0.mk (below_step HB.out hb); clear HB BK hb; have HB := n0_; clear n0_; obtain ⟨j0, j1, j2, j3, j4, j5, j6, j7⟩ := good_cells BK9.out))
                                go_ret
                                exact ⟨rfl, HB.out⟩
                            · rw [if_neg cg0] at h
                              have cg0b : (g == 0) = false := beq_eq_false_iff_ne.mpr cg0
                              clear cg0
                              obtain rfl := Option.some.inj h
                              go_enter Tryz.func54, Tryz.ntmps54
                              go_wp2_with (first | (go_at_call 67; (with_reducible refine (meta_calls u (0) true _ Mu.out).mono ?_); rintro e1 w9 ⟨rfl, rfl⟩) | (go_at_call 67; (with_reducible refine (meta_calls g (0) true _ Mg.out).mono ?_); rintro e1 w9 ⟨rfl, rfl⟩) | (go_at_call 67; (with_reducible refine (meta_calls t (-1099511627776) true _ Mt.out).mono ?_); rintro e1 w9 ⟨rfl, rfl⟩) | (go_at_call 30; (with_reducible refine (path_Good.calls k ln true _ ?s1 X.out).mono ?_); (case s1 => exact HGL.out); rintro e1 w9 ⟨rfl, hb⟩; have BK9 := Aside0.mk (blk_stay BK.out hb); have n0_ := Aside0.mk (below_step HB.out hb); clear HB BK hb; have HB := n0_; clear n0_; obtain ⟨j0, j1, j2, j3, j4, j5, j6, j7⟩ := good_cells BK9.out))
                              go_ret
                              exact ⟨rfl, HB.out⟩
                          · rw [if_neg cu0] at h
                            have cu0b : (u == 0) = false := beq_eq_false_iff_ne.mpr cu0
                            clear cu0
                            obtain rfl := Option.some.inj h
                            go_enter Tryz.func54, Tryz.ntmps54
                            go_wp2_with (first | (go_at_call 67; (with_reducible refine (meta_calls u (0) true _ Mu.out).mono ?_); rintro e1 w9 ⟨rfl, rfl⟩) | (go_at_call 67; (with_reducible refine (meta_calls g (0) true _ Mg.out).mono ?_); rintro e1 w9 ⟨rfl, rfl⟩) | (go_at_call 67; (with_reducible refine (meta_calls t (-1099511627776) true _ Mt.out).mono ?_); rintro e1 w9 ⟨rfl, rfl⟩) | (go_at_call 30; (with_reducible refine (path_Good.calls k ln true _ ?s1 X.out).mono ?_); (case s1 => exact HGL.out); rintro e1 w9 ⟨rfl, hb⟩; have BK9 := Aside0.mk (blk_stay BK.out hb); have n0_ := Aside0.mk (below_step HB.out hb); clear HB BK hb; have HB := n0_; clear n0_; obtain ⟨j0, j1, j2, j3, j4, j5, j6, j7⟩ := good_cells BK9.out))
                            go_ret
                            exact ⟨rfl, HB.out⟩
                        · rw [if_neg cmd0] at h
                          have cmd0b : (md == 0) = false := beq_eq_false_iff_ne.mpr cmd0
                          clear cmd0
                          obtain rfl := Option.some.inj h
                          go_enter Tryz.func54, Tryz.ntmps54
                          go_wp2_with (first | (go_at_call 67; (with_reducible refine (meta_calls u (0) true _ Mu.out).mono ?_); rintro e1 w9 ⟨rfl, rfl⟩) | (go_at_call 67; (with_reducible refine (meta_calls g (0) true _ Mg.out).mono ?_); rintro e1 w9 ⟨rfl, rfl⟩) | (go_at_call 67; (with_reducible refine (meta_calls t (-1099511627776) true _ Mt.out).mono ?_); rintro e1 w9 ⟨rfl, rfl⟩) | (go_at_call 30; (with_reducible refine (path_Good.calls k ln true _ ?s1 X.out).mono ?_); (case s1 => exact HGL.out); rintro e1 w9 ⟨rfl, hb⟩; have BK9 := Aside0.mk (blk_stay BK.out hb); have n0_ := Aside0.mk (below_step HB.out hb); clear HB BK hb; have HB := n0_; clear n0_; obtain ⟨j0, j1, j2, j3, j4, j5, j6, j7⟩ := good_cells BK9.out))
                          go_ret
                          exact ⟨rfl, HB.out⟩
                      · rw [if_neg cd] at h
                        have cdb : ((d.length : Int) == 0) = false := beq_eq_false_iff_ne.mpr cd
                        clear cd
                        obtain rfl := Option.some.inj h
                        go_enter Tryz.func54, Tryz.ntmps54
                        go_wp2_with (first | (go_at_call 67; (with_reducible refine (meta_calls u (0) true _ Mu.out).mono ?_); rintro e1 w9 ⟨rfl, rfl⟩) | (go_at_call 67; (with_reducible refine (meta_calls g (0) true _ Mg.out).mono ?_); rintro e1 w9 ⟨rfl, rfl⟩) | (go_at_call 67; (with_reducible refine (meta_calls t (-1099511627776) true _ Mt.out).mono ?_); rintro e1 w9 ⟨rfl, rfl⟩) | (go_at_call 30; (with_reducible refine (path_Good.calls k ln true _ ?s1 X.out).mono ?_); (case s1 => exact HGL.out); rintro e1 w9 ⟨rfl, hb⟩; have BK9 := Aside0.mk (blk_stay BK.out hb); have n0_ := Aside0.mk (below_step HB.out hb); clear HB BK hb; have HB := n0_; clear n0_; obtain ⟨j0, j1, j2, j3, j4, j5, j6, j7⟩ := good_cells BK9.out))
                        go_ret
                        exact ⟨rfl, HB.out⟩
                    | false =>
                      replace h : (if false = true then (if (d.length : Int) = 0 then (if md = 0 then (if u = 0 then (if g = 0 then (if t = 0 then some (true) else some (false)) else some (false)) else some (false)) else some (false)) else some (false)) else some (false)) = some r := h
                      rw [if_neg (by decide)] at h
                      obtain rfl := Option.some.inj h
                      go_enter Tryz.func54, Tryz.ntmps54
                      go_wp2_with (first | (go_at_call 67; (with_reducible refine (meta_calls u (0) true _ Mu.out).mono ?_); rintro e1 w9 ⟨rfl, rfl⟩) | (go_at_call 67; (with_reducible refine (meta_calls g (0) true _ Mg.out).mono ?_); rintro e1 w9 ⟨rfl, rfl⟩) | (go_at_call 67; (with_reducible refine (meta_calls t (-1099511627776) true _ Mt.out).mono ?_); rintro e1 w9 ⟨rfl, rfl⟩) | (go_at_call 30; (with_reducible refine (path_Good.calls k ln false _ ?s1 X.out).mono ?_); (case s1 => exact HGL.out); rintro e1 w9 ⟨rfl, hb⟩; have BK9 := Aside0.mk (blk_stay BK.out hb); have n0_ := Aside0.mk (below_step HB.out hb); clear HB BK hb; have HB := n0_; clear n0_; obtain ⟨j0, j1, j2, j3, j4, j5, j6, j7⟩ := good_cells BK9.out))
                      go_ret
                      exact ⟨rfl, HB.out⟩
                  · rw [if_neg ck4] at h
                    have ck4b : (kd == 4) = false := beq_eq_false_iff_ne.mpr ck4
                    clear ck4
                    obtain rfl := Option.some.inj h
                    go_enter Tryz.func54, Tryz.ntmps54
                    go_wp2_with (first | (go_at_call 67; (with_reducible refine (meta_calls u (0) true _ Mu.out).mono ?_); rintro e1 w9 ⟨rfl, rfl⟩) | (go_at_call 67; (with_reducible refine (meta_calls g (0) true _ Mg.out).mono ?_); rintro e1 w9 ⟨rfl, rfl⟩) | (go_at_call 67; (with_reducible refine (meta_calls t (-1099511627776) true _ Mt.out).mono ?_); rintro e1 w9 ⟨rfl, rfl⟩))
                    go_ret
                    exact ⟨rfl, HB.out⟩
          | false =>
            rw [ht] at h
            rw [if_neg (by decide)] at h
            have Mt := Aside0.mk ht
            clear ht
            obtain rfl := Option.some.inj h
            go_enter Tryz.func54, Tryz.ntmps54
            go_wp2_with (first | (go_at_call 67; (with_reducible refine (meta_calls u (0) true _ Mu.out).mono ?_); rintro e1 w9 ⟨rfl, rfl⟩) | (go_at_call 67; (with_reducible refine (meta_calls g (0) true _ Mg.out).mono ?_); rintro e1 w9 ⟨rfl, rfl⟩) | (go_at_call 67; (with_reducible refine (meta_calls t (-1099511627776) false _ Mt.out).mono ?_); rintro e1 w9 ⟨rfl, rfl⟩))
            go_ret
            exact ⟨rfl, HB.out⟩
        | false =>
          rw [hg] at h
          rw [if_neg (by decide)] at h
          have Mg := Aside0.mk hg
          clear hg
          obtain rfl := Option.some.inj h
          go_enter Tryz.func54, Tryz.ntmps54
          go_wp2_with (first | (go_at_call 67; (with_reducible refine (meta_calls u (0) true _ Mu.out).mono ?_); rintro e1 w9 ⟨rfl, rfl⟩) | (go_at_call 67; (with_reducible refine (meta_calls g (0) false _ Mg.out).mono ?_); rintro e1 w9 ⟨rfl, rfl⟩))
          go_ret
          exact ⟨rfl, HB.out⟩
      | false =>
        rw [hu] at h
        rw [if_neg (by decide)] at h
        have Mu := Aside0.mk hu
        clear hu
        obtain rfl := Option.some.inj h
        go_enter Tryz.func54, Tryz.ntmps54
        go_wp2_with (first | (go_at_call 67; (with_reducible refine (meta_calls u (0) false _ Mu.out).mono ?_); rintro e1 w9 ⟨rfl, rfl⟩))
        go_ret
        exact ⟨rfl, HB.out⟩

-- NOT PRINTED: function 37 (tree_checker_entry)

-- NOT PRINTED: function 19 (tree_Check)

/-! ### path_Parent: function 29 -/
def path_Parent.f (k : Nat) (a0 : ByteArray) : Option (ByteArray × Bool) := (strings_LastIndexByte.f a0 47).bind fun t140 => (if t140 < 0 then (some ((⟨#[]⟩ : ByteArray), false)) else ((path_Good.f k a0).bind fun t141 => (if t141 = true then (if 0 ≤ t140 then (if t140 ≤ (a0.size : Int) then (some (a0.extract 0 (t140 : Int).toNat, true)) else (none)) else (none)) else (some ((⟨#[]⟩ : ByteArray), false)))))
theorem path_Parent.mono : ∀ a0 k, LeO (path_Parent.f k a0) (path_Parent.f (k + 1) a0) := by
  intro a0 k
  unfold path_Parent.f
  repeat' first
      | (with_reducible exact path_Good.mono _ _)
      | (with_reducible exact LeO.refl _)
      | (with_reducible exact LeO.none _)
      | (with_reducible refine LeO.ite ?_ ?_)
      | (with_reducible refine LeO.bind ?_ (fun _ => ?_))
      | exact path_Good.mono _ _
      | exact LeO.none _
      | refine LeO.ite ?_ ?_
      | refine LeO.bind ?_ (fun _ => ?_)
set_option maxHeartbeats 8000000 in
set_option maxRecDepth 100000 in
theorem path_Parent.calls (k : Nat) (a0 : ByteArray) (r1 : ByteArray) (r2 : Bool) (w : World) (hGl : Gl w) (h : path_Parent.f k a0 = some (r1, r2)) :
    Calls Tryz.prog 29 #[.string a0] w fun e w' => e = .returned (.tuple #[.string r1, .bool r2]) ∧ Below w.heap.size w w' := by
  have HB := Aside0.mk (Below.refl w.heap.size w)
  have HGL := Aside0.mk hGl
  clear hGl
  have H : ((strings_LastIndexByte.f a0 47).bind fun t140 => (if t140 < 0 then (some ((⟨#[]⟩ : ByteArray), false)) else ((path_Good.f k a0).bind fun t141 => (if t141 = true then (if 0 ≤ t140 then (if t140 ≤ (a0.size : Int) then (some (a0.extract 0 (t140 : Int).toNat, true)) else (none)) else (none)) else (some ((⟨#[]⟩ : ByteArray), false)))))) = some (r1, r2) := h
  clear h
  replace H := Option.bind_eq_some_iff.mp H
  obtain ⟨t140, A20, H⟩ := H
  replace H : (if t140 < 0 then (some ((⟨#[]⟩ : ByteArray), false)) else ((path_Good.f k a0).bind fun t141 => (if t141 = true then (if 0 ≤ t140 then (if t140 ≤ (a0.size : Int) then (some (a0.extract 0 (t140 : Int).toNat, true)) else (none)) else (none)) else (some ((⟨#[]⟩ : ByteArray), false))))) = some (r1, r2) := H
  have A2 := Aside0.mk A20
  clear A20
  by_cases c3 : t140 < 0
  · rw [if_pos c3] at H
    have c3b0 : decide (t140 < 0) = true := decide_eq_true c3
    clear c3
    simp only [Option.some.injEq, Prod.mk.injEq] at H
    obtain ⟨rfl, rfl⟩ := H
    go_enter Tryz.func29, Tryz.ntmps29
    go_wp2_with (first | ((with_reducible refine gate_callee (f := 48) rfl ?_); refine goesL_ (some 6) rfl rfl Tryz.func48 (by kernel_rfl) rfl #[.string a0, .int .u8 47] rfl (by (try simp only [List.map_toArray, List.map_cons, List.map_nil]); first | done | rfl | (simp only [List.length_drop, List.length_take]; rfl)) ?_; (with_reducible refine (strings_LastIndexByte.calls a0 47 t140 _ ?side1 A2.out).mono ?_); (case side1 => first | exact HGL.out | exact Gl.drewN HGL.out _ | exact Gl.of HGL.out (by repeat (first | (with_reducible first | exact HB.out | apply below_alloc | apply pw_below_drewN | apply below_drew1) | exact HB.out))); rintro e w' ⟨rfl, ⟨nd, rfl⟩⟩; refine ⟨_, rfl, ?_⟩))
    go_ret2
    exact ⟨by first | rfl | (simp [errW_none, errW_some] <;> rfl) | (simp [*, errW_none, errW_some] <;> rfl), by repeat (first | (with_reducible first | exact HB.out | apply below_alloc | apply pw_below_drewN | apply below_drew1) | exact HB.out)⟩
  · rw [if_neg c3] at H
    have c3b0 : decide (t140 < 0) = false := decide_eq_false c3
    clear c3
    replace H := Option.bind_eq_some_iff.mp H
    obtain ⟨t141, A40, H⟩ := H
    replace H : (if t141 = true then (if 0 ≤ t140 then (if t140 ≤ (a0.size : Int) then (some (a0.extract 0 (t140 : Int).toNat, true)) else (none)) else (none)) else (some ((⟨#[]⟩ : ByteArray), false))) = some (r1, r2) := H
    have A4 := Aside0.mk A40
    clear A40
    by_cases c5 : t141 = true
    · subst c5
      have H1 : (if 0 ≤ t140 then (if t140 ≤ (a0.size : Int) then (some (a0.extract 0 (t140 : Int).toNat, true)) else (none)) else (none)) = some (r1, r2) := by rw [if_pos rfl] at H; exact H
      clear H
      have H := H1
      clear H1
      by_cases c6 : 0 ≤ t140
      · rw [if_pos c6] at H
        have c6b0 := eq_true c6
        have c6b1 : decide (0 ≤ t140) = true := decide_eq_true c6
        clear c6
        by_cases c7 : t140 ≤ (a0.size : Int)
        · rw [if_pos c7] at H
          have c7b0 := eq_true c7
          have c7b1 : decide (t140 ≤ (a0.size : Int)) = true := decide_eq_true c7
          clear c7
          simp only [Option.some.injEq, Prod.mk.injEq] at H
          obtain ⟨rfl, rfl⟩ := H
          go_enter Tryz.func29, Tryz.ntmps29
          go_wp2_with (first | ((with_reducible refine gate_callee (f := 48) rfl ?_); refine goesL_ (some 6) rfl rfl Tryz.func48 (by kernel_rfl) rfl #[.string a0, .int .u8 47] rfl (by (try simp only [List.map_toArray, List.map_cons, List.map_nil]); first | done | rfl | (simp only [List.length_drop, List.length_take]; rfl)) ?_; (with_reducible refine (strings_LastIndexByte.calls a0 47 t140 _ ?side1 A2.out).mono ?_); (case side1 => first | exact HGL.out | exact Gl.drewN HGL.out _ | exact Gl.of HGL.out (by repeat (first | (with_reducible first | exact HB.out | apply below_alloc | apply pw_below_drewN | apply below_drew1) | exact HB.out))); rintro e w' ⟨rfl, ⟨nd, rfl⟩⟩; refine ⟨_, rfl, ?_⟩) | (go_at_call 30; (with_reducible refine (path_Good.calls k a0 true _ ?side1 A4.out).mono ?_); (case side1 => first | exact HGL.out | exact Gl.drewN HGL.out _ | exact Gl.of HGL.out (by repeat (first | (with_reducible first | exact HB.out | apply below_alloc | apply pw_below_drewN | apply below_drew1) | exact HB.out))); rintro e w8 ⟨rfl, hb⟩; have n0_ := Aside0.mk (below_step (by repeat (first | (with_reducible first | exact HB.out | apply below_alloc | apply pw_below_drewN | apply below_drew1) | exact HB.out)) hb); clear HB; have HB := n0_; clear n0_; (try clear hb); (try clear hb2); (try clear hk); (try clear hi)))
          go_ret2
          exact ⟨by first | rfl | (simp [errW_none, errW_some] <;> rfl) | (simp [*, errW_none, errW_some] <;> rfl), by repeat (first | (with_reducible first | exact HB.out | apply below_alloc | apply pw_below_drewN | apply below_drew1) | exact HB.out)⟩
        · rw [if_neg c7] at H
          exact absurd H (by simp)
      · rw [if_neg c6] at H
        exact absurd H (by simp)
    · replace c5 := Bool.eq_false_iff.mpr c5
      subst c5
      have H1 : (some ((⟨#[]⟩ : ByteArray), false)) = some (r1, r2) := by rw [if_neg (show ¬ (false = true) by decide)] at H; exact H
      clear H
      have H := H1
      clear H1
      simp only [Option.some.injEq, Prod.mk.injEq] at H
      obtain ⟨rfl, rfl⟩ := H
      go_enter Tryz.func29, Tryz.ntmps29
      go_wp2_with (first | ((with_reducible refine gate_callee (f := 48) rfl ?_); refine goesL_ (some 6) rfl rfl Tryz.func48 (by kernel_rfl) rfl #[.string a0, .int .u8 47] rfl (by (try simp only [List.map_toArray, List.map_cons, List.map_nil]); first | done | rfl | (simp only [List.length_drop, List.length_take]; rfl)) ?_; (with_reducible refine (strings_LastIndexByte.calls a0 47 t140 _ ?side1 A2.out).mono ?_); (case side1 => first | exact HGL.out | exact Gl.drewN HGL.out _ | exact Gl.of HGL.out (by repeat (first | (with_reducible first | exact HB.out | apply below_alloc | apply pw_below_drewN | apply below_drew1) | exact HB.out))); rintro e w' ⟨rfl, ⟨nd, rfl⟩⟩; refine ⟨_, rfl, ?_⟩) | (go_at_call 30; (with_reducible refine (path_Good.calls k a0 false _ ?side1 A4.out).mono ?_); (case side1 => first | exact HGL.out | exact Gl.drewN HGL.out _ | exact Gl.of HGL.out (by repeat (first | (with_reducible first | exact HB.out | apply below_alloc | apply pw_below_drewN | apply below_drew1) | exact HB.out))); rintro e w9 ⟨rfl, hb⟩; have n0_ := Aside0.mk (below_step (by repeat (first | (with_reducible first | exact HB.out | apply below_alloc | apply pw_below_drewN | apply below_drew1) | exact HB.out)) hb); clear HB; have HB := n0_; clear n0_; (try clear hb); (try clear hb2); (try clear hk); (try clear hi)))
      go_ret2
      exact ⟨by first | rfl | (simp [errW_none, errW_some] <;> rfl) | (simp [*, errW_none, errW_some] <;> rfl), by repeat (first | (with_reducible first | exact HB.out | apply below_alloc | apply pw_below_drewN | apply below_drew1) | exact HB.out)⟩

-- NOT PRINTED: function 119 (abi_NoEscape)

-- NOT PRINTED: function 116 (strings_Builder_copyCheck)

-- NOT PRINTED: function 120 (bytealg_MakeNoZero)

-- NOT PRINTED: function 117 (strings_Builder_grow)

-- NOT PRINTED: function 105 (strings_Builder_Grow)

-- NOT PRINTED: function 106 (strings_Builder_WriteString)

-- NOT PRINTED: function 107 (strings_Builder_String)

/-! ### strings_Join: function 90 -/
def strings_Join.f (l : List ByteArray) (sep : ByteArray) : Option ByteArray := if l.length ≤ 140737488355328 ∧ (Lib.join (l.map (·.data.toList)) sep.data.toList).length ≤ 140737488355328 then some ⟨(Lib.join (l.map (·.data.toList)) sep.data.toList).toArray⟩ else none
theorem strings_Join.calls (A0 : Option Addr) (c0 : Nat) (l0 : List ByteArray) (a1 : ByteArray) (r : ByteArray) (w : World) (hr0 : Kd.C Kd.string w A0 l0.length l0) (hc0 : l0.length ≤ c0) (hGl : Gl w) (h : strings_Join.f l0 a1 = some r) :
    Calls Tryz.prog 90 #[.slice A0 l0.length c0, .string a1] w fun e w' => e = .returned (.string r) ∧ Below w.heap.size w w' := by
  unfold strings_Join.f at h
  by_cases hc : l0.length ≤ 140737488355328 ∧ (Lib.join (l0.map (·.data.toList)) a1.data.toList).length ≤ 140737488355328
  · rw [if_pos hc] at h
    obtain rfl := Option.some.inj h
    rcases Nat.eq_zero_or_pos l0.length with h0 | h0
    · have hl : l0 = [] := List.eq_nil_of_length_eq_zero h0
      subst hl
      refine (Tryz.strings_Join_none A0 c0 a1 w).mono ?_
      rintro e w' ⟨rfl, rfl⟩
      exact ⟨rfl, Below.refl _ _⟩
    · have hrd := Kd.reads_of_C (enc := Value.string) (d := (⟨#[]⟩ : ByteArray)) (h1 := fun _ => rfl) hr0
      obtain ⟨⟨bk, o, sp⟩, rfl, hcell⟩ := hrd.2.2 h0
      have hsp : sp = none := by
        have := hcell 0 h0
        cases sp with
        | none => rfl
        | some q => exfalso; simp [Addr.add, World.cell?] at this; split at this <;> simp_all
      subst hsp
      have hx : ∀ (j : Nat) x, l0[j]? = some x → w.cell? ⟨bk, o + j, none⟩ = some (.string x) := by
        intro j x hj
        have hlt := (List.getElem?_eq_some_iff.1 hj).1
        have := hcell j hlt
        rw [Addr.add_lit, List.getD_eq_getElem?_getD, hj] at this
        exact this
      have hb : bk < w.heap.size := World.block_lt_of_cell? w ⟨bk, o + 0, none⟩ (hx 0 _ (List.getElem?_eq_getElem h0))
      exact Tryz.strings_Join bk o c0 l0 a1 w hx hb hc.1 hc0 hc.2
  · rw [if_neg hc] at h; cases h

end Go.Proofs.YtfkbmjfhakooiaaGreatDoor.PTree
