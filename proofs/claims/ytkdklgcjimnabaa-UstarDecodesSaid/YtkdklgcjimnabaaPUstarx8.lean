/- Printed for this claim by a copy of the kit's print.py that takes functions walked by our own texts. Conditions: none. -/
import Derived.Test.YtkdklgcjimnabaaPUstarx0
import Derived.Test.YtkdklgcjimnabaaPUstarx6
import Derived.Test.YtkdklgcjimnabaaPUstarx7
namespace Go.Proofs.Ytkdklgcjimnabaa.PUstar
open Go.RowKit Go.Proofs.YtkdklgcjimnabaaW.PrintWords Go.Proofs.YtkdklgcjimnabaaW.PrintLast Go.Proofs.YtkdklgcjimnabaaW.PrintMore
attribute [local go_sem] max2_int min2_int max_two min_two max_three min_three max_four min_four   -- for this text's walks alone
set_option linter.unusedVariables false
set_option linter.unusedSimpArgs false

/-! ### amphoraref10_octal: function 36 -/
def amphoraref10_octal.l0 : Nat → Int → Int → ByteArray → Int → Option (ByteArray)
  | 0, _, _, _, _ => none
  | k + 1, x0, x1, x5, x6 => if x6 < x1 then ((some (([(wrap64 (48 + (Int.tmod x0 8))) % 256] : List Int) : List Int)).bind fun y203 => (if (strOfNums y203).size + x5.size ≤ 9223372036854775807 then (amphoraref10_octal.l0 k (wrap64 (Int.tdiv x0 8)) x1 ((strOfNums y203) ++ x5) (wrap64 (x6 + 1))) else (none))) else (some x5)
def amphoraref10_octal.f (k : Nat) (a0 : Int) (a1 : Int) : Option (ByteArray) := amphoraref10_octal.l0 k a0 a1 (⟨#[]⟩ : ByteArray) 0
theorem amphoraref10_octal.mono_l : ∀ k, (∀ y0 y1 y2 y3, LeO (amphoraref10_octal.l0 k y0 y1 y2 y3) (amphoraref10_octal.l0 (k + 1) y0 y1 y2 y3))
  | 0 => fun _ _ _ _ r h => by simp [amphoraref10_octal.l0] at h
  | k + 1 => by
    have ih0 := amphoraref10_octal.mono_l k
    · intro y0 y1 y2 y3
      unfold amphoraref10_octal.l0
      repeat' first
      | (with_reducible exact ih0 _ _ _ _)
      | (with_reducible exact LeO.refl _)
      | (with_reducible exact LeO.none _)
      | (with_reducible refine LeO.ite ?_ ?_)
      | (with_reducible refine LeO.bind ?_ (fun _ => ?_))
      | exact ih0 _ _ _ _
      | exact LeO.none _
      | refine LeO.ite ?_ ?_
      | refine LeO.bind ?_ (fun _ => ?_)
theorem amphoraref10_octal.mono : ∀ a0 a1 k, LeO (amphoraref10_octal.f k a0 a1) (amphoraref10_octal.f (k + 1) a0 a1) := by
  intro a0 a1 k
  have ih0 := amphoraref10_octal.mono_l k
  unfold amphoraref10_octal.f
  repeat' first
      | (with_reducible exact ih0 _ _ _ _)
      | (with_reducible exact LeO.refl _)
      | (with_reducible exact LeO.none _)
      | (with_reducible refine LeO.ite ?_ ?_)
      | (with_reducible refine LeO.bind ?_ (fun _ => ?_))
      | exact ih0 _ _ _ _
      | exact LeO.none _
      | refine LeO.ite ?_ ?_
      | refine LeO.bind ?_ (fun _ => ?_)
set_option maxHeartbeats 8000000 in
set_option maxRecDepth 100000 in
theorem amphoraref10_octal.calls (k : Nat) (a0 : Int) (a1 : Int) (r : ByteArray) (w : World) (h : amphoraref10_octal.f k a0 a1 = some r) :
    Calls Try.prog 36 #[.int .i64 a0, .int .i64 a1] w fun e w' => e = .returned (.string r) ∧ Below w.heap.size w w' := by
  have HB := Aside0.mk (Below.refl w.heap.size w)
  have H : (amphoraref10_octal.l0 k a0 a1 (⟨#[]⟩ : ByteArray) 0) = some r := h
  clear h
  have H' := Aside0.mk H
  clear H
  go_enter Try.func36, Try.ntmps36
  go_wp2
  go_loopg [0, 5, 6] k (fun kq v0 v5 v6 w' => ∃ (x0_1 : Int) (x5_1 : ByteArray) (x6_1 : Int), v0 = .int .i64 x0_1 ∧ v5 = .string x5_1 ∧ v6 = .int .i64 x6_1 ∧ Aside0 (amphoraref10_octal.l0 kq x0_1 a1 x5_1 x6_1 = some r) ∧ Aside0 (kq ≤ k) ∧ Aside0 (Below w.heap.size w w'))
  case atStart => exact ⟨(a0), ((⟨#[]⟩ : ByteArray)), (0), (by first | rfl | (simp; done) | (simp [*]; done)), (by first | rfl | (simp; done) | (simp [*]; done)), (by first | rfl | (simp; done) | (simp [*]; done)), H', ⟨Nat.le_refl _⟩, ⟨by repeat (first | (with_reducible first | exact HB.out | apply below_alloc | apply pw_below_drewN | apply below_drew1) | exact HB.out)⟩⟩
  case round =>
    clear H'
    try clear p2
    obtain ⟨x0_1, x5_1, x6_1, rfl, rfl, rfl, HA, HK1, HB⟩ := hrel
    cases gk with
    | zero => exact absurd HA.out (by simp [amphoraref10_octal.l0])
    | succ k1 =>
      have H := HA.out
      clear HA
      simp only [amphoraref10_octal.l0] at H
      by_cases c3 : x6_1 < a1
      · rw [if_pos c3] at H
        have c3b0 : decide (x6_1 < a1) = true := decide_eq_true c3
        clear c3
        obtain ⟨y203, hy203⟩ : ∃ y_ : List Int, y_ = (([(wrap64 (48 + (Int.tmod x0_1 8))) % 256] : List Int)) := ⟨_, rfl⟩
        replace H : (if (strOfNums y203).size + x5_1.size ≤ 9223372036854775807 then (amphoraref10_octal.l0 k1 (wrap64 (Int.tdiv x0_1 8)) a1 ((strOfNums y203) ++ x5_1) (wrap64 (x6_1 + 1))) else (none)) = some r := by first | (rw [hy203]; with_reducible exact H) | (have H2_ := (Option.bind_some _ _).symm.trans H; rw [hy203]; with_reducible exact H2_) | (have H2_ := (Option.bind_some _ _).symm.trans H; with_reducible exact H2_) | with_reducible exact H | (rw [hy203]; exact H) | exact H
        have Ny203 := Aside0.mk hy203
        clear hy203
        by_cases c4 : (strOfNums y203).size + x5_1.size ≤ 9223372036854775807
        · rw [if_pos c4] at H
          have c4b0 := eq_true c4
          have c4b1 : decide ((strOfNums y203).size + x5_1.size ≤ 9223372036854775807) = true := decide_eq_true c4
          try have c4b2 : (9223372036854775807 < (strOfNums y203).size + x5_1.size) = False := eq_false (Nat.not_lt.2 c4)
          have H' := Aside0.mk H
          clear H
          go_wp2_with (first | ((with_reducible refine gate_dst (N := 16) rfl ?_); refine Kd.R_lit (Kd.int .u8) _ 5 ?hg (N := 16) ?hd (xs := ([(wrap64 (48 + (Int.tmod x0_1 8))) % 256] : List Int)) (inner := [.int .u8 ((wrap64 (48 + (Int.tmod x0_1 8))) % 256)]) (ok := fun _ => True) (okp := fun _ => True) ?hr ?hp (fun _ hk => hk) trivial (Below.refl _ _) (Nat.le_refl _) (by simp) ?_; (case hd => rfl); (case hg => rfl); (case hr => first | (go_simp; done) | (go_simp; rfl)); (case hp => exact (Reps.one (show Kd.M (Kd.int .u8) _ _ _ ((wrap64 (48 + (Int.tmod x0_1 8))) % 256) [.int .u8 ((wrap64 (48 + (Int.tmod x0_1 8))) % 256)] from rfl) (Reps.none _ _))); intro v204 w5 ho6 hb hg_ hnew_; clear hg_ hnew_; (first | rw [← Ny203.out] at ho6 | (simp only [Int.reduceToNat] at ho6; rw [← Ny203.out] at ho6)); have n0_ := Aside0.mk (Kd.R_lower ho6 (below_size (by repeat (first | (with_reducible first | exact HB.out | apply below_alloc | apply pw_below_drewN | apply below_drew1) | exact HB.out)))); have n1_ := Aside0.mk (below_step (by repeat (first | (with_reducible first | exact HB.out | apply below_alloc | apply pw_below_drewN | apply below_drew1) | exact HB.out)) hb); clear HB; have HO205 := n0_; have HB := n1_; clear n0_ n1_; clear hb ho6; have hcv7 := own_string (P := Try.prog) Try.underlying22 Try.underlying5 Try.underlying9 (Kd.own_of_R HO205.out)))
          go_roundg k1
          case measure => have := HK1.out; omega
          case rel => exact ⟨(wrap64 (Int.tdiv x0_1 8)), ((strOfNums y203) ++ x5_1), (wrap64 (x6_1 + 1)), (by first | rfl | (simp; done) | (simp [*]; done)), (by first | rfl | (simp; done) | (simp [*]; done)), (by first | rfl | (simp; done) | (simp [*]; done)), H', ⟨by have := HK1.out; omega⟩, ⟨by repeat (first | (with_reducible first | exact HB.out | apply below_alloc | apply pw_below_drewN | apply below_drew1) | exact HB.out)⟩⟩
        · rw [if_neg c4] at H
          exact absurd H (by simp)
      · rw [if_neg c3] at H
        have c3b0 : decide (x6_1 < a1) = false := decide_eq_false c3
        clear c3
        obtain rfl := Option.some.inj H
        go_wp2
        go_ret
        exact ⟨by first | rfl | (simp [errW_none, errW_some] <;> rfl) | (simp [*, errW_none, errW_some] <;> rfl), by repeat (first | (with_reducible first | exact HB.out | apply below_alloc | apply pw_below_drewN | apply below_drew1) | exact HB.out)⟩

/-! ### amphoraref10_text: function 40 -/
def amphoraref10_text.l0 : Nat → List Int → Int → Int → Option (List Int)
  | 0, _, _, _ => none
  | k + 1, x0, x2, x7 => if x7 < x2 then (if x0.length < 140737488355328 then (amphoraref10_text.l0 k (x0 ++ [0]) x2 (wrap64 (x7 + 1))) else (none)) else (some x0)
def amphoraref10_text.f (k : Nat) (l0 : List Int) (a1 : ByteArray) (a2 : Int) : Option (List Int) := if l0.length + a1.size < 140737488355328 then (amphoraref10_text.l0 k (l0 ++ bytesOf a1) a2 (a1.size : Int)) else (none)
theorem amphoraref10_text.mono_l : ∀ k, (∀ y0 y1 y2, LeO (amphoraref10_text.l0 k y0 y1 y2) (amphoraref10_text.l0 (k + 1) y0 y1 y2))
  | 0 => fun _ _ _ r h => by simp [amphoraref10_text.l0] at h
  | k + 1 => by
    have ih0 := amphoraref10_text.mono_l k
    · intro y0 y1 y2
      unfold amphoraref10_text.l0
      repeat' first
      | (with_reducible exact ih0 _ _ _)
      | (with_reducible exact LeO.refl _)
      | (with_reducible exact LeO.none _)
      | (with_reducible refine LeO.ite ?_ ?_)
      | (with_reducible refine LeO.bind ?_ (fun _ => ?_))
      | exact ih0 _ _ _
      | exact LeO.none _
      | refine LeO.ite ?_ ?_
      | refine LeO.bind ?_ (fun _ => ?_)
theorem amphoraref10_text.mono : ∀ a0 a1 a2 k, LeO (amphoraref10_text.f k a0 a1 a2) (amphoraref10_text.f (k + 1) a0 a1 a2) := by
  intro a0 a1 a2 k
  have ih0 := amphoraref10_text.mono_l k
  unfold amphoraref10_text.f
  repeat' first
      | (with_reducible exact ih0 _ _ _)
      | (with_reducible exact LeO.refl _)
      | (with_reducible exact LeO.none _)
      | (with_reducible refine LeO.ite ?_ ?_)
      | (with_reducible refine LeO.bind ?_ (fun _ => ?_))
      | exact ih0 _ _ _
      | exact LeO.none _
      | refine LeO.ite ?_ ?_
      | refine LeO.bind ?_ (fun _ => ?_)
set_option maxHeartbeats 8000000 in
set_option maxRecDepth 100000 in
theorem amphoraref10_text.calls (k : Nat) (P0_ : Nat → Prop) (u9000_ : Value) (l0 : List Int) (a1 : ByteArray) (a2 : Int) (r : List Int) (w0 w : World) (hB : Below w0.heap.size w0 w) (ho0 : Kd.R (Kd.int .u8) 5 w w0.heap.size P0_ u9000_ l0) (h : amphoraref10_text.f k l0 a1 a2 = some r) :
    Calls Try.prog 40 #[u9000_, .string a1, .int .i64 a2] w fun e w' => ∃ v0_ : Value, e = .returned (v0_) ∧ Kd.R (Kd.int .u8) 5 w' w0.heap.size (fun k_ => (P0_ k_ ∨ w.heap.size ≤ k_)) v0_ r ∧ Below w0.heap.size w0 w' ∧ Kept w w' (fun k_ => P0_ k_) := by
  have HO0 := Aside0.mk (show Kd.R (Kd.int .u8) 5 w w0.heap.size (fun k_ => (P0_ k_ ∨ w.heap.size ≤ k_)) u9000_ l0 from Kd.R_mono ho0 (fun k_ hk => (.inl hk)))
  have HK := Aside0.mk (Kept.refl w (fun k_ => P0_ k_))
  have HW0 := Aside0.mk hB.size
  have HB := Aside0.mk hB
  clear hB
  have H : (if l0.length + a1.size < 140737488355328 then (amphoraref10_text.l0 k (l0 ++ bytesOf a1) a2 (a1.size : Int)) else (none)) = some r := h
  clear h
  by_cases c4 : l0.length + a1.size < 140737488355328
  · rw [if_pos c4] at H
    have LMc4 := Aside0.mk c4
    clear c4
    obtain ⟨y206, hy206⟩ : ∃ y_ : List Int, y_ = (l0 ++ bytesOf a1) := ⟨_, rfl⟩
    replace H : (amphoraref10_text.l0 k y206 a2 (a1.size : Int)) = some r := by first | (rw [hy206]; with_reducible exact H) | (have H2_ := (Option.bind_some _ _).symm.trans H; rw [hy206]; with_reducible exact H2_) | (have H2_ := (Option.bind_some _ _).symm.trans H; with_reducible exact H2_) | with_reducible exact H | (rw [hy206]; exact H) | exact H
    have Ny206 := Aside0.mk hy206
    clear hy206
    have H' := Aside0.mk H
    clear H
    go_enter Try.func40, Try.ntmps40
    go_wp2_with (first | (at_builtin; refine CopyS.print_append_str2 (w0 := w0) w0.heap.size rfl (.tmp 8) _ 22 9 5 rfl Try.underlying22 Try.underlying9 info5 u9000_ l0 a1 rfl rfl ?aO ?aB ?aS ?aL ?_; (case aB => exact (by repeat (first | (with_reducible first | exact HB.out | apply below_alloc | apply pw_below_drewN | apply below_drew1) | exact HB.out))); (case aO => exact (Kd.own_of_R (by (with_reducible repeat (first | apply Kd.R_alloc | apply Kd.R_drewN | apply Kd.R_drew)); exact HO0.out))); (case aS => exact (below_size (by repeat (first | (with_reducible first | exact HB.out | apply below_alloc | apply pw_below_drewN | apply below_drew1) | exact HB.out)))); (case aL => have := LMc4.out; have hz_ : (⟨#[48, 48]⟩ : ByteArray).size = 2 := rfl; omega); intro v207 w5 ho0 hb hg hat; have ho := Kd.R_of_own (h1 := fun _ => rfl) (ok := fun k_ => (P0_ k_ ∨ w.heap.size ≤ k_)) ho0 (fun k_ e_ => by rcases hat with hat | ⟨b_, hb_, hl_⟩; (exact HO0.out.1 k_ (hat ▸ e_)); (rw [hb_] at e_; injection e_ with e_; subst e_; exact .inr (Nat.le_trans (below_size (Below.refl w.heap.size w)) hl_))); clear ho0; rw [← Ny206.out] at ho; change Kd.R (Kd.int .u8) 5 w5 w0.heap.size (fun k_ => (P0_ k_ ∨ w.heap.size ≤ k_)) v207 y206 at ho; have n0_ := Aside0.mk (hb); have n1_ := Aside0.mk (Kept.of_grown (S := (fun k_ => P0_ k_)) hg (by repeat (first | (with_reducible first | exact HK.out | apply Kept.alloc | apply Kept.drewN | apply Kept.drew) | exact HK.out)) (fun k_ e_ => (HO0.out.1 k_ e_))); have n2_ := Aside0.mk (ho); clear HB; clear HK; clear HO0; have HB := n0_; have HK := n1_; have HO208 := n2_; clear n0_ n1_ n2_; clear ho hb hg hat))
    go_loopg [0, 7] k (fun kq v0 v7 w' => ∃ (x0_1 : List Int) (x7_1 : Int), v7 = .int .i64 x7_1 ∧ Aside0 (amphoraref10_text.l0 kq x0_1 a2 x7_1 = some r) ∧ Aside0 (kq ≤ k) ∧ Aside0 (Kd.R (Kd.int .u8) 5 w' w0.heap.size (fun k_ => (P0_ k_ ∨ w.heap.size ≤ k_)) v0 x0_1) ∧ Aside0 (Kept w w' (fun k_ => P0_ k_)) ∧ Aside0 (Below w0.heap.size w0 w'))
    case atStart => exact ⟨(y206), ((a1.size : Int)), (by first | rfl | (simp; done) | (simp [*]; done)), H', ⟨Nat.le_refl _⟩, ⟨by (with_reducible repeat (first | apply Kd.R_alloc | apply Kd.R_drewN | apply Kd.R_drew)); exact HO208.out⟩, ⟨by repeat (first | (with_reducible first | exact HK.out | apply Kept.alloc | apply Kept.drewN | apply Kept.drew) | exact HK.out)⟩, ⟨by repeat (first | (with_reducible first | exact HB.out | apply below_alloc | apply pw_below_drewN | apply below_drew1) | exact HB.out)⟩⟩
    case round =>
      clear H'
      try clear p2
      try clear c4
      obtain ⟨x0_1, x7_1, rfl, HA, HK1, HO_0, HK, HB⟩ := hrel
      cases gk with
      | zero => exact absurd HA.out (by simp [amphoraref10_text.l0])
      | succ k1 =>
        have H := HA.out
        clear HA
        simp only [amphoraref10_text.l0] at H
        by_cases c6 : x7_1 < a2
        · rw [if_pos c6] at H
          have c6b0 : decide (x7_1 < a2) = true := decide_eq_true c6
          clear c6
          by_cases c7 : x0_1.length < 140737488355328
          · rw [if_pos c7] at H
            have LMc7 := Aside0.mk c7
            clear c7
            obtain ⟨y209, hy209⟩ : ∃ y_ : List Int, y_ = (x0_1 ++ [0]) := ⟨_, rfl⟩
            replace H : (amphoraref10_text.l0 k1 y209 a2 (wrap64 (x7_1 + 1))) = some r := by first | (rw [hy209]; with_reducible exact H) | (have H2_ := (Option.bind_some _ _).symm.trans H; rw [hy209]; with_reducible exact H2_) | (have H2_ := (Option.bind_some _ _).symm.trans H; with_reducible exact H2_) | with_reducible exact H | (rw [hy209]; exact H) | exact H
            have Ny209 := Aside0.mk hy209
            clear hy209
            have H' := Aside0.mk H
            clear H
            go_wp2_with (first | ((with_reducible refine gate_builtin (b := .append) (xs := #[.tmp 18, .tmp 19]) rfl ?_); at_builtin; refine Kd.R_append (Kd.int .u8) (w0 := w0) w0.heap.size rfl (.tmp 18) (.tmp 19) 22 5 (.int .u8 0) 1 rfl Try.underlying22 info5 rfl (by decide) (by omega) u0 x0_1 0 [.int .u8 0] (fun k_ => (P0_ k_ ∨ w.heap.size ≤ k_)) (fun _ => False) rfl rfl ?aP (fun _ hk => hk.elim) ?aF ?aO ?aB ?aS ?aL ?_; (case aP => exact rfl); (case aB => exact (by repeat (first | (with_reducible first | exact HB.out | apply below_alloc | apply pw_below_drewN | apply below_drew1) | exact HB.out))); (case aF => exact (fun k_ hk => (.inr (Nat.le_trans (by first | exact HK.out.1 | exact (show Kept w _ (fun k_ => P0_ k_) from by repeat (first | (with_reducible first | exact HK.out | apply Kept.alloc | apply Kept.drewN | apply Kept.drew) | exact HK.out)).1) hk)))); (case aO => exact (by (with_reducible repeat (first | apply Kd.R_alloc | apply Kd.R_drewN | apply Kd.R_drew)); exact HO_0.out)); (case aS => exact (below_size (by repeat (first | (with_reducible first | exact HB.out | apply below_alloc | apply pw_below_drewN | apply below_drew1) | exact HB.out)))); (case aL => have := LMc7.out; have hz_ : (⟨#[48, 48]⟩ : ByteArray).size = 2 := rfl; omega); intro v210 w8 ho hb hg hat; rw [← Ny209.out] at ho; have n0_ := Aside0.mk (hb); have n1_ := Aside0.mk (Kept.of_grown (S := (fun k_ => P0_ k_)) hg (by repeat (first | (with_reducible first | exact HK.out | apply Kept.alloc | apply Kept.drewN | apply Kept.drew) | exact HK.out)) (fun k_ e_ => (HO_0.out.1 k_ e_))); have n2_ := Aside0.mk (ho); clear HB; clear HK; clear HO_0; have HB := n0_; have HK := n1_; have HO211 := n2_; clear n0_ n1_ n2_; clear ho hb hg hat))
            go_roundg k1
            case measure => have := HK1.out; omega
            case rel => exact ⟨(y209), (wrap64 (x7_1 + 1)), (by first | rfl | (simp; done) | (simp [*]; done)), H', ⟨by have := HK1.out; omega⟩, ⟨by (with_reducible repeat (first | apply Kd.R_alloc | apply Kd.R_drewN | apply Kd.R_drew)); exact HO211.out⟩, ⟨by repeat (first | (with_reducible first | exact HK.out | apply Kept.alloc | apply Kept.drewN | apply Kept.drew) | exact HK.out)⟩, ⟨by repeat (first | (with_reducible first | exact HB.out | apply below_alloc | apply pw_below_drewN | apply below_drew1) | exact HB.out)⟩⟩
          · rw [if_neg c7] at H
            exact absurd H (by simp)
        · rw [if_neg c6] at H
          have c6b0 : decide (x7_1 < a2) = false := decide_eq_false c6
          clear c6
          obtain rfl := Option.some.inj H
          go_wp2
          go_ret
          exact ⟨_, by first | rfl | (simp [errW_none, errW_some] <;> rfl) | (simp [*, errW_none, errW_some] <;> rfl), by (with_reducible repeat (first | apply Kd.R_alloc | apply Kd.R_drewN | apply Kd.R_drew)); exact HO_0.out, by repeat (first | (with_reducible first | exact HB.out | apply below_alloc | apply pw_below_drewN | apply below_drew1) | exact HB.out), by repeat (first | (with_reducible first | exact HK.out | apply Kept.alloc | apply Kept.drewN | apply Kept.drew) | exact HK.out)⟩
  · rw [if_neg c4] at H
    exact absurd H (by simp)

/-! ### amphoraref10_put: function 35 -/
def amphoraref10_put.f (k : Nat) (a0_0 : ByteArray) (a0_1 : Int) (a0_2 : Int) (a0_3 : Int) (a0_4 : Int) (a0_5 : Int) (a0_6 : Int) (a0_7 : ByteArray) (a1 : ByteArray) : Option (List Int) := (amphoraref10_Path.f k a0_0).bind fun bt213 => ((amphoraref10_text.f k ([] : List Int) bt213.2.1 100).bind fun t216 => ((amphoraref10_octal.f k a0_1 7).bind fun t219 => ((amphoraref10_text.f k t216 t219 8).bind fun t220 => ((amphoraref10_octal.f k a0_2 7).bind fun t223 => ((amphoraref10_text.f k t220 t223 8).bind fun t224 => ((amphoraref10_octal.f k a0_3 7).bind fun t227 => ((amphoraref10_text.f k t224 t227 8).bind fun t228 => ((amphoraref10_octal.f k a0_4 11).bind fun t231 => ((amphoraref10_text.f k t228 t231 12).bind fun t232 => ((amphoraref10_octal.f k a0_5 11).bind fun t235 => ((amphoraref10_text.f k t232 t235 12).bind fun t236 => (if t236.length + a1.size < 140737488355328 then ((some (t236 ++ bytesOf a1 : List Int)).bind fun y239 => (if y239.length < 140737488355328 then ((amphoraref10_text.f k (y239 ++ [a0_6]) a0_7 100).bind fun t245 => ((amphoraref10_text.f k t245 (⟨#[117, 115, 116, 97, 114]⟩ : ByteArray) 6).bind fun t248 => (if t248.length + 2 < 140737488355328 then ((amphoraref10_text.f k (t248 ++ bytesOf (⟨#[48, 48]⟩ : ByteArray)) (⟨#[]⟩ : ByteArray) 64).bind fun t254 => ((amphoraref10_text.f k t254 (⟨#[48, 48, 48, 48, 48, 48, 48]⟩ : ByteArray) 8).bind fun t257 => ((amphoraref10_text.f k t257 (⟨#[48, 48, 48, 48, 48, 48, 48]⟩ : ByteArray) 8).bind fun t260 => ((amphoraref10_text.f k t260 bt213.1 155).bind fun t263 => ((amphoraref10_text.f k t263 (⟨#[]⟩ : ByteArray) 12).bind fun t266 => (some t266)))))) else (none)))) else (none))) else (none)))))))))))))
theorem amphoraref10_put.mono : ∀ a0 a1 a2 a3 a4 a5 a6 a7 a8 k, LeO (amphoraref10_put.f k a0 a1 a2 a3 a4 a5 a6 a7 a8) (amphoraref10_put.f (k + 1) a0 a1 a2 a3 a4 a5 a6 a7 a8) := by
  intro a0 a1 a2 a3 a4 a5 a6 a7 a8 k
  unfold amphoraref10_put.f
  repeat' first
      | (with_reducible exact amphoraref10_Path.mono _ _)
      | (with_reducible exact amphoraref10_octal.mono _ _ _)
      | (with_reducible exact amphoraref10_text.mono _ _ _ _)
      | (with_reducible exact LeO.refl _)
      | (with_reducible exact LeO.none _)
      | (with_reducible refine LeO.ite ?_ ?_)
      | (with_reducible refine LeO.bind ?_ (fun _ => ?_))
      | exact amphoraref10_Path.mono _ _
      | exact amphoraref10_octal.mono _ _ _
      | exact amphoraref10_text.mono _ _ _ _
      | exact LeO.none _
      | refine LeO.ite ?_ ?_
      | refine LeO.bind ?_ (fun _ => ?_)
set_option maxHeartbeats 8000000 in
set_option maxRecDepth 100000 in
theorem amphoraref10_put.calls (k : Nat) (a0_0 : ByteArray) (a0_1 : Int) (a0_2 : Int) (a0_3 : Int) (a0_4 : Int) (a0_5 : Int) (a0_6 : Int) (a0_7 : ByteArray) (a1 : ByteArray) (r : List Int) (w : World) (h : amphoraref10_put.f k a0_0 a0_1 a0_2 a0_3 a0_4 a0_5 a0_6 a0_7 a1 = some r) :
    Calls Try.prog 35 #[.agg #[.string a0_0, .int .i64 a0_1, .int .i64 a0_2, .int .i64 a0_3, .int .i64 a0_4, .int .i64 a0_5, .int .u8 a0_6, .string a0_7], .string a1] w fun e w' => ∃ v0_ : Value, e = .returned (v0_) ∧ Kd.R (Kd.int .u8) 5 w' w.heap.size (fun _ => True) v0_ r ∧ Below w.heap.size w w' := by
  have hu26 := Try.underlying26
  have HB := Aside0.mk (Below.refl w.heap.size w)
  have H : ((amphoraref10_Path.f k a0_0).bind fun bt213 => ((amphoraref10_text.f k ([] : List Int) bt213.2.1 100).bind fun t216 => ((amphoraref10_octal.f k a0_1 7).bind fun t219 => ((amphoraref10_text.f k t216 t219 8).bind fun t220 => ((amphoraref10_octal.f k a0_2 7).bind fun t223 => ((amphoraref10_text.f k t220 t223 8).bind fun t224 => ((amphoraref10_octal.f k a0_3 7).bind fun t227 => ((amphoraref10_text.f k t224 t227 8).bind fun t228 => ((amphoraref10_octal.f k a0_4 11).bind fun t231 => ((amphoraref10_text.f k t228 t231 12).bind fun t232 => ((amphoraref10_octal.f k a0_5 11).bind fun t235 => ((amphoraref10_text.f k t232 t235 12).bind fun t236 => (if t236.length + a1.size < 140737488355328 then ((some (t236 ++ bytesOf a1 : List Int)).bind fun y239 => (if y239.length < 140737488355328 then ((amphoraref10_text.f k (y239 ++ [a0_6]) a0_7 100).bind fun t245 => ((amphoraref10_text.f k t245 (⟨#[117, 115, 116, 97, 114]⟩ : ByteArray) 6).bind fun t248 => (if t248.length + 2 < 140737488355328 then ((amphoraref10_text.f k (t248 ++ bytesOf (⟨#[48, 48]⟩ : ByteArray)) (⟨#[]⟩ : ByteArray) 64).bind fun t254 => ((amphoraref10_text.f k t254 (⟨#[48, 48, 48, 48, 48, 48, 48]⟩ : ByteArray) 8).bind fun t257 => ((amphoraref10_text.f k t257 (⟨#[48, 48, 48, 48, 48, 48, 48]⟩ : ByteArray) 8).bind fun t260 => ((amphoraref10_text.f k t260 bt213.1 155).bind fun t263 => ((amphoraref10_text.f k t263 (⟨#[]⟩ : ByteArray) 12).bind fun t266 => (some t266)))))) else (none)))) else (none))) else (none)))))))))))))) = some r := h
  clear h
  replace H := Option.bind_eq_some_iff.mp H
  obtain ⟨⟨t213, t214, t215⟩, A30, H⟩ := H
  replace H : ((amphoraref10_text.f k ([] : List Int) t214 100).bind fun t216 => ((amphoraref10_octal.f k a0_1 7).bind fun t219 => ((amphoraref10_text.f k t216 t219 8).bind fun t220 => ((amphoraref10_octal.f k a0_2 7).bind fun t223 => ((amphoraref10_text.f k t220 t223 8).bind fun t224 => ((amphoraref10_octal.f k a0_3 7).bind fun t227 => ((amphoraref10_text.f k t224 t227 8).bind fun t228 => ((amphoraref10_octal.f k a0_4 11).bind fun t231 => ((amphoraref10_text.f k t228 t231 12).bind fun t232 => ((amphoraref10_octal.f k a0_5 11).bind fun t235 => ((amphoraref10_text.f k t232 t235 12).bind fun t236 => (if t236.length + a1.size < 140737488355328 then ((some (t236 ++ bytesOf a1 : List Int)).bind fun y239 => (if y239.length < 140737488355328 then ((amphoraref10_text.f k (y239 ++ [a0_6]) a0_7 100).bind fun t245 => ((amphoraref10_text.f k t245 (⟨#[117, 115, 116, 97, 114]⟩ : ByteArray) 6).bind fun t248 => (if t248.length + 2 < 140737488355328 then ((amphoraref10_text.f k (t248 ++ bytesOf (⟨#[48, 48]⟩ : ByteArray)) (⟨#[]⟩ : ByteArray) 64).bind fun t254 => ((amphoraref10_text.f k t254 (⟨#[48, 48, 48, 48, 48, 48, 48]⟩ : ByteArray) 8).bind fun t257 => ((amphoraref10_text.f k t257 (⟨#[48, 48, 48, 48, 48, 48, 48]⟩ : ByteArray) 8).bind fun t260 => ((amphoraref10_text.f k t260 t213 155).bind fun t263 => ((amphoraref10_text.f k t263 (⟨#[]⟩ : ByteArray) 12).bind fun t266 => (some t266)))))) else (none)))) else (none))) else (none))))))))))))) = some r := H
  have A3 := Aside0.mk A30
  clear A30
  replace H := Option.bind_eq_some_iff.mp H
  obtain ⟨t216, A40, H⟩ := H
  replace H : ((amphoraref10_octal.f k a0_1 7).bind fun t219 => ((amphoraref10_text.f k t216 t219 8).bind fun t220 => ((amphoraref10_octal.f k a0_2 7).bind fun t223 => ((amphoraref10_text.f k t220 t223 8).bind fun t224 => ((amphoraref10_octal.f k a0_3 7).bind fun t227 => ((amphoraref10_text.f k t224 t227 8).bind fun t228 => ((amphoraref10_octal.f k a0_4 11).bind fun t231 => ((amphoraref10_text.f k t228 t231 12).bind fun t232 => ((amphoraref10_octal.f k a0_5 11).bind fun t235 => ((amphoraref10_text.f k t232 t235 12).bind fun t236 => (if t236.length + a1.size < 140737488355328 then ((some (t236 ++ bytesOf a1 : List Int)).bind fun y239 => (if y239.length < 140737488355328 then ((amphoraref10_text.f k (y239 ++ [a0_6]) a0_7 100).bind fun t245 => ((amphoraref10_text.f k t245 (⟨#[117, 115, 116, 97, 114]⟩ : ByteArray) 6).bind fun t248 => (if t248.length + 2 < 140737488355328 then ((amphoraref10_text.f k (t248 ++ bytesOf (⟨#[48, 48]⟩ : ByteArray)) (⟨#[]⟩ : ByteArray) 64).bind fun t254 => ((amphoraref10_text.f k t254 (⟨#[48, 48, 48, 48, 48, 48, 48]⟩ : ByteArray) 8).bind fun t257 => ((amphoraref10_text.f k t257 (⟨#[48, 48, 48, 48, 48, 48, 48]⟩ : ByteArray) 8).bind fun t260 => ((amphoraref10_text.f k t260 t213 155).bind fun t263 => ((amphoraref10_text.f k t263 (⟨#[]⟩ : ByteArray) 12).bind fun t266 => (some t266)))))) else (none)))) else (none))) else (none)))))))))))) = some r := H
  have A4 := Aside0.mk A40
  clear A40
  replace H := Option.bind_eq_some_iff.mp H
  obtain ⟨t219, A50, H⟩ := H
  replace H : ((amphoraref10_text.f k t216 t219 8).bind fun t220 => ((amphoraref10_octal.f k a0_2 7).bind fun t223 => ((amphoraref10_text.f k t220 t223 8).bind fun t224 => ((amphoraref10_octal.f k a0_3 7).bind fun t227 => ((amphoraref10_text.f k t224 t227 8).bind fun t228 => ((amphoraref10_octal.f k a0_4 11).bind fun t231 => ((amphoraref10_text.f k t228 t231 12).bind fun t232 => ((amphoraref10_octal.f k a0_5 11).bind fun t235 => ((amphoraref10_text.f k t232 t235 12).bind fun t236 => (if t236.length + a1.size < 140737488355328 then ((some (t236 ++ bytesOf a1 : List Int)).bind fun y239 => (if y239.length < 140737488355328 then ((amphoraref10_text.f k (y239 ++ [a0_6]) a0_7 100).bind fun t245 => ((amphoraref10_text.f k t245 (⟨#[117, 115, 116, 97, 114]⟩ : ByteArray) 6).bind fun t248 => (if t248.length + 2 < 140737488355328 then ((amphoraref10_text.f k (t248 ++ bytesOf (⟨#[48, 48]⟩ : ByteArray)) (⟨#[]⟩ : ByteArray) 64).bind fun t254 => ((amphoraref10_text.f k t254 (⟨#[48, 48, 48, 48, 48, 48, 48]⟩ : ByteArray) 8).bind fun t257 => ((amphoraref10_text.f k t257 (⟨#[48, 48, 48, 48, 48, 48, 48]⟩ : ByteArray) 8).bind fun t260 => ((amphoraref10_text.f k t260 t213 155).bind fun t263 => ((amphoraref10_text.f k t263 (⟨#[]⟩ : ByteArray) 12).bind fun t266 => (some t266)))))) else (none)))) else (none))) else (none))))))))))) = some r := H
  have A5 := Aside0.mk A50
  clear A50
  replace H := Option.bind_eq_some_iff.mp H
  obtain ⟨t220, A60, H⟩ := H
  replace H : ((amphoraref10_octal.f k a0_2 7).bind fun t223 => ((amphoraref10_text.f k t220 t223 8).bind fun t224 => ((amphoraref10_octal.f k a0_3 7).bind fun t227 => ((amphoraref10_text.f k t224 t227 8).bind fun t228 => ((amphoraref10_octal.f k a0_4 11).bind fun t231 => ((amphoraref10_text.f k t228 t231 12).bind fun t232 => ((amphoraref10_octal.f k a0_5 11).bind fun t235 => ((amphoraref10_text.f k t232 t235 12).bind fun t236 => (if t236.length + a1.size < 140737488355328 then ((some (t236 ++ bytesOf a1 : List Int)).bind fun y239 => (if y239.length < 140737488355328 then ((amphoraref10_text.f k (y239 ++ [a0_6]) a0_7 100).bind fun t245 => ((amphoraref10_text.f k t245 (⟨#[117, 115, 116, 97, 114]⟩ : ByteArray) 6).bind fun t248 => (if t248.length + 2 < 140737488355328 then ((amphoraref10_text.f k (t248 ++ bytesOf (⟨#[48, 48]⟩ : ByteArray)) (⟨#[]⟩ : ByteArray) 64).bind fun t254 => ((amphoraref10_text.f k t254 (⟨#[48, 48, 48, 48, 48, 48, 48]⟩ : ByteArray) 8).bind fun t257 => ((amphoraref10_text.f k t257 (⟨#[48, 48, 48, 48, 48, 48, 48]⟩ : ByteArray) 8).bind fun t260 => ((amphoraref10_text.f k t260 t213 155).bind fun t263 => ((amphoraref10_text.f k t263 (⟨#[]⟩ : ByteArray) 12).bind fun t266 => (some t266)))))) else (none)))) else (none))) else (none)))))))))) = some r := H
  have A6 := Aside0.mk A60
  clear A60
  replace H := Option.bind_eq_some_iff.mp H
  obtain ⟨t223, A70, H⟩ := H
  replace H : ((amphoraref10_text.f k t220 t223 8).bind fun t224 => ((amphoraref10_octal.f k a0_3 7).bind fun t227 => ((amphoraref10_text.f k t224 t227 8).bind fun t228 => ((amphoraref10_octal.f k a0_4 11).bind fun t231 => ((amphoraref10_text.f k t228 t231 12).bind fun t232 => ((amphoraref10_octal.f k a0_5 11).bind fun t235 => ((amphoraref10_text.f k t232 t235 12).bind fun t236 => (if t236.length + a1.size < 140737488355328 then ((some (t236 ++ bytesOf a1 : List Int)).bind fun y239 => (if y239.length < 140737488355328 then ((amphoraref10_text.f k (y239 ++ [a0_6]) a0_7 100).bind fun t245 => ((amphoraref10_text.f k t245 (⟨#[117, 115, 116, 97, 114]⟩ : ByteArray) 6).bind fun t248 => (if t248.length + 2 < 140737488355328 then ((amphoraref10_text.f k (t248 ++ bytesOf (⟨#[48, 48]⟩ : ByteArray)) (⟨#[]⟩ : ByteArray) 64).bind fun t254 => ((amphoraref10_text.f k t254 (⟨#[48, 48, 48, 48, 48, 48, 48]⟩ : ByteArray) 8).bind fun t257 => ((amphoraref10_text.f k t257 (⟨#[48, 48, 48, 48, 48, 48, 48]⟩ : ByteArray) 8).bind fun t260 => ((amphoraref10_text.f k t260 t213 155).bind fun t263 => ((amphoraref10_text.f k t263 (⟨#[]⟩ : ByteArray) 12).bind fun t266 => (some t266)))))) else (none)))) else (none))) else (none))))))))) = some r := H
  have A7 := Aside0.mk A70
  clear A70
  replace H := Option.bind_eq_some_iff.mp H
  obtain ⟨t224, A80, H⟩ := H
  replace H : ((amphoraref10_octal.f k a0_3 7).bind fun t227 => ((amphoraref10_text.f k t224 t227 8).bind fun t228 => ((amphoraref10_octal.f k a0_4 11).bind fun t231 => ((amphoraref10_text.f k t228 t231 12).bind fun t232 => ((amphoraref10_octal.f k a0_5 11).bind fun t235 => ((amphoraref10_text.f k t232 t235 12).bind fun t236 => (if t236.length + a1.size < 140737488355328 then ((some (t236 ++ bytesOf a1 : List Int)).bind fun y239 => (if y239.length < 140737488355328 then ((amphoraref10_text.f k (y239 ++ [a0_6]) a0_7 100).bind fun t245 => ((amphoraref10_text.f k t245 (⟨#[117, 115, 116, 97, 114]⟩ : ByteArray) 6).bind fun t248 => (if t248.length + 2 < 140737488355328 then ((amphoraref10_text.f k (t248 ++ bytesOf (⟨#[48, 48]⟩ : ByteArray)) (⟨#[]⟩ : ByteArray) 64).bind fun t254 => ((amphoraref10_text.f k t254 (⟨#[48, 48, 48, 48, 48, 48, 48]⟩ : ByteArray) 8).bind fun t257 => ((amphoraref10_text.f k t257 (⟨#[48, 48, 48, 48, 48, 48, 48]⟩ : ByteArray) 8).bind fun t260 => ((amphoraref10_text.f k t260 t213 155).bind fun t263 => ((amphoraref10_text.f k t263 (⟨#[]⟩ : ByteArray) 12).bind fun t266 => (some t266)))))) else (none)))) else (none))) else (none)))))))) = some r := H
  have A8 := Aside0.mk A80
  clear A80
  replace H := Option.bind_eq_some_iff.mp H
  obtain ⟨t227, A90, H⟩ := H
  replace H : ((amphoraref10_text.f k t224 t227 8).bind fun t228 => ((amphoraref10_octal.f k a0_4 11).bind fun t231 => ((amphoraref10_text.f k t228 t231 12).bind fun t232 => ((amphoraref10_octal.f k a0_5 11).bind fun t235 => ((amphoraref10_text.f k t232 t235 12).bind fun t236 => (if t236.length + a1.size < 140737488355328 then ((some (t236 ++ bytesOf a1 : List Int)).bind fun y239 => (if y239.length < 140737488355328 then ((amphoraref10_text.f k (y239 ++ [a0_6]) a0_7 100).bind fun t245 => ((amphoraref10_text.f k t245 (⟨#[117, 115, 116, 97, 114]⟩ : ByteArray) 6).bind fun t248 => (if t248.length + 2 < 140737488355328 then ((amphoraref10_text.f k (t248 ++ bytesOf (⟨#[48, 48]⟩ : ByteArray)) (⟨#[]⟩ : ByteArray) 64).bind fun t254 => ((amphoraref10_text.f k t254 (⟨#[48, 48, 48, 48, 48, 48, 48]⟩ : ByteArray) 8).bind fun t257 => ((amphoraref10_text.f k t257 (⟨#[48, 48, 48, 48, 48, 48, 48]⟩ : ByteArray) 8).bind fun t260 => ((amphoraref10_text.f k t260 t213 155).bind fun t263 => ((amphoraref10_text.f k t263 (⟨#[]⟩ : ByteArray) 12).bind fun t266 => (some t266)))))) else (none)))) else (none))) else (none))))))) = some r := H
  have A9 := Aside0.mk A90
  clear A90
  replace H := Option.bind_eq_some_iff.mp H
  obtain ⟨t228, A100, H⟩ := H
  replace H : ((amphoraref10_octal.f k a0_4 11).bind fun t231 => ((amphoraref10_text.f k t228 t231 12).bind fun t232 => ((amphoraref10_octal.f k a0_5 11).bind fun t235 => ((amphoraref10_text.f k t232 t235 12).bind fun t236 => (if t236.length + a1.size < 140737488355328 then ((some (t236 ++ bytesOf a1 : List Int)).bind fun y239 => (if y239.length < 140737488355328 then ((amphoraref10_text.f k (y239 ++ [a0_6]) a0_7 100).bind fun t245 => ((amphoraref10_text.f k t245 (⟨#[117, 115, 116, 97, 114]⟩ : ByteArray) 6).bind fun t248 => (if t248.length + 2 < 140737488355328 then ((amphoraref10_text.f k (t248 ++ bytesOf (⟨#[48, 48]⟩ : ByteArray)) (⟨#[]⟩ : ByteArray) 64).bind fun t254 => ((amphoraref10_text.f k t254 (⟨#[48, 48, 48, 48, 48, 48, 48]⟩ : ByteArray) 8).bind fun t257 => ((amphoraref10_text.f k t257 (⟨#[48, 48, 48, 48, 48, 48, 48]⟩ : ByteArray) 8).bind fun t260 => ((amphoraref10_text.f k t260 t213 155).bind fun t263 => ((amphoraref10_text.f k t263 (⟨#[]⟩ : ByteArray) 12).bind fun t266 => (some t266)))))) else (none)))) else (none))) else (none)))))) = some r := H
  have A10 := Aside0.mk A100
  clear A100
  replace H := Option.bind_eq_some_iff.mp H
  obtain ⟨t231, A110, H⟩ := H
  replace H : ((amphoraref10_text.f k t228 t231 12).bind fun t232 => ((amphoraref10_octal.f k a0_5 11).bind fun t235 => ((amphoraref10_text.f k t232 t235 12).bind fun t236 => (if t236.length + a1.size < 140737488355328 then ((some (t236 ++ bytesOf a1 : List Int)).bind fun y239 => (if y239.length < 140737488355328 then ((amphoraref10_text.f k (y239 ++ [a0_6]) a0_7 100).bind fun t245 => ((amphoraref10_text.f k t245 (⟨#[117, 115, 116, 97, 114]⟩ : ByteArray) 6).bind fun t248 => (if t248.length + 2 < 140737488355328 then ((amphoraref10_text.f k (t248 ++ bytesOf (⟨#[48, 48]⟩ : ByteArray)) (⟨#[]⟩ : ByteArray) 64).bind fun t254 => ((amphoraref10_text.f k t254 (⟨#[48, 48, 48, 48, 48, 48, 48]⟩ : ByteArray) 8).bind fun t257 => ((amphoraref10_text.f k t257 (⟨#[48, 48, 48, 48, 48, 48, 48]⟩ : ByteArray) 8).bind fun t260 => ((amphoraref10_text.f k t260 t213 155).bind fun t263 => ((amphoraref10_text.f k t263 (⟨#[]⟩ : ByteArray) 12).bind fun t266 => (some t266)))))) else (none)))) else (none))) else (none))))) = some r := H
  have A11 := Aside0.mk A110
  clear A110
  replace H := Option.bind_eq_some_iff.mp H
  obtain ⟨t232, A120, H⟩ := H
  replace H : ((amphoraref10_octal.f k a0_5 11).bind fun t235 => ((amphoraref10_text.f k t232 t235 12).bind fun t236 => (if t236.length + a1.size < 140737488355328 then ((some (t236 ++ bytesOf a1 : List Int)).bind fun y239 => (if y239.length < 140737488355328 then ((amphoraref10_text.f k (y239 ++ [a0_6]) a0_7 100).bind fun t245 => ((amphoraref10_text.f k t245 (⟨#[117, 115, 116, 97, 114]⟩ : ByteArray) 6).bind fun t248 => (if t248.length + 2 < 140737488355328 then ((amphoraref10_text.f k (t248 ++ bytesOf (⟨#[48, 48]⟩ : ByteArray)) (⟨#[]⟩ : ByteArray) 64).bind fun t254 => ((amphoraref10_text.f k t254 (⟨#[48, 48, 48, 48, 48, 48, 48]⟩ : ByteArray) 8).bind fun t257 => ((amphoraref10_text.f k t257 (⟨#[48, 48, 48, 48, 48, 48, 48]⟩ : ByteArray) 8).bind fun t260 => ((amphoraref10_text.f k t260 t213 155).bind fun t263 => ((amphoraref10_text.f k t263 (⟨#[]⟩ : ByteArray) 12).bind fun t266 => (some t266)))))) else (none)))) else (none))) else (none)))) = some r := H
  have A12 := Aside0.mk A120
  clear A120
  replace H := Option.bind_eq_some_iff.mp H
  obtain ⟨t235, A130, H⟩ := H
  replace H : ((amphoraref10_text.f k t232 t235 12).bind fun t236 => (if t236.length + a1.size < 140737488355328 then ((some (t236 ++ bytesOf a1 : List Int)).bind fun y239 => (if y239.length < 140737488355328 then ((amphoraref10_text.f k (y239 ++ [a0_6]) a0_7 100).bind fun t245 => ((amphoraref10_text.f k t245 (⟨#[117, 115, 116, 97, 114]⟩ : ByteArray) 6).bind fun t248 => (if t248.length + 2 < 140737488355328 then ((amphoraref10_text.f k (t248 ++ bytesOf (⟨#[48, 48]⟩ : ByteArray)) (⟨#[]⟩ : ByteArray) 64).bind fun t254 => ((amphoraref10_text.f k t254 (⟨#[48, 48, 48, 48, 48, 48, 48]⟩ : ByteArray) 8).bind fun t257 => ((amphoraref10_text.f k t257 (⟨#[48, 48, 48, 48, 48, 48, 48]⟩ : ByteArray) 8).bind fun t260 => ((amphoraref10_text.f k t260 t213 155).bind fun t263 => ((amphoraref10_text.f k t263 (⟨#[]⟩ : ByteArray) 12).bind fun t266 => (some t266)))))) else (none)))) else (none))) else (none))) = some r := H
  have A13 := Aside0.mk A130
  clear A130
  replace H := Option.bind_eq_some_iff.mp H
  obtain ⟨t236, A140, H⟩ := H
  replace H : (if t236.length + a1.size < 140737488355328 then ((some (t236 ++ bytesOf a1 : List Int)).bind fun y239 => (if y239.length < 140737488355328 then ((amphoraref10_text.f k (y239 ++ [a0_6]) a0_7 100).bind fun t245 => ((amphoraref10_text.f k t245 (⟨#[117, 115, 116, 97, 114]⟩ : ByteArray) 6).bind fun t248 => (if t248.length + 2 < 140737488355328 then ((amphoraref10_text.f k (t248 ++ bytesOf (⟨#[48, 48]⟩ : ByteArray)) (⟨#[]⟩ : ByteArray) 64).bind fun t254 => ((amphoraref10_text.f k t254 (⟨#[48, 48, 48, 48, 48, 48, 48]⟩ : ByteArray) 8).bind fun t257 => ((amphoraref10_text.f k t257 (⟨#[48, 48, 48, 48, 48, 48, 48]⟩ : ByteArray) 8).bind fun t260 => ((amphoraref10_text.f k t260 t213 155).bind fun t263 => ((amphoraref10_text.f k t263 (⟨#[]⟩ : ByteArray) 12).bind fun t266 => (some t266)))))) else (none)))) else (none))) else (none)) = some r := H
  have A14 := Aside0.mk A140
  clear A140
  by_cases c15 : t236.length + a1.size < 140737488355328
  · rw [if_pos c15] at H
    have LMc15 := Aside0.mk c15
    clear c15
    obtain ⟨y239, hy239⟩ : ∃ y_ : List Int, y_ = (t236 ++ bytesOf a1) := ⟨_, rfl⟩
    replace H : (if y239.length < 140737488355328 then ((amphoraref10_text.f k (y239 ++ [a0_6]) a0_7 100).bind fun t245 => ((amphoraref10_text.f k t245 (⟨#[117, 115, 116, 97, 114]⟩ : ByteArray) 6).bind fun t248 => (if t248.length + 2 < 140737488355328 then ((amphoraref10_text.f k (t248 ++ bytesOf (⟨#[48, 48]⟩ : ByteArray)) (⟨#[]⟩ : ByteArray) 64).bind fun t254 => ((amphoraref10_text.f k t254 (⟨#[48, 48, 48, 48, 48, 48, 48]⟩ : ByteArray) 8).bind fun t257 => ((amphoraref10_text.f k t257 (⟨#[48, 48, 48, 48, 48, 48, 48]⟩ : ByteArray) 8).bind fun t260 => ((amphoraref10_text.f k t260 t213 155).bind fun t263 => ((amphoraref10_text.f k t263 (⟨#[]⟩ : ByteArray) 12).bind fun t266 => (some t266)))))) else (none)))) else (none)) = some r := by first | (rw [hy239]; with_reducible exact H) | (have H2_ := (Option.bind_some _ _).symm.trans H; rw [hy239]; with_reducible exact H2_) | (have H2_ := (Option.bind_some _ _).symm.trans H; with_reducible exact H2_) | with_reducible exact H | (rw [hy239]; exact H) | exact H
    have Ny239 := Aside0.mk hy239
    clear hy239
    by_cases c16 : y239.length < 140737488355328
    · rw [if_pos c16] at H
      have LMc16 := Aside0.mk c16
      clear c16
      obtain ⟨y242, hy242⟩ : ∃ y_ : List Int, y_ = (y239 ++ [a0_6]) := ⟨_, rfl⟩
      replace H : ((amphoraref10_text.f k y242 a0_7 100).bind fun t245 => ((amphoraref10_text.f k t245 (⟨#[117, 115, 116, 97, 114]⟩ : ByteArray) 6).bind fun t248 => (if t248.length + 2 < 140737488355328 then ((amphoraref10_text.f k (t248 ++ bytesOf (⟨#[48, 48]⟩ : ByteArray)) (⟨#[]⟩ : ByteArray) 64).bind fun t254 => ((amphoraref10_text.f k t254 (⟨#[48, 48, 48, 48, 48, 48, 48]⟩ : ByteArray) 8).bind fun t257 => ((amphoraref10_text.f k t257 (⟨#[48, 48, 48, 48, 48, 48, 48]⟩ : ByteArray) 8).bind fun t260 => ((amphoraref10_text.f k t260 t213 155).bind fun t263 => ((amphoraref10_text.f k t263 (⟨#[]⟩ : ByteArray) 12).bind fun t266 => (some t266)))))) else (none)))) = some r := by first | (rw [hy242]; with_reducible exact H) | (have H2_ := (Option.bind_some _ _).symm.trans H; rw [hy242]; with_reducible exact H2_) | (have H2_ := (Option.bind_some _ _).symm.trans H; with_reducible exact H2_) | with_reducible exact H | (rw [hy242]; exact H) | exact H
      have Ny242 := Aside0.mk hy242
      clear hy242
      replace H := Option.bind_eq_some_iff.mp H
      obtain ⟨t245, A170, H⟩ := H
      replace H : ((amphoraref10_text.f k t245 (⟨#[117, 115, 116, 97, 114]⟩ : ByteArray) 6).bind fun t248 => (if t248.length + 2 < 140737488355328 then ((amphoraref10_text.f k (t248 ++ bytesOf (⟨#[48, 48]⟩ : ByteArray)) (⟨#[]⟩ : ByteArray) 64).bind fun t254 => ((amphoraref10_text.f k t254 (⟨#[48, 48, 48, 48, 48, 48, 48]⟩ : ByteArray) 8).bind fun t257 => ((amphoraref10_text.f k t257 (⟨#[48, 48, 48, 48, 48, 48, 48]⟩ : ByteArray) 8).bind fun t260 => ((amphoraref10_text.f k t260 t213 155).bind fun t263 => ((amphoraref10_text.f k t263 (⟨#[]⟩ : ByteArray) 12).bind fun t266 => (some t266)))))) else (none))) = some r := H
      have A17 := Aside0.mk A170
      clear A170
      replace H := Option.bind_eq_some_iff.mp H
      obtain ⟨t248, A180, H⟩ := H
      replace H : (if t248.length + 2 < 140737488355328 then ((amphoraref10_text.f k (t248 ++ bytesOf (⟨#[48, 48]⟩ : ByteArray)) (⟨#[]⟩ : ByteArray) 64).bind fun t254 => ((amphoraref10_text.f k t254 (⟨#[48, 48, 48, 48, 48, 48, 48]⟩ : ByteArray) 8).bind fun t257 => ((amphoraref10_text.f k t257 (⟨#[48, 48, 48, 48, 48, 48, 48]⟩ : ByteArray) 8).bind fun t260 => ((amphoraref10_text.f k t260 t213 155).bind fun t263 => ((amphoraref10_text.f k t263 (⟨#[]⟩ : ByteArray) 12).bind fun t266 => (some t266)))))) else (none)) = some r := H
      have A18 := Aside0.mk A180
      clear A180
      by_cases c19 : t248.length + 2 < 140737488355328
      · rw [if_pos c19] at H
        have LMc19 := Aside0.mk c19
        clear c19
        obtain ⟨y251, hy251⟩ : ∃ y_ : List Int, y_ = (t248 ++ bytesOf (⟨#[48, 48]⟩ : ByteArray)) := ⟨_, rfl⟩
        replace H : ((amphoraref10_text.f k y251 (⟨#[]⟩ : ByteArray) 64).bind fun t254 => ((amphoraref10_text.f k t254 (⟨#[48, 48, 48, 48, 48, 48, 48]⟩ : ByteArray) 8).bind fun t257 => ((amphoraref10_text.f k t257 (⟨#[48, 48, 48, 48, 48, 48, 48]⟩ : ByteArray) 8).bind fun t260 => ((amphoraref10_text.f k t260 t213 155).bind fun t263 => ((amphoraref10_text.f k t263 (⟨#[]⟩ : ByteArray) 12).bind fun t266 => (some t266)))))) = some r := by first | (rw [hy251]; with_reducible exact H) | (have H2_ := (Option.bind_some _ _).symm.trans H; rw [hy251]; with_reducible exact H2_) | (have H2_ := (Option.bind_some _ _).symm.trans H; with_reducible exact H2_) | with_reducible exact H | (rw [hy251]; exact H) | exact H
        have Ny251 := Aside0.mk hy251
        clear hy251
        replace H := Option.bind_eq_some_iff.mp H
        obtain ⟨t254, A200, H⟩ := H
        replace H : ((amphoraref10_text.f k t254 (⟨#[48, 48, 48, 48, 48, 48, 48]⟩ : ByteArray) 8).bind fun t257 => ((amphoraref10_text.f k t257 (⟨#[48, 48, 48, 48, 48, 48, 48]⟩ : ByteArray) 8).bind fun t260 => ((amphoraref10_text.f k t260 t213 155).bind fun t263 => ((amphoraref10_text.f k t263 (⟨#[]⟩ : ByteArray) 12).bind fun t266 => (some t266))))) = some r := H
        have A20 := Aside0.mk A200
        clear A200
        replace H := Option.bind_eq_some_iff.mp H
        obtain ⟨t257, A210, H⟩ := H
        replace H : ((amphoraref10_text.f k t257 (⟨#[48, 48, 48, 48, 48, 48, 48]⟩ : ByteArray) 8).bind fun t260 => ((amphoraref10_text.f k t260 t213 155).bind fun t263 => ((amphoraref10_text.f k t263 (⟨#[]⟩ : ByteArray) 12).bind fun t266 => (some t266)))) = some r := H
        have A21 := Aside0.mk A210
        clear A210
        replace H := Option.bind_eq_some_iff.mp H
        obtain ⟨t260, A220, H⟩ := H
        replace H : ((amphoraref10_text.f k t260 t213 155).bind fun t263 => ((amphoraref10_text.f k t263 (⟨#[]⟩ : ByteArray) 12).bind fun t266 => (some t266))) = some r := H
        have A22 := Aside0.mk A220
        clear A220
        replace H := Option.bind_eq_some_iff.mp H
        obtain ⟨t263, A230, H⟩ := H
        replace H : ((amphoraref10_text.f k t263 (⟨#[]⟩ : ByteArray) 12).bind fun t266 => (some t266)) = some r := H
        have A23 := Aside0.mk A230
        clear A230
        replace H := Option.bind_eq_some_iff.mp H
        obtain ⟨t266, A240, H⟩ := H
        replace H : (some t266) = some r := H
        have A24 := Aside0.mk A240
        clear A240
        obtain rfl := Option.some.inj H
        go_enter Try.func35, Try.ntmps35
        go_wp2_with (first | ((with_reducible refine gate_dst (N := 2) rfl ?_); refine box_event ?hg (N := 2) ?hd (cs := #[.string a0_0, .int .i64 a0_1, .int .i64 a0_2, .int .i64 a0_3, .int .i64 a0_4, .int .i64 a0_5, .int .u8 a0_6, .string a0_7]) (t := 26) ?hr ?_; (case hd => rfl); (case hg => rfl); (case hr => first | (go_simp; done) | (go_simp; rfl)); intro gb212 hg w25 hbox hb; have n0_ := Aside0.mk (below_step (by repeat (first | (with_reducible first | exact HB.out | apply below_alloc | apply pw_below_drewN | apply below_drew1) | exact HB.out)) hb); have n1_ := Aside0.mk (hbox); have n2_ := Aside0.mk ((by rw [hg]; exact (below_size (by repeat (first | (with_reducible first | exact HB.out | apply below_alloc | apply pw_below_drewN | apply below_drew1) | exact HB.out))) : w.heap.size ≤ gb212)); have n3_ := Aside0.mk ((by rw [hg]; exact (below_size (by repeat (first | (with_reducible first | exact HB.out | apply below_alloc | apply pw_below_drewN | apply below_drew1) | exact HB.out))) : w.heap.size ≤ gb212)); clear HB; have HB := n0_; have BK212 := n1_; have GW212 := n2_; have GE212 := n3_; clear n0_ n1_ n2_ n3_; clear hb hbox hg; have hcz26_0 : w25.cell? ⟨gb212, 0, none⟩ = some (.string a0_0) := (blk_cell BK212.out 0).trans rfl; have hcz26_1 : w25.cell? ⟨gb212, 1, none⟩ = some (.int .i64 a0_1) := (blk_cell BK212.out 1).trans rfl; have hcz26_2 : w25.cell? ⟨gb212, 2, none⟩ = some (.int .i64 a0_2) := (blk_cell BK212.out 2).trans rfl; have hcz26_3 : w25.cell? ⟨gb212, 3, none⟩ = some (.int .i64 a0_3) := (blk_cell BK212.out 3).trans rfl; have hcz26_4 : w25.cell? ⟨gb212, 4, none⟩ = some (.int .i64 a0_4) := (blk_cell BK212.out 4).trans rfl; have hcz26_5 : w25.cell? ⟨gb212, 5, none⟩ = some (.int .i64 a0_5) := (blk_cell BK212.out 5).trans rfl; have hcz26_6 : w25.cell? ⟨gb212, 6, none⟩ = some (.int .u8 a0_6) := (blk_cell BK212.out 6).trans rfl; have hcz26_7 : w25.cell? ⟨gb212, 7, none⟩ = some (.string a0_7) := (blk_cell BK212.out 7).trans rfl; have hfz26_0 := blk_frozen BK212.out 0; have hfz26_1 := blk_frozen BK212.out 1; have hfz26_2 := blk_frozen BK212.out 2; have hfz26_3 := blk_frozen BK212.out 3; have hfz26_4 := blk_frozen BK212.out 4; have hfz26_5 := blk_frozen BK212.out 5; have hfz26_6 := blk_frozen BK212.out 6; have hfz26_7 := blk_frozen BK212.out 7) | ((with_reducible refine gate_callee (f := 17) rfl ?_); refine goesL_ (some 12) rfl rfl Try.func17 (by kernel_rfl) rfl #[.string a0_0] rfl (by (try simp only [List.map_toArray, List.map_cons, List.map_nil]); first | done | rfl | (simp only [List.length_drop, List.length_take]; rfl)) ?_; (with_reducible refine (amphoraref10_Path.calls k a0_0 t213 t214 t215 _ A3.out).mono ?_); rintro e w' ⟨rfl, ⟨nd, rfl⟩⟩; refine ⟨_, rfl, ?_⟩) | ((with_reducible refine gate_callee (f := 40) rfl ?_); refine goesL_ (some 18) rfl rfl Try.func40 (by kernel_rfl) rfl #[.slice none 0 0, .string t214, .int .i64 100] rfl (by (try simp only [List.map_toArray, List.map_cons, List.map_nil]); first | done | rfl | (simp only [List.length_drop, List.length_take]; rfl)) ?_; (refine (amphoraref10_text.calls k (fun k_ => some k_ = (.slice none 0 0 : Value).ownBlock) (.slice none 0 0) ([] : List Int) t214 100 t216 w _ ?side1 ?side2 A4.out).mono ?_); (case side1 => repeat (first | (with_reducible first | exact HB.out | apply below_alloc | apply pw_below_drewN | apply below_drew1 | refine below_set ?_ GE212.out) | exact HB.out)); (case side2 => exact Kd.R_nil _ _ _ _ _); rintro e w27 ⟨v217, rfl, ho0, hb, hkp⟩; refine ⟨_, rfl, ?_⟩; have n0_ := Aside0.mk (blk_kept (by (with_reducible repeat (first | refine blk_drewN ?_ _ | refine blk_drew ?_ | refine blk_alloc ?_ _)); exact BK212.out) hkp (fun hs_ => (fun e_ => by simp [Value.ownBlock] at e_) hs_)); have n1_ := Aside0.mk (Kd.R_mono (ok' := fun k_ => True) ho0 (fun k_ hk_ => trivial)); have n2_ := Aside0.mk (hb); clear BK212; clear HB; have BK212 := n0_; have HO218 := n1_; have HB := n2_; clear n0_ n1_ n2_; (try clear hb); (try clear hkp); (try clear ho0); have hcz28_0 : w27.cell? ⟨gb212, 0, none⟩ = some (.string a0_0) := (blk_cell BK212.out 0).trans rfl; have hcz28_1 : w27.cell? ⟨gb212, 1, none⟩ = some (.int .i64 a0_1) := (blk_cell BK212.out 1).trans rfl; have hcz28_2 : w27.cell? ⟨gb212, 2, none⟩ = some (.int .i64 a0_2) := (blk_cell BK212.out 2).trans rfl; have hcz28_3 : w27.cell? ⟨gb212, 3, none⟩ = some (.int .i64 a0_3) := (blk_cell BK212.out 3).trans rfl; have hcz28_4 : w27.cell? ⟨gb212, 4, none⟩ = some (.int .i64 a0_4) := (blk_cell BK212.out 4).trans rfl; have hcz28_5 : w27.cell? ⟨gb212, 5, none⟩ = some (.int .i64 a0_5) := (blk_cell BK212.out 5).trans rfl; have hcz28_6 : w27.cell? ⟨gb212, 6, none⟩ = some (.int .u8 a0_6) := (blk_cell BK212.out 6).trans rfl; have hcz28_7 : w27.cell? ⟨gb212, 7, none⟩ = some (.string a0_7) := (blk_cell BK212.out 7).trans rfl; have hfz28_0 := blk_frozen BK212.out 0; have hfz28_1 := blk_frozen BK212.out 1; have hfz28_2 := blk_frozen BK212.out 2; have hfz28_3 := blk_frozen BK212.out 3; have hfz28_4 := blk_frozen BK212.out 4; have hfz28_5 := blk_frozen BK212.out 5; have hfz28_6 := blk_frozen BK212.out 6; have hfz28_7 := blk_frozen BK212.out 7) | ((with_reducible refine gate_callee (f := 36) rfl ?_); refine goesL_ (some 22) rfl rfl Try.func36 (by kernel_rfl) rfl #[.int .i64 a0_1, .int .i64 7] rfl (by (try simp only [List.map_toArray, List.map_cons, List.map_nil]); first | done | rfl | (simp only [List.length_drop, List.length_take]; rfl)) ?_; (with_reducible refine (amphoraref10_octal.calls k a0_1 7 t219 _ A5.out).mono ?_); rintro e w29 ⟨rfl, hb⟩; refine ⟨_, rfl, ?_⟩; have n0_ := Aside0.mk (Kd.R_below (by (with_reducible repeat (first | apply Kd.R_alloc | apply Kd.R_drewN | apply Kd.R_drew)); exact HO218.out) hb); have n1_ := Aside0.mk (blk_below (g := gb212) (o := .cells #[.string a0_0, .int .i64 a0_1, .int .i64 a0_2, .int .i64 a0_3, .int .i64 a0_4, .int .i64 a0_5, .int .u8 a0_6, .string a0_7] 26 (0, 0)) (by (with_reducible repeat (first | refine blk_drewN ?_ _ | refine blk_drew ?_ | refine blk_alloc ?_ _)); exact BK212.out) hb); have n2_ := Aside0.mk (below_step (by repeat (first | (with_reducible first | exact HB.out | apply below_alloc | apply pw_below_drewN | apply below_drew1 | refine below_set ?_ GE212.out) | exact HB.out)) hb); clear HO218; clear BK212; clear HB; have HO218 := n0_; have BK212 := n1_; have HB := n2_; clear n0_ n1_ n2_; (try clear hb); (try clear hb2); (try clear hk); (try clear hi); obtain ⟨Ao30, co30, eo30⟩ := Kd.R_slice HO218.out; subst eo30) | ((with_reducible refine gate_callee (f := 40) rfl ?_); refine goesL_ (some 23) rfl rfl Try.func40 (by kernel_rfl) rfl #[.slice Ao30 t216.length co30, .string t219, .int .i64 8] rfl (by (try simp only [List.map_toArray, List.map_cons, List.map_nil]); first | done | rfl | (simp only [List.length_drop, List.length_take]; rfl)) ?_; (with_reducible refine (amphoraref10_text.calls k (fun k_ => some k_ = (.slice Ao30 t216.length co30 : Value).ownBlock) (.slice Ao30 t216.length co30) t216 t219 8 t220 w _ ?side1 ?side2 A6.out).mono ?_); (case side1 => repeat (first | (with_reducible first | exact HB.out | apply below_alloc | apply pw_below_drewN | apply below_drew1 | refine below_set ?_ GE212.out) | exact HB.out)); (case side2 => exact Kd.R_tight rfl HO218.out); rintro e w31 ⟨v221, rfl, ho0, hb, hkp⟩; refine ⟨_, rfl, ?_⟩; have n0_ := Aside0.mk (blk_kept (by (with_reducible repeat (first | refine blk_drewN ?_ _ | refine blk_drew ?_ | refine blk_alloc ?_ _)); exact BK212.out) hkp (fun hs_ => (fun e_ => (Kd.R_ne HO218.out BK212.out (by decide)) e_) hs_)); have n1_ := Aside0.mk (Kd.R_mono (ok' := fun k_ => True) ho0 (fun k_ hk_ => trivial)); have n2_ := Aside0.mk (hb); clear BK212; clear HB; clear HO218; have BK212 := n0_; have HO222 := n1_; have HB := n2_; clear n0_ n1_ n2_; (try clear hb); (try clear hkp); (try clear ho0); have hcz32_0 : w31.cell? ⟨gb212, 0, none⟩ = some (.string a0_0) := (blk_cell BK212.out 0).trans rfl; have hcz32_1 : w31.cell? ⟨gb212, 1, none⟩ = some (.int .i64 a0_1) := (blk_cell BK212.out 1).trans rfl; have hcz32_2 : w31.cell? ⟨gb212, 2, none⟩ = some (.int .i64 a0_2) := (blk_cell BK212.out 2).trans rfl; have hcz32_3 : w31.cell? ⟨gb212, 3, none⟩ = some (.int .i64 a0_3) := (blk_cell BK212.out 3).trans rfl; have hcz32_4 : w31.cell? ⟨gb212, 4, none⟩ = some (.int .i64 a0_4) := (blk_cell BK212.out 4).trans rfl; have hcz32_5 : w31.cell? ⟨gb212, 5, none⟩ = some (.int .i64 a0_5) := (blk_cell BK212.out 5).trans rfl; have hcz32_6 : w31.cell? ⟨gb212, 6, none⟩ = some (.int .u8 a0_6) := (blk_cell BK212.out 6).trans rfl; have hcz32_7 : w31.cell? ⟨gb212, 7, none⟩ = some (.string a0_7) := (blk_cell BK212.out 7).trans rfl; have hfz32_0 := blk_frozen BK212.out 0; have hfz32_1 := blk_frozen BK212.out 1; have hfz32_2 := blk_frozen BK212.out 2; have hfz32_3 := blk_frozen BK212.out 3; have hfz32_4 := blk_frozen BK212.out 4; have hfz32_5 := blk_frozen BK212.out 5; have hfz32_6 := blk_frozen BK212.out 6; have hfz32_7 := blk_frozen BK212.out 7) | ((with_reducible refine gate_callee (f := 36) rfl ?_); refine goesL_ (some 27) rfl rfl Try.func36 (by kernel_rfl) rfl #[.int .i64 a0_2, .int .i64 7] rfl (by (try simp only [List.map_toArray, List.map_cons, List.map_nil]); first | done | rfl | (simp only [List.length_drop, List.length_take]; rfl)) ?_; (with_reducible refine (amphoraref10_octal.calls k a0_2 7 t223 _ A7.out).mono ?_); rintro e w33 ⟨rfl, hb⟩; refine ⟨_, rfl, ?_⟩; have n0_ := Aside0.mk (Kd.R_below (by (with_reducible repeat (first | apply Kd.R_alloc | apply Kd.R_drewN | apply Kd.R_drew)); exact HO222.out) hb); have n1_ := Aside0.mk (blk_below (g := gb212) (o := .cells #[.string a0_0, .int .i64 a0_1, .int .i64 a0_2, .int .i64 a0_3, .int .i64 a0_4, .int .i64 a0_5, .int .u8 a0_6, .string a0_7] 26 (0, 0)) (by (with_reducible repeat (first | refine blk_drewN ?_ _ | refine blk_drew ?_ | refine blk_alloc ?_ _)); exact BK212.out) hb); have n2_ := Aside0.mk (below_step (by repeat (first | (with_reducible first | exact HB.out | apply below_alloc | apply pw_below_drewN | apply below_drew1 | refine below_set ?_ GE212.out) | exact HB.out)) hb); clear HO222; clear BK212; clear HB; have HO222 := n0_; have BK212 := n1_; have HB := n2_; clear n0_ n1_ n2_; (try clear hb); (try clear hb2); (try clear hk); (try clear hi); obtain ⟨Ao34, co34, eo34⟩ := Kd.R_slice HO222.out; subst eo34) | ((with_reducible refine gate_callee (f := 40) rfl ?_); refine goesL_ (some 28) rfl rfl Try.func40 (by kernel_rfl) rfl #[.slice Ao34 t220.length co34, .string t223, .int .i64 8] rfl (by (try simp only [List.map_toArray, List.map_cons, List.map_nil]); first | done | rfl | (simp only [List.length_drop, List.length_take]; rfl)) ?_; (with_reducible refine (amphoraref10_text.calls k (fun k_ => some k_ = (.slice Ao34 t220.length co34 : Value).ownBlock) (.slice Ao34 t220.length co34) t220 t223 8 t224 w _ ?side1 ?side2 A8.out).mono ?_); (case side1 => repeat (first | (with_reducible first | exact HB.out | apply below_alloc | apply pw_below_drewN | apply below_drew1 | refine below_set ?_ GE212.out) | exact HB.out)); (case side2 => exact Kd.R_tight rfl HO222.out); rintro e w35 ⟨v225, rfl, ho0, hb, hkp⟩; refine ⟨_, rfl, ?_⟩; have n0_ := Aside0.mk (blk_kept (by (with_reducible repeat (first | refine blk_drewN ?_ _ | refine blk_drew ?_ | refine blk_alloc ?_ _)); exact BK212.out) hkp (fun hs_ => (fun e_ => (Kd.R_ne HO222.out BK212.out (by decide)) e_) hs_)); have n1_ := Aside0.mk (Kd.R_mono (ok' := fun k_ => True) ho0 (fun k_ hk_ => trivial)); have n2_ := Aside0.mk (hb); clear BK212; clear HB; clear HO222; have BK212 := n0_; have HO226 := n1_; have HB := n2_; clear n0_ n1_ n2_; (try clear hb); (try clear hkp); (try clear ho0); have hcz36_0 : w35.cell? ⟨gb212, 0, none⟩ = some (.string a0_0) := (blk_cell BK212.out 0).trans rfl; have hcz36_1 : w35.cell? ⟨gb212, 1, none⟩ = some (.int .i64 a0_1) := (blk_cell BK212.out 1).trans rfl; have hcz36_2 : w35.cell? ⟨gb212, 2, none⟩ = some (.int .i64 a0_2) := (blk_cell BK212.out 2).trans rfl; have hcz36_3 : w35.cell? ⟨gb212, 3, none⟩ = some (.int .i64 a0_3) := (blk_cell BK212.out 3).trans rfl; have hcz36_4 : w35.cell? ⟨gb212, 4, none⟩ = some (.int .i64 a0_4) := (blk_cell BK212.out 4).trans rfl; have hcz36_5 : w35.cell? ⟨gb212, 5, none⟩ = some (.int .i64 a0_5) := (blk_cell BK212.out 5).trans rfl; have hcz36_6 : w35.cell? ⟨gb212, 6, none⟩ = some (.int .u8 a0_6) := (blk_cell BK212.out 6).trans rfl; have hcz36_7 : w35.cell? ⟨gb212, 7, none⟩ = some (.string a0_7) := (blk_cell BK212.out 7).trans rfl; have hfz36_0 := blk_frozen BK212.out 0; have hfz36_1 := blk_frozen BK212.out 1; have hfz36_2 := blk_frozen BK212.out 2; have hfz36_3 := blk_frozen BK212.out 3; have hfz36_4 := blk_frozen BK212.out 4; have hfz36_5 := blk_frozen BK212.out 5; have hfz36_6 := blk_frozen BK212.out 6; have hfz36_7 := blk_frozen BK212.out 7) | ((with_reducible refine gate_callee (f := 36) rfl ?_); refine goesL_ (some 32) rfl rfl Try.func36 (by kernel_rfl) rfl #[.int .i64 a0_3, .int .i64 7] rfl (by (try simp only [List.map_toArray, List.map_cons, List.map_nil]); first | done | rfl | (simp only [List.length_drop, List.length_take]; rfl)) ?_; (with_reducible refine (amphoraref10_octal.calls k a0_3 7 t227 _ A9.out).mono ?_); rintro e w37 ⟨rfl, hb⟩; refine ⟨_, rfl, ?_⟩; have n0_ := Aside0.mk (Kd.R_below (by (with_reducible repeat (first | apply Kd.R_alloc | apply Kd.R_drewN | apply Kd.R_drew)); exact HO226.out) hb); have n1_ := Aside0.mk (blk_below (g := gb212) (o := .cells #[.string a0_0, .int .i64 a0_1, .int .i64 a0_2, .int .i64 a0_3, .int .i64 a0_4, .int .i64 a0_5, .int .u8 a0_6, .string a0_7] 26 (0, 0)) (by (with_reducible repeat (first | refine blk_drewN ?_ _ | refine blk_drew ?_ | refine blk_alloc ?_ _)); exact BK212.out) hb); have n2_ := Aside0.mk (below_step (by repeat (first | (with_reducible first | exact HB.out | apply below_alloc | apply pw_below_drewN | apply below_drew1 | refine below_set ?_ GE212.out) | exact HB.out)) hb); clear HO226; clear BK212; clear HB; have HO226 := n0_; have BK212 := n1_; have HB := n2_; clear n0_ n1_ n2_; (try clear hb); (try clear hb2); (try clear hk); (try clear hi); obtain ⟨Ao38, co38, eo38⟩ := Kd.R_slice HO226.out; subst eo38) | ((with_reducible refine gate_callee (f := 40) rfl ?_); refine goesL_ (some 33) rfl rfl Try.func40 (by kernel_rfl) rfl #[.slice Ao38 t224.length co38, .string t227, .int .i64 8] rfl (by (try simp only [List.map_toArray, List.map_cons, List.map_nil]); first | done | rfl | (simp only [List.length_drop, List.length_take]; rfl)) ?_; (with_reducible refine (amphoraref10_text.calls k (fun k_ => some k_ = (.slice Ao38 t224.length co38 : Value).ownBlock) (.slice Ao38 t224.length co38) t224 t227 8 t228 w _ ?side1 ?side2 A10.out).mono ?_); (case side1 => repeat (first | (with_reducible first | exact HB.out | apply below_alloc | apply pw_below_drewN | apply below_drew1 | refine below_set ?_ GE212.out) | exact HB.out)); (case side2 => exact Kd.R_tight rfl HO226.out); rintro e w39 ⟨v229, rfl, ho0, hb, hkp⟩; refine ⟨_, rfl, ?_⟩; have n0_ := Aside0.mk (blk_kept (by (with_reducible repeat (first | refine blk_drewN ?_ _ | refine blk_drew ?_ | refine blk_alloc ?_ _)); exact BK212.out) hkp (fun hs_ => (fun e_ => (Kd.R_ne HO226.out BK212.out (by decide)) e_) hs_)); have n1_ := Aside0.mk (Kd.R_mono (ok' := fun k_ => True) ho0 (fun k_ hk_ => trivial)); have n2_ := Aside0.mk (hb); clear BK212; clear HB; clear HO226; have BK212 := n0_; have HO230 := n1_; have HB := n2_; clear n0_ n1_ n2_; (try clear hb); (try clear hkp); (try clear ho0); have hcz40_0 : w39.cell? ⟨gb212, 0, none⟩ = some (.string a0_0) := (blk_cell BK212.out 0).trans rfl; have hcz40_1 : w39.cell? ⟨gb212, 1, none⟩ = some (.int .i64 a0_1) := (blk_cell BK212.out 1).trans rfl; have hcz40_2 : w39.cell? ⟨gb212, 2, none⟩ = some (.int .i64 a0_2) := (blk_cell BK212.out 2).trans rfl; have hcz40_3 : w39.cell? ⟨gb212, 3, none⟩ = some (.int .i64 a0_3) := (blk_cell BK212.out 3).trans rfl; have hcz40_4 : w39.cell? ⟨gb212, 4, none⟩ = some (.int .i64 a0_4) := (blk_cell BK212.out 4).trans rfl; have hcz40_5 : w39.cell? ⟨gb212, 5, none⟩ = some (.int .i64 a0_5) := (blk_cell BK212.out 5).trans rfl; have hcz40_6 : w39.cell? ⟨gb212, 6, none⟩ = some (.int .u8 a0_6) := (blk_cell BK212.out 6).trans rfl; have hcz40_7 : w39.cell? ⟨gb212, 7, none⟩ = some (.string a0_7) := (blk_cell BK212.out 7).trans rfl; have hfz40_0 := blk_frozen BK212.out 0; have hfz40_1 := blk_frozen BK212.out 1; have hfz40_2 := blk_frozen BK212.out 2; have hfz40_3 := blk_frozen BK212.out 3; have hfz40_4 := blk_frozen BK212.out 4; have hfz40_5 := blk_frozen BK212.out 5; have hfz40_6 := blk_frozen BK212.out 6; have hfz40_7 := blk_frozen BK212.out 7) | ((with_reducible refine gate_callee (f := 36) rfl ?_); refine goesL_ (some 37) rfl rfl Try.func36 (by kernel_rfl) rfl #[.int .i64 a0_4, .int .i64 11] rfl (by (try simp only [List.map_toArray, List.map_cons, List.map_nil]); first | done | rfl | (simp only [List.length_drop, List.length_take]; rfl)) ?_; (with_reducible refine (amphoraref10_octal.calls k a0_4 11 t231 _ A11.out).mono ?_); rintro e w41 ⟨rfl, hb⟩; refine ⟨_, rfl, ?_⟩; have n0_ := Aside0.mk (Kd.R_below (by (with_reducible repeat (first | apply Kd.R_alloc | apply Kd.R_drewN | apply Kd.R_drew)); exact HO230.out) hb); have n1_ := Aside0.mk (blk_below (g := gb212) (o := .cells #[.string a0_0, .int .i64 a0_1, .int .i64 a0_2, .int .i64 a0_3, .int .i64 a0_4, .int .i64 a0_5, .int .u8 a0_6, .string a0_7] 26 (0, 0)) (by (with_reducible repeat (first | refine blk_drewN ?_ _ | refine blk_drew ?_ | refine blk_alloc ?_ _)); exact BK212.out) hb); have n2_ := Aside0.mk (below_step (by repeat (first | (with_reducible first | exact HB.out | apply below_alloc | apply pw_below_drewN | apply below_drew1 | refine below_set ?_ GE212.out) | exact HB.out)) hb); clear HO230; clear BK212; clear HB; have HO230 := n0_; have BK212 := n1_; have HB := n2_; clear n0_ n1_ n2_; (try clear hb); (try clear hb2); (try clear hk); (try clear hi); obtain ⟨Ao42, co42, eo42⟩ := Kd.R_slice HO230.out; subst eo42) | ((with_reducible refine gate_callee (f := 40) rfl ?_); refine goesL_ (some 38) rfl rfl Try.func40 (by kernel_rfl) rfl #[.slice Ao42 t228.length co42, .string t231, .int .i64 12] rfl (by (try simp only [List.map_toArray, List.map_cons, List.map_nil]); first | done | rfl | (simp only [List.length_drop, List.length_take]; rfl)) ?_; (with_reducible refine (amphoraref10_text.calls k (fun k_ => some k_ = (.slice Ao42 t228.length co42 : Value).ownBlock) (.slice Ao42 t228.length co42) t228 t231 12 t232 w _ ?side1 ?side2 A12.out).mono ?_); (case side1 => repeat (first | (with_reducible first | exact HB.out | apply below_alloc | apply pw_below_drewN | apply below_drew1 | refine below_set ?_ GE212.out) | exact HB.out)); (case side2 => exact Kd.R_tight rfl HO230.out); rintro e w43 ⟨v233, rfl, ho0, hb, hkp⟩; refine ⟨_, rfl, ?_⟩; have n0_ := Aside0.mk (blk_kept (by (with_reducible repeat (first | refine blk_drewN ?_ _ | refine blk_drew ?_ | refine blk_alloc ?_ _)); exact BK212.out) hkp (fun hs_ => (fun e_ => (Kd.R_ne HO230.out BK212.out (by decide)) e_) hs_)); have n1_ := Aside0.mk (Kd.R_mono (ok' := fun k_ => True) ho0 (fun k_ hk_ => trivial)); have n2_ := Aside0.mk (hb); clear BK212; clear HB; clear HO230; have BK212 := n0_; have HO234 := n1_; have HB := n2_; clear n0_ n1_ n2_; (try clear hb); (try clear hkp); (try clear ho0); have hcz44_0 : w43.cell? ⟨gb212, 0, none⟩ = some (.string a0_0) := (blk_cell BK212.out 0).trans rfl; have hcz44_1 : w43.cell? ⟨gb212, 1, none⟩ = some (.int .i64 a0_1) := (blk_cell BK212.out 1).trans rfl; have hcz44_2 : w43.cell? ⟨gb212, 2, none⟩ = some (.int .i64 a0_2) := (blk_cell BK212.out 2).trans rfl; have hcz44_3 : w43.cell? ⟨gb212, 3, none⟩ = some (.int .i64 a0_3) := (blk_cell BK212.out 3).trans rfl; have hcz44_4 : w43.cell? ⟨gb212, 4, none⟩ = some (.int .i64 a0_4) := (blk_cell BK212.out 4).trans rfl; have hcz44_5 : w43.cell? ⟨gb212, 5, none⟩ = some (.int .i64 a0_5) := (blk_cell BK212.out 5).trans rfl; have hcz44_6 : w43.cell? ⟨gb212, 6, none⟩ = some (.int .u8 a0_6) := (blk_cell BK212.out 6).trans rfl; have hcz44_7 : w43.cell? ⟨gb212, 7, none⟩ = some (.string a0_7) := (blk_cell BK212.out 7).trans rfl; have hfz44_0 := blk_frozen BK212.out 0; have hfz44_1 := blk_frozen BK212.out 1; have hfz44_2 := blk_frozen BK212.out 2; have hfz44_3 := blk_frozen BK212.out 3; have hfz44_4 := blk_frozen BK212.out 4; have hfz44_5 := blk_frozen BK212.out 5; have hfz44_6 := blk_frozen BK212.out 6; have hfz44_7 := blk_frozen BK212.out 7) | ((with_reducible refine gate_callee (f := 36) rfl ?_); refine goesL_ (some 42) rfl rfl Try.func36 (by kernel_rfl) rfl #[.int .i64 a0_5, .int .i64 11] rfl (by (try simp only [List.map_toArray, List.map_cons, List.map_nil]); first | done | rfl | (simp only [List.length_drop, List.length_take]; rfl)) ?_; (with_reducible refine (amphoraref10_octal.calls k a0_5 11 t235 _ A13.out).mono ?_); rintro e w45 ⟨rfl, hb⟩; refine ⟨_, rfl, ?_⟩; have n0_ := Aside0.mk (Kd.R_below (by (with_reducible repeat (first | apply Kd.R_alloc | apply Kd.R_drewN | apply Kd.R_drew)); exact HO234.out) hb); have n1_ := Aside0.mk (blk_below (g := gb212) (o := .cells #[.string a0_0, .int .i64 a0_1, .int .i64 a0_2, .int .i64 a0_3, .int .i64 a0_4, .int .i64 a0_5, .int .u8 a0_6, .string a0_7] 26 (0, 0)) (by (with_reducible repeat (first | refine blk_drewN ?_ _ | refine blk_drew ?_ | refine blk_alloc ?_ _)); exact BK212.out) hb); have n2_ := Aside0.mk (below_step (by repeat (first | (with_reducible first | exact HB.out | apply below_alloc | apply pw_below_drewN | apply below_drew1 | refine below_set ?_ GE212.out) | exact HB.out)) hb); clear HO234; clear BK212; clear HB; have HO234 := n0_; have BK212 := n1_; have HB := n2_; clear n0_ n1_ n2_; (try clear hb); (try clear hb2); (try clear hk); (try clear hi); obtain ⟨Ao46, co46, eo46⟩ := Kd.R_slice HO234.out; subst eo46) | ((with_reducible refine gate_callee (f := 40) rfl ?_); refine goesL_ (some 43) rfl rfl Try.func40 (by kernel_rfl) rfl #[.slice Ao46 t232.length co46, .string t235, .int .i64 12] rfl (by (try simp only [List.map_toArray, List.map_cons, List.map_nil]); first | done | rfl | (simp only [List.length_drop, List.length_take]; rfl)) ?_; (with_reducible refine (amphoraref10_text.calls k (fun k_ => some k_ = (.slice Ao46 t232.length co46 : Value).ownBlock) (.slice Ao46 t232.length co46) t232 t235 12 t236 w _ ?side1 ?side2 A14.out).mono ?_); (case side1 => repeat (first | (with_reducible first | exact HB.out | apply below_alloc | apply pw_below_drewN | apply below_drew1 | refine below_set ?_ GE212.out) | exact HB.out)); (case side2 => exact Kd.R_tight rfl HO234.out); rintro e w47 ⟨v237, rfl, ho0, hb, hkp⟩; refine ⟨_, rfl, ?_⟩; have n0_ := Aside0.mk (blk_kept (by (with_reducible repeat (first | refine blk_drewN ?_ _ | refine blk_drew ?_ | refine blk_alloc ?_ _)); exact BK212.out) hkp (fun hs_ => (fun e_ => (Kd.R_ne HO234.out BK212.out (by decide)) e_) hs_)); have n1_ := Aside0.mk (Kd.R_mono (ok' := fun k_ => True) ho0 (fun k_ hk_ => trivial)); have n2_ := Aside0.mk (hb); clear BK212; clear HB; clear HO234; have BK212 := n0_; have HO238 := n1_; have HB := n2_; clear n0_ n1_ n2_; (try clear hb); (try clear hkp); (try clear ho0)) | (at_builtin; refine print_append_str (w0 := w) w.heap.size rfl (.tmp 44) _ 22 9 5 rfl Try.underlying22 Try.underlying9 info5 v237 t236 a1 rfl rfl ?aO ?aB ?aS ?aL ?_; (case aB => exact (by repeat (first | (with_reducible first | exact HB.out | apply below_alloc | apply pw_below_drewN | apply below_drew1 | refine below_set ?_ GE212.out) | exact HB.out))); (case aO => exact (Kd.own_of_R (by (with_reducible repeat (first | apply Kd.R_alloc | apply Kd.R_drewN | apply Kd.R_drew)); exact HO238.out))); (case aS => exact (below_size (by repeat (first | (with_reducible first | exact HB.out | apply below_alloc | apply pw_below_drewN | apply below_drew1 | refine below_set ?_ GE212.out) | exact HB.out)))); (case aL => have := LMc15.out; have hz_ : (⟨#[48, 48]⟩ : ByteArray).size = 2 := rfl; omega); intro v240 w48 ho0 hb hg; have ho := Kd.R_of_own (h1 := fun _ => rfl) (ok := fun _ => True) ho0 (fun _ _ => trivial); clear ho0; have hat := True.intro; rw [← Ny239.out] at ho; change Kd.R (Kd.int .u8) 5 w48 w.heap.size (fun _ => True) v240 y239 at ho; have n0_ := Aside0.mk (blk_grown (g := gb212) (o := .cells #[.string a0_0, .int .i64 a0_1, .int .i64 a0_2, .int .i64 a0_3, .int .i64 a0_4, .int .i64 a0_5, .int .u8 a0_6, .string a0_7] 26 (0, 0)) (by (with_reducible repeat (first | refine blk_drewN ?_ _ | refine blk_drew ?_ | refine blk_alloc ?_ _)); exact BK212.out) hg (Kd.R_ne HO238.out BK212.out (by decide))); have n1_ := Aside0.mk (hb); have n2_ := Aside0.mk (ho); clear BK212; clear HB; clear HO238; have BK212 := n0_; have HB := n1_; have HO241 := n2_; clear n0_ n1_ n2_; clear ho hb hg hat; have hcz49_0 : w48.cell? ⟨gb212, 0, none⟩ = some (.string a0_0) := (blk_cell BK212.out 0).trans rfl; have hcz49_1 : w48.cell? ⟨gb212, 1, none⟩ = some (.int .i64 a0_1) := (blk_cell BK212.out 1).trans rfl; have hcz49_2 : w48.cell? ⟨gb212, 2, none⟩ = some (.int .i64 a0_2) := (blk_cell BK212.out 2).trans rfl; have hcz49_3 : w48.cell? ⟨gb212, 3, none⟩ = some (.int .i64 a0_3) := (blk_cell BK212.out 3).trans rfl; have hcz49_4 : w48.cell? ⟨gb212, 4, none⟩ = some (.int .i64 a0_4) := (blk_cell BK212.out 4).trans rfl; have hcz49_5 : w48.cell? ⟨gb212, 5, none⟩ = some (.int .i64 a0_5) := (blk_cell BK212.out 5).trans rfl; have hcz49_6 : w48.cell? ⟨gb212, 6, none⟩ = some (.int .u8 a0_6) := (blk_cell BK212.out 6).trans rfl; have hcz49_7 : w48.cell? ⟨gb212, 7, none⟩ = some (.string a0_7) := (blk_cell BK212.out 7).trans rfl; have hfz49_0 := blk_frozen BK212.out 0; have hfz49_1 := blk_frozen BK212.out 1; have hfz49_2 := blk_frozen BK212.out 2; have hfz49_3 := blk_frozen BK212.out 3; have hfz49_4 := blk_frozen BK212.out 4; have hfz49_5 := blk_frozen BK212.out 5; have hfz49_6 := blk_frozen BK212.out 6; have hfz49_7 := blk_frozen BK212.out 7) | ((with_reducible refine gate_builtin (b := .append) (xs := #[.tmp 47, .tmp 50]) rfl ?_); at_builtin; refine Kd.R_append (Kd.int .u8) (w0 := w) w.heap.size rfl (.tmp 47) (.tmp 50) 22 5 (.int .u8 0) 1 rfl Try.underlying22 info5 rfl (by decide) (by omega) v240 y239 a0_6 [.int .u8 a0_6] (fun _ => True) (fun _ => False) rfl rfl ?aP (fun _ hk => hk.elim) ?aF ?aO ?aB ?aS ?aL ?_; (case aP => exact rfl); (case aB => exact (by repeat (first | (with_reducible first | exact HB.out | apply below_alloc | apply pw_below_drewN | apply below_drew1 | refine below_set ?_ GE212.out) | exact HB.out))); (case aF => exact (fun _ _ => trivial)); (case aO => exact (by (with_reducible repeat (first | apply Kd.R_alloc | apply Kd.R_drewN | apply Kd.R_drew)); exact HO241.out)); (case aS => exact (below_size (by repeat (first | (with_reducible first | exact HB.out | apply below_alloc | apply pw_below_drewN | apply below_drew1 | refine below_set ?_ GE212.out) | exact HB.out)))); (case aL => have := LMc16.out; have hz_ : (⟨#[48, 48]⟩ : ByteArray).size = 2 := rfl; omega); intro v243 w50 ho hb hg hat; rw [← Ny242.out] at ho; have n0_ := Aside0.mk (blk_grown (g := gb212) (o := .cells #[.string a0_0, .int .i64 a0_1, .int .i64 a0_2, .int .i64 a0_3, .int .i64 a0_4, .int .i64 a0_5, .int .u8 a0_6, .string a0_7] 26 (0, 0)) (by (with_reducible repeat (first | refine blk_drewN ?_ _ | refine blk_drew ?_ | refine blk_alloc ?_ _)); exact BK212.out) hg (Kd.R_ne HO241.out BK212.out (by decide))); have n1_ := Aside0.mk (hb); have n2_ := Aside0.mk (ho); clear BK212; clear HB; clear HO241; have BK212 := n0_; have HB := n1_; have HO244 := n2_; clear n0_ n1_ n2_; clear ho hb hg hat; have hcz51_0 : w50.cell? ⟨gb212, 0, none⟩ = some (.string a0_0) := (blk_cell BK212.out 0).trans rfl; have hcz51_1 : w50.cell? ⟨gb212, 1, none⟩ = some (.int .i64 a0_1) := (blk_cell BK212.out 1).trans rfl; have hcz51_2 : w50.cell? ⟨gb212, 2, none⟩ = some (.int .i64 a0_2) := (blk_cell BK212.out 2).trans rfl; have hcz51_3 : w50.cell? ⟨gb212, 3, none⟩ = some (.int .i64 a0_3) := (blk_cell BK212.out 3).trans rfl; have hcz51_4 : w50.cell? ⟨gb212, 4, none⟩ = some (.int .i64 a0_4) := (blk_cell BK212.out 4).trans rfl; have hcz51_5 : w50.cell? ⟨gb212, 5, none⟩ = some (.int .i64 a0_5) := (blk_cell BK212.out 5).trans rfl; have hcz51_6 : w50.cell? ⟨gb212, 6, none⟩ = some (.int .u8 a0_6) := (blk_cell BK212.out 6).trans rfl; have hcz51_7 : w50.cell? ⟨gb212, 7, none⟩ = some (.string a0_7) := (blk_cell BK212.out 7).trans rfl; have hfz51_0 := blk_frozen BK212.out 0; have hfz51_1 := blk_frozen BK212.out 1; have hfz51_2 := blk_frozen BK212.out 2; have hfz51_3 := blk_frozen BK212.out 3; have hfz51_4 := blk_frozen BK212.out 4; have hfz51_5 := blk_frozen BK212.out 5; have hfz51_6 := blk_frozen BK212.out 6; have hfz51_7 := blk_frozen BK212.out 7; obtain ⟨Ao52, co52, eo52⟩ := Kd.R_slice HO244.out; subst eo52) | ((with_reducible refine gate_callee (f := 40) rfl ?_); refine goesL_ (some 55) rfl rfl Try.func40 (by kernel_rfl) rfl #[.slice Ao52 y242.length co52, .string a0_7, .int .i64 100] rfl (by (try simp only [List.map_toArray, List.map_cons, List.map_nil]); first | done | rfl | (simp only [List.length_drop, List.length_take]; rfl)) ?_; (with_reducible refine (amphoraref10_text.calls k (fun k_ => some k_ = (.slice Ao52 y242.length co52 : Value).ownBlock) (.slice Ao52 y242.length co52) y242 a0_7 100 t245 w _ ?side1 ?side2 A17.out).mono ?_); (case side1 => repeat (first | (with_reducible first | exact HB.out | apply below_alloc | apply pw_below_drewN | apply below_drew1 | refine below_set ?_ GE212.out) | exact HB.out)); (case side2 => exact Kd.R_tight rfl HO244.out); rintro e w53 ⟨v246, rfl, ho0, hb, hkp⟩; refine ⟨_, rfl, ?_⟩; have n0_ := Aside0.mk (blk_kept (by (with_reducible repeat (first | refine blk_drewN ?_ _ | refine blk_drew ?_ | refine blk_alloc ?_ _)); exact BK212.out) hkp (fun hs_ => (fun e_ => (Kd.R_ne HO244.out BK212.out (by decide)) e_) hs_)); have n1_ := Aside0.mk (Kd.R_mono (ok' := fun k_ => True) ho0 (fun k_ hk_ => trivial)); have n2_ := Aside0.mk (hb); clear BK212; clear HB; clear HO244; have BK212 := n0_; have HO247 := n1_; have HB := n2_; clear n0_ n1_ n2_; (try clear hb); (try clear hkp); (try clear ho0); obtain ⟨Ao54, co54, eo54⟩ := Kd.R_slice HO247.out; subst eo54) | ((with_reducible refine gate_callee (f := 40) rfl ?_); refine goesL_ (some 57) rfl rfl Try.func40 (by kernel_rfl) rfl #[.slice Ao54 t245.length co54, .string (⟨#[117, 115, 116, 97, 114]⟩ : ByteArray), .int .i64 6] rfl (by (try simp only [List.map_toArray, List.map_cons, List.map_nil]); first | done | rfl | (simp only [List.length_drop, List.length_take]; rfl)) ?_; (with_reducible refine (amphoraref10_text.calls k (fun k_ => some k_ = (.slice Ao54 t245.length co54 : Value).ownBlock) (.slice Ao54 t245.length co54) t245 (⟨#[117, 115, 116, 97, 114]⟩ : ByteArray) 6 t248 w _ ?side1 ?side2 A18.out).mono ?_); (case side1 => repeat (first | (with_reducible first | exact HB.out | apply below_alloc | apply pw_below_drewN | apply below_drew1 | refine below_set ?_ GE212.out) | exact HB.out)); (case side2 => exact Kd.R_tight rfl HO247.out); rintro e w55 ⟨v249, rfl, ho0, hb, hkp⟩; refine ⟨_, rfl, ?_⟩; have n0_ := Aside0.mk (blk_kept (by (with_reducible repeat (first | refine blk_drewN ?_ _ | refine blk_drew ?_ | refine blk_alloc ?_ _)); exact BK212.out) hkp (fun hs_ => (fun e_ => (Kd.R_ne HO247.out BK212.out (by decide)) e_) hs_)); have n1_ := Aside0.mk (Kd.R_mono (ok' := fun k_ => True) ho0 (fun k_ hk_ => trivial)); have n2_ := Aside0.mk (hb); clear BK212; clear HB; clear HO247; have BK212 := n0_; have HO250 := n1_; have HB := n2_; clear n0_ n1_ n2_; (try clear hb); (try clear hkp); (try clear ho0)) | (at_builtin; refine print_append_str (w0 := w) w.heap.size rfl (.tmp 58) _ 22 9 5 rfl Try.underlying22 Try.underlying9 info5 v249 t248 (⟨#[48, 48]⟩ : ByteArray) rfl rfl ?aO ?aB ?aS ?aL ?_; (case aB => exact (by repeat (first | (with_reducible first | exact HB.out | apply below_alloc | apply pw_below_drewN | apply below_drew1 | refine below_set ?_ GE212.out) | exact HB.out))); (case aO => exact (Kd.own_of_R (by (with_reducible repeat (first | apply Kd.R_alloc | apply Kd.R_drewN | apply Kd.R_drew)); exact HO250.out))); (case aS => exact (below_size (by repeat (first | (with_reducible first | exact HB.out | apply below_alloc | apply pw_below_drewN | apply below_drew1 | refine below_set ?_ GE212.out) | exact HB.out)))); (case aL => have := LMc19.out; have hz_ : (⟨#[48, 48]⟩ : ByteArray).size = 2 := rfl; omega); intro v252 w56 ho0 hb hg; have ho := Kd.R_of_own (h1 := fun _ => rfl) (ok := fun _ => True) ho0 (fun _ _ => trivial); clear ho0; have hat := True.intro; rw [← Ny251.out] at ho; change Kd.R (Kd.int .u8) 5 w56 w.heap.size (fun _ => True) v252 y251 at ho; have n0_ := Aside0.mk (blk_grown (g := gb212) (o := .cells #[.string a0_0, .int .i64 a0_1, .int .i64 a0_2, .int .i64 a0_3, .int .i64 a0_4, .int .i64 a0_5, .int .u8 a0_6, .string a0_7] 26 (0, 0)) (by (with_reducible repeat (first | refine blk_drewN ?_ _ | refine blk_drew ?_ | refine blk_alloc ?_ _)); exact BK212.out) hg (Kd.R_ne HO250.out BK212.out (by decide))); have n1_ := Aside0.mk (hb); have n2_ := Aside0.mk (ho); clear BK212; clear HB; clear HO250; have BK212 := n0_; have HB := n1_; have HO253 := n2_; clear n0_ n1_ n2_; clear ho hb hg hat; obtain ⟨Ao57, co57, eo57⟩ := Kd.R_slice HO253.out; subst eo57) | ((with_reducible refine gate_callee (f := 40) rfl ?_); refine goesL_ (some 61) rfl rfl Try.func40 (by kernel_rfl) rfl #[.slice Ao57 y251.length co57, .string (⟨#[]⟩ : ByteArray), .int .i64 64] rfl (by (try simp only [List.map_toArray, List.map_cons, List.map_nil]); first | done | rfl | (simp only [List.length_drop, List.length_take]; rfl)) ?_; (with_reducible refine (amphoraref10_text.calls k (fun k_ => some k_ = (.slice Ao57 y251.length co57 : Value).ownBlock) (.slice Ao57 y251.length co57) y251 (⟨#[]⟩ : ByteArray) 64 t254 w _ ?side1 ?side2 A20.out).mono ?_); (case side1 => repeat (first | (with_reducible first | exact HB.out | apply below_alloc | apply pw_below_drewN | apply below_drew1 | refine below_set ?_ GE212.out) | exact HB.out)); (case side2 => exact Kd.R_tight rfl HO253.out); rintro e w58 ⟨v255, rfl, ho0, hb, hkp⟩; refine ⟨_, rfl, ?_⟩; have n0_ := Aside0.mk (blk_kept (by (with_reducible repeat (first | refine blk_drewN ?_ _ | refine blk_drew ?_ | refine blk_alloc ?_ _)); exact BK212.out) hkp (fun hs_ => (fun e_ => (Kd.R_ne HO253.out BK212.out (by decide)) e_) hs_)); have n1_ := Aside0.mk (Kd.R_mono (ok' := fun k_ => True) ho0 (fun k_ hk_ => trivial)); have n2_ := Aside0.mk (hb); clear BK212; clear HB; clear HO253; have BK212 := n0_; have HO256 := n1_; have HB := n2_; clear n0_ n1_ n2_; (try clear hb); (try clear hkp); (try clear ho0); obtain ⟨Ao59, co59, eo59⟩ := Kd.R_slice HO256.out; subst eo59) | ((with_reducible refine gate_callee (f := 40) rfl ?_); refine goesL_ (some 63) rfl rfl Try.func40 (by kernel_rfl) rfl #[.slice Ao59 t254.length co59, .string (⟨#[48, 48, 48, 48, 48, 48, 48]⟩ : ByteArray), .int .i64 8] rfl (by (try simp only [List.map_toArray, List.map_cons, List.map_nil]); first | done | rfl | (simp only [List.length_drop, List.length_take]; rfl)) ?_; (with_reducible refine (amphoraref10_text.calls k (fun k_ => some k_ = (.slice Ao59 t254.length co59 : Value).ownBlock) (.slice Ao59 t254.length co59) t254 (⟨#[48, 48, 48, 48, 48, 48, 48]⟩ : ByteArray) 8 t257 w _ ?side1 ?side2 A21.out).mono ?_); (case side1 => repeat (first | (with_reducible first | exact HB.out | apply below_alloc | apply pw_below_drewN | apply below_drew1 | refine below_set ?_ GE212.out) | exact HB.out)); (case side2 => exact Kd.R_tight rfl HO256.out); rintro e w60 ⟨v258, rfl, ho0, hb, hkp⟩; refine ⟨_, rfl, ?_⟩; have n0_ := Aside0.mk (blk_kept (by (with_reducible repeat (first | refine blk_drewN ?_ _ | refine blk_drew ?_ | refine blk_alloc ?_ _)); exact BK212.out) hkp (fun hs_ => (fun e_ => (Kd.R_ne HO256.out BK212.out (by decide)) e_) hs_)); have n1_ := Aside0.mk (Kd.R_mono (ok' := fun k_ => True) ho0 (fun k_ hk_ => trivial)); have n2_ := Aside0.mk (hb); clear BK212; clear HB; clear HO256; have BK212 := n0_; have HO259 := n1_; have HB := n2_; clear n0_ n1_ n2_; (try clear hb); (try clear hkp); (try clear ho0); obtain ⟨Ao61, co61, eo61⟩ := Kd.R_slice HO259.out; subst eo61) | ((with_reducible refine gate_callee (f := 40) rfl ?_); refine goesL_ (some 65) rfl rfl Try.func40 (by kernel_rfl) rfl #[.slice Ao61 t257.length co61, .string (⟨#[48, 48, 48, 48, 48, 48, 48]⟩ : ByteArray), .int .i64 8] rfl (by (try simp only [List.map_toArray, List.map_cons, List.map_nil]); first | done | rfl | (simp only [List.length_drop, List.length_take]; rfl)) ?_; (with_reducible refine (amphoraref10_text.calls k (fun k_ => some k_ = (.slice Ao61 t257.length co61 : Value).ownBlock) (.slice Ao61 t257.length co61) t257 (⟨#[48, 48, 48, 48, 48, 48, 48]⟩ : ByteArray) 8 t260 w _ ?side1 ?side2 A22.out).mono ?_); (case side1 => repeat (first | (with_reducible first | exact HB.out | apply below_alloc | apply pw_below_drewN | apply below_drew1 | refine below_set ?_ GE212.out) | exact HB.out)); (case side2 => exact Kd.R_tight rfl HO259.out); rintro e w62 ⟨v261, rfl, ho0, hb, hkp⟩; refine ⟨_, rfl, ?_⟩; have n0_ := Aside0.mk (blk_kept (by (with_reducible repeat (first | refine blk_drewN ?_ _ | refine blk_drew ?_ | refine blk_alloc ?_ _)); exact BK212.out) hkp (fun hs_ => (fun e_ => (Kd.R_ne HO259.out BK212.out (by decide)) e_) hs_)); have n1_ := Aside0.mk (Kd.R_mono (ok' := fun k_ => True) ho0 (fun k_ hk_ => trivial)); have n2_ := Aside0.mk (hb); clear BK212; clear HB; clear HO259; have BK212 := n0_; have HO262 := n1_; have HB := n2_; clear n0_ n1_ n2_; (try clear hb); (try clear hkp); (try clear ho0); obtain ⟨Ao63, co63, eo63⟩ := Kd.R_slice HO262.out; subst eo63) | ((with_reducible refine gate_callee (f := 40) rfl ?_); refine goesL_ (some 68) rfl rfl Try.func40 (by kernel_rfl) rfl #[.slice Ao63 t260.length co63, .string t213, .int .i64 155] rfl (by (try simp only [List.map_toArray, List.map_cons, List.map_nil]); first | done | rfl | (simp only [List.length_drop, List.length_take]; rfl)) ?_; (with_reducible refine (amphoraref10_text.calls k (fun k_ => some k_ = (.slice Ao63 t260.length co63 : Value).ownBlock) (.slice Ao63 t260.length co63) t260 t213 155 t263 w _ ?side1 ?side2 A23.out).mono ?_); (case side1 => repeat (first | (with_reducible first | exact HB.out | apply below_alloc | apply pw_below_drewN | apply below_drew1 | refine below_set ?_ GE212.out) | exact HB.out)); (case side2 => exact Kd.R_tight rfl HO262.out); rintro e w64 ⟨v264, rfl, ho0, hb, hkp⟩; refine ⟨_, rfl, ?_⟩; have n0_ := Aside0.mk (blk_kept (by (with_reducible repeat (first | refine blk_drewN ?_ _ | refine blk_drew ?_ | refine blk_alloc ?_ _)); exact BK212.out) hkp (fun hs_ => (fun e_ => (Kd.R_ne HO262.out BK212.out (by decide)) e_) hs_)); have n1_ := Aside0.mk (Kd.R_mono (ok' := fun k_ => True) ho0 (fun k_ hk_ => trivial)); have n2_ := Aside0.mk (hb); clear BK212; clear HB; clear HO262; have BK212 := n0_; have HO265 := n1_; have HB := n2_; clear n0_ n1_ n2_; (try clear hb); (try clear hkp); (try clear ho0); obtain ⟨Ao65, co65, eo65⟩ := Kd.R_slice HO265.out; subst eo65) | ((with_reducible refine gate_callee (f := 40) rfl ?_); refine goesL_ (some 70) rfl rfl Try.func40 (by kernel_rfl) rfl #[.slice Ao65 t263.length co65, .string (⟨#[]⟩ : ByteArray), .int .i64 12] rfl (by (try simp only [List.map_toArray, List.map_cons, List.map_nil]); first | done | rfl | (simp only [List.length_drop, List.length_take]; rfl)) ?_; (with_reducible refine (amphoraref10_text.calls k (fun k_ => some k_ = (.slice Ao65 t263.length co65 : Value).ownBlock) (.slice Ao65 t263.length co65) t263 (⟨#[]⟩ : ByteArray) 12 t266 w _ ?side1 ?side2 A24.out).mono ?_); (case side1 => repeat (first | (with_reducible first | exact HB.out | apply below_alloc | apply pw_below_drewN | apply below_drew1 | refine below_set ?_ GE212.out) | exact HB.out)); (case side2 => exact Kd.R_tight rfl HO265.out); rintro e w66 ⟨v267, rfl, ho0, hb, hkp⟩; refine ⟨_, rfl, ?_⟩; have n0_ := Aside0.mk (blk_kept (by (with_reducible repeat (first | refine blk_drewN ?_ _ | refine blk_drew ?_ | refine blk_alloc ?_ _)); exact BK212.out) hkp (fun hs_ => (fun e_ => (Kd.R_ne HO265.out BK212.out (by decide)) e_) hs_)); have n1_ := Aside0.mk (Kd.R_mono (ok' := fun k_ => True) ho0 (fun k_ hk_ => trivial)); have n2_ := Aside0.mk (hb); clear BK212; clear HB; clear HO265; have BK212 := n0_; have HO268 := n1_; have HB := n2_; clear n0_ n1_ n2_; (try clear hb); (try clear hkp); (try clear ho0)))
        go_ret
        exact ⟨_, by first | rfl | (simp [errW_none, errW_some] <;> rfl) | (simp [*, errW_none, errW_some] <;> rfl), by (with_reducible repeat (first | apply Kd.R_alloc | apply Kd.R_drewN | apply Kd.R_drew)); exact HO268.out, by repeat (first | (with_reducible first | exact HB.out | apply below_alloc | apply pw_below_drewN | apply below_drew1 | refine below_set ?_ GE212.out) | exact HB.out)⟩
      · rw [if_neg c19] at H
        exact absurd H (by simp)
    · rw [if_neg c16] at H
      exact absurd H (by simp)
  · rw [if_neg c15] at H
    exact absurd H (by simp)

/-! ### amphoraref10_Encode: function 16 -/
def amphoraref10_Encode.l0 : Nat → List Int → Int → Int → ByteArray → Int → Int → Int → Int → Int → Int → ByteArray → Option (List Int × Int)
  | 0, _, _, _, _, _, _, _, _, _, _, _ => none
  | k + 1, x4, x5, x6, x270000, x270001, x270002, x270003, x270004, x270005, x270006, x270007 => if x6 < (x4.length : Int) then (if 0 ≤ x6 then (amphoraref10_Encode.l0 k x4 (wrap64 (x5 + (wrap64 (rd x4 x6)))) (wrap64 (x6 + 1)) x270000 x270001 x270002 x270003 x270004 x270005 x270006 x270007) else (none)) else ((amphoraref10_octal.f k x5 6).bind fun t275 => (if t275.size + 2 ≤ 9223372036854775807 then ((amphoraref10_put.f k x270000 x270001 x270002 x270003 x270004 x270005 x270006 x270007 (t275 ++ (⟨#[0, 32]⟩ : ByteArray))).bind fun t276 => (some (t276, 0))) else (none)))
def amphoraref10_Encode.f (k : Nat) (a0_0 : ByteArray) (a0_1 : Int) (a0_2 : Int) (a0_3 : Int) (a0_4 : Int) (a0_5 : Int) (a0_6 : Int) (a0_7 : ByteArray) : Option (List Int × Int) := (amphoraref10_Fits.f k a0_0 a0_1 a0_2 a0_3 a0_4 a0_5 a0_6 a0_7).bind fun t270 => (if t270 = true then ((amphoraref10_put.f k a0_0 a0_1 a0_2 a0_3 a0_4 a0_5 a0_6 a0_7 (⟨#[32, 32, 32, 32, 32, 32, 32, 32]⟩ : ByteArray)).bind fun t271 => (amphoraref10_Encode.l0 k t271 0 0 a0_0 a0_1 a0_2 a0_3 a0_4 a0_5 a0_6 a0_7)) else (some (([] : List Int), 14)))
theorem amphoraref10_Encode.mono_l : ∀ k, (∀ y0 y1 y2 y3 y4 y5 y6 y7 y8 y9 y10, LeO (amphoraref10_Encode.l0 k y0 y1 y2 y3 y4 y5 y6 y7 y8 y9 y10) (amphoraref10_Encode.l0 (k + 1) y0 y1 y2 y3 y4 y5 y6 y7 y8 y9 y10))
  | 0 => fun _ _ _ _ _ _ _ _ _ _ _ r h => by simp [amphoraref10_Encode.l0] at h
  | k + 1 => by
    have ih0 := amphoraref10_Encode.mono_l k
    · intro y0 y1 y2 y3 y4 y5 y6 y7 y8 y9 y10
      unfold amphoraref10_Encode.l0
      repeat' first
      | (with_reducible exact ih0 _ _ _ _ _ _ _ _ _ _ _)
      | (with_reducible exact amphoraref10_Fits.mono _ _ _ _ _ _ _ _ _)
      | (with_reducible exact amphoraref10_octal.mono _ _ _)
      | (with_reducible exact amphoraref10_put.mono _ _ _ _ _ _ _ _ _ _)
      | (with_reducible exact LeO.refl _)
      | (with_reducible exact LeO.none _)
      | (with_reducible refine LeO.ite ?_ ?_)
      | (with_reducible refine LeO.bind ?_ (fun _ => ?_))
      | exact ih0 _ _ _ _ _ _ _ _ _ _ _
      | exact amphoraref10_Fits.mono _ _ _ _ _ _ _ _ _
      | exact amphoraref10_octal.mono _ _ _
      | exact amphoraref10_put.mono _ _ _ _ _ _ _ _ _ _
      | exact LeO.none _
      | refine LeO.ite ?_ ?_
      | refine LeO.bind ?_ (fun _ => ?_)
theorem amphoraref10_Encode.mono : ∀ a0 a1 a2 a3 a4 a5 a6 a7 k, LeO (amphoraref10_Encode.f k a0 a1 a2 a3 a4 a5 a6 a7) (amphoraref10_Encode.f (k + 1) a0 a1 a2 a3 a4 a5 a6 a7) := by
  intro a0 a1 a2 a3 a4 a5 a6 a7 k
  have ih0 := amphoraref10_Encode.mono_l k
  unfold amphoraref10_Encode.f
  repeat' first
      | (with_reducible exact ih0 _ _ _ _ _ _ _ _ _ _ _)
      | (with_reducible exact amphoraref10_Fits.mono _ _ _ _ _ _ _ _ _)
      | (with_reducible exact amphoraref10_octal.mono _ _ _)
      | (with_reducible exact amphoraref10_put.mono _ _ _ _ _ _ _ _ _ _)
      | (with_reducible exact LeO.refl _)
      | (with_reducible exact LeO.none _)
      | (with_reducible refine LeO.ite ?_ ?_)
      | (with_reducible refine LeO.bind ?_ (fun _ => ?_))
      | exact ih0 _ _ _ _ _ _ _ _ _ _ _
      | exact amphoraref10_Fits.mono _ _ _ _ _ _ _ _ _
      | exact amphoraref10_octal.mono _ _ _
      | exact amphoraref10_put.mono _ _ _ _ _ _ _ _ _ _
      | exact LeO.none _
      | refine LeO.ite ?_ ?_
      | refine LeO.bind ?_ (fun _ => ?_)
set_option maxHeartbeats 8000000 in
set_option maxRecDepth 100000 in
theorem amphoraref10_Encode.calls (k : Nat) (a0_0 : ByteArray) (a0_1 : Int) (a0_2 : Int) (a0_3 : Int) (a0_4 : Int) (a0_5 : Int) (a0_6 : Int) (a0_7 : ByteArray) (r1 : List Int) (r2 : Int) (w : World) (h : amphoraref10_Encode.f k a0_0 a0_1 a0_2 a0_3 a0_4 a0_5 a0_6 a0_7 = some (r1, r2)) :
    Calls Try.prog 16 #[.agg #[.string a0_0, .int .i64 a0_1, .int .i64 a0_2, .int .i64 a0_3, .int .i64 a0_4, .int .i64 a0_5, .int .u8 a0_6, .string a0_7]] w fun e w' => ∃ v0_ : Value, e = .returned (.tuple #[v0_, .int .i64 r2]) ∧ Kd.R (Kd.int .u8) 5 w' w.heap.size (fun _ => True) v0_ r1 ∧ Below w.heap.size w w' := by
  have hu26 := Try.underlying26
  have HB := Aside0.mk (Below.refl w.heap.size w)
  have H : ((amphoraref10_Fits.f k a0_0 a0_1 a0_2 a0_3 a0_4 a0_5 a0_6 a0_7).bind fun t270 => (if t270 = true then ((amphoraref10_put.f k a0_0 a0_1 a0_2 a0_3 a0_4 a0_5 a0_6 a0_7 (⟨#[32, 32, 32, 32, 32, 32, 32, 32]⟩ : ByteArray)).bind fun t271 => (amphoraref10_Encode.l0 k t271 0 0 a0_0 a0_1 a0_2 a0_3 a0_4 a0_5 a0_6 a0_7)) else (some (([] : List Int), 14)))) = some (r1, r2) := h
  clear h
  replace H := Option.bind_eq_some_iff.mp H
  obtain ⟨t270, A20, H⟩ := H
  replace H : (if t270 = true then ((amphoraref10_put.f k a0_0 a0_1 a0_2 a0_3 a0_4 a0_5 a0_6 a0_7 (⟨#[32, 32, 32, 32, 32, 32, 32, 32]⟩ : ByteArray)).bind fun t271 => (amphoraref10_Encode.l0 k t271 0 0 a0_0 a0_1 a0_2 a0_3 a0_4 a0_5 a0_6 a0_7)) else (some (([] : List Int), 14))) = some (r1, r2) := H
  have A2 := Aside0.mk A20
  clear A20
  by_cases c3 : t270 = true
  · subst c3
    have H1 : ((amphoraref10_put.f k a0_0 a0_1 a0_2 a0_3 a0_4 a0_5 a0_6 a0_7 (⟨#[32, 32, 32, 32, 32, 32, 32, 32]⟩ : ByteArray)).bind fun t271 => (amphoraref10_Encode.l0 k t271 0 0 a0_0 a0_1 a0_2 a0_3 a0_4 a0_5 a0_6 a0_7)) = some (r1, r2) := by rw [if_pos rfl] at H; exact H
    clear H
    have H := H1
    clear H1
    replace H := Option.bind_eq_some_iff.mp H
    obtain ⟨t271, A40, H⟩ := H
    replace H : (amphoraref10_Encode.l0 k t271 0 0 a0_0 a0_1 a0_2 a0_3 a0_4 a0_5 a0_6 a0_7) = some (r1, r2) := H
    have A4 := Aside0.mk A40
    clear A40
    have H' := Aside0.mk H
    clear H
    go_enter Try.func16, Try.ntmps16
    go_wp2_with (first | ((with_reducible refine gate_dst (N := 1) rfl ?_); refine box_event ?hg (N := 1) ?hd (cs := #[.string a0_0, .int .i64 a0_1, .int .i64 a0_2, .int .i64 a0_3, .int .i64 a0_4, .int .i64 a0_5, .int .u8 a0_6, .string a0_7]) (t := 26) ?hr ?_; (case hd => rfl); (case hg => rfl); (case hr => first | (go_simp; done) | (go_simp; rfl)); intro gb269 hg w5 hbox hb; have n0_ := Aside0.mk (below_step (by repeat (first | (with_reducible first | exact HB.out | apply below_alloc | apply pw_below_drewN | apply below_drew1) | exact HB.out)) hb); have n1_ := Aside0.mk (hbox); have n2_ := Aside0.mk ((by rw [hg]; exact (below_size (by repeat (first | (with_reducible first | exact HB.out | apply below_alloc | apply pw_below_drewN | apply below_drew1) | exact HB.out))) : w.heap.size ≤ gb269)); have n3_ := Aside0.mk ((by rw [hg]; exact (below_size (by repeat (first | (with_reducible first | exact HB.out | apply below_alloc | apply pw_below_drewN | apply below_drew1) | exact HB.out))) : w.heap.size ≤ gb269)); clear HB; have HB := n0_; have BK269 := n1_; have GW269 := n2_; have GE269 := n3_; clear n0_ n1_ n2_ n3_; clear hb hbox hg; have hcz6_0 : w5.cell? ⟨gb269, 0, none⟩ = some (.string a0_0) := (blk_cell BK269.out 0).trans rfl; have hcz6_1 : w5.cell? ⟨gb269, 1, none⟩ = some (.int .i64 a0_1) := (blk_cell BK269.out 1).trans rfl; have hcz6_2 : w5.cell? ⟨gb269, 2, none⟩ = some (.int .i64 a0_2) := (blk_cell BK269.out 2).trans rfl; have hcz6_3 : w5.cell? ⟨gb269, 3, none⟩ = some (.int .i64 a0_3) := (blk_cell BK269.out 3).trans rfl; have hcz6_4 : w5.cell? ⟨gb269, 4, none⟩ = some (.int .i64 a0_4) := (blk_cell BK269.out 4).trans rfl; have hcz6_5 : w5.cell? ⟨gb269, 5, none⟩ = some (.int .i64 a0_5) := (blk_cell BK269.out 5).trans rfl; have hcz6_6 : w5.cell? ⟨gb269, 6, none⟩ = some (.int .u8 a0_6) := (blk_cell BK269.out 6).trans rfl; have hcz6_7 : w5.cell? ⟨gb269, 7, none⟩ = some (.string a0_7) := (blk_cell BK269.out 7).trans rfl; have hfz6_0 := blk_frozen BK269.out 0; have hfz6_1 := blk_frozen BK269.out 1; have hfz6_2 := blk_frozen BK269.out 2; have hfz6_3 := blk_frozen BK269.out 3; have hfz6_4 := blk_frozen BK269.out 4; have hfz6_5 := blk_frozen BK269.out 5; have hfz6_6 := blk_frozen BK269.out 6; have hfz6_7 := blk_frozen BK269.out 7) | ((with_reducible refine gate_callee (f := 34) rfl ?_); refine goesL_ (some 8) rfl rfl Try.func34 (by kernel_rfl) rfl #[.agg #[.string a0_0, .int .i64 a0_1, .int .i64 a0_2, .int .i64 a0_3, .int .i64 a0_4, .int .i64 a0_5, .int .u8 a0_6, .string a0_7]] rfl (by (try simp only [List.map_toArray, List.map_cons, List.map_nil]); first | done | rfl | (simp only [List.length_drop, List.length_take]; rfl)) ?_; (with_reducible refine (amphoraref10_Fits.calls k a0_0 a0_1 a0_2 a0_3 a0_4 a0_5 a0_6 a0_7 true _ A2.out).mono ?_); rintro e w7 ⟨rfl, hb⟩; refine ⟨_, rfl, ?_⟩; have n0_ := Aside0.mk (blk_below (g := gb269) (o := .cells #[.string a0_0, .int .i64 a0_1, .int .i64 a0_2, .int .i64 a0_3, .int .i64 a0_4, .int .i64 a0_5, .int .u8 a0_6, .string a0_7] 26 (0, 0)) (by (with_reducible repeat (first | refine blk_drewN ?_ _ | refine blk_drew ?_ | refine blk_alloc ?_ _)); exact BK269.out) hb); have n1_ := Aside0.mk (below_step (by repeat (first | (with_reducible first | exact HB.out | apply below_alloc | apply pw_below_drewN | apply below_drew1 | refine below_set ?_ GE269.out) | exact HB.out)) hb); clear BK269; clear HB; have BK269 := n0_; have HB := n1_; clear n0_ n1_; (try clear hb); (try clear hb2); (try clear hk); (try clear hi); have hcz8_0 : w7.cell? ⟨gb269, 0, none⟩ = some (.string a0_0) := (blk_cell BK269.out 0).trans rfl; have hcz8_1 : w7.cell? ⟨gb269, 1, none⟩ = some (.int .i64 a0_1) := (blk_cell BK269.out 1).trans rfl; have hcz8_2 : w7.cell? ⟨gb269, 2, none⟩ = some (.int .i64 a0_2) := (blk_cell BK269.out 2).trans rfl; have hcz8_3 : w7.cell? ⟨gb269, 3, none⟩ = some (.int .i64 a0_3) := (blk_cell BK269.out 3).trans rfl; have hcz8_4 : w7.cell? ⟨gb269, 4, none⟩ = some (.int .i64 a0_4) := (blk_cell BK269.out 4).trans rfl; have hcz8_5 : w7.cell? ⟨gb269, 5, none⟩ = some (.int .i64 a0_5) := (blk_cell BK269.out 5).trans rfl; have hcz8_6 : w7.cell? ⟨gb269, 6, none⟩ = some (.int .u8 a0_6) := (blk_cell BK269.out 6).trans rfl; have hcz8_7 : w7.cell? ⟨gb269, 7, none⟩ = some (.string a0_7) := (blk_cell BK269.out 7).trans rfl; have hfz8_0 := blk_frozen BK269.out 0; have hfz8_1 := blk_frozen BK269.out 1; have hfz8_2 := blk_frozen BK269.out 2; have hfz8_3 := blk_frozen BK269.out 3; have hfz8_4 := blk_frozen BK269.out 4; have hfz8_5 := blk_frozen BK269.out 5; have hfz8_6 := blk_frozen BK269.out 6; have hfz8_7 := blk_frozen BK269.out 7) | ((with_reducible refine gate_callee (f := 35) rfl ?_); refine goesL_ (some 11) rfl rfl Try.func35 (by kernel_rfl) rfl #[.agg #[.string a0_0, .int .i64 a0_1, .int .i64 a0_2, .int .i64 a0_3, .int .i64 a0_4, .int .i64 a0_5, .int .u8 a0_6, .string a0_7], .string (⟨#[32, 32, 32, 32, 32, 32, 32, 32]⟩ : ByteArray)] rfl (by (try simp only [List.map_toArray, List.map_cons, List.map_nil]); first | done | rfl | (simp only [List.length_drop, List.length_take]; rfl)) ?_; (with_reducible refine (amphoraref10_put.calls k a0_0 a0_1 a0_2 a0_3 a0_4 a0_5 a0_6 a0_7 (⟨#[32, 32, 32, 32, 32, 32, 32, 32]⟩ : ByteArray) t271 _ A4.out).mono ?_); rintro e w9 ⟨v272, rfl, ho0, hb⟩; refine ⟨_, rfl, ?_⟩; have n0_ := Aside0.mk (Kd.R_lower ho0 (below_size (by repeat (first | (with_reducible first | exact HB.out | apply below_alloc | apply pw_below_drewN | apply below_drew1 | refine below_set ?_ GE269.out) | exact HB.out)))); have n1_ := Aside0.mk (blk_below (g := gb269) (o := .cells #[.string a0_0, .int .i64 a0_1, .int .i64 a0_2, .int .i64 a0_3, .int .i64 a0_4, .int .i64 a0_5, .int .u8 a0_6, .string a0_7] 26 (0, 0)) (by (with_reducible repeat (first | refine blk_drewN ?_ _ | refine blk_drew ?_ | refine blk_alloc ?_ _)); exact BK269.out) hb); have n2_ := Aside0.mk (below_step (by repeat (first | (with_reducible first | exact HB.out | apply below_alloc | apply pw_below_drewN | apply below_drew1 | refine below_set ?_ GE269.out) | exact HB.out)) hb); clear BK269; clear HB; have HO273 := n0_; have BK269 := n1_; have HB := n2_; clear n0_ n1_ n2_; (try clear hb); (try clear hb2); (try clear hk); (try clear hi); (try clear ho0)))
    go_loopg [5, 6] k (fun kq v5 v6 w' => ∃ (x5_1 : Int) (x6_1 : Int), v5 = .int .i64 x5_1 ∧ v6 = .int .i64 x6_1 ∧ Aside0 (amphoraref10_Encode.l0 kq t271 x5_1 x6_1 a0_0 a0_1 a0_2 a0_3 a0_4 a0_5 a0_6 a0_7 = some (r1, r2)) ∧ Aside0 (kq ≤ k) ∧ Aside0 (Kd.R (Kd.int .u8) 5 w' w.heap.size (fun _ => True) v272 t271) ∧ Aside0 (w'.heap[gb269]? = some (.cells #[.string a0_0, .int .i64 a0_1, .int .i64 a0_2, .int .i64 a0_3, .int .i64 a0_4, .int .i64 a0_5, .int .u8 a0_6, .string a0_7] 26 (0, 0))) ∧ Aside0 (Below w.heap.size w w'))
    case atStart => exact ⟨(0), (0), (by first | rfl | (simp; done) | (simp [*]; done)), (by first | rfl | (simp; done) | (simp [*]; done)), H', ⟨Nat.le_refl _⟩, ⟨by (with_reducible repeat (first | apply Kd.R_alloc | apply Kd.R_drewN | apply Kd.R_drew)); exact HO273.out⟩, ⟨by (with_reducible repeat (first | refine blk_drewN ?_ _ | refine blk_drew ?_ | refine blk_alloc ?_ _)); exact BK269.out⟩, ⟨by repeat (first | (with_reducible first | exact HB.out | apply below_alloc | apply pw_below_drewN | apply below_drew1 | refine below_set ?_ GE269.out) | exact HB.out)⟩⟩
    case round =>
      clear H'
      try clear c1
      try clear p2
      try clear c3
      try clear hcz6_0
      try clear hcz6_1
      try clear hcz6_2
      try clear hcz6_3
      try clear hcz6_4
      try clear hcz6_5
      try clear hcz6_6
      try clear hcz6_7
      try clear hcz8_0
      try clear hcz8_1
      try clear hcz8_2
      try clear hcz8_3
      try clear hcz8_4
      try clear hcz8_5
      try clear hcz8_6
      try clear hcz8_7
      try clear hfz6_0
      try clear hfz6_1
      try clear hfz6_2
      try clear hfz6_3
      try clear hfz6_4
      try clear hfz6_5
      try clear hfz6_6
      try clear hfz6_7
      try clear hfz8_0
      try clear hfz8_1
      try clear hfz8_2
      try clear hfz8_3
      try clear hfz8_4
      try clear hfz8_5
      try clear hfz8_6
      try clear hfz8_7
      obtain ⟨x5_1, x6_1, rfl, rfl, HA, HK1, HO_4, BK269, HB⟩ := hrel
      cases gk with
      | zero => exact absurd HA.out (by simp [amphoraref10_Encode.l0])
      | succ k1 =>
        have H := HA.out
        clear HA
        simp only [amphoraref10_Encode.l0] at H
        by_cases c10 : x6_1 < (t271.length : Int)
        · rw [if_pos c10] at H
          have c10b0 : decide (x6_1 < (t271.length : Int)) = true := decide_eq_true c10
          clear c10
          by_cases c11 : 0 ≤ x6_1
          · rw [if_pos c11] at H
            have c11b0 : decide (0 ≤ x6_1) = true := decide_eq_true c11
            clear c11
            have H' := Aside0.mk H
            clear H
            obtain ⟨Ao12, co12, eo12⟩ := Kd.R_slice HO_4.out
            subst eo12
            have p274 : 0 ≤ (x6_1 : Int) := of_decide_eq_true (by first | (with_reducible assumption) | assumption)
            have q274 : x6_1 < (t271.length : Int) := of_decide_eq_true (by first | (with_reducible assumption) | assumption)
            obtain ⟨ad274, e274, hx274_0⟩ := Kd.at_int (Kd.R_reads' HO_4.out).2.2 x6_1 p274 q274
            cases e274
            replace p274 := eq_true p274
            replace q274 := eq_true q274
            go_wp2
            go_roundg k1
            case measure => have := HK1.out; omega
            case rel => exact ⟨(wrap64 (x5_1 + (wrap64 (rd t271 x6_1)))), (wrap64 (x6_1 + 1)), (by first | rfl | (simp; done) | (simp [*]; done)), (by first | rfl | (simp; done) | (simp [*]; done)), H', ⟨by have := HK1.out; omega⟩, ⟨by (with_reducible repeat (first | apply Kd.R_alloc | apply Kd.R_drewN | apply Kd.R_drew)); exact HO_4.out⟩, ⟨by (with_reducible repeat (first | refine blk_drewN ?_ _ | refine blk_drew ?_ | refine blk_alloc ?_ _)); exact BK269.out⟩, ⟨by repeat (first | (with_reducible first | exact HB.out | apply below_alloc | apply pw_below_drewN | apply below_drew1 | refine below_set ?_ GE269.out) | exact HB.out)⟩⟩
          · rw [if_neg c11] at H
            exact absurd H (by simp)
        · rw [if_neg c10] at H
          have c10b0 : decide (x6_1 < (t271.length : Int)) = false := decide_eq_false c10
          clear c10
          replace H := Option.bind_eq_some_iff.mp H
          obtain ⟨t275, A130, H⟩ := H
          replace H : (if t275.size + 2 ≤ 9223372036854775807 then ((amphoraref10_put.f k1 a0_0 a0_1 a0_2 a0_3 a0_4 a0_5 a0_6 a0_7 (t275 ++ (⟨#[0, 32]⟩ : ByteArray))).bind fun t276 => (some (t276, 0))) else (none)) = some (r1, r2) := H
          have A13 := Aside0.mk A130
          clear A130
          by_cases c14 : t275.size + 2 ≤ 9223372036854775807
          · rw [if_pos c14] at H
            have c14b0 := eq_true c14
            have c14b1 : decide (t275.size + 2 ≤ 9223372036854775807) = true := decide_eq_true c14
            try have c14b2 : (9223372036854775807 < t275.size + 2) = False := eq_false (Nat.not_lt.2 c14)
            replace H := Option.bind_eq_some_iff.mp H
            obtain ⟨t276, A150, H⟩ := H
            replace H : (some (t276, 0)) = some (r1, r2) := H
            have A15 := Aside0.mk A150
            clear A150
            simp only [Option.some.injEq, Prod.mk.injEq] at H
            obtain ⟨rfl, rfl⟩ := H
            obtain ⟨Ao16, co16, eo16⟩ := Kd.R_slice HO_4.out
            subst eo16
            try go_wp2
            have n0_ := Aside0.mk (Kd.R_drew HO_4.out)
            have n1_ := Aside0.mk (blk_drew BK269.out)
            have n2_ := Aside0.mk (below_drew1 HB.out)
            clear HO_4
            clear BK269
            clear HB
            have HO_4 := n0_
            have BK269 := n1_
            have HB := n2_
            clear n0_ n1_ n2_
            refine start_ (n := 7) (S := fun w' => w'.cell? ⟨gb269, 0, none⟩ = some (.string a0_0) ∧ w'.cell? ⟨gb269, 1, none⟩ = some (.int .i64 a0_1) ∧ w'.cell? ⟨gb269, 2, none⟩ = some (.int .i64 a0_2) ∧ w'.cell? ⟨gb269, 3, none⟩ = some (.int .i64 a0_3) ∧ w'.cell? ⟨gb269, 4, none⟩ = some (.int .i64 a0_4) ∧ w'.cell? ⟨gb269, 5, none⟩ = some (.int .i64 a0_5) ∧ w'.cell? ⟨gb269, 6, none⟩ = some (.int .u8 a0_6) ∧ w'.cell? ⟨gb269, 7, none⟩ = some (.string a0_7)) (ds := []) #[false, false, false, false, false, false, false] (by kernel_rfl) rfl rfl ⟨(blk_cell BK269.out 0).trans rfl, (blk_cell BK269.out 1).trans rfl, (blk_cell BK269.out 2).trans rfl, (blk_cell BK269.out 3).trans rfl, (blk_cell BK269.out 4).trans rfl, (blk_cell BK269.out 5).trans rfl, (blk_cell BK269.out 6).trans rfl, (blk_cell BK269.out 7).trans rfl⟩ (fun hHeld => ?_)
            generalize wr.drew = w17 at HO_4 BK269 HB hHeld ⊢
            refine pure_ (i := 1) (N := some 26) (v := ?_) (a' := ?_) #[false, true, false, false, false, false, false] rfl rfl (by kernel_rfl) (fun _ _ _ h => h) (Or.inl ⟨by rfl, ?_⟩) ?_ ?_
            rotate_left
            · intro w'
              go_simp
              with_reducible rfl
            rotate_left
            · simp only [Act.put, List.setIfInBounds_toArray, List.set_cons_zero, List.set_cons_succ, i64_w, i32_w]
              rfl
            refine take_ (i := 0) (N := some 25) (v := ?_) (a' := ?_) #[true, true, false, false, false, false, false] rfl rfl (by kernel_rfl) (fun _ _ _ h => h) (Or.inl ⟨by rfl, ?_⟩) hHeld ?_ ?_
            rotate_left
            · rintro w' ⟨s0, s1, s2, s3, s4, s5, s6, s7⟩
              go_simp
              with_reducible rfl
            rotate_left
            · simp only [Act.put, List.setIfInBounds_toArray, List.set_cons_zero, List.set_cons_succ, i64_w, i32_w]
              rfl
            refine one_ (i := 2) (N := some 27) #[true, true, true, false, false, false, false] rfl rfl (by kernel_rfl) (by decide) (fun K hK => ?_)
            refine goes_ Try.func36 (by kernel_rfl) rfl #[.int .i64 x5_1, .int .i64 6] (by rfl) rfl rfl (by (try simp only [List.map_toArray, List.map_cons, List.map_nil]); first | done | rfl | (simp only [List.length_drop, List.length_take]; rfl)) ?_
            with_reducible refine (amphoraref10_octal.calls k1 x5_1 6 t275 _ A13.out).mono ?_
            rintro e w18 ⟨rfl, hb⟩
            refine ⟨_, rfl, ?_⟩
            have n0_ := Aside0.mk (Kd.R_below (by (with_reducible repeat (first | apply Kd.R_alloc | apply Kd.R_drewN | apply Kd.R_drew)); exact HO_4.out) hb)
            have n1_ := Aside0.mk (blk_below (g := gb269) (o := .cells #[.string a0_0, .int .i64 a0_1, .int .i64 a0_2, .int .i64 a0_3, .int .i64 a0_4, .int .i64 a0_5, .int .u8 a0_6, .string a0_7] 26 (0, 0)) (by (with_reducible repeat (first | refine blk_drewN ?_ _ | refine blk_drew ?_ | refine blk_alloc ?_ _)); exact BK269.out) hb)
            have n2_ := Aside0.mk (below_step (by repeat (first | (with_reducible first | exact HB.out | apply below_alloc | apply pw_below_drewN | apply below_drew1 | refine below_set ?_ GE269.out) | exact HB.out)) hb)
            clear HO_4
            clear BK269
            clear HB
            have HO_4 := n0_
            have BK269 := n1_
            have HB := n2_
            clear n0_ n1_ n2_
            (try clear hb)
            (try clear hb2)
            (try clear hk)
            (try clear hi)
            refine hK.out _ _ ⟨(blk_cell BK269.out 0).trans rfl, (blk_cell BK269.out 1).trans rfl, (blk_cell BK269.out 2).trans rfl, (blk_cell BK269.out 3).trans rfl, (blk_cell BK269.out 4).trans rfl, (blk_cell BK269.out 5).trans rfl, (blk_cell BK269.out 6).trans rfl, (blk_cell BK269.out 7).trans rfl⟩ (fun hHeld => ?_)
            clear hK K
            refine norm_ (a' := ?_) ?_ ?_
            rotate_left
            · show Act.put _ (some 27) _ = _
              simp only [Act.put, List.setIfInBounds_toArray, List.set_cons_zero, List.set_cons_succ, i64_w, i32_w]
              rfl
            refine pure_ (i := 3) (N := some 28) (v := ?_) (a' := ?_) #[true, true, true, true, false, false, false] rfl rfl (by kernel_rfl) (fun _ _ _ h => h) (Or.inl ⟨by rfl, ?_⟩) ?_ ?_
            rotate_left
            · intro w'
              go_simp
              with_reducible rfl
            rotate_left
            · simp only [Act.put, List.setIfInBounds_toArray, List.set_cons_zero, List.set_cons_succ, i64_w, i32_w]
              rfl
            refine one_ (i := 4) (N := some 29) #[true, true, true, true, true, false, false] rfl rfl (by kernel_rfl) (by decide) (fun K hK => ?_)
            refine goes_ Try.func35 (by kernel_rfl) rfl #[.agg #[.string a0_0, .int .i64 a0_1, .int .i64 a0_2, .int .i64 a0_3, .int .i64 a0_4, .int .i64 a0_5, .int .u8 a0_6, .string a0_7], .string (t275 ++ (⟨#[0, 32]⟩ : ByteArray))] (by rfl) rfl rfl (by (try simp only [List.map_toArray, List.map_cons, List.map_nil]); first | done | rfl | (simp only [List.length_drop, List.length_take]; rfl)) ?_
            with_reducible refine (amphoraref10_put.calls k1 a0_0 a0_1 a0_2 a0_3 a0_4 a0_5 a0_6 a0_7 (t275 ++ (⟨#[0, 32]⟩ : ByteArray)) t276 _ A15.out).mono ?_
            rintro e w19 ⟨v277, rfl, ho0, hb⟩
            refine ⟨_, rfl, ?_⟩
            have n0_ := Aside0.mk (Kd.R_elder' (by (with_reducible repeat (first | apply Kd.R_alloc | apply Kd.R_drewN | apply Kd.R_drew)); exact HO_4.out) (Kd.R_base ho0) hb)
            have n1_ := Aside0.mk (Kd.R_lower (Kd.R_new' ho0 (Kd.R_lt (by (with_reducible repeat (first | apply Kd.R_alloc | apply Kd.R_drewN | apply Kd.R_drew)); exact HO_4.out))) (below_size (by repeat (first | (with_reducible first | exact HB.out | apply below_alloc | apply pw_below_drewN | apply below_drew1 | refine below_set ?_ GE269.out) | exact HB.out))))
            have n2_ := Aside0.mk (blk_below (g := gb269) (o := .cells #[.string a0_0, .int .i64 a0_1, .int .i64 a0_2, .int .i64 a0_3, .int .i64 a0_4, .int .i64 a0_5, .int .u8 a0_6, .string a0_7] 26 (0, 0)) (by (with_reducible repeat (first | refine blk_drewN ?_ _ | refine blk_drew ?_ | refine blk_alloc ?_ _)); exact BK269.out) hb)
            have n3_ := Aside0.mk (below_step (by repeat (first | (with_reducible first | exact HB.out | apply below_alloc | apply pw_below_drewN | apply below_drew1 | refine below_set ?_ GE269.out) | exact HB.out)) hb)
            clear HO_4
            clear BK269
            clear HB
            have HO_4 := n0_
            have HO278 := n1_
            have BK269 := n2_
            have HB := n3_
            clear n0_ n1_ n2_ n3_
            (try clear hb)
            (try clear hb2)
            (try clear hk)
            (try clear hi)
            (try clear ho0)
            refine hK.out _ _ ⟨(blk_cell BK269.out 0).trans rfl, (blk_cell BK269.out 1).trans rfl, (blk_cell BK269.out 2).trans rfl, (blk_cell BK269.out 3).trans rfl, (blk_cell BK269.out 4).trans rfl, (blk_cell BK269.out 5).trans rfl, (blk_cell BK269.out 6).trans rfl, (blk_cell BK269.out 7).trans rfl⟩ (fun hHeld => ?_)
            clear hK K
            refine norm_ (a' := ?_) ?_ ?_
            rotate_left
            · show Act.put _ (some 29) _ = _
              simp only [Act.put, List.setIfInBounds_toArray, List.set_cons_zero, List.set_cons_succ, i64_w, i32_w]
              rfl
            refine pure_ (i := 5) (N := some 2) (v := ?_) (a' := ?_) #[true, true, true, true, true, true, false] rfl rfl (by kernel_rfl) (fun _ _ _ h => h) (Or.inl ⟨by rfl, ?_⟩) ?_ ?_
            rotate_left
            · intro w'
              go_simp
              with_reducible rfl
            rotate_left
            · simp only [Act.put, List.setIfInBounds_toArray, List.set_cons_zero, List.set_cons_succ, i64_w, i32_w]
              rfl
            refine pure_ (i := 6) (N := some 3) (v := ?_) (a' := ?_) #[true, true, true, true, true, true, true] rfl rfl (by kernel_rfl) (fun _ _ _ h => h) (Or.inl ⟨by rfl, ?_⟩) ?_ ?_
            rotate_left
            · intro w'
              go_simp
              with_reducible rfl
            rotate_left
            · simp only [Act.put, List.setIfInBounds_toArray, List.set_cons_zero, List.set_cons_succ, i64_w, i32_w]
              rfl
            refine done_ (by kernel_rfl) ?_
            try go_wp2
            go_ret2
            exact ⟨_, by first | rfl | (simp [errW_none, errW_some] <;> rfl) | (simp [*, errW_none, errW_some] <;> rfl), by (with_reducible repeat (first | apply Kd.R_alloc | apply Kd.R_drewN | apply Kd.R_drew)); exact Kd.R_mono HO278.out (fun _ hk => trivial), by repeat (first | (with_reducible first | exact HB.out | apply below_alloc | apply pw_below_drewN | apply below_drew1 | refine below_set ?_ GE269.out) | exact HB.out)⟩
          · rw [if_neg c14] at H
            exact absurd H (by simp)
  · replace c3 := Bool.eq_false_iff.mpr c3
    subst c3
    have H1 : (some (([] : List Int), 14)) = some (r1, r2) := by rw [if_neg (show ¬ (false = true) by decide)] at H; exact H
    clear H
    have H := H1
    clear H1
    simp only [Option.some.injEq, Prod.mk.injEq] at H
    obtain ⟨rfl, rfl⟩ := H
    go_enter Try.func16, Try.ntmps16
    go_wp2_with (first | ((with_reducible refine gate_dst (N := 1) rfl ?_); refine box_event ?hg (N := 1) ?hd (cs := #[.string a0_0, .int .i64 a0_1, .int .i64 a0_2, .int .i64 a0_3, .int .i64 a0_4, .int .i64 a0_5, .int .u8 a0_6, .string a0_7]) (t := 26) ?hr ?_; (case hd => rfl); (case hg => rfl); (case hr => first | (go_simp; done) | (go_simp; rfl)); intro gb269 hg w20 hbox hb; have n0_ := Aside0.mk (below_step (by repeat (first | (with_reducible first | exact HB.out | apply below_alloc | apply pw_below_drewN | apply below_drew1) | exact HB.out)) hb); have n1_ := Aside0.mk (hbox); have n2_ := Aside0.mk ((by rw [hg]; exact (below_size (by repeat (first | (with_reducible first | exact HB.out | apply below_alloc | apply pw_below_drewN | apply below_drew1) | exact HB.out))) : w.heap.size ≤ gb269)); have n3_ := Aside0.mk ((by rw [hg]; exact (below_size (by repeat (first | (with_reducible first | exact HB.out | apply below_alloc | apply pw_below_drewN | apply below_drew1) | exact HB.out))) : w.heap.size ≤ gb269)); clear HB; have HB := n0_; have BK269 := n1_; have GW269 := n2_; have GE269 := n3_; clear n0_ n1_ n2_ n3_; clear hb hbox hg; have hcz21_0 : w20.cell? ⟨gb269, 0, none⟩ = some (.string a0_0) := (blk_cell BK269.out 0).trans rfl; have hcz21_1 : w20.cell? ⟨gb269, 1, none⟩ = some (.int .i64 a0_1) := (blk_cell BK269.out 1).trans rfl; have hcz21_2 : w20.cell? ⟨gb269, 2, none⟩ = some (.int .i64 a0_2) := (blk_cell BK269.out 2).trans rfl; have hcz21_3 : w20.cell? ⟨gb269, 3, none⟩ = some (.int .i64 a0_3) := (blk_cell BK269.out 3).trans rfl; have hcz21_4 : w20.cell? ⟨gb269, 4, none⟩ = some (.int .i64 a0_4) := (blk_cell BK269.out 4).trans rfl; have hcz21_5 : w20.cell? ⟨gb269, 5, none⟩ = some (.int .i64 a0_5) := (blk_cell BK269.out 5).trans rfl; have hcz21_6 : w20.cell? ⟨gb269, 6, none⟩ = some (.int .u8 a0_6) := (blk_cell BK269.out 6).trans rfl; have hcz21_7 : w20.cell? ⟨gb269, 7, none⟩ = some (.string a0_7) := (blk_cell BK269.out 7).trans rfl; have hfz21_0 := blk_frozen BK269.out 0; have hfz21_1 := blk_frozen BK269.out 1; have hfz21_2 := blk_frozen BK269.out 2; have hfz21_3 := blk_frozen BK269.out 3; have hfz21_4 := blk_frozen BK269.out 4; have hfz21_5 := blk_frozen BK269.out 5; have hfz21_6 := blk_frozen BK269.out 6; have hfz21_7 := blk_frozen BK269.out 7) | ((with_reducible refine gate_callee (f := 34) rfl ?_); refine goesL_ (some 8) rfl rfl Try.func34 (by kernel_rfl) rfl #[.agg #[.string a0_0, .int .i64 a0_1, .int .i64 a0_2, .int .i64 a0_3, .int .i64 a0_4, .int .i64 a0_5, .int .u8 a0_6, .string a0_7]] rfl (by (try simp only [List.map_toArray, List.map_cons, List.map_nil]); first | done | rfl | (simp only [List.length_drop, List.length_take]; rfl)) ?_; (with_reducible refine (amphoraref10_Fits.calls k a0_0 a0_1 a0_2 a0_3 a0_4 a0_5 a0_6 a0_7 false _ A2.out).mono ?_); rintro e w22 ⟨rfl, hb⟩; refine ⟨_, rfl, ?_⟩; have n0_ := Aside0.mk (blk_below (g := gb269) (o := .cells #[.string a0_0, .int .i64 a0_1, .int .i64 a0_2, .int .i64 a0_3, .int .i64 a0_4, .int .i64 a0_5, .int .u8 a0_6, .string a0_7] 26 (0, 0)) (by (with_reducible repeat (first | refine blk_drewN ?_ _ | refine blk_drew ?_ | refine blk_alloc ?_ _)); exact BK269.out) hb); have n1_ := Aside0.mk (below_step (by repeat (first | (with_reducible first | exact HB.out | apply below_alloc | apply pw_below_drewN | apply below_drew1 | refine below_set ?_ GE269.out) | exact HB.out)) hb); clear BK269; clear HB; have BK269 := n0_; have HB := n1_; clear n0_ n1_; (try clear hb); (try clear hb2); (try clear hk); (try clear hi)))
    go_ret2
    exact ⟨_, by first | rfl | (simp [errW_none, errW_some] <;> rfl) | (simp [*, errW_none, errW_some] <;> rfl), by first | exact Kd.R_nil _ _ _ _ _ | exact Kd.N_nil _ _ _ _ _ | exact Kd.V_nil _ _ _ _ _ | exact Kd.Q_nil _ _ _ _ _ | exact Kd.S_nil _ _ _ _ _, by repeat (first | (with_reducible first | exact HB.out | apply below_alloc | apply pw_below_drewN | apply below_drew1 | refine below_set ?_ GE269.out) | exact HB.out)⟩

/-! ### amphoraref10_field: function 28 -/
def amphoraref10_field.l0 : Nat → List Int → Int → Option (ByteArray)
  | 0, _, _ => none
  | k + 1, x0, x3 => if x3 < (x0.length : Int) then (if 0 ≤ x3 then (if (rd x0 x3) = 0 then (if x3 ≤ (x0.length : Int) then (some (strOfNums (x0.take (x3 : Int).toNat))) else (none)) else (amphoraref10_field.l0 k x0 (wrap64 (x3 + 1)))) else (none)) else (if 0 ≤ x3 then (if x3 ≤ (x0.length : Int) then (some (strOfNums (x0.take (x3 : Int).toNat))) else (none)) else (none))
def amphoraref10_field.f (k : Nat) (l0 : List Int) : Option (ByteArray) := amphoraref10_field.l0 k l0 0
theorem amphoraref10_field.mono_l : ∀ k, (∀ y0 y1, LeO (amphoraref10_field.l0 k y0 y1) (amphoraref10_field.l0 (k + 1) y0 y1))
  | 0 => fun _ _ r h => by simp [amphoraref10_field.l0] at h
  | k + 1 => by
    have ih0 := amphoraref10_field.mono_l k
    · intro y0 y1
      unfold amphoraref10_field.l0
      repeat' first
      | (with_reducible exact ih0 _ _)
      | (with_reducible exact LeO.refl _)
      | (with_reducible exact LeO.none _)
      | (with_reducible refine LeO.ite ?_ ?_)
      | (with_reducible refine LeO.bind ?_ (fun _ => ?_))
      | exact ih0 _ _
      | exact LeO.none _
      | refine LeO.ite ?_ ?_
      | refine LeO.bind ?_ (fun _ => ?_)
theorem amphoraref10_field.mono : ∀ a0 k, LeO (amphoraref10_field.f k a0) (amphoraref10_field.f (k + 1) a0) := by
  intro a0 k
  have ih0 := amphoraref10_field.mono_l k
  unfold amphoraref10_field.f
  repeat' first
      | (with_reducible exact ih0 _ _)
      | (with_reducible exact LeO.refl _)
      | (with_reducible exact LeO.none _)
      | (with_reducible refine LeO.ite ?_ ?_)
      | (with_reducible refine LeO.bind ?_ (fun _ => ?_))
      | exact ih0 _ _
      | exact LeO.none _
      | refine LeO.ite ?_ ?_
      | refine LeO.bind ?_ (fun _ => ?_)
set_option maxHeartbeats 8000000 in
set_option maxRecDepth 100000 in
theorem amphoraref10_field.calls (k : Nat) (A0 : Option Addr) (c0 : Nat) (l0 : List Int) (r : ByteArray) (w : World) (hr0 : Kd.C (Kd.int .u8) w A0 l0.length l0) (hc0 : l0.length ≤ c0) (h : amphoraref10_field.f k l0 = some r) :
    Calls Try.prog 28 #[.slice A0 l0.length c0] w fun e w' => e = .returned (.string r) ∧ Drawn0 w w' := by
  have HR0 := Aside0.mk hr0
  have HC0 := Aside0.mk hc0
  clear hr0 hc0
  have H : (amphoraref10_field.l0 k l0 0) = some r := h
  clear h
  have H' := Aside0.mk H
  clear H
  go_enter Try.func28, Try.ntmps28
  go_wp2
  go_loopg [3] k (fun kq v3 w' => ∃ (x3_1 : Int), v3 = .int .i64 x3_1 ∧ Aside0 (amphoraref10_field.l0 kq l0 x3_1 = some r) ∧ Aside0 (kq ≤ k) ∧ Drawn0 w w')
  case atStart => exact ⟨(0), (by first | rfl | (simp; done) | (simp [*]; done)), H', ⟨Nat.le_refl _⟩, by repeat (first | exact Drawn0.refl _ | apply Drawn0.step)⟩
  case round =>
    clear H'
    obtain ⟨x3_1, rfl, HA, HK1, ⟨m1, rfl⟩⟩ := hrel
    cases gk with
    | zero => exact absurd HA.out (by simp [amphoraref10_field.l0])
    | succ k1 =>
      have H := HA.out
      clear HA
      simp only [amphoraref10_field.l0] at H
      by_cases c2 : x3_1 < (l0.length : Int)
      · rw [if_pos c2] at H
        have c2b0 : decide (x3_1 < (l0.length : Int)) = true := decide_eq_true c2
        clear c2
        by_cases c3 : 0 ≤ x3_1
        · rw [if_pos c3] at H
          have c3b0 : decide (0 ≤ x3_1) = true := decide_eq_true c3
          clear c3
          by_cases c4 : (rd l0 x3_1) = 0
          · rw [if_pos c4] at H
            have c4b0 : ((rd l0 x3_1) == 0) = true := beq_iff_eq.mpr c4
            have c4b1 : ((rd l0 x3_1) != 0) = false := bne_eq_false_iff_eq.mpr c4
            clear c4
            have c5b0 := eq_true (of_decide_eq_true (by first | (with_reducible assumption) | assumption) : 0 ≤ x3_1)
            by_cases c6 : x3_1 ≤ (l0.length : Int)
            · rw [if_pos c6] at H
              have c6b0 := eq_true c6
              have c6b1 : decide (x3_1 ≤ (l0.length : Int)) = true := decide_eq_true c6
              clear c6
              obtain rfl := Option.some.inj H
              have p279 : 0 ≤ (x3_1 : Int) := of_decide_eq_true (by first | (with_reducible assumption) | assumption)
              have q279 : x3_1 < (l0.length : Int) := of_decide_eq_true (by first | (with_reducible assumption) | assumption)
              obtain ⟨ad279, e279, hx279_0⟩ := Kd.at_int HR0.out x3_1 p279 q279
              cases e279
              replace p279 := eq_true p279
              replace q279 := eq_true q279
              obtain ⟨i07, hi07, _, hsz7, _⟩ := info_parts info5
              obtain ⟨hcut7, hA7, hC7⟩ := print_take_of (P := Try.prog) (Value.int .u8) 0 22 5 .i64 Try.underlying22 hi07 hsz7 (some ad279) c0 l0 x3_1 (of_decide_eq_true (by first | (with_reducible assumption) | assumption)) (of_decide_eq_true (by first | (with_reducible assumption) | assumption)) HC0.out
              have HR280 := Aside0.mk (Kd.C_of_reads (h1 := fun _ => rfl) (hA7 _ (Kd.reads_of_C HR0.out)))
              have HC280 := Aside0.mk hC7
              clear hA7 hC7 hi07 hsz7
              have hcv8 := fun (m_ : Nat) => Kd.C_string (P := Try.prog) (A := (some ad279)) (c := c0) Try.underlying22 Try.underlying5 Try.underlying9 (Kd.C_drewN HR280.out m_)
              have hln8 : (l0.take x3_1.toNat).length = x3_1.toNat := by
                rw [List.length_take]
                first | (have := of_decide_eq_true c6b1; omega) | (have := of_decide_eq_true c7b1; omega) | (have := of_decide_eq_true c8b1; omega) | (have := of_decide_eq_true c10b1; omega)
              simp only [hln8] at hcv8
              clear hln8
              go_wp2
              go_ret
              exact ⟨by first | rfl | (simp; done) | (simp [*]; done), by repeat (first | exact Drawn0.refl _ | apply Drawn0.step)⟩
            · rw [if_neg c6] at H
              exact absurd H (by simp)
          · rw [if_neg c4] at H
            have c4b0 : ((rd l0 x3_1) == 0) = false := beq_eq_false_iff_ne.mpr c4
            have c4b1 : ((rd l0 x3_1) != 0) = true := bne_iff_ne.mpr c4
            have H' := Aside0.mk H
            clear H
            have p279 : 0 ≤ (x3_1 : Int) := of_decide_eq_true (by first | (with_reducible assumption) | assumption)
            have q279 : x3_1 < (l0.length : Int) := of_decide_eq_true (by first | (with_reducible assumption) | assumption)
            obtain ⟨ad279, e279, hx279_0⟩ := Kd.at_int HR0.out x3_1 p279 q279
            cases e279
            replace p279 := eq_true p279
            replace q279 := eq_true q279
            go_wp2
            go_roundg k1
            case measure => have := HK1.out; omega
            case rel => exact ⟨(wrap64 (x3_1 + 1)), (by first | rfl | (simp; done) | (simp [*]; done)), H', ⟨by have := HK1.out; omega⟩, by repeat (first | exact Drawn0.refl _ | apply Drawn0.step)⟩
        · rw [if_neg c3] at H
          exact absurd H (by simp)
      · rw [if_neg c2] at H
        have c2b0 : decide (x3_1 < (l0.length : Int)) = false := decide_eq_false c2
        clear c2
        by_cases c9 : 0 ≤ x3_1
        · rw [if_pos c9] at H
          have c9b0 := eq_true c9
          have c9b1 : decide (0 ≤ x3_1) = true := decide_eq_true c9
          clear c9
          by_cases c10 : x3_1 ≤ (l0.length : Int)
          · rw [if_pos c10] at H
            have c10b0 := eq_true c10
            have c10b1 : decide (x3_1 ≤ (l0.length : Int)) = true := decide_eq_true c10
            clear c10
            obtain rfl := Option.some.inj H
            obtain ⟨i011, hi011, _, hsz11, _⟩ := info_parts info5
            obtain ⟨hcut11, hA11, hC11⟩ := print_take_of (P := Try.prog) (Value.int .u8) 0 22 5 .i64 Try.underlying22 hi011 hsz11 A0 c0 l0 x3_1 (of_decide_eq_true (by first | (with_reducible assumption) | assumption)) (of_decide_eq_true (by first | (with_reducible assumption) | assumption)) HC0.out
            have HR281 := Aside0.mk (Kd.C_of_reads (h1 := fun _ => rfl) (hA11 _ (Kd.reads_of_C HR0.out)))
            have HC281 := Aside0.mk hC11
            clear hA11 hC11 hi011 hsz11
            have hcv12 := fun (m_ : Nat) => Kd.C_string (P := Try.prog) (A := A0) (c := c0) Try.underlying22 Try.underlying5 Try.underlying9 (Kd.C_drewN HR281.out m_)
            have hln12 : (l0.take x3_1.toNat).length = x3_1.toNat := by
              rw [List.length_take]
              first | (have := of_decide_eq_true c6b1; omega) | (have := of_decide_eq_true c7b1; omega) | (have := of_decide_eq_true c8b1; omega) | (have := of_decide_eq_true c10b1; omega)
            simp only [hln12] at hcv12
            clear hln12
            go_wp2
            go_ret
            exact ⟨by first | rfl | (simp; done) | (simp [*]; done), by repeat (first | exact Drawn0.refl _ | apply Drawn0.step)⟩
          · rw [if_neg c10] at H
            exact absurd H (by simp)
        · rw [if_neg c9] at H
          exact absurd H (by simp)

end Go.Proofs.Ytkdklgcjimnabaa.PUstar
