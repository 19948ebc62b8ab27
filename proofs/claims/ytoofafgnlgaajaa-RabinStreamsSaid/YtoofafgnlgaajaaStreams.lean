/- RabinStreams: what its walk stands on, and its walk, in one text. Conditions: as each theorem says. -/
import Derived.Test.YtoofafgnlgaajaaRW8
import Derived.Test.YtoofafgnlgaajaaRP3
import Derived.Test.YtoofafgnlgaajaaMarks
import Derived.Test.YtoofafgnlgaajaaApart2
import Derived.KernelRfl
import Derived.Deep.RegionHeld3
import Derived.Deep.Matrix
namespace Go.Proofs.Ytoofafgnlgaajaa.PRabin
open Go.RowKit Go.Proofs.YtoofafgnlgaajaaW.PrintWords Go.Proofs.YtoofafgnlgaajaaW.PrintLast Go.Proofs.YtoofafgnlgaajaaW.PrintMore
attribute [local go_sem] max2_int min2_int max_two min_two max_three min_three max_four min_four   -- for this text's walks alone
set_option linter.unusedVariables false
set_option linter.unusedSimpArgs false

/-! ### amphoranum_Num: function 16 -/
def amphoranum_Num.f (a0 : Option Int) : Option (Int) := if a0.isNone = true then (some 0) else (if (a0.getD 0) = 0 then (some (-1)) else (some (a0.getD 0)))
set_option maxHeartbeats 8000000 in
set_option maxRecDepth 100000 in
theorem amphoranum_Num.calls (a0 : Option Int) (r : Int) (w : World) (h : amphoranum_Num.f a0 = some r) :
    Calls Try.prog 16 #[errW a0] w fun e w' => e = .returned (.int .i64 r) ∧ Drawn0 w w' := by
  have hu31 := Try.underlying31
  have hu43 := Try.underlying43
  have hta : ∀ (v : Value) (W : World), (Instr.typeAssert (.iface 43 v) 31 43 true).run Try.prog W = .ok (.tuple #[v, .bool true]) W := fun v W => by rfl
  have H : (if a0.isNone = true then (some 0) else (if (a0.getD 0) = 0 then (some (-1)) else (some (a0.getD 0)))) = some r := h
  clear h
  rcases a0 with _ | q177
  · have H1 : (some 0) = some r := by rw [if_pos (show (none : Option Int).isNone = true by rfl)] at H; exact H
    clear H
    have H := H1
    clear H1
    simp only [errW_none, errW_some]
    obtain rfl := Option.some.inj H
    go_enter Try.func16, Try.ntmps16
    go_wp2
    go_ret
    exact ⟨by first | rfl | (simp; done) | (simp [*]; done), by repeat (first | exact Drawn0.refl _ | apply Drawn0.step)⟩
  · have H1 : (if q177 = 0 then (some (-1)) else (some q177)) = some r := by rw [if_neg (show ¬ (some q177).isNone = true by simp)] at H; exact H
    clear H
    have H := H1
    clear H1
    simp only [errW_none, errW_some]
    by_cases c2 : q177 = 0
    · rw [if_pos c2] at H
      have c2b0 : (q177 == 0) = true := beq_iff_eq.mpr c2
      have c2b1 : (q177 != 0) = false := bne_eq_false_iff_eq.mpr c2
      clear c2
      obtain rfl := Option.some.inj H
      go_enter Try.func16, Try.ntmps16
      go_wp2
      go_ret
      exact ⟨by first | rfl | (simp; done) | (simp [*]; done), by repeat (first | exact Drawn0.refl _ | apply Drawn0.step)⟩
    · rw [if_neg c2] at H
      have c2b0 : (q177 == 0) = false := beq_eq_false_iff_ne.mpr c2
      have c2b1 : (q177 != 0) = true := bne_iff_ne.mpr c2
      obtain rfl := Option.some.inj H
      go_enter Try.func16, Try.ntmps16
      go_wp2
      go_ret
      exact ⟨by first | rfl | (simp; done) | (simp [*]; done), by repeat (first | exact Drawn0.refl _ | apply Drawn0.step)⟩

-- NOT PRINTED: function 18 (amphoranum_Kept)

-- NOT PRINTED: function 3 (amphoralaw07_RabinCuts)

-- NOT PRINTED: function 4 (amphoralaw07_RabinPrints)
/-! ### amphoranum_Sum: function 22 -/
def amphoranum_Sum.l0 : Nat → Int → Int → List (List Int) → Int → Int → Option (Int)
  | 0, _, _, _, _, _ => none
  | k + 1, x1, x5, x8, x9, x10 => if x10 < x9 then (if 0 ≤ x10 then (if x10 < (x8.length : Int) then (if ((rd_L3 x8 x10).length : Int) > (wrap64 (x1 - x5)) then (some x1) else (amphoranum_Sum.l0 k x1 (wrap64 (x5 + ((rd_L3 x8 x10).length : Int))) x8 x9 (wrap64 (x10 + 1)))) else (none)) else (none)) else (some x5)
def amphoranum_Sum.f (k : Nat) (l0 : List (List Int)) (a1 : Int) : Option (Int) := amphoranum_Sum.l0 k a1 0 l0 (l0.length : Int) 0
theorem amphoranum_Sum.mono_l : ∀ k, (∀ y0 y1 y2 y3 y4, LeO (amphoranum_Sum.l0 k y0 y1 y2 y3 y4) (amphoranum_Sum.l0 (k + 1) y0 y1 y2 y3 y4))
  | 0 => fun _ _ _ _ _ r h => by simp [amphoranum_Sum.l0] at h
  | k + 1 => by
    have ih0 := amphoranum_Sum.mono_l k
    · intro y0 y1 y2 y3 y4
      unfold amphoranum_Sum.l0
      repeat' first
      | (with_reducible exact ih0 _ _ _ _ _)
      | (with_reducible exact LeO.refl _)
      | (with_reducible exact LeO.none _)
      | (with_reducible refine LeO.ite ?_ ?_)
      | (with_reducible refine LeO.bind ?_ (fun _ => ?_))
      | exact ih0 _ _ _ _ _
      | exact LeO.none _
      | refine LeO.ite ?_ ?_
      | refine LeO.bind ?_ (fun _ => ?_)
theorem amphoranum_Sum.mono : ∀ a0 a1 k, LeO (amphoranum_Sum.f k a0 a1) (amphoranum_Sum.f (k + 1) a0 a1) := by
  intro a0 a1 k
  have ih0 := amphoranum_Sum.mono_l k
  unfold amphoranum_Sum.f
  repeat' first
      | (with_reducible exact ih0 _ _ _ _ _)
      | (with_reducible exact LeO.refl _)
      | (with_reducible exact LeO.none _)
      | (with_reducible refine LeO.ite ?_ ?_)
      | (with_reducible refine LeO.bind ?_ (fun _ => ?_))
      | exact ih0 _ _ _ _ _
      | exact LeO.none _
      | refine LeO.ite ?_ ?_
      | refine LeO.bind ?_ (fun _ => ?_)
set_option maxHeartbeats 8000000 in
set_option maxRecDepth 100000 in
theorem amphoranum_Sum.calls (k : Nat) (A0 : Option Addr) (c0 : Nat) (l0 : List (List Int)) (a1 : Int) (r : Int) (w : World) (hr0 : Kd.C (Kd.slice 5 (Kd.int .u8)) w A0 l0.length l0) (hc0 : l0.length ≤ c0) (h : amphoranum_Sum.f k l0 a1 = some r) :
    Calls Try.prog 22 #[.slice A0 l0.length c0, .int .i64 a1] w fun e w' => e = .returned (.int .i64 r) ∧ Drawn0 w w' := by
  have HR0 := Aside0.mk hr0
  have HC0 := Aside0.mk hc0
  clear hr0 hc0
  have H : (amphoranum_Sum.l0 k a1 0 l0 (l0.length : Int) 0) = some r := h
  clear h
  have H' := Aside0.mk H
  clear H
  go_enter Try.func22, Try.ntmps22
  go_wp2
  go_loopg [5, 10] k (fun kq v5 v10 w' => ∃ (x5_1 : Int) (x10_1 : Int), v5 = .int .i64 x5_1 ∧ v10 = .int .i64 x10_1 ∧ Aside0 (amphoranum_Sum.l0 kq a1 x5_1 l0 (l0.length : Int) x10_1 = some r) ∧ Aside0 (kq ≤ k) ∧ Drawn0 w w')
  case atStart => exact ⟨(0), (0), (by first | rfl | (simp; done) | (simp [*]; done)), (by first | rfl | (simp; done) | (simp [*]; done)), H', ⟨Nat.le_refl _⟩, by repeat (first | exact Drawn0.refl _ | apply Drawn0.step)⟩
  case round =>
    clear H'
    try clear c2
    try clear p2
    obtain ⟨x5_1, x10_1, rfl, rfl, HA, HK1, ⟨m1, rfl⟩⟩ := hrel
    cases gk with
    | zero => exact absurd HA.out (by simp [amphoranum_Sum.l0])
    | succ k1 =>
      have H := HA.out
      clear HA
      simp only [amphoranum_Sum.l0] at H
      by_cases c3 : x10_1 < (l0.length : Int)
      · rw [if_pos c3] at H
        have c3b0 : decide (x10_1 < (l0.length : Int)) = true := decide_eq_true c3
        clear c3
        by_cases c4 : 0 ≤ x10_1
        · rw [if_pos c4] at H
          have c4b0 : decide (0 ≤ x10_1) = true := decide_eq_true c4
          clear c4
          by_cases c5 : x10_1 < (l0.length : Int)
          · rw [if_pos c5] at H
            have c5b0 : decide (x10_1 < (l0.length : Int)) = true := decide_eq_true c5
            clear c5
            by_cases c6 : ((rd_L3 l0 x10_1).length : Int) > (wrap64 (a1 - x5_1))
            · rw [if_pos c6] at H
              have c6b0 : decide ((wrap64 (a1 - x5_1)) < ((rd_L3 l0 x10_1).length : Int)) = true := decide_eq_true c6
              clear c6
              obtain rfl := Option.some.inj H
              have p251 : 0 ≤ (x10_1 : Int) := of_decide_eq_true (by first | (with_reducible assumption) | assumption)
              have q251 : x10_1 < (l0.length : Int) := of_decide_eq_true (by first | (with_reducible assumption) | assumption)
              obtain ⟨ad251, A251_0, c251_0, e251, hx251_0, hl251_0, hi251_0⟩ := at_L3 HR0.out x10_1 p251 q251
              cases e251
              have HR251_0 := Aside0.mk hi251_0
              have HC251_0 := Aside0.mk hl251_0
              clear hi251_0 hl251_0
              replace p251 := eq_true p251
              replace q251 := eq_true q251
              go_wp2
              go_ret
              exact ⟨by first | rfl | (simp; done) | (simp [*]; done), by repeat (first | exact Drawn0.refl _ | apply Drawn0.step)⟩
            · rw [if_neg c6] at H
              have c6b0 : decide ((wrap64 (a1 - x5_1)) < ((rd_L3 l0 x10_1).length : Int)) = false := decide_eq_false c6
              clear c6
              have H' := Aside0.mk H
              clear H
              have p251 : 0 ≤ (x10_1 : Int) := of_decide_eq_true (by first | (with_reducible assumption) | assumption)
              have q251 : x10_1 < (l0.length : Int) := of_decide_eq_true (by first | (with_reducible assumption) | assumption)
              obtain ⟨ad251, A251_0, c251_0, e251, hx251_0, hl251_0, hi251_0⟩ := at_L3 HR0.out x10_1 p251 q251
              cases e251
              have HR251_0 := Aside0.mk hi251_0
              have HC251_0 := Aside0.mk hl251_0
              clear hi251_0 hl251_0
              replace p251 := eq_true p251
              replace q251 := eq_true q251
              go_wp2
              go_roundg k1
              case measure => have := HK1.out; omega
              case rel => exact ⟨(wrap64 (x5_1 + ((rd_L3 l0 x10_1).length : Int))), (wrap64 (x10_1 + 1)), (by first | rfl | (simp; done) | (simp [*]; done)), (by first | rfl | (simp; done) | (simp [*]; done)), H', ⟨by have := HK1.out; omega⟩, by repeat (first | exact Drawn0.refl _ | apply Drawn0.step)⟩
          · rw [if_neg c5] at H
            exact absurd H (by simp)
        · rw [if_neg c4] at H
          exact absurd H (by simp)
      · rw [if_neg c3] at H
        have c3b0 : decide (x10_1 < (l0.length : Int)) = false := decide_eq_false c3
        clear c3
        obtain rfl := Option.some.inj H
        go_wp2
        go_ret
        exact ⟨by first | rfl | (simp; done) | (simp [*]; done), by repeat (first | exact Drawn0.refl _ | apply Drawn0.step)⟩
end Go.Proofs.Ytoofafgnlgaajaa.PRabin
/- Rows of bytes handed on and put together. Conditions: as each theorem says. -/
namespace Go.Proofs.Ytoofafgnlgaajaa.RW
open Go.RowKit Go.Proofs.Ytoofafgnlgaajaa.PRabin Go.Proofs.YtoofafgnlgaajaaW.PrintWords Go.Proofs.YtoofafgnlgaajaaW.PrintLast Go.Proofs.YtoofafgnlgaajaaW.PrintMore
set_option linter.unusedVariables false
set_option linter.unusedSimpArgs false
theorem nums_one (l : List Int) : ∀ u ∈ nums .u8 l, u.oneCell' = true := by
  intro u hu
  unfold nums at hu
  obtain ⟨x, _, rfl⟩ := List.mem_map.1 hu
  rfl
/-- append(v, y...), y a row of bytes that is read. -/
theorem ev_append_c {ops : Array Oper} {rest : List Oper} {o : Oper} {a : Act} {Q : Exit → Act → World → Prop} {w : World} (hgd : o.guard = none) (s x : Operand)
    (ho : o.op = .call { callee := .builtin .append, args := #[s, x], argTypes := #[25, 25] })
    (base : Nat) (v : Value) (n : Nat) (xs : List Value) (hs : a.eval s = v) (hown : w.ownsRow base 5 1 v n xs)
    (A : Option Addr) (m c : Nat) (l : List Int) (hx : a.eval x = .slice A m c) (hy : Kd.C (Kd.int .u8) w A m l)
    (h63 : n + m ≤ 140737488355328) (hbase : base ≤ w.heap.size)
    (h : ∀ v' w', w'.ownsRow base 5 1 v' (n + m) (xs ++ nums .u8 l) → w.grownBy w' v.ownBlock → (v'.ownBlock = v.ownBlock ∨ ∃ b, v'.ownBlock = some b ∧ w.heap.size ≤ b) → wpList Try.prog ops Q rest (a.put o.dst v') w') :
    wpList Try.prog ops Q (o :: rest) a w := by
  obtain ⟨i0, hi, hzz⟩ := Option.map_eq_some_iff.1 infoU8
  simp only [Prod.mk.injEq] at hzz
  obtain ⟨hz0, hz1, hz2⟩ := hzz
  have hlm : l.length = m := hy.1
  have hrun : ∃ v' w', (Builtin.append_ #[25, 25] o.type #[v, .slice A m c]).run Try.prog w = .ok v' w' ∧ w'.ownsRow base 5 1 v' (n + m) (xs ++ nums .u8 l) ∧ w.grownBy w' v.ownBlock ∧ (v'.ownBlock = v.ownBlock ∨ ∃ b, v'.ownBlock = some b ∧ w.heap.size ≤ b) := by
    rcases A with _ | ad
    · have h0 : m = 0 := by
        rcases Nat.eq_zero_or_pos m with h0 | h0
        · exact h0
        · obtain ⟨ad, h, _⟩ := hy.2.2 h0
          cases h
      subst h0
      obtain rfl : l = [] := List.eq_nil_of_length_eq_zero hlm
      refine ⟨v, w, ?_, by rw [show nums .u8 [] = ([] : List Value) from rfl, List.append_nil]; exact hown, World.grownBy.refl w _, .inl rfl⟩
      rcases hown.2 with ⟨rfl, hn⟩ | ⟨g, cap, cur, rfl, _, _, hnc, _⟩
      · simp [Builtin.append_, run_underlying Try.underlying25, sizeOf, typeInfo, hi, Builtin.lenOf, Builtin.firstCells]
      · simp [Builtin.append_, run_underlying Try.underlying25, sizeOf, typeInfo, hi, Builtin.lenOf, Builtin.firstCells, hnc, storeCells]
    · have hnews : ∀ j u, (nums .u8 l)[j]? = some u → w.cell? (ad.add j) = some u := by
        intro j u hj
        unfold nums at hj
        rw [List.getElem?_map, Option.map_eq_some_iff] at hj
        obtain ⟨y, hyj, rfl⟩ := hj
        have hjl : j < l.length := (List.getElem?_eq_some_iff.1 hyj).1
        obtain ⟨ad', e, hc⟩ := Kd.at_int hy (j : Int) (by omega) (by omega)
        cases e
        rw [show ((j : Int)).toNat = j from rfl] at hc
        rw [hc]
        unfold rd
        rw [show ((j : Int)).toNat = j from rfl, List.getD_eq_getElem?_getD, hyj]; rfl
      obtain ⟨v', w', hr, h2, _, h4, h5⟩ := Apart.run_append_keep (P := Try.prog) w base 25 o.type 5 i0 (.int .u8 0) 1 1 Try.underlying25 hi hz0 hz1 hz2 rfl (by omega) v n xs hown ad m c (nums .u8 l) (by unfold nums; simpa using hlm) hnews (nums_one l) (by simp only [maxLen]; omega) (by omega) hbase
      exact ⟨v', w', hr, h2, h4, h5⟩
  obtain ⟨v', w', hr, h2, h4, h5⟩ := hrun
  have hw := h v' w' h2 h4 h5
  refine wpList_plain hgd fun K hK => ?_
  unfold Oper.wp execOp
  simp only [ho, resolve, invoke, builtin, Sem.run_bind, Sem.run_pure, Result.andThen_ok, List.map_toArray, List.map_cons, List.map_nil, hs, hx, hr]
  exact hK _ _ hw
/-- Rows handed on side by side. -/
theorem C_parts1 {w : World} {A1 : Option Addr} {c1 : Nat} {l1 : List Int} (h1 : Kd.C (Kd.int .u8) w A1 l1.length l1) (hc1 : l1.length ≤ c1) : Kd.C (Kd.slice 5 (Kd.int .u8)) (w.alloc (.cells #[.slice A1 l1.length c1] 25)) (some ⟨w.heap.size, 0, none⟩) [l1].length [l1] := by
  have hk := heap_alloc_new w (.cells #[.slice A1 l1.length c1] 25)
  refine ⟨rfl, by simp, fun _ => ⟨_, rfl, fun j p hj => ?_⟩⟩
  match j, hj with
  | 0, hj =>
    obtain rfl := Option.some.inj hj
    refine ⟨[.slice A1 l1.length c1], rfl, ⟨A1, c1, rfl, hc1, Kd.C_alloc h1 _⟩, fun i u hu => ?_⟩
    match i, hu with
    | 0, hu => obtain rfl := Option.some.inj hu; exact blk_cell hk 0
    | i + 1, hu => simp at hu
  | j + 1, hj => simp at hj
theorem C_parts2 {w : World} {A1 A2 : Option Addr} {c1 c2 : Nat} {l1 l2 : List Int} (h1 : Kd.C (Kd.int .u8) w A1 l1.length l1) (hc1 : l1.length ≤ c1) (h2 : Kd.C (Kd.int .u8) w A2 l2.length l2) (hc2 : l2.length ≤ c2) :
    Kd.C (Kd.slice 5 (Kd.int .u8)) (w.alloc (.cells #[.slice A1 l1.length c1, .slice A2 l2.length c2] 25)) (some ⟨w.heap.size, 0, none⟩) [l1, l2].length [l1, l2] := by
  have hk := heap_alloc_new w (.cells #[.slice A1 l1.length c1, .slice A2 l2.length c2] 25)
  refine ⟨rfl, by simp, fun _ => ⟨_, rfl, fun j p hj => ?_⟩⟩
  match j, hj with
  | 0, hj =>
    obtain rfl := Option.some.inj hj
    refine ⟨[.slice A1 l1.length c1], rfl, ⟨A1, c1, rfl, hc1, Kd.C_alloc h1 _⟩, fun i u hu => ?_⟩
    match i, hu with
    | 0, hu => obtain rfl := Option.some.inj hu; exact blk_cell hk 0
    | i + 1, hu => simp at hu
  | 1, hj =>
    obtain rfl := Option.some.inj hj
    refine ⟨[.slice A2 l2.length c2], rfl, ⟨A2, c2, rfl, hc2, Kd.C_alloc h2 _⟩, fun i u hu => ?_⟩
    match i, hu with
    | 0, hu => obtain rfl := Option.some.inj hu; exact blk_cell hk 1
    | i + 1, hu => simp at hu
  | j + 2, hj => simp at hj
end Go.Proofs.Ytoofafgnlgaajaa.RW
namespace Go.Proofs.Ytoofafgnlgaajaa.RW
open Go.RowKit Go.Proofs.Ytoofafgnlgaajaa.PRabin Go.Proofs.YtoofafgnlgaajaaW.PrintWords Go.Proofs.YtoofafgnlgaajaaW.PrintLast Go.Proofs.YtoofafgnlgaajaaW.PrintMore Go.Proofs.Ytoofafgnlgaajaa Go.Proofs.Ytoofafgnlgaajaa.PB
set_option linter.unusedVariables false
set_option linter.unusedSimpArgs false
theorem box5 {g : Nat} {W W1 : World} {cs : Array Value} {t : TypeId} (h : W.heap[g]? = some (.cells cs t (0, 0))) (hb : Below W.heap.size W W1) : W1.heap[g]? = some (.cells cs t (0, 0)) := (hb.block g (blk_lt h)).trans h
theorem cells5 {g : Nat} {W : World} {v0 v1 v2 v3 v4 : Value} (h : W.heap[g]? = some (.cells #[v0, v1, v2, v3, v4] 24 (0, 0))) :
    W.cell? ⟨g, 0, none⟩ = some v0 ∧ W.cell? ⟨g, 1, none⟩ = some v1 ∧ W.cell? ⟨g, 2, none⟩ = some v2 ∧ W.cell? ⟨g, 3, none⟩ = some v3 ∧ W.cell? ⟨g, 4, none⟩ = some v4 :=
  ⟨blk_cell h 0, blk_cell h 1, blk_cell h 2, blk_cell h 3, blk_cell h 4⟩
theorem own_C {w : World} {base n c : Nat} {A : Option Addr} {l : List Int} (h : w.ownsRow base 5 1 (.slice A n c) n (nums .u8 l)) (hn : l.length = n) : n ≤ c ∧ Kd.C (Kd.int .u8) w A n l := by
  subst hn
  obtain ⟨_, h2, h3⟩ := Kd.R_reads' (Kd.R_of_own (enc := Value.int .u8) (h1 := fun _ => rfl) h (ok := fun _ => True) (fun _ _ => trivial))
  exact ⟨h2, h3⟩
theorem I_drop (l : List Nat) (n : Nat) : (I l).drop n = I (l.drop n) := by unfold I; rw [List.map_drop]
theorem I_take (l : List Nat) (n : Nat) : (I l).take n = I (l.take n) := by unfold I; rw [List.map_take]
theorem cutL_len (S : Set5) : ∀ (l r : List Nat), (cutL S r l).length ≤ l.length + 1
  | [], r => by unfold cutL; split <;> simp
  | x :: l, r => by
    unfold cutL
    have h1 := cutL_len S l []
    have h2 := cutL_len S l (r ++ [x])
    split
    · rw [List.length_cons, List.length_cons]; omega
    · rw [List.length_cons]; omega
theorem rCheck_f (p : Nat) (hp64 : p < 2 ^ 64) (a1 a2 a3 a4 : Int) (k : Nat) (hk : 1000 ≤ k) : (amphoraref07_Check.f k (p : Int) a1 a2 a3 a4 = some 0 ∧ Good p a1 a2 a3 a4) ∨ (amphoraref07_Check.f k (p : Int) a1 a2 a3 a4 = some 11 ∧ ¬ Good p a1 a2 a3 a4) := by
  obtain ⟨b, eb, hb⟩ := rIrreducible_f p hp64 k hk
  have hd := rDeg_f p hp64 k (by omega)
  clear hp64
  unfold amphoraref07_Check.f
  rw [hd, Option.bind_some]
  by_cases c1 : (GF.L p : Int) - 1 ≥ 8
  rotate_left
  · rw [if_neg c1]; exact .inr ⟨rfl, fun g => by have := g.dlo; omega⟩
  rw [if_pos c1]
  by_cases c2 : (GF.L p : Int) - 1 ≤ 55
  rotate_left
  · rw [if_neg c2]; exact .inr ⟨rfl, fun g => by have := g.dhi; omega⟩
  rw [if_pos c2]
  by_cases c3 : a1 ≥ 1
  rotate_left
  · rw [if_neg c3]; exact .inr ⟨rfl, fun g => by have := g.w1; omega⟩
  rw [if_pos c3]
  by_cases c4 : a1 ≤ 64
  rotate_left
  · rw [if_neg c4]; exact .inr ⟨rfl, fun g => by have := g.w2; omega⟩
  rw [if_pos c4]
  by_cases c5 : a1 ≤ a2
  rotate_left
  · rw [if_neg c5]; exact .inr ⟨rfl, fun g => by have := g.m1; omega⟩
  rw [if_pos c5]
  by_cases c6 : a2 ≤ a3
  rotate_left
  · rw [if_neg c6]; exact .inr ⟨rfl, fun g => by have := g.m2; omega⟩
  rw [if_pos c6]
  by_cases c7 : a3 ≤ 65536
  rotate_left
  · rw [if_neg c7]; exact .inr ⟨rfl, fun g => by have := g.m3; omega⟩
  rw [if_pos c7]
  by_cases c8 : a4 ≥ 0
  rotate_left
  · rw [if_neg c8]; exact .inr ⟨rfl, fun g => by have := g.b1; omega⟩
  rw [if_pos c8]
  by_cases c9 : a4 ≤ (GF.L p : Int) - 1
  rotate_left
  · rw [if_neg c9]; exact .inr ⟨rfl, fun g => by have := g.b2; omega⟩
  rw [if_pos c9]
  by_cases c10 : a4 ≤ 20
  rotate_left
  · rw [if_neg c10]; exact .inr ⟨rfl, fun g => by have := g.b3; omega⟩
  rw [if_pos c10, eb, Option.bind_some]
  cases b with
  | true => exact .inl ⟨by rw [if_pos rfl], by omega, by omega, hb.1 rfl, by omega, by omega, by omega, by omega, by omega, by omega, by omega, by omega⟩
  | false => exact .inr ⟨by rw [if_neg (by decide)], fun g => absurd (hb.2 g.irr) (by decide)⟩
theorem Cut_none {k : Nat} {a0 a1 a2 a3 a4 : Int} {l : List Int} (h : rabin_Check.f k a0 a1 a2 a3 a4 = some none) (hq : (0 ≤ a0 ∧ a0 < 18446744073709551616) ∧ (∀ x ∈ l, 0 ≤ x ∧ x < 256) ∧ l.length ≤ 1000000000000) :
    rabin_Cut.f k a0 a1 a2 a3 a4 l = some (I ((cutL (setN a0 a1 a2 a3 a4) [] (l.map Int.toNat)).map List.length), none) := by
  unfold rabin_Cut.f
  rw [h]
  exact if_pos hq
theorem lt64i {p : Nat} (h : p < 2 ^ 64) : (p : Int) < 18446744073709551616 := by
  have p64 : (2 : Nat) ^ 64 = 18446744073709551616 := rfl
  rw [p64] at h
  omega
end Go.Proofs.Ytoofafgnlgaajaa.RW
/- Over, walked: it writes into one row alone. Conditions: as the theorem says. -/
namespace Go.Proofs.Ytoofafgnlgaajaa.RW
open Go.RowKit Go.Proofs.Ytoofafgnlgaajaa.PRabin Go.Proofs.YtoofafgnlgaajaaW.PrintWords Go.Proofs.YtoofafgnlgaajaaW.PrintLast Go.Proofs.YtoofafgnlgaajaaW.PrintMore
set_option linter.unusedVariables false
set_option linter.unusedSimpArgs false
/-- A block whose first n cells are bytes. -/
def U8s (w : World) (g n : Nat) : Prop := ∃ cs, w.heap[g]? = some (.cells cs 5 (0, 0)) ∧ ∀ j, j < n → ∃ x : Int, cs[j]? = some (.int .u8 x)
theorem U8s.at_ {w : World} {g n : Nat} (h : U8s w g n) (j : Nat) (hj : j < n) : (∃ x : Int, w.cell? ⟨g, j, none⟩ = some (.int .u8 x)) ∧ w.frozen? ⟨g, j, none⟩ = false := by
  obtain ⟨cs, h0, h1⟩ := h
  obtain ⟨x, hx⟩ := h1 j hj
  exact ⟨⟨x, (blk_cell h0 j).trans hx⟩, blk_frozen h0 j⟩
theorem U8s.set {w : World} {g n : Nat} (h : U8s w g n) (j : Nat) (x : Int) : U8s (w.setCell ⟨g, j, none⟩ (.int .u8 x)) g n := by
  obtain ⟨cs, h0, h1⟩ := h
  refine ⟨_, heapSet h0 j _, fun i hi => ?_⟩
  obtain ⟨y, hy⟩ := h1 i hi
  rw [Array.getElem?_setIfInBounds]
  split
  · next e =>
    subst e
    exact ⟨x, by rw [if_pos (Array.getElem?_eq_some_iff.1 hy).1]⟩
  · exact ⟨y, hy⟩
set_option maxHeartbeats 4000000 in
set_option maxRecDepth 100000 in
theorem over_calls (g n c : Nat) (w : World) (hn : n ≤ 140737488355328) (hnc : n ≤ c) (h : U8s w g n) :
    Calls Try.prog 26 #[.slice (some ⟨g, 0, none⟩) n c] w fun e w' => (∃ v, e = .returned v) ∧ Ex (fun k => k = g) w w' := by
  have H0 := Aside0.mk (And.intro h (Ex.refl (fun k => k = g) w))
  clear h
  go_enter Try.func26, Try.ntmps26
  go_wp2
  go_loopg [5] (n + 1) (fun kq v5 wr => ∃ i : Nat, v5 = .int .i64 (i : Int) ∧ Aside0 (i + kq = n + 1) ∧ Aside0 (i ≤ n) ∧ Aside0 (U8s wr g n ∧ Ex (fun k => k = g) w wr))
  case atStart => exact ⟨0, rfl, ⟨by omega⟩, ⟨by omega⟩, H0⟩
  case round =>
    clear H0
    obtain ⟨i, rfl, HI, HJ, HS⟩ := hrel
    cases gk with
    | zero => exact absurd HI.out (by have := HJ.out; omega)
    | succ k1 =>
      by_cases c1 : (i : Int) < (n : Int)
      · obtain ⟨⟨x, hcx⟩, hfx⟩ := HS.out.1.at_ i (by omega)
        have c1b := decide_eq_true c1
        have p0 := eq_true (Int.natCast_nonneg i)
        have p1 := eq_true c1
        have w1 : wrap64 ((i : Int) + 1) = ((i + 1 : Nat) : Int) := by unfold wrap64; omega
        go_wp2
        go_roundg k1
        case measure => omega
        case rel => exact ⟨i + 1, (by first | rfl | (simp; done) | (simp [w1]; done)), ⟨by have := HI.out; omega⟩, ⟨by omega⟩, ⟨HS.out.1.set i _, HS.out.2.set ⟨g, i, none⟩ _ rfl⟩⟩
      · have c1b := decide_eq_false c1
        go_wp2
        go_end0
        exact ⟨⟨_, rfl⟩, HS.out.2⟩
end Go.Proofs.Ytoofafgnlgaajaa.RW
/- RabinStreams: what stands while a chunker is written to and its chunks are collected. Conditions: as each theorem says. -/
namespace Go.Proofs.Ytoofafgnlgaajaa.RW
open Go.RowKit Go.Proofs.Ytoofafgnlgaajaa.PRabin Go.Proofs.YtoofafgnlgaajaaW.PrintWords Go.Proofs.YtoofafgnlgaajaaW.PrintLast Go.Proofs.YtoofafgnlgaajaaW.PrintMore
set_option linter.unusedVariables false
set_option linter.unusedSimpArgs false
/-- Who they are: a chunker (c, b, g; s, rest in v), two lists of chunks (V0: out, V; X0: xo, X), a row of bytes (va: L). -/
structure GS (B : Nat) (w0 W : World) (c b g : Nat) (S : Set5) (s : RS) (rest : List Nat) (v V0 : Value) (oo : List (List Nat)) (V : Nat → Value) (X0 : Value) (xo : List (List Nat)) (X : Nat → Value) (va : Value) (L : List Nat) : Prop where
  bel : Below B w0 W
  lo : B ≤ c ∧ B ≤ b ∧ B ≤ g
  ch : ChAt W B c b g S s v rest
  out : OutAt W B B g V0 oo V
  on : ∀ j, j < oo.length → Apart.Ne (V j) v
  ex : OutAt W B B g X0 xo X
  en : ∀ j, j < xo.length → Apart.Ne (X j) v
  all : W.ownsRow B 5 1 va L.length (nums .u8 (I L))
  av : Apart.Ne va v
  aV : ∀ j, j < oo.length → Apart.Ne (V j) va
  aX : ∀ j, j < xo.length → Apart.Ne (X j) va
  ag : va.ownBlock ≠ some g
  vx : Apart.Ne V0 X0
/-- The blocks that they hold. -/
def Blk (c b g : Nat) (v V0 : Value) (out : List (List Nat)) (V : Nat → Value) (X0 : Value) (xo : List (List Nat)) (X : Nat → Value) (va : Value) (k : Nat) : Prop :=
  k = c ∨ k = b ∨ k = g ∨ v.ownBlock = some k ∨ V0.ownBlock = some k ∨ X0.ownBlock = some k ∨ va.ownBlock = some k ∨ (∃ j, j < out.length ∧ (V j).ownBlock = some k) ∨ ∃ j, j < xo.length ∧ (X j).ownBlock = some k
section
variable {B : Nat} {w0 W : World} {c b g : Nat} {S : Set5} {s : RS} {rest : List Nat} {v V0 : Value} {out : List (List Nat)} {V : Nat → Value} {X0 : Value} {xo : List (List Nat)} {X : Nat → Value} {va : Value} {L : List Nat}
theorem GS.lt (h : GS B w0 W c b g S s rest v V0 out V X0 xo X va L) {k : Nat} (hk : Blk c b g v V0 out V X0 xo X va k) : k < W.heap.size := by
  obtain ⟨l1, l2, l3, l4⟩ := h.ch.lt
  rcases hk with rfl | rfl | rfl | hk | hk | hk | hk | ⟨j, hj, hk⟩ | ⟨j, hj, hk⟩
  · exact l1
  · exact l2
  · exact l3
  · exact l4 k hk
  · exact own_lt h.out.row k hk
  · exact own_lt h.ex.row k hk
  · exact own_lt h.all k hk
  · exact own_lt (h.out.own j hj) k hk
  · exact own_lt (h.ex.own j hj) k hk
theorem GS.move {W1 : World} (h : GS B w0 W c b g S s rest v V0 out V X0 xo X va L) (hm : ∀ k, Blk c b g v V0 out V X0 xo X va k → W1.heap[k]? = W.heap[k]?) (hb : Below B w0 W1) : GS B w0 W1 c b g S s rest v V0 out V X0 xo X va L :=
  ⟨hb, h.lo, h.ch.move (hm c (.inl rfl)) (hm b (.inr (.inl rfl))) (hm g (.inr (.inr (.inl rfl)))) (fun k hk => hm k (.inr (.inr (.inr (.inl hk))))),
    h.out.move (fun k hk => hm k (.inr (.inr (.inr (.inr (.inl hk)))))) (fun j hj k hk => hm k (.inr (.inr (.inr (.inr (.inr (.inr (.inr (.inl ⟨j, hj, hk⟩))))))))), h.on,
    h.ex.move (fun k hk => hm k (.inr (.inr (.inr (.inr (.inr (.inl hk))))))) (fun j hj k hk => hm k (.inr (.inr (.inr (.inr (.inr (.inr (.inr (.inr ⟨j, hj, hk⟩))))))))), h.en,
    own_move h.all (fun k hk => hm k (.inr (.inr (.inr (.inr (.inr (.inr (.inl hk)))))))), h.av, h.aV, h.aX, h.ag, h.vx⟩
theorem GS.below {W1 : World} (h : GS B w0 W c b g S s rest v V0 out V X0 xo X va L) (hB : B ≤ W.heap.size) (hb : Below W.heap.size W W1) : GS B w0 W1 c b g S s rest v V0 out V X0 xo X va L :=
  h.move (fun k hk => hb.block k (h.lt hk)) (below_then h.bel hB hb)
theorem GS.size (h : GS B w0 W c b g S s rest v V0 out V X0 xo X va L) : B ≤ W.heap.size := Nat.le_of_lt (Nat.lt_of_le_of_lt h.lo.1 h.ch.lt.1)
/-- Another block than theirs is written. -/
theorem GS.else_ {W1 : World} {Y : Nat → Prop} (h : GS B w0 W c b g S s rest v V0 out V X0 xo X va L) (hx : Ex Y W W1) (hn : ∀ k, Blk c b g v V0 out V X0 xo X va k → ¬ Y k) (hy : ∀ k, Y k → B ≤ k) : GS B w0 W1 c b g S s rest v V0 out V X0 xo X va L :=
  h.move (fun k hk => hx.block k (h.lt hk) (hn k hk)) (h.bel.trans (hx.below h.size hy))
theorem own_nb {w : World} {base : Nat} {e t : TypeId} {size n k : Nat} {u : Value} {xs : List Value} {cs : Array Value} (h : w.ownsRow base e size u n xs) (hg : w.heap[k]? = some (.cells cs t (0, 0))) (hne : e ≠ t) : u.ownBlock ≠ some k := fun e => own_ne h hg hne e.symm
/-- The row of bytes has grown. -/
theorem GS.grow {w1 : World} {va1 : Value} {p : List Nat} (h : GS B w0 W c b g S s rest v V0 out V X0 xo X va L) (h1 : w1.ownsRow B 5 1 va1 (L.length + p.length) (nums .u8 (I L) ++ nums .u8 (I p))) (hg : W.grownBy w1 va.ownBlock)
    (hat : va1.ownBlock = va.ownBlock ∨ ∃ b, va1.ownBlock = some b ∧ W.heap.size ≤ b) : GS B w0 w1 c b g S s rest v V0 out V X0 xo X va1 (L ++ p) := by
  obtain ⟨l1, l2, l3, l4⟩ := h.ch.lt
  obtain ⟨_, hb0⟩ := h.ch.roblk
  have hmv : ∀ k, k < W.heap.size → va.ownBlock ≠ some k → w1.heap[k]? = W.heap[k]? := fun k hk k1 => hg.block k hk (fun e => k1 e.symm)
  have hne : ∀ {u : Value} {n : Nat} {e : TypeId} {xs : List Value}, W.ownsRow B e 1 u n xs → Apart.Ne u va → Apart.Ne u va1 := fun {u n e xs} hu hn k hk e => by
    rcases hat with q | ⟨q, q1, q2⟩
    · rw [q] at e; exact hn k hk e
    · rw [q1] at e; injection e with e; have := own_lt hu k hk; omega
  refine ⟨pw_below_grown h.bel _ h.size hg (fun q hq => own_base h.all q hq), h.lo, h.ch.move (hmv c l1 (own_nb h.all h.ch.ck (by decide))) (hmv b l2 (own_nb h.all hb0 (by decide))) (hmv g l3 h.ag) (fun k hk => hmv k (l4 k hk) (fun e => h.av k e hk)),
    h.out.move (fun k hk => hmv k (own_lt h.out.row k hk) (fun e => (Apart.Ne.types h.out.row h.all (by decide)) k hk e)) (fun j hj k hk => hmv k (own_lt (h.out.own j hj) k hk) (fun e => h.aV j hj k hk e)), h.on,
    h.ex.move (fun k hk => hmv k (own_lt h.ex.row k hk) (fun e => (Apart.Ne.types h.ex.row h.all (by decide)) k hk e)) (fun j hj k hk => hmv k (own_lt (h.ex.own j hj) k hk) (fun e => h.aX j hj k hk e)), h.en,
    ?_, ?_, fun j hj => hne (h.out.own j hj) (h.aV j hj), fun j hj => hne (h.ex.own j hj) (h.aX j hj), ?_, h.vx⟩
  · rw [List.length_append, I_app, nums_append]; exact h1
  · exact (hne h.ch.own h.av.symm).symm
  · intro e
    rcases hat with q | ⟨q, q1, q2⟩
    · rw [q] at e; exact h.ag e
    · rw [q1] at e; injection e with e; omega
/-- .. and chunks that are new: N0: nw, N. -/
structure MS (B : Nat) (w0 W : World) (c b g : Nat) (S : Set5) (s : RS) (rest : List Nat) (v V0 : Value) (out : List (List Nat)) (V : Nat → Value) (X0 : Value) (xo : List (List Nat)) (X : Nat → Value) (va : Value) (L : List Nat) (n0 : Nat) (N0 : Value) (nw : List (List Nat)) (N : Nat → Value) : Prop where
  gs : GS B w0 W c b g S s rest v V0 out V X0 xo X va L
  hn0 : B ≤ n0
  new : OutAt W n0 B g N0 nw N
  nn : ∀ j, j < nw.length → Apart.Ne (N j) v
  na : ∀ j, j < nw.length → Apart.Ne (N j) va
  nV : ∀ i j, i < nw.length → j < out.length → Apart.Ne (N i) (V j)
  n0V : Apart.Ne N0 V0
  lo : ∀ k, (N0.ownBlock = some k ∨ ∃ j, j < nw.length ∧ (N j).ownBlock = some k) → B ≤ k
variable {n0 : Nat} {N0 : Value} {nw : List (List Nat)} {N : Nat → Value}
theorem MS.move {W1 : World} (h : MS B w0 W c b g S s rest v V0 out V X0 xo X va L n0 N0 nw N) (hm : ∀ k, Blk c b g v V0 out V X0 xo X va k → W1.heap[k]? = W.heap[k]?) (hm2 : ∀ k, N0.ownBlock = some k → W1.heap[k]? = W.heap[k]?) (hm3 : ∀ j, j < nw.length → ∀ k, (N j).ownBlock = some k → W1.heap[k]? = W.heap[k]?) (hb : Below B w0 W1) : MS B w0 W1 c b g S s rest v V0 out V X0 xo X va L n0 N0 nw N :=
  ⟨h.gs.move hm hb, h.hn0, h.new.move hm2 hm3, h.nn, h.na, h.nV, h.n0V, h.lo⟩
theorem MS.below {W1 : World} (h : MS B w0 W c b g S s rest v V0 out V X0 xo X va L n0 N0 nw N) (hb : Below W.heap.size W W1) : MS B w0 W1 c b g S s rest v V0 out V X0 xo X va L n0 N0 nw N :=
  h.move (fun k hk => hb.block k (h.gs.lt hk)) (fun k hk => hb.block k (own_lt h.new.row k hk)) (fun j hj k hk => hb.block k (own_lt (h.new.own j hj) k hk)) (below_then h.gs.bel h.gs.size hb)
theorem MS.else_ {W1 : World} {Y : Nat → Prop} (h : MS B w0 W c b g S s rest v V0 out V X0 xo X va L n0 N0 nw N) (hx : Ex Y W W1) (hn : ∀ k, Blk c b g v V0 out V X0 xo X va k ∨ N0.ownBlock = some k ∨ (∃ j, j < nw.length ∧ (N j).ownBlock = some k) → ¬ Y k) (hy : ∀ k, Y k → B ≤ k) : MS B w0 W1 c b g S s rest v V0 out V X0 xo X va L n0 N0 nw N :=
  h.move (fun k hk => hx.block k (h.gs.lt hk) (hn k (.inl hk))) (fun k hk => hx.block k (own_lt h.new.row k hk) (hn k (.inr (.inl hk)))) (fun j hj k hk => hx.block k (own_lt (h.new.own j hj) k hk) (hn k (.inr (.inr ⟨j, hj, hk⟩)))) (h.gs.bel.trans (hx.below h.gs.size hy))
/-- The chunker was written to, or ended. -/
theorem GS.step {W1 : World} {τ : WS} {v1 : Value} (h : GS B w0 W c b g S s rest v V0 out V X0 xo X va L) (hi : Inv W W1 B c b g S v τ v1 N0 N) : MS B w0 W1 c b g S τ.s τ.rest v1 V0 out V X0 xo X va L W.heap.size N0 τ.out N ∧
    ∀ k, (Blk c b g v1 V0 out V X0 xo X va k ∨ N0.ownBlock = some k ∨ ∃ j, j < τ.out.length ∧ (N j).ownBlock = some k) → Blk c b g v V0 out V X0 xo X va k ∨ W.heap.size ≤ k := by
  obtain ⟨_, hb0⟩ := h.ch.roblk
  have hmv : ∀ k, k < W.heap.size → k ≠ c → k ≠ b → k ≠ g → v.ownBlock ≠ some k → W1.heap[k]? = W.heap[k]? := fun k hk k1 k2 k3 k4 => hi.ex.block k hk (fun e => by rcases e with e | e | e | e <;> contradiction)
  have h25 : ∀ {u : Value} {n : Nat} {xs : List Value}, W.ownsRow B 25 1 u n xs → ∀ k, u.ownBlock = some k → W1.heap[k]? = W.heap[k]? := fun {u n xs} hu k hk =>
    hmv k (own_lt hu k hk) (fun e => own_nb hu h.ch.ck (by decide) (e ▸ hk)) (fun e => own_nb hu hb0 (by decide) (e ▸ hk)) (fun e => own_nb hu h.ch.ro.win (by decide) (e ▸ hk)) (fun e => (Apart.Ne.types hu h.ch.own (by decide)) k hk e)
  have h5 : ∀ {u : Value} {n : Nat} {xs : List Value}, W.ownsRow B 5 1 u n xs → u.ownBlock ≠ some g → Apart.Ne u v → ∀ k, u.ownBlock = some k → W1.heap[k]? = W.heap[k]? := fun {u n xs} hu ug uv k hk =>
    hmv k (own_lt hu k hk) (fun e => own_nb hu h.ch.ck (by decide) (e ▸ hk)) (fun e => own_nb hu hb0 (by decide) (e ▸ hk)) (fun e => ug (e ▸ hk)) (fun e => uv k hk e)
  have hnv : ∀ {u : Value} {n : Nat} {xs : List Value}, W.ownsRow B 5 1 u n xs → Apart.Ne u v → Apart.Ne u v1 := fun {u n xs} hu uv k hk e => by
    rcases hi.fv k e with q | q
    · exact uv k hk q
    · have := own_lt hu k hk; omega
  have hnN : ∀ {u : Value} {n : Nat} {xs : List Value}, W.ownsRow B 5 1 u n xs → Apart.Ne u v → ∀ j, j < τ.out.length → Apart.Ne (N j) u := fun {u n xs} hu uv j hj k hk e => by
    rcases hi.fV j hj k hk with q | q
    · exact uv k e q
    · have := own_lt hu k e; omega
  have hB := h.size
  have hbel : Below B w0 W1 := h.bel.trans (hi.ex.below hB (fun k hk => by
    rcases hk with e | e | e | e
    · exact e ▸ h.lo.1
    · exact e ▸ h.lo.2.1
    · exact e ▸ h.lo.2.2
    · exact own_base h.ch.own k e))
  have hN0 : ∀ k, N0.ownBlock = some k → W.heap.size ≤ k := fun k hk => own_base hi.out.row k hk
  refine ⟨⟨⟨hbel, h.lo, hi.ch, h.out.move (h25 h.out.row) (fun j hj => h5 (h.out.own j hj) (h.out.og j hj) (h.on j hj)), fun j hj => hnv (h.out.own j hj) (h.on j hj), h.ex.move (h25 h.ex.row) (fun j hj => h5 (h.ex.own j hj) (h.ex.og j hj) (h.en j hj)), fun j hj => hnv (h.ex.own j hj) (h.en j hj),
    own_move h.all (h5 h.all h.ag h.av), hnv h.all h.av, h.aV, h.aX, h.ag, h.vx⟩, hB, hi.out, hi.on, fun j hj => hnN h.all h.av j hj, fun i j hi' hj => hnN (h.out.own j hj) (h.on j hj) i hi', fun k hk e => ?_, ?_⟩, ?_⟩
  · have := hN0 k hk
    have := own_lt h.out.row k e
    omega
  · intro k hk
    rcases hk with hk | ⟨j, hj, hk⟩
    · exact Nat.le_trans hB (hN0 k hk)
    · exact own_base (hi.out.own j hj) k hk
  · intro k hk
    rcases hk with (e | e | e | e | e | e | e | e | e) | e | ⟨j, hj, e⟩
    · exact .inl (.inl e)
    · exact .inl (.inr (.inl e))
    · exact .inl (.inr (.inr (.inl e)))
    · rcases hi.fv k e with q | q
      · exact .inl (.inr (.inr (.inr (.inl q))))
      · exact .inr q
    · exact .inl (.inr (.inr (.inr (.inr (.inl e)))))
    · exact .inl (.inr (.inr (.inr (.inr (.inr (.inl e))))))
    · exact .inl (.inr (.inr (.inr (.inr (.inr (.inr (.inl e)))))))
    · exact .inl (.inr (.inr (.inr (.inr (.inr (.inr (.inr (.inl e))))))))
    · exact .inl (.inr (.inr (.inr (.inr (.inr (.inr (.inr (.inr e))))))))
    · exact .inr (hN0 k e)
    · rcases hi.fV j hj k e with q | q
      · exact .inl (.inr (.inr (.inr (.inl q))))
      · exact .inr q
theorem range_append_map (V N : Nat → Value) (n m : Nat) : (List.range (n + m)).map (fun j => if j < n then V j else N (j - n)) = (List.range n).map V ++ (List.range m).map N := by
  rw [List.range_add, List.map_append, List.map_map]
  congr 1
  · exact List.map_congr_left (fun j hj => by rw [if_pos (List.mem_range.1 hj)])
  · exact List.map_congr_left (fun j hj => by simp; intro h; omega)
theorem getD_app (l m : List (List Nat)) (j : Nat) : (l ++ m).getD j [] = if j < l.length then l.getD j [] else m.getD (j - l.length) [] := by
  simp only [List.getD_eq_getElem?_getD, List.getElem?_append]
  split <;> rfl
/-- The new chunks behind the others. -/
theorem MS.append {w1 : World} {V1 : Value} (h : MS B w0 W c b g S s rest v V0 out V X0 xo X va L n0 N0 nw N) (h1 : w1.ownsRow B 25 1 V1 (out.length + nw.length) ((List.range out.length).map V ++ (List.range nw.length).map N)) (hg : W.grownBy w1 V0.ownBlock)
    (hat : V1.ownBlock = V0.ownBlock ∨ ∃ b, V1.ownBlock = some b ∧ W.heap.size ≤ b) : GS B w0 w1 c b g S s rest v V1 (out ++ nw) (fun j => if j < out.length then V j else N (j - out.length)) X0 xo X va L := by
  obtain ⟨l1, l2, l3, l4⟩ := h.gs.ch.lt
  obtain ⟨_, hb0⟩ := h.gs.ch.roblk
  have hr := h.gs.out.row
  have hmv : ∀ k, k < W.heap.size → V0.ownBlock ≠ some k → w1.heap[k]? = W.heap[k]? := fun k hk k1 => hg.block k hk (fun e => k1 e.symm)
  have h5 : ∀ {bb : Nat} {u : Value} {n : Nat} {xs : List Value}, W.ownsRow bb 5 1 u n xs → ∀ k, u.ownBlock = some k → w1.heap[k]? = W.heap[k]? := fun {bb u n xs} hu k hk => hmv k (own_lt hu k hk) (fun e => (Apart.Ne.types hr hu (by decide)) k e hk)
  have hlen : (out ++ nw).length = out.length + nw.length := List.length_append
  have hcase : ∀ {P : Value → Prop} (j : Nat), j < (out ++ nw).length → (∀ i, i < out.length → P (V i)) → (∀ i, i < nw.length → P (N i)) → P (if j < out.length then V j else N (j - out.length)) := fun {P} j hj p1 p2 => by
    split
    · next e => exact p1 j e
    · exact p2 _ (by omega)
  refine ⟨pw_below_grown h.gs.bel _ h.gs.size hg (fun q hq => own_base hr q hq), h.gs.lo, h.gs.ch.move (hmv c l1 (own_nb hr h.gs.ch.ck (by decide))) (hmv b l2 (own_nb hr hb0 (by decide))) (hmv g l3 (own_nb hr h.gs.ch.ro.win (by decide))) (h5 h.gs.ch.own),
    ⟨?_, ?_, ?_, ?_⟩, fun j hj => hcase (P := fun u => Apart.Ne u v) j hj h.gs.on h.nn, h.gs.ex.move (fun k hk => hmv k (own_lt h.gs.ex.row k hk) (fun e => h.gs.vx k e hk)) (fun j hj => h5 (h.gs.ex.own j hj)), h.gs.en,
    own_move h.gs.all (h5 h.gs.all), h.gs.av, fun j hj => hcase (P := fun u => Apart.Ne u va) j hj h.gs.aV h.na, h.gs.aX, h.gs.ag, ?_⟩
  · rw [hlen, range_append_map]; exact h1
  · intro j hj
    rw [getD_app]
    by_cases e : j < out.length
    · rw [if_pos e, if_pos e]
      exact own_move (h.gs.out.own j e) (h5 (h.gs.out.own j e))
    · rw [if_neg e, if_neg e]
      have e2 : j - out.length < nw.length := by rw [hlen] at hj; omega
      exact own_move (h.new.own _ e2) (h5 (h.new.own _ e2))
  · intro i j hi hj hij
    rw [hlen] at hi hj
    by_cases e : i < out.length
    · by_cases e2 : j < out.length
      · simp only [if_pos e, if_pos e2]; exact h.gs.out.ne i j e e2 hij
      · simp only [if_pos e, if_neg e2]; exact (h.nV (j - out.length) i (by omega) e).symm
    · by_cases e2 : j < out.length
      · simp only [if_neg e, if_pos e2]; exact h.nV (i - out.length) j (by omega) e2
      · simp only [if_neg e, if_neg e2]; exact h.new.ne _ _ (by omega) (by omega) (by omega)
  · intro j hj
    exact hcase (P := fun u => u.ownBlock ≠ some g) j hj h.gs.out.og h.new.og
  · intro k hk e
    rcases hat with q | ⟨q, q1, q2⟩
    · rw [q] at hk; exact h.gs.vx k hk e
    · rw [q1] at hk; injection hk with hk; have := own_lt h.gs.ex.row k e; omega
/-- The new chunks take the place of the others, which are kept. -/
theorem MS.swap (h : MS B w0 W c b g S s rest v V0 out V X0 xo X va L n0 N0 nw N) : GS B w0 W c b g S s rest v N0 nw N V0 out V va L :=
  ⟨h.gs.bel, h.gs.lo, h.gs.ch, ⟨own_less h.new.row h.hn0, h.new.own, h.new.ne, h.new.og⟩, h.nn, h.gs.out, h.gs.on, h.gs.all, h.gs.av, h.na, h.gs.aV, h.gs.ag, h.n0V⟩
end
end Go.Proofs.Ytoofafgnlgaajaa.RW
/- RabinStreams in plain Lean: what a chunker answers, however what is written is cut in pieces. Conditions: as each theorem says. -/
namespace Go.Proofs.Ytoofafgnlgaajaa.RW
open Go.RowKit Go.Proofs.Ytoofafgnlgaajaa.PRabin Go.Proofs.YtoofafgnlgaajaaW.PrintWords Go.Proofs.YtoofafgnlgaajaaW.PrintLast Go.Proofs.YtoofafgnlgaajaaW.PrintMore Go.Proofs.Ytoofafgnlgaajaa Go.Proofs.Ytoofafgnlgaajaa.PB
set_option linter.unusedVariables false
set_option linter.unusedSimpArgs false
/-- Chunks that were answered stay ahead. -/
theorem runW_out (S : Set5) : ∀ (l : List Nat) (s : RS) (r : List Nat) (o : List (List Nat)), runW S ⟨s, r, o⟩ l = ⟨(runW S ⟨s, r, []⟩ l).s, (runW S ⟨s, r, []⟩ l).rest, o ++ (runW S ⟨s, r, []⟩ l).out⟩
  | [], s, r, o => by
    show (⟨s, r, o⟩ : WS) = ⟨s, r, o ++ []⟩
    rw [List.append_nil]
  | x :: l, s, r, o => by
    have e : ∀ o' : List (List Nat), runW S ⟨s, r, o'⟩ (x :: l) = runW S (if endsN S (r.length + 1) (s.next x) then ⟨(s.roll x).reset, [], o' ++ [r ++ [x]]⟩ else ⟨s.roll x, r ++ [x], o'⟩) l := fun _ => rfl
    rw [e, e]
    cases endsN S (r.length + 1) (s.next x) with
    | true =>
      simp only [if_true]
      rw [runW_out S l _ [] (o ++ [r ++ [x]]), runW_out S l _ [] ([] ++ [r ++ [x]])]
      simp only [List.nil_append, List.append_assoc]
    | false =>
      simp only [Bool.false_eq_true, if_false]
      rw [runW_out S l _ (r ++ [x]) o]
def lens (o : List (List Nat)) : Nat := (o.map List.length).sum
theorem lens_app (a b : List (List Nat)) : lens (a ++ b) = lens a + lens b := by unfold lens; rw [List.map_append, List.sum_append]
theorem lens_flat (o : List (List Nat)) : lens o = o.flatten.length := by unfold lens; rw [List.length_flatten]
/-- No byte is lost. -/
theorem runW_lens (S : Set5) : ∀ (l : List Nat) (s : RS) (r : List Nat) (o : List (List Nat)), (runW S ⟨s, r, o⟩ l).rest.length + lens (runW S ⟨s, r, o⟩ l).out = r.length + lens o + l.length
  | [], s, r, o => rfl
  | x :: l, s, r, o => by
    have e : runW S ⟨s, r, o⟩ (x :: l) = runW S (if endsN S (r.length + 1) (s.next x) then ⟨(s.roll x).reset, [], o ++ [r ++ [x]]⟩ else ⟨s.roll x, r ++ [x], o⟩) l := rfl
    rw [e]
    cases endsN S (r.length + 1) (s.next x) with
    | true =>
      simp only [if_true]
      rw [runW_lens S l]
      have : lens (o ++ [r ++ [x]]) = lens o + (r.length + 1) := by rw [lens_app]; unfold lens; simp
      rw [this, List.length_cons, List.length_nil]; omega
    | false =>
      simp only [Bool.false_eq_true, if_false]
      rw [runW_lens S l, List.length_append, List.length_cons, List.length_cons, List.length_nil]; omega
/-- The chunks of all that was written, and of its end; the chunker is as one to which nothing was written. -/
theorem whole (S : Set5) (s : RS) (l : List Nat) (h : RSInv s S.W S.p []) (hl : ∀ x ∈ l, x < 256) :
    (runW S ⟨s, [], []⟩ l).out ++ (endW ⟨(runW S ⟨s, [], []⟩ l).s, (runW S ⟨s, [], []⟩ l).rest, []⟩).out = cutL S [] l ∧ RSInv (endW ⟨(runW S ⟨s, [], []⟩ l).s, (runW S ⟨s, [], []⟩ l).rest, []⟩).s S.W S.p [] ∧
    (endW ⟨(runW S ⟨s, [], []⟩ l).s, (runW S ⟨s, [], []⟩ l).rest, []⟩).rest = [] := by
  obtain ⟨h1, h2⟩ := runW_cut S l s [] [] h hl
  refine ⟨h2, ?_, ?_⟩
  · unfold endW
    split
    · next e =>
      rw [List.eq_nil_of_length_eq_zero e] at h1
      exact h1
    · exact h1.reset
  · unfold endW; split <;> rfl
theorem cutL_flat (S : Set5) : ∀ (l r : List Nat), (cutL S r l).flatten = r ++ l
  | [], r => by
    unfold cutL
    split
    · next e => rw [List.eq_nil_of_length_eq_zero e]; rfl
    · simp
  | x :: l, r => by
    unfold cutL
    split
    · rw [List.flatten_cons, cutL_flat S l []]; simp
    · rw [cutL_flat S l (r ++ [x])]; simp
theorem halves (p : List Nat) (h : Nat) : [p.take h, p.drop h].flatten = p := by simp
/-- What Sum tells. -/
theorem Sum_l0 (P : List (List Nat)) (hP : P.length ≤ 100) (j : Nat) : ∀ (k i n : Nat), i + j = P.length → n ≤ 1048576 → j < k →
    ∃ m : Nat, amphoranum_Sum.l0 k 1048576 (n : Int) (P.map I) (P.length : Int) (i : Int) = some (m : Int) ∧ m ≤ 1048576 ∧ (m < 1048576 → (P.drop i).flatten.length + n = m) := by
  induction j with
  | zero =>
    intro k i n hi hn hk
    obtain ⟨k, rfl⟩ : ∃ q, k = q + 1 := ⟨k - 1, by omega⟩
    refine ⟨n, ?_, hn, fun _ => ?_⟩
    · rw [amphoranum_Sum.l0, if_neg (by omega)]
    · rw [List.drop_of_length_le (by omega)]; simp
  | succ j ih =>
    intro k i n hi hn hk
    obtain ⟨k, rfl⟩ : ∃ q, k = q + 1 := ⟨k - 1, by omega⟩
    have hil : i < P.length := by omega
    have hrd : rd_L3 (P.map I) (i : Int) = I (P.getD i []) := by unfold rd_L3; simp [hil]
    have hlen : ((P.map I).length : Int) = (P.length : Int) := by rw [List.length_map]
    have hsub := Aside0.mk (show wrap64 (1048576 - (n : Int)) = 1048576 - (n : Int) from w64 (by omega) (by omega))
    have hd : (P.drop i).flatten.length = (P.getD i []).length + (P.drop (i + 1)).flatten.length := by
      rw [List.drop_eq_getElem_cons hil, List.flatten_cons, List.length_append]; simp [hil]
    rw [amphoranum_Sum.l0, if_pos (by omega), if_pos (Int.natCast_nonneg i), if_pos (by rw [hlen]; omega), hrd, I_len, hsub.out]
    by_cases c : ((P.getD i []).length : Int) > 1048576 - (n : Int)
    · refine ⟨1048576, ?_, Nat.le_refl _, fun e => absurd e (Nat.lt_irrefl _)⟩
      rw [if_pos c]; rfl
    · have hw := Aside0.mk (show wrap64 ((n : Int) + ((P.getD i []).length : Int)) = ((n + (P.getD i []).length : Nat) : Int) by rw [w64 (by omega) (by omega)]; rfl)
      have hw1 := Aside0.mk (show wrap64 ((i : Int) + 1) = ((i + 1 : Nat) : Int) by rw [w64 (by omega) (by omega)]; rfl)
      obtain ⟨m, h1, h2, h3⟩ := ih k (i + 1) (n + (P.getD i []).length) (by omega) (by omega) (by omega)
      refine ⟨m, ?_, h2, fun e => ?_⟩
      · rw [if_neg c, hw.out, hw1.out]; exact h1
      · have := h3 e; omega
theorem Sum_f (P : List (List Nat)) (hP : P.length ≤ 100) : ∃ m : Nat, amphoranum_Sum.f 200 (P.map I) 1048576 = some (m : Int) ∧ (m < 1048576 → P.flatten.length = m) := by
  obtain ⟨m, h1, _, h3⟩ := Sum_l0 P hP P.length 200 0 0 (by omega) (by omega) (by omega)
  refine ⟨m, ?_, fun e => by have := h3 e; rw [List.drop_zero] at this; omega⟩
  unfold amphoranum_Sum.f
  rw [List.length_map]
  exact h1
end Go.Proofs.Ytoofafgnlgaajaa.RW
/- RabinStreams: what its walk calls, in the words of the walk. Conditions: as each theorem says. -/
namespace Go.Proofs.Ytoofafgnlgaajaa.RW
open Go.RowKit Go.Proofs.Ytoofafgnlgaajaa.PRabin Go.Proofs.YtoofafgnlgaajaaW.PrintWords Go.Proofs.YtoofafgnlgaajaaW.PrintLast Go.Proofs.YtoofafgnlgaajaaW.PrintMore Go.Proofs.Ytoofafgnlgaajaa Go.Proofs.Ytoofafgnlgaajaa.PB
set_option linter.unusedVariables false
set_option linter.unusedSimpArgs false
theorem copy_n (A : Option Addr) (c n : Nat) (l : List Int) (w : World) (hn : l.length = n) (hC : Kd.C (Kd.int .u8) w A l.length l) (hc : n ≤ c) (hl : n ≤ 140737488355000) :
    Calls Try.prog 12 #[.slice A n c] w fun e w' => ∃ g, e = .returned (.slice (some ⟨g, 0, none⟩) n (n + 2)) ∧ w.heap.size ≤ g ∧ Marks.At w' g l ∧ Below w.heap.size w w' := by
  subst hn; exact Marks.copy_calls A c l w hC hc hl
theorem kept_n (g c n : Nat) (A : Option Addr) (l : List Int) (w : World) (hn : l.length = n) (hA : Marks.At w g l) (hC : Kd.C (Kd.int .u8) w A l.length l) (hc : n ≤ c) (hl : n ≤ 140737488355000) :
    Calls Try.prog 18 #[.slice (some ⟨g, 0, none⟩) n (n + 2), .slice A n c] w fun e w' => e = .returned (.bool true) ∧ Drawn0 w w' := by
  subst hn; exact Marks.kept_calls g c A l w hA hC hc hl
theorem sum_n (A : Option Addr) (N c m : Nat) (l : List (List Int)) (w : World) (hN : l.length = N) (hC : Kd.C (Kd.slice 5 (Kd.int .u8)) w A l.length l) (hc : N ≤ c) (h : amphoranum_Sum.f 200 l 1048576 = some (m : Int)) :
    Calls Try.prog 22 #[.slice A N c, .int .i64 1048576] w fun e w' => e = .returned (.int .i64 (m : Int)) ∧ Drawn0 w w' := by
  subst hN; exact amphoranum_Sum.calls 200 A c l 1048576 m w hC hc h
theorem at_u8s {w : World} {g n : Nat} {l : List Int} (h : Marks.At w g l) (hn : n ≤ l.length) : U8s w g n := by
  refine ⟨_, h, fun j hj => ?_⟩
  have hj2 : j < (l ++ [165, 90]).length := by rw [List.length_append]; omega
  refine ⟨(l ++ [165, 90])[j], ?_⟩
  have : (nums .u8 (l ++ [165, 90])).toArray[j]? = (nums .u8 (l ++ [165, 90]))[j]? := by simp
  rw [this]; unfold nums
  rw [List.getElem?_map, List.getElem?_eq_getElem hj2]; rfl
theorem own_at {w : World} {g n B : Nat} {l : List Int} (h : Marks.At w g l) (hn : l.length = n) (hB : B ≤ g) (hl : n ≤ 1000000000000) : w.ownsRow B 5 1 (.slice (some ⟨g, 0, none⟩) n (n + 2)) n (nums .u8 l) := by
  refine ⟨?_, .inr ⟨g, n + 2, _, rfl, hB, h, Nat.le_add_right _ _, by simp only [maxLen]; omega, ?_, ?_⟩⟩
  · unfold nums; rw [List.length_map, hn, Nat.mul_one]
  · unfold nums; simp [hn]
  · rw [Nat.mul_one]
    show (nums .u8 (l ++ [165, 90])).take n = _
    unfold nums
    rw [List.map_append, List.take_left' (by rw [List.length_map]; exact hn)]
theorem new_at (k p W mn mx bt : Nat) (hp64 : p < 2 ^ 64) (he : rabin_Check.f k (p : Int) (W : Int) (mn : Int) (mx : Int) (bt : Int) = some none) (w : World) :
    Calls Try.prog 23 #[.agg #[.int .u64 (p : Int), .int .i64 (W : Int), .int .i64 (mn : Int), .int .i64 (mx : Int), .int .i64 (bt : Int)]] w fun e w' => ∃ c b g, w.heap.size ≤ c ∧ w.heap.size ≤ b ∧ w.heap.size ≤ g ∧ e = .returned (.tuple #[.pointer (some ⟨c, 0, none⟩), .nilIface]) ∧ Below w.heap.size w w' ∧
      ChAt w' w.heap.size c b g ⟨p, W, mn, mx, bt⟩ (new0 p W) (.slice none 0 0) [] := by
  have g := Check_good hp64 he
  have g1 := g.dlo
  have g2 := g.dhi
  have g3 := g.w2
  have hW63 : 8 * W < 2 ^ 63 := by have : (2 : Nat) ^ 63 = 9223372036854775808 := rfl; clear hp64; omega
  have hd63 : GF.L p - 1 < 2 ^ 63 := by have : (2 : Nat) ^ 63 = 9223372036854775808 := rfl; clear hp64 hW63; omega
  have hD : poly_Deg.f (p : Int) = some ((GF.L p - 1 : Nat) : Int) := by rw [Deg_f p hp64]; congr 1; clear hp64 hW63 hd63; omega
  have h := new_good k 800 800 p (GF.L p - 1) W mn mx bt (tab p (GF.L p - 1)) (tab p (8 * W)) w he hD (shifts_tab p _ 800 g.irr.ne hp64 hd63 (by decide)) (shifts_tab p _ 800 g.irr.ne hp64 hW63 (by decide)) (by clear hp64 hW63 hd63; omega)
  rw [errW_none] at h
  exact h
/-- A row that is read wherever the blocks X alone are written. -/
theorem rd_own {X : Nat → Prop} {w : World} {B gq cp : Nat} {A : Option Addr} {L : List Nat} (h : w.ownsRow B 5 1 (.slice A L.length cp) L.length (nums .u8 (I L))) (hq : w.heap[gq]? = some (.cells #[.slice A L.length cp] 25 (0, 0))) (hXq : ¬ X gq) (hX : ∀ k, (Value.slice A L.length cp).ownBlock = some k → ¬ X k) :
    Rd X w (some ⟨gq, 0, none⟩) [L] := by
  refine ⟨by simp, fun i hi => ?_⟩
  have hi0 : i = 0 := by simpa using hi
  subst hi0
  have hcp : L.length ≤ cp := by
    rcases h.2 with ⟨e, _⟩ | ⟨q, cap, cur, e, _, _, hc, _⟩
    · injection e with e1 e2 e3; omega
    · injection e with e1 e2 e3; omega
  refine ⟨⟨gq, 0, none⟩, A, cp, rfl, fun W hW => blk_cell ((hW.block gq (blk_lt hq) hXq).trans hq) 0, hcp, fun j hj => ?_⟩
  have hj' : j < L.length := hj
  obtain ⟨A', c', e, h0⟩ := Apart.form h
  injection e with e1 e2 e3
  subst e1
  obtain ⟨q, e4, _, _⟩ := h0 (by omega)
  subst e4
  refine ⟨⟨q, 0, none⟩, rfl, fun W hW => ?_⟩
  have h1 := own_move h (w1 := W) (fun k hk => hW.block k (own_lt h k hk) (hX k hk))
  obtain ⟨A2, c2, e5, h5⟩ := Apart.form h1
  injection e5 with e6 e7 e8
  obtain ⟨q2, e9, h6, _⟩ := h5 (by omega)
  rw [← e6] at e9
  injection e9 with e9
  injection e9 with e9
  rw [add_plain, e9]
  refine h6 j _ ?_
  unfold nums I
  rw [List.getElem?_map, List.getElem?_map, List.getElem?_eq_getElem hj']
  simp [hj']
/-- .. its halves. -/
theorem rd_halves {X : Nat → Prop} {w : World} {B gq gm cp n h c1 c2 : Nat} {p : List Nat} (ho : w.ownsRow B 5 1 (.slice (some ⟨gm, 0, none⟩) n cp) n (nums .u8 (I p))) (hn : p.length = n) (hh : h ≤ n) (hc1 : h ≤ c1) (hc2 : n - h ≤ c2) (hq : w.heap[gq]? = some (.cells #[.slice (some ⟨gm, 0, none⟩) h c1, .slice (some ⟨gm, h, none⟩) (n - h) c2] 25 (0, 0))) (hXq : ¬ X gq) (hX : ¬ X gm) :
    Rd X w (some ⟨gq, 0, none⟩) [p.take h, p.drop h] := by
  have hcell : ∀ W, Ex X w W → ∀ j, j < n → W.cell? ⟨gm, j, none⟩ = some (.int .u8 ((p.getD j 0 : Nat) : Int)) := by
    intro W hW j hj
    have h1 := own_move ho (w1 := W) (fun k hk => hW.block k (own_lt ho k hk) (fun e => by
      have : gm = k := by simpa [Value.ownBlock] using hk
      exact hX (this ▸ e)))
    obtain ⟨A2, c2, e5, h5⟩ := Apart.form h1
    injection e5 with e6 e7 e8
    obtain ⟨q2, e9, h6, _⟩ := h5 (by omega)
    rw [← e6] at e9
    injection e9 with e9
    injection e9 with e9
    rw [e9]
    refine h6 j _ ?_
    unfold nums I
    rw [List.getElem?_map, List.getElem?_map, List.getElem?_eq_getElem (by omega)]
    simp [show j < p.length by omega]
  have l1 : (p.take h).length = h := by rw [List.length_take]; omega
  have l2 : (p.drop h).length = n - h := by rw [List.length_drop]; omega
  refine ⟨by simp, fun i hi => ?_⟩
  match i, hi with
  | 0, _ =>
    refine ⟨⟨gq, 0, none⟩, some ⟨gm, 0, none⟩, c1, rfl, fun W hW => ?_, by simp only [List.getD_cons_zero]; omega, fun j hj => ⟨⟨gm, 0, none⟩, rfl, fun W hW => ?_⟩⟩
    · have := blk_cell ((hW.block gq (blk_lt hq) hXq).trans hq) 0
      simp only [List.getD_cons_zero]
      rw [l1]; exact this
    · simp only [List.getD_cons_zero] at hj ⊢
      rw [add_plain, hcell W hW j (by omega)]
      simp [List.getD_eq_getElem?_getD, List.getElem?_take_of_lt (show j < h by omega)]
  | 1, _ =>
    refine ⟨⟨gq, 0, none⟩, some ⟨gm, h, none⟩, c2, rfl, fun W hW => ?_, by simp only [List.getD_cons_succ, List.getD_cons_zero]; omega, fun j hj => ⟨⟨gm, h, none⟩, rfl, fun W hW => ?_⟩⟩
    · have := blk_cell ((hW.block gq (blk_lt hq) hXq).trans hq) 1
      simp only [List.getD_cons_succ, List.getD_cons_zero]
      rw [l2]; exact this
    · simp only [List.getD_cons_succ, List.getD_cons_zero] at hj ⊢
      rw [show (⟨gm, h, none⟩ : Addr).add j = ⟨gm, h + j, none⟩ by simp [Addr.add]]
      rw [hcell W hW (h + j) (by omega)]
      simp [List.getD_eq_getElem?_getD, List.getElem?_drop]
  | i + 2, hi => exact absurd hi (by simp only [List.length_cons, List.length_nil]; omega)
/-- What a row of rows holds, place by place. -/
theorem OutAt.cells {W : World} {n0 B g n c : Nat} {A : Option Addr} {out : List (List Nat)} {V : Nat → Value} (h : OutAt W n0 B g (.slice A n c) out V) (j : Nat) (hj : j < out.length) :
    ∃ q A0 c0, A = some ⟨q, 0, none⟩ ∧ W.cell? ⟨q, j, none⟩ = some (.slice A0 (out.getD j []).length c0) ∧ V j = .slice A0 (out.getD j []).length c0 ∧ (out.getD j []).length ≤ c0 ∧ Kd.C (Kd.int .u8) W A0 (out.getD j []).length (I (out.getD j [])) := by
  obtain ⟨A', c', e, h0⟩ := Apart.form h.row
  injection e with e1 e2 e3
  subst e1
  obtain ⟨q, rfl, h1, _⟩ := h0 (by omega)
  obtain ⟨A0, c0, e4⟩ := h.forms j hj
  have h2 := h.own j hj
  rw [e4] at h2
  obtain ⟨h3, h4⟩ := own_C h2 (I_len _)
  refine ⟨q, A0, c0, rfl, ?_, e4, h3, h4⟩
  rw [h1 j (V j) (by rw [List.getElem?_map, List.getElem?_range hj]; rfl), e4]
theorem write_1 (B c b g : Nat) (p : List Nat) (A1 : Option Addr) (S : Set5) (s : RS) (v : Value) (rest : List Nat) (w : World) (hB : B ≤ w.heap.size) (h : ChAt w B c b g S s v rest) (ok : s.Ok) (hbt : S.bt ≤ 55) (hsm : ∀ x ∈ p, x < 256) (hlen : rest.length + p.length ≤ 1000000)
    (hrd : Rd (fun k => k = c ∨ k = b ∨ k = g ∨ v.ownBlock = some k) w A1 [p]) :
    Calls Try.prog 25 #[.pointer (some ⟨c, 0, none⟩), .slice A1 1 1] w fun e w' => ∃ v' V0 V, e = .returned V0 ∧ Inv w w' B c b g S v (runW S ⟨s, rest, []⟩ p) v' V0 V := by
  have e : [p].flatten = p := by simp
  have h1 := write_calls B c b g 1 A1 [p] S s v rest w hB h ok hbt (fun q hq => by rw [List.mem_singleton.1 hq]; exact hsm) (by rw [e]; omega) hrd
  rw [e] at h1
  exact h1
theorem write_2 (B c b g n : Nat) (p : List Nat) (A1 : Option Addr) (S : Set5) (s : RS) (v : Value) (rest : List Nat) (w : World) (hB : B ≤ w.heap.size) (h : ChAt w B c b g S s v rest) (ok : s.Ok) (hbt : S.bt ≤ 55) (hsm : ∀ x ∈ p, x < 256) (hlen : rest.length + p.length ≤ 1000000)
    (hrd : Rd (fun k => k = c ∨ k = b ∨ k = g ∨ v.ownBlock = some k) w A1 [p.take n, p.drop n]) :
    Calls Try.prog 25 #[.pointer (some ⟨c, 0, none⟩), .slice A1 2 2] w fun e w' => ∃ v' V0 V, e = .returned V0 ∧ Inv w w' B c b g S v (runW S ⟨s, rest, []⟩ p) v' V0 V := by
  have e := halves p n
  have h1 := write_calls B c b g 2 A1 [p.take n, p.drop n] S s v rest w hB h ok hbt (fun q hq => by
    rcases List.mem_cons.1 hq with rfl | hq
    · exact fun x hx => hsm x (List.mem_of_mem_take hx)
    · rw [List.mem_singleton.1 hq]; exact fun x hx => hsm x (List.mem_of_mem_drop hx)) (by rw [e]; omega) hrd
  rw [e] at h1
  exact h1
theorem blk_va {c b g H gm : Nat} {v V0 : Value} {out : List (List Nat)} {V : Nat → Value} {X0 : Value} {xo : List (List Nat)} {X : Nat → Value} {va va1 : Value} (h : ∀ k, Blk c b g v V0 out V X0 xo X va k → k ≠ gm) (ha : va1.ownBlock = va.ownBlock ∨ ∃ b, va1.ownBlock = some b ∧ H ≤ b) (hg : gm < H) :
    ∀ k, Blk c b g v V0 out V X0 xo X va1 k → k ≠ gm := by
  intro k hk
  rcases hk with e | e | e | e | e | e | e | e | e
  · exact h k (.inl e)
  · exact h k (.inr (.inl e))
  · exact h k (.inr (.inr (.inl e)))
  · exact h k (.inr (.inr (.inr (.inl e))))
  · exact h k (.inr (.inr (.inr (.inr (.inl e)))))
  · exact h k (.inr (.inr (.inr (.inr (.inr (.inl e))))))
  · rcases ha with q | ⟨q, q1, q2⟩
    · rw [q] at e; exact h k (.inr (.inr (.inr (.inr (.inr (.inr (.inl e)))))))
    · rw [q1] at e; injection e with e; omega
  · exact h k (.inr (.inr (.inr (.inr (.inr (.inr (.inr (.inl e))))))))
  · exact h k (.inr (.inr (.inr (.inr (.inr (.inr (.inr (.inr e))))))))
theorem cut_from8 (W : World) (g n c h : Nat) (hh : h ≤ n) (hc : n < c) : (Instr.slice 25 (.slice (some ⟨g, 0, none⟩) n c) (some (.int .i64 (h : Int))) none none).run Try.prog W = .ok (.slice (some ⟨g, h, none⟩) (n - h) (c - h)) W := by
  obtain ⟨i, hi, _, hsz, _⟩ := info_parts infoU8
  have hel : Try.prog.elem 25 = 5 := by simp [Program.elem, Try.underlying25]
  have hu : Try.prog.underlying 25 = some (.slice (Try.prog.elem 25)) := by rw [hel]; exact Try.underlying25
  rw [run_slice_l W 25 (some ⟨g, 0, none⟩) n c hu .i64 (h : Int) (Int.natCast_nonneg _) (by omega), hel]
  simp [sizeOf, typeInfo, hi, hsz, sliced, Result.andThen, show ¬ c = h by omega, Addr.add]
  exact fun e => e.symm
theorem tdiv2 (n : Nat) : (n : Int).tdiv 2 = ((n / 2 : Nat) : Int) := by rw [Int.tdiv_eq_ediv_of_nonneg (by omega)]; omega
theorem left_0 (c b cap : Nat) (A : Option Addr) (S : Set5) (w : World) (h : w.heap[c]? = some (.cells (ckCells S b (.slice A 0 cap)) 72 (0, 0))) :
    Calls Try.prog 27 #[.pointer (some ⟨c, 0, none⟩)] w fun e w' => e = .returned (.int .i64 0) ∧ Drawn0 w w' := left_calls c b 0 cap A S w h
theorem end_0 (B c b g : Nat) (S : Set5) (s : RS) (v : Value) (w : World) (hB : B ≤ w.heap.size) (h : ChAt w B c b g S s v []) :
    Calls Try.prog 28 #[.pointer (some ⟨c, 0, none⟩)] w fun e w' => ∃ v' V, e = .returned (.slice none 0 0) ∧ Inv w w' B c b g S v ⟨s, [], []⟩ v' (.slice none 0 0) V := by
  refine (end_calls B c b g S s v [] w hB h).mono ?_
  rintro e w' ⟨v', V0, V, rfl, hd, hi⟩
  rcases hd with ⟨_, rfl⟩ | ⟨h0, _⟩
  · exact ⟨v', V, rfl, hi⟩
  · exact absurd rfl h0
theorem cut_n (k : Nat) (a0 a1 a2 a3 a4 : Int) (A : Option Addr) (c n M : Nat) (l r : List Int) (w : World) (hn : l.length = n) (hr : r.length = M) (hC : Kd.C (Kd.int .u8) w A n l) (hc : n ≤ c) (h : rabin_Cut.f k a0 a1 a2 a3 a4 l = some (r, none)) :
    Calls Try.prog 13 #[.agg #[.int .u64 a0, .int .i64 a1, .int .i64 a2, .int .i64 a3, .int .i64 a4], .slice A n c] w fun e w' => ∃ (A' : Option Addr) (c' : Nat), e = .returned (.tuple #[.slice A' M c', .nilIface]) ∧ M ≤ c' ∧ Kd.C (Kd.int .i64) w' A' M r ∧ Below w.heap.size w w' := by
  subst hn hr
  refine (rabin_Cut.calls k a0 a1 a2 a3 a4 A c l r none w hC hc h).mono ?_
  rintro e w' ⟨v0, rfl, hR, hb⟩
  obtain ⟨A', c', rfl, h1, h2⟩ := Kd.R_reads hR
  rw [errW_none]
  exact ⟨A', c', rfl, h1, h2, hb⟩
theorem GS.flip {B : Nat} {w0 W : World} {c b g : Nat} {S : Set5} {s : RS} {rest : List Nat} {v V0 : Value} {out : List (List Nat)} {V : Nat → Value} {X0 : Value} {xo : List (List Nat)} {X : Nat → Value} {va : Value} {L : List Nat}
    (h : GS B w0 W c b g S s rest v V0 out V X0 xo X va L) : GS B w0 W c b g S s rest v X0 xo X V0 out V va L :=
  ⟨h.bel, h.lo, h.ch, h.ex, h.en, h.out, h.on, h.all, h.av, h.aX, h.aV, h.ag, h.vx.symm⟩
/-- A chunk's place in the data. -/
theorem chunk_at (C : List (List Nat)) (i : Nat) (h : i < C.length) : (C.flatten.take (lens (C.take i) + (C.getD i []).length)).drop (lens (C.take i)) = C.getD i [] := by
  have e : C.flatten = (C.take i).flatten ++ (C.getD i [] ++ (C.drop (i + 1)).flatten) := by
    conv => lhs; rw [← List.take_append_drop i C, List.drop_eq_getElem_cons h, List.flatten_append, List.flatten_cons]
    simp [h]
  rw [e, lens_flat]
  obtain ⟨a, ha⟩ : ∃ a, a = (C.take i).flatten := ⟨_, rfl⟩
  obtain ⟨x, hx⟩ : ∃ x, x = C.getD i [] := ⟨_, rfl⟩
  rw [← ha, ← hx, ← List.append_assoc, List.take_left' (by rw [List.length_append]), List.drop_left]
theorem mid_n (Aa : Option Addr) (ca n t m : Nat) (F x : List Nat) (hn : F.length = n) (hc : n ≤ ca) (hx : (F.take (t + m)).drop t = x) (hm : x.length = m) (hle : t + m ≤ n) :
    ∃ A', (∀ W : World, (Instr.slice 25 (.slice Aa n ca) (some (.int .i64 (t : Int))) (some (.int .i64 ((t : Int) + (m : Int)))) none).run Try.prog W = .ok (.slice A' m (ca - t)) W) ∧ ∀ w : World, Kd.C (Kd.int .u8) w Aa n (I F) → Kd.C (Kd.int .u8) w A' m (I x) := by
  obtain ⟨i, hi, _, hsz, _⟩ := info_parts infoU8
  have hIF : (I F).length = n := (I_len F).trans hn
  obtain ⟨A', h1, h2, h3⟩ := print_mid_of (P := Try.prog) (Value.int .u8) (0 : Int) 25 5 .i64 .i64 Try.underlying25 hi hsz Aa ca (I F) (t : Int) ((t : Int) + (m : Int)) (Int.natCast_nonneg t) (by omega) (by rw [hIF]; omega) (by rw [hIF]; exact hc)
  have e1 : ((t : Int) + (m : Int)).toNat = t + m := by omega
  have e2 : ((t : Int)).toNat = t := rfl
  have e3 : ((I F).take (t + m)).drop t = I x := by rw [I_take, I_drop, hx]
  rw [e1, e2, e3] at h1 h2
  rw [hIF, I_len, hm] at h1 h2
  exact ⟨A', h1, fun w hw => Kd.C_of_reads (h1 := fun _ => rfl) (h2 w (Kd.reads_of_C hw))⟩
/-- What one more part of the input does. -/
theorem part_step (S : Set5) (s0 : RS) (P : List (List Nat)) (i : Nat) (h : i < P.length) (σ τ : WS) (hσ : σ = runW S ⟨s0, [], []⟩ (P.take i).flatten) (hτ : τ = runW S ⟨σ.s, σ.rest, []⟩ (P.getD i [])) : runW S ⟨s0, [], []⟩ (P.take (i + 1)).flatten = ⟨τ.s, τ.rest, σ.out ++ τ.out⟩ := by
  rw [take_flat P i h, runW_app, ← hσ, hτ]
  exact runW_out S (P.getD i []) σ.s σ.rest σ.out
theorem at_move {w w1 : World} {g : Nat} {l : List Int} (h : Marks.At w g l) (hm : w1.heap[g]? = w.heap[g]?) : Marks.At w1 g l := hm.trans h
theorem lens_take (o : List (List Nat)) (j : Nat) (h : j < o.length) : lens (o.take (j + 1)) = lens (o.take j) + (o.getD j []).length := by
  rw [List.take_succ_eq_append_getElem h, lens_app]; unfold lens; simp [h]
theorem lens_le (o : List (List Nat)) (j : Nat) : lens (o.take j) ≤ lens o := by
  conv => rhs; rw [← List.take_append_drop j o, lens_app]
  omega
theorem flat_get_le (P : List (List Nat)) (i : Nat) (h : i < P.length) : (P.take i).flatten.length + (P.getD i []).length ≤ P.flatten.length := take_flat_le P i h
end Go.Proofs.Ytoofafgnlgaajaa.RW
/- The walk of RabinStreams at good settings. Conditions: as the theorem says. -/
namespace Go.Proofs.Ytoofafgnlgaajaa.RW
open Go.RowKit Go.Proofs.Ytoofafgnlgaajaa.PRabin Go.Proofs.YtoofafgnlgaajaaW.PrintWords Go.Proofs.YtoofafgnlgaajaaW.PrintLast Go.Proofs.YtoofafgnlgaajaaW.PrintMore Go.Proofs.Ytoofafgnlgaajaa Go.Proofs.Ytoofafgnlgaajaa.PB
set_option linter.unusedVariables false
set_option linter.unusedSimpArgs false
def nilV : Nat → Value := fun _ => .slice none 0 0
theorem gs_start {B B1 : Nat} {w w4 : World} {c b g : Nat} {S : Set5} {s : RS} (hbel : Below B w w4) (hB : B ≤ B1) (hB1 : B1 ≤ w4.heap.size) (hc : B ≤ c) (hb : B ≤ b) (hg : B ≤ g) (hch : ChAt w4 B1 c b g S s (.slice none 0 0) []) :
    GS B w ((w4.alloc (.cells #[] 5)).alloc (.cells #[] 25)) c b g S s [] (.slice none 0 0) (.slice (some ⟨w4.heap.size + 1, 0, none⟩) 0 0) [] nilV (.slice none 0 0) [] nilV (.slice (some ⟨w4.heap.size, 0, none⟩) 0 0) [] := by
  have hch2 : ChAt ((w4.alloc (.cells #[] 5)).alloc (.cells #[] 25)) B c b g S s (.slice none 0 0) [] := by
    have h := hch.below (below_alloc (below_alloc (Below.refl w4.heap.size w4) (.cells #[] 5)) (.cells #[] 25))
    exact ⟨h.ck, h.ro, World.ownsRow_nil _ _ _ _, h.vg⟩
  have hB4 : B ≤ w4.heap.size := Nat.le_trans hB hB1
  have h5 : (w4.alloc (.cells #[] 5)).ownsRow B 5 1 (.slice (some ⟨w4.heap.size, 0, none⟩) 0 0) 0 (nums .u8 (I [])) := ⟨rfl, .inr ⟨w4.heap.size, 0, #[], rfl, hB4, heap_alloc_new w4 _, Nat.le_refl _, by simp [maxLen], rfl, rfl⟩⟩
  have h25 : ((w4.alloc (.cells #[] 5)).alloc (.cells #[] 25)).ownsRow B 25 1 (.slice (some ⟨w4.heap.size + 1, 0, none⟩) 0 0) 0 ((List.range 0).map nilV) := by
    have h0 := heap_alloc_new (w4.alloc (.cells #[] 5)) (.cells #[] 25)
    rw [World.size_alloc] at h0
    exact ⟨rfl, .inr ⟨w4.heap.size + 1, 0, #[], rfl, Nat.le_succ_of_le hB4, h0, Nat.le_refl _, by simp [maxLen], rfl, rfl⟩⟩
  refine ⟨below_then hbel hB4 (below_alloc (below_alloc (Below.refl w4.heap.size w4) _) _), ⟨hc, hb, hg⟩, hch2, ⟨h25, fun j hj => absurd hj (Nat.not_lt_zero _), fun i j hi => absurd hi (Nat.not_lt_zero _), fun j hj => absurd hj (Nat.not_lt_zero _)⟩, fun j hj => absurd hj (Nat.not_lt_zero _), OutAt.nil _ _ _ _ _, fun j hj => absurd hj (Nat.not_lt_zero _), own_alloc h5 _, ?_, fun j hj => absurd hj (Nat.not_lt_zero _), fun j hj => absurd hj (Nat.not_lt_zero _), ?_, ?_⟩
  · intro k hk e; simp [Value.ownBlock] at e
  · intro e
    have : w4.heap.size = g := by simpa [Value.ownBlock] using e
    have := hch.lt.2.2.1
    omega
  · intro k hk e; simp [Value.ownBlock] at e
set_option maxHeartbeats 8000000 in
set_option maxRecDepth 100000 in
theorem streams_main (k p W mn mx bt : Nat) (hp64 : p < 2 ^ 64) (he : rabin_Check.f k (p : Int) (W : Int) (mn : Int) (mx : Int) (bt : Int) = some none) (A2 : Option Addr) (N c2 m : Nat) (P : List (List Nat)) (l : List (List Int)) (el : l = P.map I) (hN : P.length = N) (hP : ∀ q ∈ P, ∀ x ∈ q, x < 256) (hN60 : N ≤ 60)
    (hsum : amphoranum_Sum.f 200 l 1048576 = some (m : Int)) (hm : m ≤ 16384) (hfl : P.flatten.length = m) (tw : Bool) (hcut : rabin_Cut.f k (p : Int) (W : Int) (mn : Int) (mx : Int) (bt : Int) (I P.flatten) = some (I ((cutL ⟨p, W, mn, mx, bt⟩ [] P.flatten).map List.length), none))
    (w : World) (hC : Kd.C (Kd.slice 5 (Kd.int .u8)) w A2 l.length l) (hc2 : N ≤ c2) :
    Calls Try.prog 8 #[.agg #[.int .u64 (p : Int), .int .i64 (W : Int), .int .i64 (mn : Int), .int .i64 (mx : Int), .int .i64 (bt : Int)], .slice A2 N c2, .bool tw] w fun e w' => e = .returned (.bool true) ∧ Below w.heap.size w w' := by
  have hu24 := Try.underlying24
  have hu31 := Try.underlying31
  have hu43 := Try.underlying43
  have HA := Aside0.mk (fun W : World => amphoralaw07_alive.calls 2000 true W alive_f)
  have G := Aside0.mk (Check_good hp64 he)
  have HCUT := Aside0.mk hcut
  have HC := Aside0.mk (Kd.C_alloc hC (.cells #[.int .u64 (p : Int), .int .i64 (W : Int), .int .i64 (mn : Int), .int .i64 (mx : Int), .int .i64 (bt : Int)] 24))
  have BK := Aside0.mk (heap_alloc_new w (.cells #[.int .u64 (p : Int), .int .i64 (W : Int), .int .i64 (mn : Int), .int .i64 (mx : Int), .int .i64 (bt : Int)] 24))
  have HWB := Aside0.mk (below_alloc (Below.refl w.heap.size w) (.cells #[.int .u64 (p : Int), .int .i64 (W : Int), .int .i64 (mn : Int), .int .i64 (mx : Int), .int .i64 (bt : Int)] 24))
  have HC2 := Aside0.mk hc2
  have HSUM := Aside0.mk hsum
  have HM := Aside0.mk hm
  have HFL := Aside0.mk hfl
  have HEL := Aside0.mk el
  have HN := Aside0.mk hN
  have HP := Aside0.mk hP
  have HN60 := Aside0.mk hN60
  have HLN := Aside0.mk (show l.length = N by rw [el, List.length_map]; exact hN)
  have HNEW := Aside0.mk (fun W' : World => new_at k p W mn mx bt hp64 he W')
  have d1 := decide_eq_false (show ¬ (N : Int) > 60 by omega)
  have d2 := decide_eq_false (show ¬ (m : Int) > 16384 by omega)
  obtain ⟨S, hS⟩ : ∃ S : Set5, S = ⟨p, W, mn, mx, bt⟩ := ⟨_, rfl⟩
  rw [← hS] at HCUT HNEW
  have HS := Aside0.mk hS
  clear hp64 he hC hc2 hsum hm hfl el hN hP hN60 hcut hS
  go_enter Try.func8, Try.ntmps8
  obtain ⟨w1, hw1⟩ : ∃ w1, w1 = w.alloc (.cells #[.int .u64 (p : Int), .int .i64 (W : Int), .int .i64 (mn : Int), .int .i64 (mx : Int), .int .i64 (bt : Int)] 24) := ⟨_, rfl⟩
  rw [← hw1] at HC BK HWB
  have HW1 := Aside0.mk hw1
  clear hw1
  go_wp2_with (first
    | (go_at_call 10; (with_reducible refine (HA.out _).mono ?_); rintro e1 w2 ⟨rfl, hb⟩; rw [← HW1.out] at hb; have HB := Aside0.mk hb; clear hb)
    | (go_at_call 22; refine (sum_n A2 N c2 m l _ HLN.out (Kd.C_below HC.out HB.out) HC2.out HSUM.out).mono ?_; rintro e1 w3 ⟨rfl, hd⟩; have HB3 := Aside0.mk (below_step HB.out hd.below); clear hd HB; obtain ⟨j0, j1, j2, j3, j4⟩ := cells5 (box5 BK.out HB3.out))
    | (go_at_call 23; (with_reducible refine (HNEW.out _).mono ?_); rintro e1 w4 ⟨c, b, g, hc, hb, hg, rfl, hbel, hch⟩; have hb3_ := HB3.out.size; have G0 := Aside0.mk (gs_start (below_step HB3.out hbel) hb3_ hbel.size (Nat.le_trans hb3_ hc) (Nat.le_trans hb3_ hb) (Nat.le_trans hb3_ hg) hch); clear hbel hch hb3_ hc hb hg j0 j1 j2 j3 j4 HB3))
  have HW0 := Aside0.mk (new0_ok G.out)
  have HI0 := Aside0.mk (new0_inv G.out)
  obtain ⟨s0, hs0⟩ : ∃ s0, s0 = new0 p W := ⟨_, rfl⟩
  rw [← hs0] at G0 HW0 HI0
  have HBT := Aside0.mk (show S.bt ≤ 55 by have h_ := G.out.b3; rw [HS.out]; show bt ≤ 55; omega)
  clear hs0
  go_loopg [9, 10, 11, 63] (N + 1) (fun kq v9 v10 v11 v63 wr => ∃ (i n : Nat) (v : Value) (V : Nat → Value), v63 = .int .i64 (i : Int) ∧ v11 = .int .i64 (n : Int) ∧ Aside0 (i + kq = N + 1) ∧ Aside0 (i ≤ N) ∧ Aside0 (n = (runW S ⟨s0, [], []⟩ (P.take i).flatten).rest.length) ∧
      Aside0 (GS w1.heap.size w1 wr c b g S (runW S ⟨s0, [], []⟩ (P.take i).flatten).s (runW S ⟨s0, [], []⟩ (P.take i).flatten).rest v v10 (runW S ⟨s0, [], []⟩ (P.take i).flatten).out V (.slice none 0 0) [] nilV v9 (P.take i).flatten))
  case atStart => exact ⟨0, 0, .slice none 0 0, nilV, rfl, rfl, ⟨by omega⟩, ⟨by omega⟩, ⟨rfl⟩, G0⟩
  case round =>
    clear G0
    obtain ⟨i, n, v, V, rfl, rfl, HI, HJ, HR, HG⟩ := hrel
    cases gk with
    | zero => exact absurd HI.out (by have := HJ.out; omega)
    | succ k1 =>
      by_cases c1 : (i : Int) < (N : Int)
      · have hiP : i < P.length := by rw [HN.out]; omega
        have hi60 : i ≤ 60 := by have := HN60.out; omega
        have HIP := Aside0.mk hiP
        obtain ⟨ad, A0, c0, rfl, hcell0, hc0, hCp⟩ := at_L3 HC.out (i : Int) (by omega) (by rw [HLN.out]; exact c1)
        have hcell := pw_cell_below HG.out.bel hcell0
        have hrd : rd_L3 l (i : Int) = I (P.getD i []) := by rw [HEL.out]; unfold rd_L3; simp [hiP]
        rw [hrd] at hcell hc0 hCp
        rw [I_len] at hcell hc0
        rw [show ((i : Int)).toNat = i from rfl] at hcell
        obtain ⟨q, hq⟩ : ∃ q, q = P.getD i [] := ⟨_, rfl⟩
        obtain ⟨σ, hσ⟩ : ∃ σ, σ = runW S ⟨s0, [], []⟩ (P.take i).flatten := ⟨_, rfl⟩
        rw [← hσ] at HR HG
        rw [← hq] at hcell hc0 hCp
        obtain ⟨τ, hτ⟩ : ∃ τ, τ = runW S ⟨σ.s, σ.rest, []⟩ q := ⟨_, rfl⟩
        have HST := Aside0.mk (part_step S s0 P i hiP σ τ hσ (hq ▸ hτ))
        have HFQ := Aside0.mk (show (P.take (i + 1)).flatten = (P.take i).flatten ++ q by rw [take_flat P i hiP, ← hq])
        have HLQ := Aside0.mk (show (P.take i).flatten.length + q.length ≤ 16384 by have h1 := flat_get_le P i hiP; have h2 := HFL.out; have h3 := HM.out; rw [← hq] at h1; omega)
        have HSQ := Aside0.mk (show ∀ x ∈ q, x < 256 by
          rw [hq, List.getD_eq_getElem?_getD, List.getElem?_eq_getElem hiP]
          exact HP.out _ (List.getElem_mem hiP))
        have HOK := Aside0.mk (show σ.s.Ok by
          rw [hσ]
          exact runW_ok _ _ HW0.out (fun y hy => by
            obtain ⟨z, hz, hyz⟩ := List.mem_flatten.1 hy
            exact HP.out z (List.mem_of_mem_take hz) y hyz))
        have HLR := Aside0.mk (show σ.rest.length + lens σ.out = (P.take i).flatten.length by
          rw [hσ]; have h1 := runW_lens S (P.take i).flatten s0 [] []; rw [h1]; show 0 + 0 + _ = _; omega)
        have HLT := Aside0.mk (show τ.rest.length + lens τ.out = σ.rest.length + q.length by
          rw [hτ, runW_lens S q σ.s σ.rest []]; show σ.rest.length + 0 + _ = _; omega)
        have HLO := Aside0.mk (show τ.out.length ≤ q.length ∧ σ.out.length ≤ (P.take i).flatten.length by
          have h1 := runW_len S q ⟨σ.s, σ.rest, []⟩
          have h2 := runW_len S (P.take i).flatten ⟨s0, [], []⟩
          rw [← hτ] at h1
          rw [← hσ] at h2
          have e1 : (⟨σ.s, σ.rest, []⟩ : WS).out.length = 0 := rfl
          have e2 : (⟨s0, [], []⟩ : WS).out.length = 0 := rfl
          omega)
        have HCP := Aside0.mk hCp
        have HC0 := Aside0.mk hc0
        have HTAU := Aside0.mk hτ
        obtain ⟨L, hL⟩ : ∃ L, L = (P.take i).flatten := ⟨_, rfl⟩
        rw [← hL] at HG HFQ HLQ HLR HLO
        have HNQ := Aside0.mk (show (I q).length = q.length from I_len q)
        obtain ⟨nq, hnq⟩ : ∃ nq, nq = q.length := ⟨_, rfl⟩
        rw [← hnq] at hcell HC0 HLQ HLT HLO HNQ
        have hq1 : nq ≤ 16384 := by have := HLQ.out; omega
        have hn1 : n ≤ 16384 := by have := HLR.out; have := HLQ.out; have := HR.out; omega
        have HQN := Aside0.mk hnq
        have p0 := eq_true (Int.natCast_nonneg i)
        have p1 := eq_true c1
        have c1b := decide_eq_true c1
        clear hiP hrd hq hσ hτ hL hnq hc0 hCp hcell0
        go_upto_if 75 with (first
          | (go_at_call 12; refine (copy_n A0 c0 nq (I q) _ HNQ.out (Kd.C_below HCP.out HG.out.bel) HC0.out (by omega)).mono ?_; rintro e1 w5 ⟨gm, rfl, hgm, hat, hb⟩; have G5 := Aside0.mk (HG.out.below HG.out.size hb); have AT5 := Aside0.mk hat; have NB5 := Aside0.mk (fun k hk => show k ≠ gm from fun e => by have h_ := HG.out.lt (k := k) hk; omega); have GM5 := Aside0.mk (And.intro hgm (blk_lt hat)); clear hgm hat hb)
          | (at_builtin; refine ev_append_c rfl (.tmp 70) (.tmp 71) rfl w1.heap.size u9 L.length _ rfl G5.out.all A0 nq c0 (I q) rfl (HNQ.out ▸ Kd.C_below HCP.out G5.out.bel) (by have h_ := HLQ.out; omega) G5.out.size ?_; intro va1 w6 o6 g6 a6; have G6 := Aside0.mk (G5.out.grow (HQN.out ▸ o6) g6 a6); have AT6 := Aside0.mk (at_move AT5.out (g6.block gm GM5.out.2 (fun e => NB5.out gm (.inr (.inr (.inr (.inr (.inr (.inr (.inl e.symm))))))) rfl))); have NB6 := Aside0.mk (blk_va NB5.out a6 GM5.out.2); have GM6 := Aside0.mk (Nat.lt_of_lt_of_le GM5.out.2 g6.size); clear o6 g6 a6 G5 AT5 NB5))
        have GLO := Aside0.mk (show w1.heap.size ≤ gm from Nat.le_trans HG.out.size GM5.out.1)
        go_cut [15] (fun v15 wc => ∃ (n0 : Nat) (v' : Value) (NN : Nat → Value), Aside0 (MS w1.heap.size w1 wc c b g S τ.s τ.rest v' u10 σ.out V (.slice none 0 0) [] nilV va1 (L ++ q) n0 v15 τ.out NN) ∧ Aside0 (Marks.At wc gm (I q)) ∧
          Aside0 (∀ k, (Blk c b g v' u10 σ.out V (.slice none 0 0) [] nilV va1 k ∨ v15.ownBlock = some k ∨ ∃ j, j < τ.out.length ∧ (NN j).ownBlock = some k) → k ≠ gm))
        case first =>
          have HX1 := Aside0.mk (show ¬ (gm = c ∨ gm = b ∨ gm = g ∨ v.ownBlock = some gm) from fun e => by
            rcases e with e | e | e | e
            · exact NB6.out gm (.inl e) rfl
            · exact NB6.out gm (.inr (.inl e)) rfl
            · exact NB6.out gm (.inr (.inr (.inl e))) rfl
            · exact NB6.out gm (.inr (.inr (.inr (.inl e)))) rfl)
          rcases Bool.eq_false_or_eq_true ((i : Int) % 3 == 1) with cm | cm
          · obtain ⟨h, hh⟩ : ∃ h, h = nq / 2 := ⟨_, rfl⟩
            have hs1 : ∀ Wx : World, (Instr.slice 25 (.slice (some ⟨gm, 0, none⟩) nq (nq + 2)) none (some (.int .i64 (h : Int))) none).run Try.prog Wx = .ok (.slice (some ⟨gm, 0, none⟩) h (nq + 2)) Wx := fun Wx => Marks.cut_to Wx _ _ _ h (by omega)
            have hs2 : ∀ Wx : World, (Instr.slice 25 (.slice (some ⟨gm, 0, none⟩) nq (nq + 2)) (some (.int .i64 (h : Int))) none none).run Try.prog Wx = .ok (.slice (some ⟨gm, h, none⟩) (nq - h) (nq + 2 - h)) Wx := fun Wx => cut_from8 Wx gm nq (nq + 2) h (by omega) (by omega)
            have hd1 : (nq : Int).tdiv 2 = (h : Int) := by rw [hh]; exact tdiv2 nq
            have hd2 : (nq : Int) / 2 = (h : Int) := by omega
            have hw2 : IntKind.i64.wrap (h : Int) = (h : Int) := IntWalk.i64_in _ (by omega)
            have HH := Aside0.mk hh
            clear hh
            have hX2 : ¬ (w6.heap.size = c ∨ w6.heap.size = b ∨ w6.heap.size = g ∨ v.ownBlock = some w6.heap.size) := fun e => by
              obtain ⟨l1, l2, l3, l4⟩ := G6.out.ch.lt
              rcases e with e | e | e | e
              · omega
              · omega
              · omega
              · have := l4 _ e; omega
            obtain ⟨W7, hW7⟩ : ∃ W7, W7 = (w6.alloc (.cells #[.slice (some ⟨gm, 0, none⟩) h (nq + 2), .slice (some ⟨gm, h, none⟩) (nq - h) (nq + 2 - h)] 25)).drew := ⟨_, rfl⟩
            have hb7 : Below w6.heap.size w6 W7 := by rw [hW7]; exact pw_below_drewN (below_alloc (Below.refl _ _) _) 1
            have G7 := Aside0.mk (G6.out.below G6.out.size hb7)
            have AT7 := Aside0.mk (AT6.out.below hb7)
            have RD7 := Aside0.mk (show Rd (fun k => k = c ∨ k = b ∨ k = g ∨ v.ownBlock = some k) W7 (some ⟨w6.heap.size, 0, none⟩) [q.take h, q.drop h] from by
              have ho := own_at AT7.out HNQ.out GLO.out (by omega)
              have hq7 : W7.heap[w6.heap.size]? = some (.cells #[.slice (some ⟨gm, 0, none⟩) h (nq + 2), .slice (some ⟨gm, h, none⟩) (nq - h) (nq + 2 - h)] 25 (0, 0)) := by rw [hW7]; exact heap_alloc_new w6 _
              exact rd_halves ho HQN.out.symm (by omega) (by omega) (by omega) hq7 hX2 HX1.out)
            have HW7 := Aside0.mk hW7
            clear hX2 hb7 hW7
            go_wp2_with (fail)
            go_region_with (first
              | (go_at_call 25; rw [← HW7.out]; refine (write_2 w1.heap.size c b g h q (some ⟨w6.heap.size, 0, none⟩) S σ.s v σ.rest _ G7.out.size G7.out.ch HOK.out HBT.out HSQ.out (by have h1 := HLR.out; have h2 := HLQ.out; have h3 := HQN.out; omega) RD7.out).mono ?_; rintro e1 w8 ⟨v8, N0, NN, rfl, hinv⟩; rw [← HTAU.out] at hinv; have M8 := Aside0.mk (G7.out.step hinv); have AT8 := Aside0.mk (at_move AT7.out (hinv.ex.block gm (blk_lt AT7.out) HX1.out)); clear hinv))
            go_wp2_with (fail)
            go_meet
            case rel => exact ⟨_, v8, NN, ⟨M8.out.1⟩, AT8, ⟨fun k hk => by
              rcases M8.out.2 k hk with h_ | h_
              · exact NB6.out k h_
              · have := blk_lt AT7.out; omega⟩⟩
          · have hX2 : ¬ (w6.heap.size = c ∨ w6.heap.size = b ∨ w6.heap.size = g ∨ v.ownBlock = some w6.heap.size) := fun e => by
              obtain ⟨l1, l2, l3, l4⟩ := G6.out.ch.lt
              rcases e with e | e | e | e
              · omega
              · omega
              · omega
              · have := l4 _ e; omega
            obtain ⟨W7, hW7⟩ : ∃ W7, W7 = w6.alloc (.cells #[.slice (some ⟨gm, 0, none⟩) nq (nq + 2)] 25) := ⟨_, rfl⟩
            have hb7 : Below w6.heap.size w6 W7 := by rw [hW7]; exact below_alloc (Below.refl _ _) _
            have G7 := Aside0.mk (G6.out.below G6.out.size hb7)
            have AT7 := Aside0.mk (AT6.out.below hb7)
            have RD7 := Aside0.mk (show Rd (fun k => k = c ∨ k = b ∨ k = g ∨ v.ownBlock = some k) W7 (some ⟨w6.heap.size, 0, none⟩) [q] from by
              have ho := own_at AT7.out HNQ.out GLO.out (by omega)
              rw [HQN.out] at ho
              have hq7 : W7.heap[w6.heap.size]? = some (.cells #[.slice (some ⟨gm, 0, none⟩) q.length (q.length + 2)] 25 (0, 0)) := by rw [hW7, HQN.out]; exact heap_alloc_new w6 _
              exact rd_own ho hq7 hX2 (fun k hk => by
                have hk' : gm = k := by simpa [Value.ownBlock] using hk
                subst hk'
                exact HX1.out))
            have HW7 := Aside0.mk hW7
            clear hX2 hb7 hW7
            go_wp2_with (first
              | (go_at_call 25; rw [← HW7.out]; refine (write_1 w1.heap.size c b g q (some ⟨w6.heap.size, 0, none⟩) S σ.s v σ.rest _ G7.out.size G7.out.ch HOK.out HBT.out HSQ.out (by have h1 := HLR.out; have h2 := HLQ.out; have h3 := HQN.out; omega) RD7.out).mono ?_; rintro e1 w8 ⟨v8, N0, NN, rfl, hinv⟩; rw [← HTAU.out] at hinv; have M8 := Aside0.mk (G7.out.step hinv); have AT8 := Aside0.mk (at_move AT7.out (hinv.ex.block gm (blk_lt AT7.out) HX1.out)); clear hinv))
            go_meet
            case rel => exact ⟨_, v8, NN, ⟨M8.out.1⟩, AT8, ⟨fun k hk => by
              rcases M8.out.2 k hk with h_ | h_
              · exact NB6.out k h_
              · have := blk_lt AT7.out; omega⟩⟩
        case rest =>
          clear G6 AT6 NB6 GM6
          obtain ⟨n0, v', NN, M8, AT8, NB8⟩ := hcut
          obtain ⟨AN, cN, h15, _⟩ := Apart.form M8.out.new.row
          subst h15
          go_wp2_with (first
            | (go_at_call 18; refine (kept_n gm c0 nq A0 (I q) _ HNQ.out AT8.out (Kd.C_below HCP.out M8.out.gs.bel) HC0.out (by omega)).mono ?_; rintro e1 w9 ⟨rfl, hd⟩; have M9 := Aside0.mk (M8.out.below hd.below); have AT9 := Aside0.mk (AT8.out.below hd.below); clear hd M8 AT8)
            | (go_at_call 26; refine (over_calls gm nq (nq + 2) _ (by omega) (by omega) (at_u8s AT9.out (Nat.le_of_eq HNQ.out.symm))).mono ?_; rintro e1 w10 ⟨⟨vv, rfl⟩, hE⟩; have M10 := Aside0.mk (M9.out.else_ hE (fun k hk e => NB8.out k hk e) (fun k e => e ▸ GLO.out)); clear hE M9 AT9))
          go_loopg [11, 105] (τ.out.length + 1) (fun kq v11 v105 wx => ∃ j t : Nat, v105 = .int .i64 (j : Int) ∧ v11 = .int .i64 (t : Int) ∧ Aside0 (j + kq = τ.out.length + 1) ∧ Aside0 (j ≤ τ.out.length) ∧ Aside0 (t + lens (τ.out.take j) = n + nq) ∧ Aside0 (MS w1.heap.size w1 wx c b g S τ.s τ.rest v' u10 σ.out V (.slice none 0 0) [] nilV va1 (L ++ q) n0 (.slice AN τ.out.length cN) τ.out NN))
          case atStart => exact ⟨0, n + nq, rfl, by first | rfl | (simp; done), ⟨by omega⟩, ⟨by omega⟩, ⟨rfl⟩, M10⟩
          case round =>
            clear M10
            obtain ⟨j, t, rfl, rfl, HI2, HJ2, HT, MM⟩ := hrel
            cases gk with
            | zero => exact absurd HI2.out (by have := HJ2.out; omega)
            | succ k2 =>
              by_cases c2 : (j : Int) < (τ.out.length : Int)
              · obtain ⟨qb, A9, c9, rfl, hcl, _, hl9, _⟩ := MM.out.new.cells j (by omega)
                have HLJ := Aside0.mk (lens_take τ.out j (by omega))
                have HLE := Aside0.mk (lens_le τ.out (j + 1))
                obtain ⟨lj, hlj⟩ : ∃ lj, lj = (τ.out.getD j []).length := ⟨_, rfl⟩
                rw [← hlj] at hcl HLJ
                have ht1 : lj ≤ t := by have h1 := HT.out; have h2 := HLJ.out; have h3 := HLE.out; have h4 := HLT.out; have h5 := HR.out; omega
                have ht2 : t ≤ 100000 := by have h1 := HT.out; omega
                have hm2 : τ.out.length ≤ 100000 := by have := HLO.out; omega
                have p2 := eq_true (Int.natCast_nonneg j)
                have p3 := eq_true c2
                have c2b := decide_eq_true c2
                clear hl9 hlj
                go_wp2
                go_roundg k2
                case measure => omega
                case rel => exact ⟨j + 1, t - lj, (by first | rfl | (simp; done)), (by first | exact congrArg (Value.int .i64) (Int.ofNat_sub ht1).symm | (simp; done)), ⟨by have := HI2.out; omega⟩, ⟨by omega⟩, ⟨by have h1 := HT.out; have h2 := HLJ.out; omega⟩, MM⟩
              · have hj : j = τ.out.length := by have := HJ2.out; omega
                have ht : t = τ.rest.length := by
                  have h1 := HT.out
                  rw [hj, List.take_length] at h1
                  have h2 := HLT.out
                  have h3 := HR.out
                  omega
                subst ht
                have c2b := decide_eq_false c2
                obtain ⟨A8, c8, h8, _⟩ := Apart.form MM.out.gs.ch.own
                subst h8
                have hrr : ((τ.rest.length : Int) != (τ.rest.length : Int)) = false := bne_eq_false_iff_eq.mpr rfl
                have HO1 := Aside0.mk (show σ.out.length + τ.out.length ≤ 100000 by have := HLO.out; have := HLQ.out; omega)
                clear hj
                go_wp2_with (first
                  | (at_builtin; refine ev_append_own rfl (.tmp 114) (.tmp 115) 50 rfl w1.heap.size 25 (.slice none 0 0) 24 Try.underlying50 infoSL rfl u10 σ.out.length ((List.range σ.out.length).map V) rfl MM.out.gs.out.row (.slice AN τ.out.length cN) n0 τ.out.length ((List.range τ.out.length).map NN) rfl MM.out.new.row MM.out.new.one ?h63 ?hby ?hbase ?_; (case h63 => have := HO1.out; simp only [maxLen]; omega); (case hby => have := HO1.out; omega); (case hbase => exact MM.out.gs.size); intro V1 w12 h1 hg hat; have G12 := Aside0.mk (MM.out.append h1 hg hat); clear h1 hg hat)
                  | (go_at_call 27; refine (left_calls c b τ.rest.length c8 A8 S _ G12.out.ch.ck).mono ?_; rintro e1 w13 ⟨rfl, hd⟩; have G13 := Aside0.mk (G12.out.below G12.out.size hd.below); clear hd G12))
                go_roundg k1
                case measure => omega
                case rel => exact ⟨i + 1, τ.rest.length, .slice A8 τ.rest.length c8, _, (by first | rfl | (simp; done)), rfl, ⟨by have := HI.out; omega⟩, ⟨by omega⟩, ⟨by rw [HST.out]⟩, ⟨by rw [HST.out, HFQ.out]; exact G13.out⟩⟩
      · have hi : i = N := by have := HJ.out; omega
        have c1b := decide_eq_false c1
        obtain ⟨F, hF⟩ : ∃ F, F = P.flatten := ⟨_, rfl⟩
        have hPT : (P.take i).flatten = F := by rw [hi, ← HN.out, List.take_length, hF]
        rw [hPT] at HG HR
        rw [← hF] at HFL HCUT
        have HSF := Aside0.mk (show ∀ x ∈ F, x < 256 by
          rw [hF]
          intro y hy
          obtain ⟨z, hz, hyz⟩ := List.mem_flatten.1 hy
          exact HP.out z hz y hyz)
        obtain ⟨σ, hσ⟩ : ∃ σ, σ = runW S ⟨s0, [], []⟩ F := ⟨_, rfl⟩
        have hRI : RSInv s0 S.W S.p [] := by rw [HS.out]; exact HI0.out
        obtain ⟨hW1, hW2, hW3⟩ := whole S s0 F hRI HSF.out
        have hOKs : σ.s.Ok := by rw [hσ]; exact runW_ok _ _ HW0.out HSF.out
        have hOK2 : (endW ⟨σ.s, σ.rest, []⟩).s.Ok := by unfold endW; split; exact hOKs; exact hOKs.reset
        rw [← hσ] at HG HR hW1 hW2 hW3
        obtain ⟨τ, hτ⟩ : ∃ τ, τ = endW ⟨σ.s, σ.rest, []⟩ := ⟨_, rfl⟩
        rw [← hτ] at hW1 hW2 hW3 hOK2
        have HTAU := Aside0.mk hτ
        have HW3 := Aside0.mk hW3
        have HRI2 := Aside0.mk hW2
        have HOK2 := Aside0.mk hOK2
        obtain ⟨C, hC⟩ : ∃ C, C = cutL S [] F := ⟨_, rfl⟩
        rw [← hC] at hW1 HCUT
        have HCC := Aside0.mk hW1
        have HCF := Aside0.mk (show C.flatten = F by rw [hC]; exact cutL_flat S F [])
        have HCD := Aside0.mk hC
        have HCL := Aside0.mk (show C.length ≤ 20000 by have h1 := cutL_len S F []; have h2 := HFL.out; have h3 := HM.out; rw [hC]; omega)
        have HCO := Aside0.mk (show σ.out.length + τ.out.length ≤ 100000 by have h1 := congrArg List.length hW1; rw [List.length_append] at h1; have h2 := HCL.out; omega)
        clear hi hPT hF hσ hRI hW1 hW2 hW3 hOKs hOK2 hτ hC
        go_upto_if 135 with (first
          | (go_at_call 28; refine (end_calls w1.heap.size c b g S σ.s v σ.rest _ HG.out.size HG.out.ch).mono ?_; rintro e1 w15 ⟨v15, N15, V15, rfl, _, hinv⟩; rw [← HTAU.out] at hinv; have M15 := Aside0.mk (HG.out.step hinv).1; clear hinv HG)
          | (at_builtin; refine ev_append_own rfl (.tmp 122) (.tmp 124) 50 rfl w1.heap.size 25 (.slice none 0 0) 24 Try.underlying50 infoSL rfl u10 σ.out.length ((List.range σ.out.length).map V) rfl M15.out.gs.out.row N15 _ τ.out.length ((List.range τ.out.length).map V15) rfl M15.out.new.row M15.out.new.one ?h63 ?hby ?hbase ?_; (case h63 => have := HCO.out; simp only [maxLen]; omega); (case hby => have := HCO.out; omega); (case hbase => exact M15.out.gs.size); intro V16 w16 h1 hg hat; have G16 := Aside0.mk (M15.out.append h1 hg hat); clear h1 hg hat M15; rw [HCC.out, HW3.out] at G16; obtain ⟨A8, c8, h8, _⟩ : ∃ A c, v15 = .slice A 0 c ∧ True := (let ⟨A, c, h_, _⟩ := Apart.form G16.out.ch.own; ⟨A, c, h_, trivial⟩); subst h8)
          | (go_at_call 27; refine (left_0 c b c8 A8 S _ G16.out.ch.ck).mono ?_; rintro e1 w17 ⟨rfl, hd⟩; have G17 := Aside0.mk (G16.out.below G16.out.size hd.below); clear hd G16)
          | (go_at_call 28; refine (end_0 w1.heap.size c b g S τ.s _ _ G17.out.size G17.out.ch).mono ?_; rintro e1 w18 ⟨v18, V18, rfl, hinv⟩; have G18 := Aside0.mk (G17.out.step hinv).1.gs; clear hinv G17))
        obtain ⟨VV, hVV⟩ : ∃ VV : Nat → Value, VV = fun j => if j < σ.out.length then V j else V15 (j - σ.out.length) := ⟨_, rfl⟩
        rw [← hVV] at G18
        clear hVV
        have HLF := Aside0.mk (show F.length ≤ 16384 by have := HFL.out; have := HM.out; omega)
        go_cut [] (fun wc => Aside0 (Below w1.heap.size w1 wc) ∧ Aside0 (OutAt wc w1.heap.size w1.heap.size g V16 C VV) ∧ Aside0 (wc.ownsRow w1.heap.size 5 1 u9 F.length (nums .u8 (I F))))
        case first =>
          cases tw with
          | false =>
            go_wp2
            go_meet
            case rel => exact ⟨⟨G18.out.bel⟩, ⟨G18.out.out⟩, ⟨G18.out.all⟩⟩
          | true =>
            obtain ⟨Aa, ca, h9, _⟩ := Apart.form G18.out.all
            subst h9
            obtain ⟨A16, c16, h16, _⟩ := Apart.form G18.out.out.row
            subst h16
            have hX2 : ¬ (w18.heap.size = c ∨ w18.heap.size = b ∨ w18.heap.size = g ∨ v18.ownBlock = some w18.heap.size) := fun e => by
              obtain ⟨l1, l2, l3, l4⟩ := G18.out.ch.lt
              rcases e with e | e | e | e
              · omega
              · omega
              · omega
              · have := l4 _ e; omega
            obtain ⟨W7, hW7⟩ : ∃ W7, W7 = w18.alloc (.cells #[.slice Aa F.length ca] 25) := ⟨_, rfl⟩
            have hb7 : Below w18.heap.size w18 W7 := by rw [hW7]; exact below_alloc (Below.refl _ _) _
            have G7 := Aside0.mk (G18.out.below G18.out.size hb7)
            have RD7 := Aside0.mk (show Rd (fun k => k = c ∨ k = b ∨ k = g ∨ v18.ownBlock = some k) W7 (some ⟨w18.heap.size, 0, none⟩) [F] from by
              have hq7 : W7.heap[w18.heap.size]? = some (.cells #[.slice Aa F.length ca] 25 (0, 0)) := by rw [hW7]; exact heap_alloc_new w18 _
              obtain ⟨_, hb0⟩ := G7.out.ch.roblk
              refine rd_own G7.out.all hq7 hX2 (fun k hk e => ?_)
              rcases e with e | e | e | e
              · exact own_nb G7.out.all G7.out.ch.ck (by decide) (e ▸ hk)
              · exact own_nb G7.out.all hb0 (by decide) (e ▸ hk)
              · exact G7.out.ag (e ▸ hk)
              · exact G7.out.av k hk e)
            have HW7 := Aside0.mk hW7
            obtain ⟨hX1, hX3, hX4⟩ := whole S τ.s F HRI2.out HSF.out
            obtain ⟨τ1, hτ1⟩ : ∃ τ1, τ1 = runW S ⟨τ.s, [], []⟩ F := ⟨_, rfl⟩
            rw [← hτ1] at hX1
            obtain ⟨τ2, hτ2⟩ : ∃ τ2, τ2 = endW ⟨τ1.s, τ1.rest, []⟩ := ⟨_, rfl⟩
            rw [← hτ2, ← HCD.out] at hX1
            have HX1 := Aside0.mk hX1
            have HT1 := Aside0.mk hτ1
            have HT2 := Aside0.mk hτ2
            have HO2 := Aside0.mk (show τ1.out.length + τ2.out.length ≤ 100000 by have h1 := congrArg List.length hX1; rw [List.length_append] at h1; have h2 := HCL.out; omega)
            have hrr : ((C.length : Int) != (C.length : Int)) = false := bne_eq_false_iff_eq.mpr rfl
            clear hX2 hb7 hW7 hX1 hX3 hX4 hτ1 hτ2 G18
            go_wp2_with (first
              | (go_at_call 25; rw [← HW7.out]; refine (write_1 w1.heap.size c b g F (some ⟨w18.heap.size, 0, none⟩) S τ.s v18 [] _ G7.out.size G7.out.ch HOK2.out HBT.out HSF.out (by have h1 := HLF.out; simp only [List.length_nil]; omega) RD7.out).mono ?_; rintro e1 w20 ⟨v20, N20, V20, rfl, hinv⟩; rw [← HT1.out] at hinv; have M20 := Aside0.mk (G7.out.step hinv).1.swap; clear hinv)
              | (go_at_call 28; refine (end_calls w1.heap.size c b g S τ1.s v20 τ1.rest _ M20.out.size M20.out.ch).mono ?_; rintro e1 w21 ⟨v21, N21, V21, rfl, _, hinv⟩; rw [← HT2.out] at hinv; have M21 := Aside0.mk (M20.out.step hinv).1; clear hinv)
              | (at_builtin; refine ev_append_own rfl (.tmp 139) (.tmp 141) 50 rfl w1.heap.size 25 (.slice none 0 0) 24 Try.underlying50 infoSL rfl N20 τ1.out.length ((List.range τ1.out.length).map V20) rfl M21.out.gs.out.row N21 _ τ2.out.length ((List.range τ2.out.length).map V21) rfl M21.out.new.row M21.out.new.one ?h63 ?hby ?hbase ?_; (case h63 => have := HO2.out; simp only [maxLen]; omega); (case hby => have := HO2.out; omega); (case hbase => exact M21.out.gs.size); intro V22 w22 h1 hg hat; have G22 := Aside0.mk (M21.out.append h1 hg hat); clear h1 hg hat M21 M20 G7; rw [HX1.out] at G22; obtain ⟨A22, c22, h22, _⟩ := Apart.form G22.out.out.row; subst h22))
            obtain ⟨VX, hVX⟩ : ∃ VX : Nat → Value, VX = fun j => if j < τ1.out.length then V20 j else V21 (j - τ1.out.length) := ⟨_, rfl⟩
            rw [← hVX] at G22
            clear hVX
            go_loopg [150] (C.length + 1) (fun kq v150 wx => ∃ j : Nat, v150 = .int .i64 (j : Int) ∧ Aside0 (j + kq = C.length + 1) ∧ Aside0 (j ≤ C.length) ∧ Aside0 (GS w1.heap.size w1 wx c b g S τ2.s τ2.rest v21 (.slice A22 C.length c22) C VX (.slice A16 C.length c16) C VV (.slice Aa F.length ca) F))
            case atStart => exact ⟨0, rfl, ⟨by omega⟩, ⟨by omega⟩, G22⟩
            case round =>
              clear G22
              obtain ⟨j, rfl, HI2, HJ2, GG⟩ := hrel
              cases gk with
              | zero => exact absurd HI2.out (by have := HJ2.out; omega)
              | succ k2 =>
                by_cases c2 : (j : Int) < (C.length : Int)
                · obtain ⟨q1, A1, c1, rfl, hcl1, _, hl1, hC1⟩ := GG.out.out.cells j (by omega)
                  obtain ⟨q3, A3, c3, rfl, hcl3, _, hl3, hC3⟩ := GG.out.ex.cells j (by omega)
                  obtain ⟨x, hx⟩ : ∃ x, x = C.getD j [] := ⟨_, rfl⟩
                  rw [← hx] at hcl1 hC1 hcl3 hC3
                  have hv1 : ∀ mm : Nat, (convert 25 9 (.slice A1 x.length c1)).run Try.prog (wr.drewN mm) = .ok (.string (strOfNums (I x))) (wr.drewN mm) := fun mm => Kd.C_string (P := Try.prog) Try.underlying25 Try.underlying5 Try.underlying9 (Kd.C_drewN hC1 mm)
                  have hv3 : ∀ mm : Nat, (convert 25 9 (.slice A3 x.length c3)).run Try.prog (wr.drewN mm) = .ok (.string (strOfNums (I x))) (wr.drewN mm) := fun mm => Kd.C_string (P := Try.prog) Try.underlying25 Try.underlying5 Try.underlying9 (Kd.C_drewN hC3 mm)
                  obtain ⟨st, hst⟩ : ∃ st, st = strOfNums (I x) := ⟨_, rfl⟩
                  rw [← hst] at hv1 hv3
                  have hm2 : C.length ≤ 20000 := HCL.out
                  have p2 := eq_true (Int.natCast_nonneg j)
                  have p3 := eq_true c2
                  have c2b := decide_eq_true c2
                  clear hl1 hl3 hC1 hC3 hst hx
                  go_wp2
                  go_quiet (fail)
                  go_wp2
                  go_roundg k2
                  case measure => omega
                  case rel => exact ⟨j + 1, (by first | rfl | (simp; done)), ⟨by have := HI2.out; omega⟩, ⟨by omega⟩, ⟨GG.out.below GG.out.size (pw_below_drewN (Below.refl _ _) _)⟩⟩
                · have c2b := decide_eq_false c2
                  go_wp2
                  go_meet
                  case rel => exact ⟨⟨GG.out.bel⟩, ⟨GG.out.ex⟩, ⟨GG.out.all⟩⟩
        case rest =>
          obtain ⟨HBL, HOT, HAL⟩ := hcut
          obtain ⟨Aa, ca, h9, _⟩ := Apart.form HAL.out
          subst h9
          obtain ⟨A16, c16, h16, _⟩ := Apart.form HOT.out.row
          subst h16
          obtain ⟨j0, j1, j2, j3, j4⟩ := cells5 (box5 BK.out HBL.out)
          have hrr : ((C.length : Int) != (C.length : Int)) = false := bne_eq_false_iff_eq.mpr rfl
          have HCA := Aside0.mk (own_C HAL.out (I_len F))
          go_wp2_with (first
            | (go_at_call 13; refine (cut_n k (p : Int) (W : Int) (mn : Int) (mx : Int) (bt : Int) Aa ca F.length C.length (I F) (I (C.map List.length)) _ (I_len F) (by rw [I_len, List.length_map]) HCA.out.2 HCA.out.1 HCUT.out).mono ?_; rintro e1 w25 ⟨A20, c20, rfl, hc20, hC20, hb⟩; have HB25 := Aside0.mk (below_step HBL.out hb); have O25 := Aside0.mk (HOT.out.below hb); have A25 := Aside0.mk (pw_own_below HAL.out hb); have C25 := Aside0.mk hC20; clear hb hC20 hc20 j0 j1 j2 j3 j4))
          go_loopg [22, 182] (C.length + 1) (fun kq v22 v182 wr => ∃ j t : Nat, v182 = .int .i64 (j : Int) ∧ v22 = .int .i64 (t : Int) ∧ Aside0 (j + kq = C.length + 1) ∧ Aside0 (j ≤ C.length) ∧ Aside0 (t = lens (C.take j)) ∧ Aside0 (Below w1.heap.size w1 wr) ∧ Aside0 (OutAt wr w1.heap.size w1.heap.size g (.slice A16 C.length c16) C VV) ∧ Aside0 (wr.ownsRow w1.heap.size 5 1 (.slice Aa F.length ca) F.length (nums .u8 (I F))) ∧ Aside0 (Kd.C (Kd.int .i64) wr A20 C.length (I (C.map List.length))))
          case atStart => exact ⟨0, 0, rfl, rfl, ⟨by omega⟩, ⟨by omega⟩, ⟨rfl⟩, HB25, O25, A25, C25⟩
          case round =>
            clear HB25 O25 A25 C25 HCA HBL HOT HAL
            obtain ⟨j, t, rfl, rfl, HI2, HJ2, HT, HBL, HOT, HAL, HWA⟩ := hrel
            cases gk with
            | zero => exact absurd HI2.out (by have := HJ2.out; omega)
            | succ k2 =>
              by_cases c2 : (j : Int) < (C.length : Int)
              · have hjc : j < C.length := by omega
                obtain ⟨q3, A3, c3, rfl, hcl3, _, hl3, hC3⟩ := HOT.out.cells j hjc
                obtain ⟨ad4, rfl, hcl4⟩ := Kd.at_int HWA.out (j : Int) (by omega) (by omega)
                have hrd4 : rd (I (C.map List.length)) (j : Int) = (((C.getD j []).length : Nat) : Int) := by unfold rd I; simp [hjc]
                rw [hrd4, show ((j : Int)).toNat = j from rfl] at hcl4
                obtain ⟨x, hx⟩ : ∃ x, x = C.getD j [] := ⟨_, rfl⟩
                have hLT := lens_take C j hjc
                have hca := chunk_at C j hjc
                have hle := lens_le C (j + 1)
                rw [← hx] at hcl3 hC3 hcl4 hLT hca hl3
                rw [HCF.out, ← HT.out] at hca
                have hlF : lens C = F.length := by rw [lens_flat, HCF.out]
                obtain ⟨m3, hm3⟩ : ∃ m3, m3 = x.length := ⟨_, rfl⟩
                rw [← hm3] at hcl3 hC3 hcl4 hLT hca
                have hT := HT.out
                obtain ⟨A5, hs5, hC5⟩ := mid_n Aa ca F.length t m3 F x rfl (own_C HAL.out (I_len F)).1 hca hm3.symm (by omega)
                have hC6 := hC5 _ (own_C HAL.out (I_len F)).2
                have hv1 : ∀ mm : Nat, (convert 25 9 (.slice A3 m3 c3)).run Try.prog (wr.drewN mm) = .ok (.string (strOfNums (I x))) (wr.drewN mm) := fun mm => Kd.C_string (P := Try.prog) Try.underlying25 Try.underlying5 Try.underlying9 (Kd.C_drewN hC3 mm)
                have hv3 : ∀ mm : Nat, (convert 25 9 (.slice A5 m3 (ca - t))).run Try.prog (wr.drewN mm) = .ok (.string (strOfNums (I x))) (wr.drewN mm) := fun mm => Kd.C_string (P := Try.prog) Try.underlying25 Try.underlying5 Try.underlying9 (Kd.C_drewN hC6 mm)
                obtain ⟨st, hst⟩ : ∃ st, st = strOfNums (I x) := ⟨_, rfl⟩
                rw [← hst] at hv1 hv3
                have hm2 : C.length ≤ 20000 := HCL.out
                have hF2 : F.length ≤ 16384 := HLF.out
                have ht2 : t ≤ 16384 := by omega
                have hm4 : m3 ≤ 16384 := by omega
                have HT3 := Aside0.mk (show t + m3 = lens (C.take (j + 1)) by omega)
                have hwr : IntKind.i64.wrap ((t : Int) + (m3 : Int)) = (t : Int) + (m3 : Int) := IntWalk.i64_in _ (by omega)
                have hmm : ((m3 : Int) != (m3 : Int)) = false := bne_eq_false_iff_eq.mpr rfl
                have p2 := eq_true (Int.natCast_nonneg j)
                have p3 := eq_true c2
                have c2b := decide_eq_true c2
                clear hl3 hC3 hst hx hLT hca hle hrd4 hlF hm3 hT hC5 hC6 hjc
                go_wp2
                go_quiet (fail)
                go_wp2
                go_roundg k2
                case measure => omega
                case rel => exact ⟨j + 1, t + m3, (by first | rfl | (simp; done)), (by first | rfl | (simp; done)), ⟨by have := HI2.out; omega⟩, ⟨by omega⟩, HT3, ⟨pw_below_drewN HBL.out _⟩, ⟨HOT.out.below (pw_below_drewN (Below.refl _ _) _)⟩, ⟨pw_own_drewN HAL.out _⟩, ⟨Kd.C_drewN HWA.out _⟩⟩
              · have hj : j = C.length := by have := HJ2.out; omega
                have ht : t = F.length := by
                  have h1 := HT.out
                  rw [hj, List.take_length, lens_flat, HCF.out] at h1
                  exact h1
                subst ht
                have c2b := decide_eq_false c2
                have hff : ((F.length : Int) == (F.length : Int)) = true := beq_iff_eq.mpr rfl
                clear hj
                go_wp2_with (first
                  | (go_at_call 29; refine (Apart.calls w1.heap.size A16 C.length c16 VV (fun j => I (C.getD j [])) _ HBL.out.size (by have := HCL.out; omega) (fun j hj => by have h1 := HLF.out; have h2 := lens_take C j hj; have h3 := lens_le C (j + 1); have h4 : lens C = F.length := (by rw [lens_flat, HCF.out]); rw [I_len]; omega) HOT.out.row (fun j hj => by have h_ := HOT.out.own j hj; rw [I_len]; exact h_) HOT.out.ne).mono ?_; rintro e1 w30 ⟨rfl, hf⟩; have HB30 := Aside0.mk (HBL.out.trans (hf.below w1.heap.size HBL.out.size (fun j hj k hk => own_base (HOT.out.own j hj) k hk))); clear hf))
                go_ret
                exact ⟨by first | rfl | (simp; done), below_step HWB.out HB30.out⟩
end Go.Proofs.Ytoofafgnlgaajaa.RW
/- The walk of RabinStreams at too much input, and at settings that are not good. Conditions: as each theorem says. -/
namespace Go.Proofs.Ytoofafgnlgaajaa.RW
open Go.RowKit Go.Proofs.Ytoofafgnlgaajaa.PRabin Go.Proofs.YtoofafgnlgaajaaW.PrintWords Go.Proofs.YtoofafgnlgaajaaW.PrintLast Go.Proofs.YtoofafgnlgaajaaW.PrintMore Go.Proofs.Ytoofafgnlgaajaa Go.Proofs.Ytoofafgnlgaajaa.PB
set_option linter.unusedVariables false
set_option linter.unusedSimpArgs false
set_option maxHeartbeats 4000000 in
set_option maxRecDepth 100000 in
theorem streams_long (a0 a1 a2 a3 a4 : Int) (A2 : Option Addr) (N c2 : Nat) (tw : Bool) (w : World) (hN : (N : Int) > 60) :
    Calls Try.prog 8 #[.agg #[.int .u64 a0, .int .i64 a1, .int .i64 a2, .int .i64 a3, .int .i64 a4], .slice A2 N c2, .bool tw] w fun e w' => e = .returned (.bool true) ∧ Below w.heap.size w w' := by
  have HA := Aside0.mk (fun W : World => amphoralaw07_alive.calls 2000 true W alive_f)
  have d1 := decide_eq_true hN
  go_enter Try.func8, Try.ntmps8
  go_wp2_with (first
    | (go_at_call 10; (with_reducible refine (HA.out _).mono ?_); rintro e1 w2 ⟨rfl, hb⟩; have HB := Aside0.mk (below_step (below_alloc (Below.refl w.heap.size w) _) hb); clear hb))
  go_ret
  exact ⟨rfl, HB.out⟩
set_option maxHeartbeats 4000000 in
set_option maxRecDepth 100000 in
theorem streams_large (a0 a1 a2 a3 a4 : Int) (A2 : Option Addr) (N c2 m : Nat) (l : List (List Int)) (hl : l.length = N) (tw : Bool) (w : World) (hC : Kd.C (Kd.slice 5 (Kd.int .u8)) w A2 l.length l) (hc2 : N ≤ c2) (hN : ¬ (N : Int) > 60) (hsum : amphoranum_Sum.f 200 l 1048576 = some (m : Int)) (hm : (m : Int) > 16384) :
    Calls Try.prog 8 #[.agg #[.int .u64 a0, .int .i64 a1, .int .i64 a2, .int .i64 a3, .int .i64 a4], .slice A2 N c2, .bool tw] w fun e w' => e = .returned (.bool true) ∧ Below w.heap.size w w' := by
  have HA := Aside0.mk (fun W : World => amphoralaw07_alive.calls 2000 true W alive_f)
  have d1 := decide_eq_false hN
  have d2 := decide_eq_true hm
  have HL := Aside0.mk hl
  have HC := Aside0.mk hC
  have HC2 := Aside0.mk hc2
  have HS := Aside0.mk hsum
  clear hl hC hc2 hsum
  go_enter Try.func8, Try.ntmps8
  go_wp2_with (first
    | (go_at_call 10; (with_reducible refine (HA.out _).mono ?_); rintro e1 w2 ⟨rfl, hb⟩; have HB := Aside0.mk (below_step (below_alloc (Below.refl w.heap.size w) _) hb); clear hb)
    | (go_at_call 22; refine (sum_n A2 N c2 m l _ HL.out (Kd.C_below HC.out HB.out) HC2.out HS.out).mono ?_; rintro e1 w3 ⟨rfl, hd⟩; have HB3 := Aside0.mk (below_step HB.out hd.below); clear hd HB))
  go_ret
  exact ⟨rfl, HB3.out⟩
set_option maxHeartbeats 4000000 in
set_option maxRecDepth 100000 in
theorem streams_bad (k : Nat) (a0 a1 a2 a3 a4 : Int) (A2 : Option Addr) (N c2 m : Nat) (l : List (List Int)) (hl : l.length = N) (tw : Bool) (w : World) (hC : Kd.C (Kd.slice 5 (Kd.int .u8)) w A2 l.length l) (hc2 : N ≤ c2) (hN : ¬ (N : Int) > 60) (hsum : amphoranum_Sum.f 200 l 1048576 = some (m : Int)) (hm : ¬ (m : Int) > 16384)
    (he : rabin_Check.f k a0 a1 a2 a3 a4 = some (some 11)) (hr : amphoraref07_Check.f k a0 a1 a2 a3 a4 = some 11) :
    Calls Try.prog 8 #[.agg #[.int .u64 a0, .int .i64 a1, .int .i64 a2, .int .i64 a3, .int .i64 a4], .slice A2 N c2, .bool tw] w fun e w' => e = .returned (.bool true) ∧ Below w.heap.size w w' := by
  have hu24 := Try.underlying24
  have hu31 := Try.underlying31
  have hu43 := Try.underlying43
  have HA := Aside0.mk (fun W : World => amphoralaw07_alive.calls 2000 true W alive_f)
  have d1 := decide_eq_false hN
  have d2 := decide_eq_false hm
  have HL := Aside0.mk hl
  have HC := Aside0.mk hC
  have HC2 := Aside0.mk hc2
  have HS := Aside0.mk hsum
  have HE := Aside0.mk (fun W : World => new_bad k a0 a1 a2 a3 a4 11 W he)
  have HR := Aside0.mk (fun W : World => amphoraref07_Check.calls k a0 a1 a2 a3 a4 11 W hr)
  have HNU := Aside0.mk (fun W : World => amphoranum_Num.calls (some 11) 11 W rfl)
  rw [errW_some] at HE HNU
  clear hl hC hc2 hsum he hr
  obtain ⟨n, hn⟩ : ∃ n, n = w.heap.size := ⟨_, rfl⟩
  obtain ⟨W1, hW1⟩ : ∃ W1, W1 = w.alloc (.cells #[.int .u64 a0, .int .i64 a1, .int .i64 a2, .int .i64 a3, .int .i64 a4] 24) := ⟨_, rfl⟩
  have HK := Aside0.mk (show W1.heap[n]? = some (.cells #[.int .u64 a0, .int .i64 a1, .int .i64 a2, .int .i64 a3, .int .i64 a4] 24 (0, 0)) by rw [hW1, hn]; exact heap_alloc_new w _)
  have HSZ := Aside0.mk (show W1.heap.size = n + 1 by rw [hW1, hn, World.size_alloc])
  have HC1 := Aside0.mk (show Kd.C (Kd.slice 5 (Kd.int .u8)) W1 A2 l.length l by rw [hW1]; exact Kd.C_alloc HC.out _)
  have HWB := Aside0.mk (show Below w.heap.size w W1 by rw [hW1]; exact below_alloc (Below.refl _ _) _)
  have HW1 := Aside0.mk hW1
  have HNN := Aside0.mk hn
  clear hW1 hn HC
  go_enter Try.func8, Try.ntmps8
  go_upto_region 7 with (first
    | (go_at_call 10; (with_reducible refine (HA.out _).mono ?_); rintro e1 w2 ⟨rfl, hb⟩; rw [← HW1.out] at hb; have HB := Aside0.mk hb; clear hb)
    | (go_at_call 22; refine (sum_n A2 N c2 m l _ HL.out (Kd.C_below HC1.out HB.out) HC2.out HS.out).mono ?_; rintro e1 w3 ⟨rfl, hd⟩; have HB3 := Aside0.mk (below_step HB.out hd.below); clear hd HB; obtain ⟨j0, j1, j2, j3, j4⟩ := cells5 (box5 HK.out HB3.out); rw [HNN.out] at j0 j1 j2 j3 j4)
    | (go_at_call 23; (with_reducible refine (HE.out _).mono ?_); rintro e1 w4 ⟨rfl, hb⟩; have HB4 := Aside0.mk (below_step HB3.out hb); clear hb j0 j1 j2 j3 j4 HB3))
  have S0 := Aside0.mk (held5 HK.out (show Below (n + 1) W1 w4.drew by rw [← HSZ.out]; exact pw_below_drewN HB4.out 1))
  rw [← HNN.out]
  go_region_held3 (fun W' => Below (n + 1) W1 W' ∧ W'.cell? ⟨n, 0, none⟩ = some (.int .u64 a0) ∧ W'.cell? ⟨n, 1, none⟩ = some (.int .i64 a1) ∧ W'.cell? ⟨n, 2, none⟩ = some (.int .i64 a2) ∧ W'.cell? ⟨n, 3, none⟩ = some (.int .i64 a3) ∧ W'.cell? ⟨n, 4, none⟩ = some (.int .i64 a4))
    (first | exact S0.out | exact held5_call HK.out (by assumption) (by assumption))
    (first | ((go_at_call 16; refine (HNU.out _).mono ?_; rintro e1 w5 ⟨rfl, hd⟩; have hb5 := hd.below; clear hd)) | ((go_at_call 24; refine (HR.out _).mono ?_; rintro e1 w6 ⟨rfl, hb6⟩)))
  all_goals (
    rename_i hH
    go_wp2
    go_ret
    refine ⟨by first | rfl | (simp; done), ?_⟩
    refine below_then HWB.out HWB.out.size ?_
    rw [HSZ.out]
    exact hH.1)
end Go.Proofs.Ytoofafgnlgaajaa.RW
/- RabinStreams at every input. Conditions: as the theorem says. -/
namespace Go.Proofs.Ytoofafgnlgaajaa.RW
open Go.RowKit Go.Proofs.Ytoofafgnlgaajaa.PRabin Go.Proofs.YtoofafgnlgaajaaW.PrintWords Go.Proofs.YtoofafgnlgaajaaW.PrintLast Go.Proofs.YtoofafgnlgaajaaW.PrintMore Go.Proofs.Ytoofafgnlgaajaa Go.Proofs.Ytoofafgnlgaajaa.PB
set_option linter.unusedVariables false
set_option linter.unusedSimpArgs false
theorem streams_all (p : Nat) (hp64 : p < 2 ^ 64) (a1 a2 a3 a4 : Int) (A2 : Option Addr) (N c2 : Nat) (l : List (List Int)) (hl : l.length = N) (hw : ∀ q ∈ l, ∀ x ∈ q, 0 ≤ x ∧ x < 256) (tw : Bool) (w : World) (hC : Kd.C (Kd.slice 5 (Kd.int .u8)) w A2 l.length l) (hc2 : N ≤ c2) :
    Calls Try.prog 8 #[.agg #[.int .u64 (p : Int), .int .i64 a1, .int .i64 a2, .int .i64 a3, .int .i64 a4], .slice A2 N c2, .bool tw] w fun e w' => e = .returned (.bool true) ∧ Below w.heap.size w w' := by
  by_cases hN : (N : Int) > 60
  · exact streams_long _ a1 a2 a3 a4 A2 N c2 tw w hN
  have hN60 : N ≤ 60 := by clear hp64; omega
  obtain ⟨P, hP⟩ : ∃ P : List (List Nat), P = l.map fun q => q.map Int.toNat := ⟨_, rfl⟩
  have el : l = P.map I := by
    rw [hP, List.map_map]
    conv => lhs; rw [← List.map_id l]
    exact List.map_congr_left (fun q hq => (I_toNat q (hw q hq)).symm)
  have hPN : P.length = N := by rw [hP, List.length_map]; exact hl
  have hPs : ∀ q ∈ P, ∀ x ∈ q, x < 256 := by
    intro q hq x hx
    rw [hP] at hq
    obtain ⟨q0, hq0, rfl⟩ := List.mem_map.1 hq
    obtain ⟨y, hy, rfl⟩ := List.mem_map.1 hx
    have := hw q0 hq0 y hy
    clear hp64
    omega
  obtain ⟨m, hs, hsm⟩ := Sum_f P (by clear hp64; omega)
  rw [← el] at hs
  by_cases hm : (m : Int) > 16384
  · exact streams_large _ a1 a2 a3 a4 A2 N c2 m l hl tw w hC hc2 hN hs hm
  have hm2 : m ≤ 16384 := by clear hp64; omega
  have hfl : P.flatten.length = m := hsm (by clear hp64; omega)
  rcases Check_f p hp64 a1 a2 a3 a4 5000 (by decide) with ⟨hc, g⟩ | ⟨hc, ng⟩
  · obtain ⟨W, rfl⟩ : ∃ W : Nat, a1 = (W : Int) := ⟨a1.toNat, by have := g.w1; clear hp64; omega⟩
    obtain ⟨mn, rfl⟩ : ∃ mn : Nat, a2 = (mn : Int) := ⟨a2.toNat, by have := g.w1; have := g.m1; clear hp64; omega⟩
    obtain ⟨mx, rfl⟩ : ∃ mx : Nat, a3 = (mx : Int) := ⟨a3.toNat, by have := g.w1; have := g.m1; have := g.m2; clear hp64; omega⟩
    obtain ⟨bt, rfl⟩ : ∃ bt : Nat, a4 = (bt : Int) := ⟨a4.toNat, by have := g.b1; clear hp64; omega⟩
    have hsf : ∀ x ∈ P.flatten, x < 256 := fun x hx => by
      obtain ⟨q, hq, hxq⟩ := List.mem_flatten.1 hx
      exact hPs q hq x hxq
    have hI : (I P.flatten).map Int.toNat = P.flatten := by
      unfold I
      rw [List.map_map]
      conv => rhs; rw [← List.map_id P.flatten]
      exact List.map_congr_left (fun x _ => rfl)
    have hcut := Cut_none (l := I P.flatten) hc ⟨⟨Int.natCast_nonneg p, lt64i hp64⟩, fun x hx => by
      unfold I at hx
      obtain ⟨y, hy, rfl⟩ := List.mem_map.1 hx
      have := hsf y hy
      clear hp64
      omega, by rw [I_len]; clear hp64; omega⟩
    rw [hI] at hcut
    exact streams_main 5000 p W mn mx bt hp64 hc A2 N c2 m P l el hPN hPs hN60 hs hm2 hfl tw hcut w hC hc2
  · rcases rCheck_f p hp64 a1 a2 a3 a4 5000 (by decide) with ⟨_, g⟩ | ⟨hr, _⟩
    · exact absurd g ng
    exact streams_bad 5000 _ a1 a2 a3 a4 A2 N c2 m l hl tw w hC hc2 hN hs hm hc hr
end Go.Proofs.Ytoofafgnlgaajaa.RW
/- A slice of slices of bytes that comes in, opened. Conditions: none. -/
namespace Go.Proofs.Ytoofafgnlgaajaa.RW
open Go.RowKit Go.Proofs.YtoofafgnlgaajaaW.PrintWords Go.Proofs.YtoofafgnlgaajaaW.PrintLast
set_option linter.unusedVariables false
set_option linter.unusedSimpArgs false
namespace Rws
open Go.ChangeShapes Go.WideShapes Go.Deep
theorem cof25 : Try.prog.cellsOf 25 = 1 := by kernel_rfl
theorem one {H : Type} {enc : TypeId × Value → H} {w : World} {base : Nat} {spare : Nat → Bool} {held : Bool} {x : Value} {y : DataW H × List MemPlace} {fuel : Nat}
    (hf : DataW.trod enc Try.prog w base spare held fuel 25 [x] = some y) : ∃ z : Option Addr × Nat × List Int, x = .slice z.1 z.2.2.length z.2.1 ∧ Kd.C (Kd.int .u8) w z.1 z.2.2.length z.2.2 ∧ z.2.2.length ≤ z.2.1 ∧ (∀ n ∈ z.2.2, (Lit.int .u8 n).wf = true) := by
  rcases open_ints Try.underlying25 Try.underlying5 (by kernel_rfl) hf with ⟨hcs, hxx⟩ | ⟨ad, l, c, zs, hcs, _, hl, hm, hz, hxx, hcell, hwz⟩
  · simp at hcs
    subst hcs
    exact ⟨(none, 0, []), rfl, ⟨rfl, by simp, (fun h => absurd h (by simp))⟩, Nat.le_refl _, (fun n hn => by cases hn)⟩
  · simp at hcs
    subst hcs
    unfold maxLen at hm
    have hzl : l ≤ zs.length := by rw [hz]; split <;> omega
    have hlen : (zs.take l).length = l := by rw [List.length_take]; omega
    refine ⟨(some ad, c, zs.take l), by simp only [hlen], Kd.C_of_reads (enc := Value.int .u8) (d := (0 : Int)) (h1 := fun _ => rfl) ⟨rfl, by rw [hlen]; omega, fun _ => ⟨ad, rfl, fun j hj => ?_⟩⟩, by simp only [hlen]; exact hl, (fun n hn => hwz n (List.mem_of_mem_take hn))⟩
    rw [hlen] at hj
    rw [hcell j (by omega)]
    simp [List.getD_eq_getElem?_getD, List.getElem?_take_of_lt hj]
theorem opened {H : Type} {enc : TypeId × Value → H} {w : World} {base : Nat} {spare : Nat → Bool} {held : Bool} {A : Option Addr} {len cap : Nat} {d : DataW H} {ps : List MemPlace}
    (hd : DataW.Trod enc Try.prog w base spare held 50 (.slice A len cap) d ps) : ∃ l : List (List Int), (Kd.C (Kd.slice 5 (Kd.int .u8)) w A l.length l ∧ ∀ q ∈ l, ∀ n ∈ q, (Lit.int .u8 n).wf = true) ∧ l.length = len ∧ len ≤ cap ∧ ((d = .nil ∧ l = []) ∨ ∃ sp : DataW H, d = sp) := by
  obtain ⟨fuel, hf⟩ := hd
  rcases open_slice1 Try.underlying50 cof25 hf with ⟨hcs, hxx⟩ | ⟨a, len', cap', m, n, V, D, Pl, hcs, hb, hl, hm, hmm, hxx, hx⟩
  · simp [Value.cells] at hcs
    obtain ⟨rfl, rfl, rfl⟩ := hcs
    exact ⟨[], ⟨⟨rfl, by simp, (fun h => absurd h (by simp))⟩, fun q hq => by cases hq⟩, rfl, Nat.le_refl _, .inr ⟨_, rfl⟩⟩
  · simp [Value.cells] at hcs
    obtain ⟨rfl, rfl, rfl⟩ := hcs
    unfold maxLen at hm
    have hlm : len ≤ m := by rw [hmm]; split <;> omega
    obtain ⟨y, hy⟩ := choose_lt (n := len) (p := fun (r : Nat) (z : Option Addr × Nat × List Int) => V r = .slice z.1 z.2.2.length z.2.1 ∧ Kd.C (Kd.int .u8) w z.1 z.2.2.length z.2.2 ∧ z.2.2.length ≤ z.2.1 ∧ (∀ n ∈ z.2.2, (Lit.int .u8 n).wf = true)) (fun r hr => one (hx r (by omega)).2)
    have hlen : ((List.range len).map fun r => (y r).2.2).length = len := by simp
    refine ⟨(List.range len).map fun r => (y r).2.2, ⟨⟨rfl, by rw [hlen]; omega, fun _ => ⟨a, rfl, fun j p hj => ?_⟩⟩, fun q hq => ?_⟩, hlen, hl, .inr ⟨_, rfl⟩⟩
    · have hjl : j < len := by have := (List.getElem?_eq_some_iff.1 hj).1; rwa [hlen] at this
      rw [List.getElem?_map, List.getElem?_range hjl, Option.map_some] at hj
      obtain rfl := Option.some.inj hj
      obtain ⟨h1, h2, h3, _⟩ := hy j hjl
      refine ⟨[.slice (y j).1 (y j).2.2.length (y j).2.1], rfl, ⟨(y j).1, (y j).2.1, rfl, h3, h2⟩, fun i u hu => ?_⟩
      match i, hu with
      | 0, hu =>
        obtain rfl := Option.some.inj hu
        have hc := (hx j (by omega)).1
        rw [h1] at hc
        have e : j * (Kd.slice 5 (Kd.int .u8)).sz + 0 = j := by show j * 1 + 0 = j; omega
        rw [e]
        exact hc
      | i + 1, hu => simp at hu
    · obtain ⟨r, hr, rfl⟩ := List.mem_map.1 hq
      exact (hy r (List.mem_range.1 hr)).2.2.2
def Sized (l : List (List Int)) : Prop := True
theorem sized_nil : Sized [] := trivial
theorem sized {H : Type} {ts : List TypeId} {ds : List (DataW H)} (h : (DataW.weightsEach Try.prog ts ds).all (· ≤ reachBytes) = true) {j : Nat} {l : List (List Int)} {d : DataW H} (ht : ts[j]? = some 50) (hd : ds[j]? = some d) : Sized l := trivial
end Rws
end Go.Proofs.Ytoofafgnlgaajaa.RW
