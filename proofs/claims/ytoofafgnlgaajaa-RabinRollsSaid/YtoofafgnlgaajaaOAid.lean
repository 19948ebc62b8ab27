/- Rows of bytes handed on and put together. Conditions: as each theorem says. -/
import Derived.Test.YtoofafgnlgaajaaRP3
namespace Go.Proofs.Ytoofafgnlgaajaa.RW
open Go.RowKit Go.Proofs.Ytoofafgnlgaajaa.PRabin Go.Proofs.YtoofafgnlgaajaaW.PrintWords Go.Proofs.YtoofafgnlgaajaaW.PrintLast Go.Proofs.YtoofafgnlgaajaaW.PrintMore
set_option linter.unusedVariables false
set_option linter.unusedSimpArgs false
theorem nums_one (l : List Int) : ∀ u ∈ nums .u8 l, u.oneCell' = true := by
  intro u hu
  unfold nums at hu
  obtain ⟨x, _, rfl⟩ := List.mem_map.1 hu
  rfl
/-- append(v, y...), y a row of bytes that is read. -/
theorem ev_append_c {ops : Array Oper} {rest : List Oper} {o : Oper} {a : Act} {Q : Exit → Act → World → Prop} {w : World} (hgd : o.guard = none) (s x : Operand)
    (ho : o.op = .call { callee := .builtin .append, args := #[s, x], argTypes := #[25, 25] })
    (base : Nat) (v : Value) (n : Nat) (xs : List Value) (hs : a.eval s = v) (hown : w.ownsRow base 5 1 v n xs)
    (A : Option Addr) (m c : Nat) (l : List Int) (hx : a.eval x = .slice A m c) (hy : Kd.C (Kd.int .u8) w A m l)
    (h63 : n + m ≤ 140737488355328) (hbase : base ≤ w.heap.size)
    (h : ∀ v' w', w'.ownsRow base 5 1 v' (n + m) (xs ++ nums .u8 l) → w.grownBy w' v.ownBlock → (v'.ownBlock = v.ownBlock ∨ ∃ b, v'.ownBlock = some b ∧ w.heap.size ≤ b) → wpList Try.prog ops Q rest (a.put o.dst v') w') :
    wpList Try.prog ops Q (o :: rest) a w := by
  obtain ⟨i0, hi, hzz⟩ := Option.map_eq_some_iff.1 infoU8
  simp only [Prod.mk.injEq] at hzz
  obtain ⟨hz0, hz1, hz2⟩ := hzz
  have hlm : l.length = m := hy.1
  have hrun : ∃ v' w', (Builtin.append_ #[25, 25] o.type #[v, .slice A m c]).run Try.prog w = .ok v' w' ∧ w'.ownsRow base 5 1 v' (n + m) (xs ++ nums .u8 l) ∧ w.grownBy w' v.ownBlock ∧ (v'.ownBlock = v.ownBlock ∨ ∃ b, v'.ownBlock = some b ∧ w.heap.size ≤ b) := by
    rcases A with _ | ad
    · have h0 : m = 0 := by
        rcases Nat.eq_zero_or_pos m with h0 | h0
        · exact h0
        · obtain ⟨ad, h, _⟩ := hy.2.2 h0
          cases h
      subst h0
      obtain rfl : l = [] := List.eq_nil_of_length_eq_zero hlm
      refine ⟨v, w, ?_, by rw [show nums .u8 [] = ([] : List Value) from rfl, List.append_nil]; exact hown, World.grownBy.refl w _, .inl rfl⟩
      rcases hown.2 with ⟨rfl, hn⟩ | ⟨g, cap, cur, rfl, _, _, hnc, _⟩
      · simp [Builtin.append_, run_underlying Try.underlying25, sizeOf, typeInfo, hi, Builtin.lenOf, Builtin.firstCells]
      · simp [Builtin.append_, run_underlying Try.underlying25, sizeOf, typeInfo, hi, Builtin.lenOf, Builtin.firstCells, hnc, storeCells]
    · have hnews : ∀ j u, (nums .u8 l)[j]? = some u → w.cell? (ad.add j) = some u := by
        intro j u hj
        unfold nums at hj
        rw [List.getElem?_map, Option.map_eq_some_iff] at hj
        obtain ⟨y, hyj, rfl⟩ := hj
        have hjl : j < l.length := (List.getElem?_eq_some_iff.1 hyj).1
        obtain ⟨ad', e, hc⟩ := Kd.at_int hy (j : Int) (by omega) (by omega)
        cases e
        rw [show ((j : Int)).toNat = j from rfl] at hc
        rw [hc]
        unfold rd
        rw [show ((j : Int)).toNat = j from rfl, List.getD_eq_getElem?_getD, hyj]; rfl
      obtain ⟨v', w', hr, h2, _, h4, h5⟩ := Apart.run_append_keep (P := Try.prog) w base 25 o.type 5 i0 (.int .u8 0) 1 1 Try.underlying25 hi hz0 hz1 hz2 rfl (by omega) v n xs hown ad m c (nums .u8 l) (by unfold nums; simpa using hlm) hnews (nums_one l) (by simp only [maxLen]; omega) (by omega) hbase
      exact ⟨v', w', hr, h2, h4, h5⟩
  obtain ⟨v', w', hr, h2, h4, h5⟩ := hrun
  have hw := h v' w' h2 h4 h5
  refine wpList_plain hgd fun K hK => ?_
  unfold Oper.wp execOp
  simp only [ho, resolve, invoke, builtin, Sem.run_bind, Sem.run_pure, Result.andThen_ok, List.map_toArray, List.map_cons, List.map_nil, hs, hx, hr]
  exact hK _ _ hw
/-- Rows handed on side by side. -/
theorem C_parts1 {w : World} {A1 : Option Addr} {c1 : Nat} {l1 : List Int} (h1 : Kd.C (Kd.int .u8) w A1 l1.length l1) (hc1 : l1.length ≤ c1) : Kd.C (Kd.slice 5 (Kd.int .u8)) (w.alloc (.cells #[.slice A1 l1.length c1] 25)) (some ⟨w.heap.size, 0, none⟩) [l1].length [l1] := by
  have hk := heap_alloc_new w (.cells #[.slice A1 l1.length c1] 25)
  refine ⟨rfl, by simp, fun _ => ⟨_, rfl, fun j p hj => ?_⟩⟩
  match j, hj with
  | 0, hj =>
    obtain rfl := Option.some.inj hj
    refine ⟨[.slice A1 l1.length c1], rfl, ⟨A1, c1, rfl, hc1, Kd.C_alloc h1 _⟩, fun i u hu => ?_⟩
    match i, hu with
    | 0, hu => obtain rfl := Option.some.inj hu; exact blk_cell hk 0
    | i + 1, hu => simp at hu
  | j + 1, hj => simp at hj
theorem C_parts2 {w : World} {A1 A2 : Option Addr} {c1 c2 : Nat} {l1 l2 : List Int} (h1 : Kd.C (Kd.int .u8) w A1 l1.length l1) (hc1 : l1.length ≤ c1) (h2 : Kd.C (Kd.int .u8) w A2 l2.length l2) (hc2 : l2.length ≤ c2) :
    Kd.C (Kd.slice 5 (Kd.int .u8)) (w.alloc (.cells #[.slice A1 l1.length c1, .slice A2 l2.length c2] 25)) (some ⟨w.heap.size, 0, none⟩) [l1, l2].length [l1, l2] := by
  have hk := heap_alloc_new w (.cells #[.slice A1 l1.length c1, .slice A2 l2.length c2] 25)
  refine ⟨rfl, by simp, fun _ => ⟨_, rfl, fun j p hj => ?_⟩⟩
  match j, hj with
  | 0, hj =>
    obtain rfl := Option.some.inj hj
    refine ⟨[.slice A1 l1.length c1], rfl, ⟨A1, c1, rfl, hc1, Kd.C_alloc h1 _⟩, fun i u hu => ?_⟩
    match i, hu with
    | 0, hu => obtain rfl := Option.some.inj hu; exact blk_cell hk 0
    | i + 1, hu => simp at hu
  | 1, hj =>
    obtain rfl := Option.some.inj hj
    refine ⟨[.slice A2 l2.length c2], rfl, ⟨A2, c2, rfl, hc2, Kd.C_alloc h2 _⟩, fun i u hu => ?_⟩
    match i, hu with
    | 0, hu => obtain rfl := Option.some.inj hu; exact blk_cell hk 1
    | i + 1, hu => simp at hu
  | j + 2, hj => simp at hj
end Go.Proofs.Ytoofafgnlgaajaa.RW
