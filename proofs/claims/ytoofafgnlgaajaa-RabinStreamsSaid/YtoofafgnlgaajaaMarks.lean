/- amphoranum: Copy and Kept, walked. Conditions: as each theorem says. -/
import Derived.Test.YtoofafgnlgaajaaPRabinx0
import Derived.Deep.AppendSrc
import Derived.KernelRfl
namespace Go.Proofs.Ytoofafgnlgaajaa.PRabin
open Go.RowKit Go.Proofs.YtoofafgnlgaajaaW.PrintWords Go.Proofs.YtoofafgnlgaajaaW.PrintLast Go.Proofs.YtoofafgnlgaajaaW.PrintMore
set_option linter.unusedVariables false
set_option linter.unusedSimpArgs false
/-! ### amphoranum's Copy and Kept: a copy of bytes with two marks in its spare room -/
namespace Marks
open Go.RowKit
/-- append(v, x...) where there is room, x anything that yields cells. -/
theorem run_room {P : Program} {w : World} (t tx ty e : TypeId) (i : TypeInfo) (ht : P.underlying t = some (.slice e)) (hi : P.info? e = some i) (hs1 : i.size = 1)
    (g sLen sCap : Nat) (cur : Array Value) (hg : w.heap[g]? = some (.cells cur e (0, 0))) (x : Value) (n : Nat) (news : List Value) (hs : Src P 1 tx x n news w)
    (hroom : sLen + n ≤ sCap) (hfit : sLen + n ≤ cur.size) :
    (Builtin.append_ #[t, tx] ty #[.slice (some ⟨g, 0, none⟩) sLen sCap, x]).run P w =
      .ok (.slice (some ⟨g, 0, none⟩) (sLen + n) sCap) (w.setRow g (cur.toList.take sLen ++ news ++ cur.toList.drop (sLen + n)).toArray) := by
  have hl : news.length = n := by simpa using hs.newsLen
  have hst := run_storeCells_at P g sLen e news 0 cur w hg (by omega) hs.one
  simp only [Nat.add_zero, hl] at hst
  rcases hs.kind with ⟨e', hk⟩ | hk <;>
    simp [Builtin.append_, run_underlying ht, run_underlying hk, sizeOf, typeInfo, hi, hs1, hs.len, hroom, hs.cells, Addr.add_lit, hst]
theorem ev_room {P : Program} {ops : Array Oper} {rest : List Oper} {o : Oper} {a : Act} {Q : Exit → Act → World → Prop} {W : World} (hgd : o.guard = none) (s x : Operand) (t tx e : TypeId)
    (ho : o.op = .call { callee := .builtin .append, args := #[s, x], argTypes := #[t, tx] })
    (ht : P.underlying t = some (.slice e)) (hinfo : (P.info? e).map (fun i => (i.zero, i.size, i.bytes)) = some (some (.int .u8 0), 1, 1))
    (g sLen sCap : Nat) (cur : Array Value) (hg : W.heap[g]? = some (.cells cur e (0, 0))) (vx : Value) (n : Nat) (news : List Value)
    (hs : a.eval s = .slice (some ⟨g, 0, none⟩) sLen sCap) (hx : a.eval x = vx) (hsrc : Src P 1 tx vx n news W) (hroom : sLen + n ≤ sCap) (hfit : sLen + n ≤ cur.size)
    (h : ∀ w1, w1 = W.setRow g (cur.toList.take sLen ++ news ++ cur.toList.drop (sLen + n)).toArray → wpList P ops Q rest (a.put o.dst (.slice (some ⟨g, 0, none⟩) (sLen + n) sCap)) w1) :
    wpList P ops Q (o :: rest) a W := by
  obtain ⟨i0, hi, hzz⟩ := Option.map_eq_some_iff.1 hinfo
  simp only [Prod.mk.injEq] at hzz
  obtain ⟨hz0, hz1, hz2⟩ := hzz
  refine wpList_plain hgd fun K hK => ?_
  have hr := run_room t tx o.type e i0 ht hi hz1 g sLen sCap cur hg vx n news hsrc hroom hfit
  have hw := h _ rfl
  unfold Oper.wp execOp
  simp only [ho, resolve, invoke, builtin, Sem.run_bind, Sem.run_pure, Result.andThen_ok, List.map_toArray, List.map_cons, List.map_nil, hs, hx, hr]
  exact hK _ _ hw
/-- The row of a copy with its marks. -/
def At (w : World) (g : Nat) (l : List Int) : Prop := w.heap[g]? = some (.cells (nums .u8 (l ++ [165, 90])).toArray 5 (0, 0))
theorem At.below {w w1 : World} {g : Nat} {l : List Int} (h : At w g l) (hb : Below w.heap.size w w1) : At w1 g l := (hb.block g (blk_lt h)).trans h
theorem cell_nums {w : World} {g : Nat} {l m : List Int} {e : TypeId} (h : w.heap[g]? = some (.cells (nums .u8 (l ++ m)).toArray e (0, 0))) (j : Nat) (hj : j < (l ++ m).length) : w.cell? ⟨g, j, none⟩ = some (.int .u8 ((l ++ m)[j])) := by
  rw [blk_cell h j]
  have : (nums .u8 (l ++ m)).toArray[j]? = (nums .u8 (l ++ m))[j]? := by simp
  rw [this]
  unfold nums
  rw [List.getElem?_map, List.getElem?_eq_getElem hj]; rfl
theorem cellsC {w : World} {g : Nat} {l m : List Int} {e : TypeId} (hl : l.length ≤ 9223372036854775807) (h : w.heap[g]? = some (.cells (nums .u8 (l ++ m)).toArray e (0, 0))) : Kd.C (Kd.int .u8) w (some ⟨g, 0, none⟩) l.length l := by
  refine Kd.C_of_reads (enc := Value.int .u8) (d := (0 : Int)) (h1 := fun _ => rfl) ⟨rfl, hl, fun _ => ⟨⟨g, 0, none⟩, rfl, fun j hj => ?_⟩⟩
  rw [add_plain, cell_nums h j (by rw [List.length_append]; omega), List.getElem_append_left hj, List.getD_eq_getElem?_getD, List.getElem?_eq_getElem hj]; rfl
theorem srcC {P : Program} {w : World} {A : Option Addr} {l : List Int} {t e : TypeId} (ht : P.underlying t = some (.slice e)) (h : Kd.C (Kd.int .u8) w A l.length l) (c : Nat) : Src P 1 t (.slice A l.length c) l.length (nums .u8 l) w := by
  have hr := Kd.reads_of_C (enc := Value.int .u8) (d := (0 : Int)) (h1 := fun _ => rfl) h
  rcases Nat.eq_zero_or_pos l.length with h0 | h0
  · have hl : l = [] := List.eq_nil_of_length_eq_zero h0
    subst hl
    refine ⟨.inl ⟨e, ht⟩, fun _ => rfl, ?_, ?_, rfl, fun u hu => by cases hu⟩
    · cases A <;> (simp [Builtin.firstCells, nums]) <;> rfl
    · cases A <;> (simp [Builtin.firstCells, nums]) <;> rfl
  · obtain ⟨ad, rfl, hc⟩ := hr.2.2 h0
    refine Src.ofSlice w ht ad l.length c _ (by rw [nums_length, Nat.mul_one]) (fun j u hu => ?_) (fun u hu => ?_)
    · have hj : j < l.length := by have := (List.getElem?_eq_some_iff.1 hu).1; rwa [nums_length] at this
      rw [hc j hj]
      rw [← hu]; simp [nums, hj]
    · unfold nums at hu; obtain ⟨x, _, rfl⟩ := List.mem_map.1 hu; rfl
theorem below_setRow {b : Nat} {w W : World} (h : Below b w W) (hb : b ≤ W.heap.size) (g : Nat) (cs : Array Value) (hg : b ≤ g) : Below b w (W.setRow g cs) :=
  by
  have hg2 : W.grownBy (W.setRow g cs) (some g) := ⟨rfl, rfl, rfl, by simp, fun k _ hk => setRow_other W g k _ (fun e => hk (by rw [e]))⟩
  exact pw_below_grown h (some g) hb hg2 (fun k hk => by injection hk with hk; omega)
theorem alloc_at (w : World) (o : Obj) : (w.alloc o).heap[w.heap.size]? = some o := by
  show (w.heap.push o)[w.heap.size]? = some o
  exact Array.getElem?_push_size
theorem make_run (c : Nat) (hc : c ≤ 140737488355328) (W : World) : (Instr.makeSlice 25 (.int .i64 0) (.int .i64 (c : Int))).run Try.prog W = .ok (.slice (some ⟨W.heap.size, 0, none⟩) 0 c) (W.alloc (.cells (madeCells #[.int .u8 0] c) 5)) := by
  obtain ⟨i, hi, h⟩ := Option.map_eq_some_iff.1 info5
  simp only [Prod.mk.injEq] at h
  have := run_make (P := Try.prog) W 25 5 i (.int .u8 0) Try.underlying25 hi h.1 .i64 .i64 0 (c : Int) (Int.le_refl _) (by omega) (by rw [h.2.2]; omega) (by omega)
  rw [h.2.1, Nat.mul_one] at this
  exact this
theorem made_size (c : Nat) : (madeCells #[Value.int .u8 0] c).size = c := by simp [madeCells]
set_option maxHeartbeats 4000000 in
theorem copy_calls (A : Option Addr) (c : Nat) (l : List Int) (w : World) (hC : Kd.C (Kd.int .u8) w A l.length l) (hc : l.length ≤ c) (hl : l.length ≤ 140737488355000) :
    Calls Try.prog 12 #[.slice A l.length c] w fun e w' => ∃ g, e = .returned (.slice (some ⟨g, 0, none⟩) l.length (l.length + 2)) ∧ w.heap.size ≤ g ∧ At w' g l ∧ Below w.heap.size w w' := by
  have HC := Aside0.mk hC
  obtain ⟨n, hn⟩ : ∃ n, n = l.length := ⟨_, rfl⟩
  have HN := Aside0.mk hn
  have hw : wrap64 ((n : Int) + 2) = (n : Int) + 2 := by unfold wrap64; omega
  have hmk : ∀ W, (Instr.makeSlice 25 (.int .i64 0) (.int .i64 ((n : Int) + 2))).run Try.prog W = .ok (.slice (some ⟨W.heap.size, 0, none⟩) 0 (n + 2)) (W.alloc (.cells (madeCells #[.int .u8 0] (n + 2)) 5)) := fun W => make_run (n + 2) (by omega) W
  rw [← hn]
  have hcc : n ≤ c := by omega
  have hl' : n ≤ 140737488355000 := by omega
  clear hC hn hc hl
  go_enter Try.func12, Try.ntmps12
  obtain ⟨cur0, hcur0⟩ : ∃ x, x = madeCells #[Value.int .u8 0] (n + 2) := ⟨_, rfl⟩
  have hs0 : cur0.size = n + 2 := by rw [hcur0]; exact made_size _
  obtain ⟨cur1, hcur1⟩ : ∃ x, x = (cur0.toList.take 0 ++ nums .u8 l ++ cur0.toList.drop (0 + n)).toArray := ⟨_, rfl⟩
  have hs1 : cur1.size = n + 2 := by rw [hcur1]; simp [nums_length, ← HN.out, hs0]
  have hcur2 : (cur1.toList.take n ++ nums .u8 [165, 90] ++ cur1.toList.drop (n + 2)).toArray = (nums .u8 (l ++ [165, 90])).toArray := by
    have e1 : cur1.toList.take n = nums .u8 l := by
      rw [hcur1]
      show ((cur0.toList.take 0 ++ nums .u8 l ++ cur0.toList.drop (0 + n))).take n = _
      rw [List.take_zero, List.nil_append]
      exact List.take_left' (by rw [nums_length, HN.out])
    have e2 : cur1.toList.drop (n + 2) = [] := List.drop_eq_nil_of_le (by rw [Array.length_toList, hs1]; exact Nat.le_refl _)
    rw [e1, e2, List.append_nil, nums_append]
  rw [← hcur0] at hmk
  obtain ⟨W0, hW0⟩ : ∃ W0, W0 = w.alloc (.cells cur0 5) := ⟨_, rfl⟩
  have hr0 : W0.heap[w.heap.size]? = some (.cells cur0 5 (0, 0)) := by rw [hW0]; exact alloc_at _ _
  have hb0 : Below w.heap.size w W0 := by rw [hW0]; exact below_alloc (Below.refl _ _) _
  obtain ⟨w1, hw1⟩ : ∃ w1, w1 = W0.setRow w.heap.size cur1 := ⟨_, rfl⟩
  have hr1 : w1.heap[w.heap.size]? = some (.cells cur1 5 (0, 0)) := by rw [hw1]; exact setRow_heap _ _ _ _ _ _ hr0
  have hb1 : Below w.heap.size w w1 := by rw [hw1]; exact below_setRow hb0 hb0.size _ _ (Nat.le_refl _)
  obtain ⟨W2, hW2⟩ : ∃ W2, W2 = w1.alloc (.cells #[.int .u8 165, .int .u8 90] 5) := ⟨_, rfl⟩
  have hr2 : W2.heap[w.heap.size]? = some (.cells cur1 5 (0, 0)) := by rw [hW2]; exact blk_alloc hr1 _
  have hb2 : Below w.heap.size w W2 := by rw [hW2]; exact below_alloc hb1 _
  have hC2 : Kd.C (Kd.int .u8) W2 (some ⟨w1.heap.size, 0, none⟩) 2 [165, 90] := by rw [hW2]; exact cellsC (l := [165, 90]) (m := []) (by decide) (alloc_at w1 _)
  have hr3 : (W2.setRow w.heap.size (nums .u8 (l ++ [165, 90])).toArray).heap[w.heap.size]? = some (.cells (nums .u8 (l ++ [165, 90])).toArray 5 (0, 0)) := setRow_heap _ _ _ _ _ _ hr2
  have hb3 : Below w.heap.size w (W2.setRow w.heap.size (nums .u8 (l ++ [165, 90])).toArray) := below_setRow hb2 hb2.size _ _ (Nat.le_refl _)
  have X0 := Aside0.mk hr0
  have X2 := Aside0.mk hr2
  have XC := Aside0.mk hC2
  have X3 := Aside0.mk hr3
  have XB := Aside0.mk hb3
  have XW1 := Aside0.mk hw1
  have XW0 := Aside0.mk hW0
  have XW2 := Aside0.mk hW2
  have Xc1 := Aside0.mk hcur1
  have Xc2 := Aside0.mk hcur2
  have Xs0 := Aside0.mk hs0
  have Xs1 := Aside0.mk hs1
  have XL := Aside0.mk hl'
  obtain ⟨ix, hix, _, hszx, _⟩ := info_parts info5
  have hcut := (print_take_of (P := Try.prog) (Value.int .u8) 0 25 5 .i64 Try.underlying25 hix hszx (some ⟨w.heap.size, 0, none⟩) (n + 2) (l ++ [165, 90]) (n : Int) (by omega) (by rw [List.length_append, ← HN.out]; simp; omega) (by rw [List.length_append, ← HN.out]; simp)).1
  have hln : ((l ++ [165, 90]).take (n : Int).toNat).length = n := by rw [List.length_take, List.length_append, ← HN.out]; simp
  have hll : (l ++ [165, 90]).length = n + 2 := by rw [List.length_append, ← HN.out]; rfl
  rw [hln, hll] at hcut
  clear hr0 hb0 hr1 hb1 hr2 hb2 hC2 hr3 hb3 hw1 hW0 hW2 hcur0 hcur1 hcur2 hs0 hs1 hl' hln hll hix hszx
  go_wp2_with (first
    | (at_builtin; refine ev_room rfl (.tmp 6) (.tmp 7) 25 25 5 rfl Try.underlying25 info5 w.heap.size 0 (n + 2) cur0 ?row (.slice A n c) n (nums .u8 l) rfl rfl ?src ?room ?fit ?_; (case row => (rw [← XW0.out]; exact X0.out)); (case src => (rw [HN.out]; exact srcC Try.underlying25 (Kd.C_alloc HC.out _) c)); (case room => omega); (case fit => (rw [Xs0.out]; omega)); intro wz hwz; rw [← XW0.out, ← Xc1.out, ← XW1.out] at hwz; subst hwz)
    | (at_builtin; refine ev_room rfl (.tmp 8) (.tmp 9) 25 25 5 rfl Try.underlying25 info5 w.heap.size n (n + 2) cur1 ?row (.slice (some ⟨wz.heap.size, 0, none⟩) 2 2) 2 (nums .u8 [165, 90]) rfl rfl ?src ?room ?fit ?_; (case row => (rw [← XW2.out]; exact X2.out)); (case src => (rw [← XW2.out]; exact srcC (l := [165, 90]) Try.underlying25 XC.out 2)); (case room => omega); (case fit => (rw [Xs1.out]; omega)); intro wy hwy; rw [← XW2.out, Xc2.out] at hwy; subst hwy))
  go_ret
  exact ⟨w.heap.size, rfl, Nat.le_refl _, X3.out, XB.out⟩
theorem cut_to (W : World) (A : Option Addr) (n c : Nat) (j : Nat) (hj : j ≤ c) : (Instr.slice 25 (.slice A n c) none (some (.int .i64 (j : Int))) none).run Try.prog W = .ok (.slice A j c) W := by
  obtain ⟨i, hi, _, hsz, _⟩ := info_parts info5
  have hel : Try.prog.elem 25 = 5 := by simp [Program.elem, Try.underlying25]
  have hu : Try.prog.underlying 25 = some (.slice (Try.prog.elem 25)) := by rw [hel]; exact Try.underlying25
  have ha : (A.map fun x => x.add 0) = A := by cases A <;> simp [Addr.add]
  rw [run_slice_h W 25 A n c hu .i64 (j : Int) (by omega) (by omega), hel]
  simp [sizeOf, typeInfo, hi, hsz, sliced, Result.andThen, ha]
set_option maxHeartbeats 4000000 in
theorem kept_calls (g c : Nat) (A : Option Addr) (l : List Int) (w : World) (hA : At w g l) (hC : Kd.C (Kd.int .u8) w A l.length l) (hc : l.length ≤ c) (hl : l.length ≤ 140737488355000) :
    Calls Try.prog 18 #[.slice (some ⟨g, 0, none⟩) l.length (l.length + 2), .slice A l.length c] w fun e w' => e = .returned (.bool true) ∧ Drawn0 w w' := by
  have hM := cellsC (l := l) (m := [165, 90]) (by omega) hA
  have hcv1 : ∀ m : Nat, (convert 25 9 (.slice (some ⟨g, 0, none⟩) l.length (l.length + 2))).run Try.prog (w.drewN m) = .ok (.string (strOfNums l)) (w.drewN m) := fun m => Kd.C_string (P := Try.prog) Try.underlying25 Try.underlying5 Try.underlying9 (Kd.C_drewN hM m)
  have hcv2 : ∀ m : Nat, (convert 25 9 (.slice A l.length c)).run Try.prog (w.drewN m) = .ok (.string (strOfNums l)) (w.drewN m) := fun m => Kd.C_string (P := Try.prog) Try.underlying25 Try.underlying5 Try.underlying9 (Kd.C_drewN hC m)
  have hcv3 := Kd.C_string (P := Try.prog) (c := l.length + 2) Try.underlying25 Try.underlying5 Try.underlying9 hM
  have hcv4 := Kd.C_string (P := Try.prog) (c := c) Try.underlying25 Try.underlying5 Try.underlying9 hC
  have hc1 : w.cell? ⟨g, l.length, none⟩ = some (.int .u8 165) := by
    rw [cell_nums hA l.length (by rw [List.length_append]; simp)]; simp
  have hc2 : w.cell? ⟨g, l.length + 1, none⟩ = some (.int .u8 90) := by
    rw [cell_nums hA (l.length + 1) (by rw [List.length_append]; simp)]; simp
  have hcut : ∀ W : World, (Instr.slice 25 (.slice (some ⟨g, 0, none⟩) l.length (l.length + 2)) none (some (.int .i64 ((l.length : Int) + 2))) none).run Try.prog W = .ok (.slice (some ⟨g, 0, none⟩) (l.length + 2) (l.length + 2)) W := fun W => cut_to W _ _ _ (l.length + 2) (Nat.le_refl _)
  clear hM hA hC
  generalize strOfNums l = st at *
  generalize l.length = n at *
  have hw : wrap64 ((n : Int) + 2) = (n : Int) + 2 := by unfold wrap64; omega
  have hw1 : wrap64 ((n : Int) + 1) = (n : Int) + 1 := by unfold wrap64; omega
  go_enter Try.func18, Try.ntmps18
  go_wp2
  go_ret
  exact ⟨by first | rfl | (simp; done), by repeat (first | exact Drawn0.refl _ | apply Drawn0.step)⟩
end Marks
end Go.Proofs.Ytoofafgnlgaajaa.PRabin
