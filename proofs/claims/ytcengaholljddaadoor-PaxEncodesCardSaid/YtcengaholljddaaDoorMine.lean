/- amphoralaw11.mine, walked. Conditions: as the theorem says. -/
import Derived.Test.YtcengaholljddaaDoorPPaxx0
import Derived.Test.YtcengaholljddaaDoorMarks
namespace Go.Proofs.YtcengaholljddaaDoor.PPax
open Go.RowKit Go.Proofs.YtcengaholljddaaDoorW.PrintWords Go.Proofs.YtcengaholljddaaDoorW.PrintLast Go.Proofs.YtcengaholljddaaDoorW.PrintMore
set_option linter.unusedVariables false
set_option linter.unusedSimpArgs false
/-! ### amphoralaw11.mine: a copy of records with a mark in its spare room -/
namespace Mine
/-- append(v, x...) where there is room, x anything that yields cells, of elements of two cells. -/
theorem run_room {P : Program} {w : World} (t tx ty e : TypeId) (i : TypeInfo) (ht : P.underlying t = some (.slice e)) (hi : P.info? e = some i) (hs1 : i.size = 2)
    (g sLen sCap : Nat) (cur : Array Value) (hg : w.heap[g]? = some (.cells cur e (0, 0))) (x : Value) (n : Nat) (news : List Value) (hs : Src P 2 tx x n news w)
    (hroom : sLen + n ≤ sCap) (hfit : sLen * 2 + n * 2 ≤ cur.size) :
    (Builtin.append_ #[t, tx] ty #[.slice (some ⟨g, 0, none⟩) sLen sCap, x]).run P w =
      .ok (.slice (some ⟨g, 0, none⟩) (sLen + n) sCap) (w.setRow g (cur.toList.take (sLen * 2) ++ news ++ cur.toList.drop (sLen * 2 + n * 2)).toArray) := by
  have hl : news.length = n * 2 := hs.newsLen
  have hst := run_storeCells_at P g (sLen * 2) e news 0 cur w hg (by omega) hs.one
  simp only [Nat.add_zero, hl] at hst
  rcases hs.kind with ⟨e', hk⟩ | hk <;>
    simp [Builtin.append_, run_underlying ht, run_underlying hk, sizeOf, typeInfo, hi, hs1, hs.len, hroom, hs.cells, Addr.add_lit, hst]
theorem ev_room {P : Program} {ops : Array Oper} {rest : List Oper} {o : Oper} {a : Act} {Q : Exit → Act → World → Prop} {W : World} (hgd : o.guard = none) (s x : Operand) (t tx e : TypeId) (z : Option Value) (bts : Nat)
    (ho : o.op = .call { callee := .builtin .append, args := #[s, x], argTypes := #[t, tx] })
    (ht : P.underlying t = some (.slice e)) (hinfo : (P.info? e).map (fun i => (i.zero, i.size, i.bytes)) = some (z, 2, bts))
    (g sLen sCap : Nat) (cur : Array Value) (hg : W.heap[g]? = some (.cells cur e (0, 0))) (vx : Value) (n : Nat) (news : List Value)
    (hs : a.eval s = .slice (some ⟨g, 0, none⟩) sLen sCap) (hx : a.eval x = vx) (hsrc : Src P 2 tx vx n news W) (hroom : sLen + n ≤ sCap) (hfit : sLen * 2 + n * 2 ≤ cur.size)
    (h : ∀ w1, w1 = W.setRow g (cur.toList.take (sLen * 2) ++ news ++ cur.toList.drop (sLen * 2 + n * 2)).toArray → wpList P ops Q rest (a.put o.dst (.slice (some ⟨g, 0, none⟩) (sLen + n) sCap)) w1) :
    wpList P ops Q (o :: rest) a W := by
  obtain ⟨i0, hi, hzz⟩ := Option.map_eq_some_iff.1 hinfo
  simp only [Prod.mk.injEq] at hzz
  obtain ⟨hz0, hz1, hz2⟩ := hzz
  refine wpList_plain hgd fun K hK => ?_
  have hr := run_room t tx o.type e i0 ht hi hz1 g sLen sCap cur hg vx n news hsrc hroom hfit
  have hw := h _ rfl
  unfold Oper.wp execOp
  simp only [ho, resolve, invoke, builtin, Sem.run_bind, Sem.run_pure, Result.andThen_ok, List.map_toArray, List.map_cons, List.map_nil, hs, hx, hr]
  exact hK _ _ hw
def cells (l : List S44) : List Value := l.flatMap fun x => [.string x.f0, .string x.f1]
theorem cells_length (l : List S44) : (cells l).length = l.length * 2 := by
  induction l with
  | nil => rfl
  | cons a r ih => show ([Value.string a.f0, Value.string a.f1] ++ cells r).length = _; rw [List.length_append, ih]; show 2 + _ = (r.length + 1) * 2; omega
theorem cells_append (l m : List S44) : cells (l ++ m) = cells l ++ cells m := by unfold cells; rw [List.flatMap_append]
theorem cells_at : ∀ (l : List S44) (j : Nat) (p : S44), l[j]? = some p → ∀ i u, [Value.string p.f0, Value.string p.f1][i]? = some u → (cells l)[j * 2 + i]? = some u
  | [], j, p, h, _, _, _ => by cases h
  | a :: r, 0, p, h, i, u, hu => by
    obtain rfl : a = p := by simpa using h
    show ([Value.string a.f0, Value.string a.f1] ++ cells r)[0 * 2 + i]? = _
    rw [Nat.zero_mul, Nat.zero_add, List.getElem?_append_left (List.getElem?_eq_some_iff.1 hu).1]; exact hu
  | a :: r, j + 1, p, h, i, u, hu => by
    have ih := cells_at r j p (by simpa using h) i u hu
    show ([Value.string a.f0, Value.string a.f1] ++ cells r)[(j + 1) * 2 + i]? = _
    rw [List.getElem?_append_right (by show 2 ≤ _; omega)]
    show (cells r)[(j + 1) * 2 + i - 2]? = _
    rw [show (j + 1) * 2 + i - 2 = j * 2 + i by omega]; exact ih
/-- The row of a copy with its mark. -/
def mark : S44 := ⟨(⟨#[109, 97, 114, 107]⟩ : ByteArray), (⟨#[]⟩ : ByteArray)⟩
def At (w : World) (g : Nat) (l : List S44) : Prop := w.heap[g]? = some (.cells (cells (l ++ [mark])).toArray 44 (0, 0))
theorem At.below {w w1 : World} {g : Nat} {l : List S44} (h : At w g l) (hb : Below w.heap.size w w1) : At w1 g l := (hb.block g (blk_lt h)).trans h
theorem row_cell {w : World} {g : Nat} {l : List S44} (h : w.heap[g]? = some (.cells (cells l).toArray 44 (0, 0))) (j : Nat) (p : S44) (hp : l[j]? = some p) (i : Nat) (u : Value) (hu : [Value.string p.f0, Value.string p.f1][i]? = some u) : w.cell? ⟨g, j * 2 + i, none⟩ = some u := by
  rw [blk_cell h (j * 2 + i)]
  have := cells_at l j p hp i u hu
  simpa using this
theorem rowC {w : World} {g : Nat} {l m : List S44} (hl : l.length ≤ 9223372036854775807) (h : w.heap[g]? = some (.cells (cells (l ++ m)).toArray 44 (0, 0))) : Kd.C k44 w (some ⟨g, 0, none⟩) l.length l := by
  refine ⟨rfl, hl, fun _ => ⟨⟨g, 0, none⟩, rfl, fun j p hp => ⟨[.string p.f0, .string p.f1], rfl, k44_mk w p, fun i u hu => ?_⟩⟩⟩
  rw [add_plain]
  exact row_cell h j p (by rw [List.getElem?_append_left (List.getElem?_eq_some_iff.1 hp).1]; exact hp) i u hu
theorem srcC {P : Program} {w : World} {A : Option Addr} {l : List S44} {t e : TypeId} (ht : P.underlying t = some (.slice e)) (h : Kd.C k44 w A l.length l) (c : Nat) : Src P 2 t (.slice A l.length c) l.length (cells l) w := by
  rcases Nat.eq_zero_or_pos l.length with h0 | h0
  · have hl : l = [] := List.eq_nil_of_length_eq_zero h0
    subst hl
    refine ⟨.inl ⟨e, ht⟩, fun _ => rfl, ?_, ?_, rfl, fun u hu => by cases hu⟩
    · cases A <;> (simp [Builtin.firstCells, cells]) <;> rfl
    · cases A <;> (simp [Builtin.firstCells, cells]) <;> rfl
  · obtain ⟨ad, rfl, hc⟩ := h.2.2 h0
    refine Src.ofSlice w ht ad l.length c _ (cells_length l) (fun j u hu => ?_) (fun u hu => ?_)
    · have hj : j < l.length * 2 := by have := (List.getElem?_eq_some_iff.1 hu).1; rwa [cells_length] at this
      have hj2 : j / 2 < l.length := by omega
      obtain ⟨c0, hs0, hK, hcell⟩ := hc (j / 2) _ (List.getElem?_eq_getElem hj2)
      obtain rfl := k44_open hK
      have hx : ∃ v, [Value.string (l[j / 2]).f0, Value.string (l[j / 2]).f1][j % 2]? = some v := by
        have : j % 2 = 0 ∨ j % 2 = 1 := by omega
        rcases this with h | h <;> rw [h] <;> exact ⟨_, rfl⟩
      obtain ⟨v, hv⟩ := hx
      have h1 := cells_at l (j / 2) _ (List.getElem?_eq_getElem hj2) (j % 2) v hv
      have h2 := hcell (j % 2) v hv
      have e : j / 2 * 2 + j % 2 = j := by omega
      have e' : j / 2 * k44.sz + j % 2 = j := e
      rw [e] at h1
      rw [e'] at h2
      rw [h1] at hu
      rw [h2, hu]
    · unfold cells at hu
      obtain ⟨x, _, hx⟩ := List.mem_flatMap.1 hu
      simp only [List.mem_cons, List.not_mem_nil, or_false] at hx
      rcases hx with rfl | rfl <;> rfl
theorem make_run (c : Nat) (hc : c ≤ 8796093022208) (W : World) : (Instr.makeSlice 33 (.int .i64 0) (.int .i64 (c : Int))).run Tryd.prog W = .ok (.slice (some ⟨W.heap.size, 0, none⟩) 0 c) (W.alloc (.cells (madeCells #[.string ⟨#[]⟩, .string ⟨#[]⟩] (c * 2)) 44)) := by
  obtain ⟨i, hi, h⟩ := Option.map_eq_some_iff.1 info44
  simp only [Prod.mk.injEq] at h
  have := run_make (P := Tryd.prog) W 33 44 i (.agg #[(.string ⟨#[]⟩), (.string ⟨#[]⟩)]) Tryd.underlying33 hi h.1 .i64 .i64 0 (c : Int) (Int.le_refl _) (by omega) (by rw [h.2.2]; omega) (by omega)
  rw [h.2.1] at this
  exact this
theorem cut_to (W : World) (A : Option Addr) (n c : Nat) (j : Nat) (hj : j ≤ c) (hc : c ≤ 8796093022208) : (Instr.slice 33 (.slice A n c) none (some (.int .i64 (j : Int))) none).run Tryd.prog W = .ok (.slice A j c) W := by
  obtain ⟨i, hi, _, hsz, _⟩ := info_parts info44
  have hel : Tryd.prog.elem 33 = 44 := by simp [Program.elem, Tryd.underlying33]
  have hu : Tryd.prog.underlying 33 = some (.slice (Tryd.prog.elem 33)) := by rw [hel]; exact Tryd.underlying33
  have ha : (A.map fun x => x.add 0) = A := by cases A <;> simp [Addr.add]
  rw [run_slice_h W 33 A n c hu .i64 (j : Int) (by omega) (by omega), hel]
  simp [sizeOf, typeInfo, hi, hsz, sliced, Result.andThen, ha]
set_option maxHeartbeats 4000000 in
theorem calls (A : Option Addr) (c : Nat) (l : List S44) (w : World) (hC : Kd.C k44 w A l.length l) (hc : l.length ≤ c) (hl : l.length ≤ 4398046511000) :
    Calls Tryd.prog 21 #[.slice A l.length c] w fun e w' => ∃ g, e = .returned (.slice (some ⟨g, 0, none⟩) l.length (l.length + 1)) ∧ w.heap.size ≤ g ∧ At w' g l ∧ Below w.heap.size w w' := by
  have HC := Aside0.mk hC
  have hu44 := Tryd.underlying44
  obtain ⟨n, hn⟩ : ∃ n, n = l.length := ⟨_, rfl⟩
  have HN := Aside0.mk hn
  have hw : wrap64 ((n : Int) + 1) = (n : Int) + 1 := by unfold wrap64; omega
  have hmk : ∀ W, (Instr.makeSlice 33 (.int .i64 0) (.int .i64 ((n : Int) + 1))).run Tryd.prog W = .ok (.slice (some ⟨W.heap.size, 0, none⟩) 0 (n + 1)) (W.alloc (.cells (madeCells #[.string ⟨#[]⟩, .string ⟨#[]⟩] ((n + 1) * 2)) 44)) := fun W => make_run (n + 1) (by omega) W
  rw [← hn]
  have hcc : n ≤ c := by omega
  have hl' : n ≤ 4398046511000 := by omega
  clear hC hn hc hl
  go_enter Tryd.func21, Tryd.ntmps21
  obtain ⟨cur0, hcur0⟩ : ∃ x, x = madeCells #[Value.string ⟨#[]⟩, Value.string ⟨#[]⟩] ((n + 1) * 2) := ⟨_, rfl⟩
  have hs0 : cur0.size = (n + 1) * 2 := by rw [hcur0]; exact size_madeCells _ _
  obtain ⟨cur1, hcur1⟩ : ∃ x, x = (cur0.toList.take (0 * 2) ++ cells l ++ cur0.toList.drop (0 * 2 + n * 2)).toArray := ⟨_, rfl⟩
  have hs1 : cur1.size = (n + 1) * 2 := by rw [hcur1]; simp [cells_length, ← HN.out, hs0]; omega
  have hcur2 : (cur1.toList.take (n * 2) ++ cells [mark] ++ cur1.toList.drop (n * 2 + 1 * 2)).toArray = (cells (l ++ [mark])).toArray := by
    have e1 : cur1.toList.take (n * 2) = cells l := by
      rw [hcur1]
      show ((cur0.toList.take (0 * 2) ++ cells l ++ cur0.toList.drop (0 * 2 + n * 2))).take (n * 2) = _
      rw [Nat.zero_mul, List.take_zero, List.nil_append]
      exact List.take_left' (by rw [cells_length, HN.out])
    have e2 : cur1.toList.drop (n * 2 + 1 * 2) = [] := List.drop_eq_nil_of_le (by rw [Array.length_toList, hs1]; omega)
    rw [e1, e2, List.append_nil, cells_append]
  rw [← hcur0] at hmk
  obtain ⟨W0, hW0⟩ : ∃ W0, W0 = w.alloc (.cells cur0 44) := ⟨_, rfl⟩
  have hr0 : W0.heap[w.heap.size]? = some (.cells cur0 44 (0, 0)) := by rw [hW0]; exact Marks.alloc_at _ _
  have hb0 : Below w.heap.size w W0 := by rw [hW0]; exact below_alloc (Below.refl _ _) _
  obtain ⟨w1, hw1⟩ : ∃ w1, w1 = W0.setRow w.heap.size cur1 := ⟨_, rfl⟩
  have hr1 : w1.heap[w.heap.size]? = some (.cells cur1 44 (0, 0)) := by rw [hw1]; exact setRow_heap _ _ _ _ _ _ hr0
  have hb1 : Below w.heap.size w w1 := by rw [hw1]; exact Marks.below_setRow hb0 hb0.size _ _ (Nat.le_refl _)
  obtain ⟨W2, hW2⟩ : ∃ W2, W2 = w1.alloc (.cells #[.string ⟨#[109, 97, 114, 107]⟩, .string ⟨#[]⟩] 44) := ⟨_, rfl⟩
  have hr2 : W2.heap[w.heap.size]? = some (.cells cur1 44 (0, 0)) := by rw [hW2]; exact blk_alloc hr1 _
  have hb2 : Below w.heap.size w W2 := by rw [hW2]; exact below_alloc hb1 _
  have hC2 : Kd.C k44 W2 (some ⟨w1.heap.size, 0, none⟩) 1 [mark] := by rw [hW2]; exact rowC (l := [mark]) (m := []) (by decide) (Marks.alloc_at w1 _)
  have hr3 : (W2.setRow w.heap.size (cells (l ++ [mark])).toArray).heap[w.heap.size]? = some (.cells (cells (l ++ [mark])).toArray 44 (0, 0)) := setRow_heap _ _ _ _ _ _ hr2
  have hb3 : Below w.heap.size w (W2.setRow w.heap.size (cells (l ++ [mark])).toArray) := Marks.below_setRow hb2 hb2.size _ _ (Nat.le_refl _)
  have X0 := Aside0.mk hr0
  have X2 := Aside0.mk hr2
  have XC := Aside0.mk hC2
  have X3 := Aside0.mk hr3
  have XB := Aside0.mk hb3
  have XW1 := Aside0.mk hw1
  have XW0 := Aside0.mk hW0
  have XW2 := Aside0.mk hW2
  have Xc1 := Aside0.mk hcur1
  have Xc2 := Aside0.mk hcur2
  have Xs0 := Aside0.mk hs0
  have Xs1 := Aside0.mk hs1
  have XL := Aside0.mk hl'
  have hcut := fun W => cut_to W (some ⟨w.heap.size, 0, none⟩) (n + 1) (n + 1) n (by omega) (by omega)
  clear hr0 hb0 hr1 hb1 hr2 hb2 hC2 hr3 hb3 hw1 hW0 hW2 hcur0 hcur1 hcur2 hs0 hs1 hl'
  go_wp2_with (first
    | (at_builtin; refine ev_room rfl (.tmp 6) (.tmp 7) 33 33 44 _ _ rfl Tryd.underlying33 info44 w.heap.size 0 (n + 1) cur0 ?row (.slice A n c) n (cells l) rfl rfl ?src ?room ?fit ?_; (case row => (rw [← XW0.out]; exact X0.out)); (case src => (rw [HN.out]; exact srcC Tryd.underlying33 (Kd.C_alloc HC.out _) c)); (case room => omega); (case fit => (rw [Xs0.out]; omega)); intro wz hwz; rw [← XW0.out, ← Xc1.out, ← XW1.out] at hwz; subst hwz)
    | (at_builtin; refine ev_room rfl (.tmp 8) (.tmp 10) 33 33 44 _ _ rfl Tryd.underlying33 info44 w.heap.size n (n + 1) cur1 ?row (.slice (some ⟨wz.heap.size, 0, none⟩) 1 1) 1 (cells [mark]) rfl rfl ?src ?room ?fit ?_; (case row => (rw [← XW2.out]; exact X2.out)); (case src => (rw [← XW2.out]; exact srcC (l := [mark]) Tryd.underlying33 XC.out 1)); (case room => omega); (case fit => (rw [Xs1.out]; omega)); intro wy hwy; rw [← XW2.out, Xc2.out] at hwy; subst hwy))
  go_ret
  exact ⟨w.heap.size, rfl, Nat.le_refl _, X3.out, XB.out⟩
end Mine
end Go.Proofs.YtcengaholljddaaDoor.PPax
