/- The walk of PathJoins: a copy of the parts with a mark in its spare room. Conditions: as each theorem says. -/
import Derived.Test.YtplhgoccnjgkpaaDoorPPathx5
import Derived.Deep.AppendSrc
import Derived.KernelRfl
namespace Go.Proofs.YtplhgoccnjgkpaaDoor.PPath
open Go.RowKit Go.Proofs.YtplhgoccnjgkpaaDoorW.PrintWords Go.Proofs.YtplhgoccnjgkpaaDoorW.PrintLast Go.Proofs.YtplhgoccnjgkpaaDoorW.PrintMore
set_option linter.unusedVariables false
set_option linter.unusedSimpArgs false
namespace SM
/-- append(v, x...) where there is room, x anything that yields cells. -/
theorem run_room {P : Program} {w : World} (t tx ty e : TypeId) (i : TypeInfo) (ht : P.underlying t = some (.slice e)) (hi : P.info? e = some i) (hs1 : i.size = 1)
    (g sLen sCap : Nat) (cur : Array Value) (hg : w.heap[g]? = some (.cells cur e (0, 0))) (x : Value) (n : Nat) (news : List Value) (hs : Src P 1 tx x n news w)
    (hroom : sLen + n ≤ sCap) (hfit : sLen + n ≤ cur.size) :
    (Builtin.append_ #[t, tx] ty #[.slice (some ⟨g, 0, none⟩) sLen sCap, x]).run P w =
      .ok (.slice (some ⟨g, 0, none⟩) (sLen + n) sCap) (w.setRow g (cur.toList.take sLen ++ news ++ cur.toList.drop (sLen + n)).toArray) := by
  have hl : news.length = n := by simpa using hs.newsLen
  have hst := run_storeCells_at P g sLen e news 0 cur w hg (by omega) hs.one
  simp only [Nat.add_zero, hl] at hst
  rcases hs.kind with ⟨e', hk⟩ | hk <;>
    simp [Builtin.append_, run_underlying ht, run_underlying hk, sizeOf, typeInfo, hi, hs1, hs.len, hroom, hs.cells, Addr.add_lit, hst]
theorem ev_room {P : Program} {ops : Array Oper} {rest : List Oper} {o : Oper} {a : Act} {Q : Exit → Act → World → Prop} {W : World} (hgd : o.guard = none) (s x : Operand) (t tx e : TypeId) (z : Option Value) (bts : Nat)
    (ho : o.op = .call { callee := .builtin .append, args := #[s, x], argTypes := #[t, tx] })
    (ht : P.underlying t = some (.slice e)) (hinfo : (P.info? e).map (fun i => (i.zero, i.size, i.bytes)) = some (z, 1, bts))
    (g sLen sCap : Nat) (cur : Array Value) (hg : W.heap[g]? = some (.cells cur e (0, 0))) (vx : Value) (n : Nat) (news : List Value)
    (hs : a.eval s = .slice (some ⟨g, 0, none⟩) sLen sCap) (hx : a.eval x = vx) (hsrc : Src P 1 tx vx n news W) (hroom : sLen + n ≤ sCap) (hfit : sLen + n ≤ cur.size)
    (h : ∀ w1, w1 = W.setRow g (cur.toList.take sLen ++ news ++ cur.toList.drop (sLen + n)).toArray → wpList P ops Q rest (a.put o.dst (.slice (some ⟨g, 0, none⟩) (sLen + n) sCap)) w1) :
    wpList P ops Q (o :: rest) a W := by
  obtain ⟨i0, hi, hzz⟩ := Option.map_eq_some_iff.1 hinfo
  simp only [Prod.mk.injEq] at hzz
  obtain ⟨hz0, hz1, hz2⟩ := hzz
  refine wpList_plain hgd fun K hK => ?_
  have hr := run_room t tx o.type e i0 ht hi hz1 g sLen sCap cur hg vx n news hsrc hroom hfit
  have hw := h _ rfl
  unfold Oper.wp execOp
  simp only [ho, resolve, invoke, builtin, Sem.run_bind, Sem.run_pure, Result.andThen_ok, List.map_toArray, List.map_cons, List.map_nil, hs, hx, hr]
  exact hK _ _ hw
def cells (l : List ByteArray) : List Value := l.map Value.string
theorem cells_length (l : List ByteArray) : (cells l).length = l.length := List.length_map _
theorem cells_append (l m : List ByteArray) : cells (l ++ m) = cells l ++ cells m := List.map_append
def mark : ByteArray := ⟨#[109, 97, 114, 107]⟩
/-- The row of a copy with its mark. -/
def At (w : World) (g : Nat) (l : List ByteArray) : Prop := w.heap[g]? = some (.cells (cells (l ++ [mark])).toArray 9 (0, 0))
theorem At.below {w w1 : World} {g : Nat} {l : List ByteArray} (h : At w g l) (hb : Below w.heap.size w w1) : At w1 g l := (hb.block g (blk_lt h)).trans h
theorem row_cell {w : World} {g : Nat} {l : List ByteArray} (h : w.heap[g]? = some (.cells (cells l).toArray 9 (0, 0))) (j : Nat) (x : ByteArray) (hx : l[j]? = some x) : w.cell? ⟨g, j, none⟩ = some (.string x) := by
  rw [blk_cell h j]
  unfold cells
  simp [hx]
theorem rowC {w : World} {g : Nat} {l m : List ByteArray} (hl : l.length ≤ 9223372036854775807) (h : w.heap[g]? = some (.cells (cells (l ++ m)).toArray 9 (0, 0))) : Kd.C Kd.string w (some ⟨g, 0, none⟩) l.length l := by
  refine Kd.C_of_reads (enc := Value.string) (d := (⟨#[]⟩ : ByteArray)) (h1 := fun _ => rfl) ⟨rfl, hl, fun _ => ⟨⟨g, 0, none⟩, rfl, fun j hj => ?_⟩⟩
  rw [add_plain, row_cell h j l[j] (by rw [List.getElem?_append_left hj, List.getElem?_eq_getElem hj]), List.getD_eq_getElem?_getD, List.getElem?_eq_getElem hj]; rfl
theorem srcC {P : Program} {w : World} {A : Option Addr} {l : List ByteArray} {t e : TypeId} (ht : P.underlying t = some (.slice e)) (h : Kd.C Kd.string w A l.length l) (c : Nat) : Src P 1 t (.slice A l.length c) l.length (cells l) w := by
  have hr := Kd.reads_of_C (enc := Value.string) (d := (⟨#[]⟩ : ByteArray)) (h1 := fun _ => rfl) h
  rcases Nat.eq_zero_or_pos l.length with h0 | h0
  · have hl : l = [] := List.eq_nil_of_length_eq_zero h0
    subst hl
    refine ⟨.inl ⟨e, ht⟩, fun _ => rfl, ?_, ?_, rfl, fun u hu => by cases hu⟩
    · cases A <;> (simp [Builtin.firstCells, cells]) <;> rfl
    · cases A <;> (simp [Builtin.firstCells, cells]) <;> rfl
  · obtain ⟨ad, rfl, hc⟩ := hr.2.2 h0
    refine Src.ofSlice w ht ad l.length c _ (by rw [cells_length, Nat.mul_one]) (fun j u hu => ?_) (fun u hu => ?_)
    · have hj : j < l.length := by have := (List.getElem?_eq_some_iff.1 hu).1; rwa [cells_length] at this
      rw [hc j hj]
      rw [← hu]; simp [cells, hj]
    · unfold cells at hu; obtain ⟨x, _, rfl⟩ := List.mem_map.1 hu; rfl
theorem alloc_at (W : World) (o : Obj) : (W.alloc o).heap[W.heap.size]? = some o := heap_alloc_new W o
theorem below_setRow {b : Nat} {w W : World} (h : Below b w W) (hb : b ≤ W.heap.size) (g : Nat) (cs : Array Value) (hg : b ≤ g) : Below b w (W.setRow g cs) :=
  by
  have hg2 : W.grownBy (W.setRow g cs) (some g) := ⟨rfl, rfl, rfl, by simp, fun k _ hk => setRow_other W g k _ (fun e => hk (by rw [e]))⟩
  exact pw_below_grown h (some g) hb hg2 (fun k hk => by injection hk with hk; omega)
theorem make_run (c : Nat) (hc : c ≤ 8796093022208) (W : World) : (Instr.makeSlice 22 (.int .i64 0) (.int .i64 (c : Int))).run Tryd.prog W = .ok (.slice (some ⟨W.heap.size, 0, none⟩) 0 c) (W.alloc (.cells (madeCells #[.string ⟨#[]⟩] (c * 1)) 9)) := by
  obtain ⟨i, hi, h⟩ := Option.map_eq_some_iff.1 info9
  simp only [Prod.mk.injEq] at h
  have := run_make (P := Tryd.prog) W 22 9 i (.string ⟨#[]⟩) Tryd.underlying22 hi h.1 .i64 .i64 0 (c : Int) (Int.le_refl _) (by omega) (by rw [h.2.2]; omega) (by omega)
  rw [h.2.1] at this
  exact this
theorem cut_to (W : World) (A : Option Addr) (n c : Nat) (j : Nat) (hj : j ≤ c) (hc : c ≤ 8796093022208) : (Instr.slice 22 (.slice A n c) none (some (.int .i64 (j : Int))) none).run Tryd.prog W = .ok (.slice A j c) W := by
  obtain ⟨i, hi, _, hsz, _⟩ := info_parts info9
  have hel : Tryd.prog.elem 22 = 9 := by simp [Program.elem, Tryd.underlying22]
  have hu : Tryd.prog.underlying 22 = some (.slice (Tryd.prog.elem 22)) := by rw [hel]; exact Tryd.underlying22
  have ha : (A.map fun x => x.add 0) = A := by cases A <;> simp [Addr.add]
  rw [run_slice_h W 22 A n c hu .i64 (j : Int) (by omega) (by omega), hel]
  simp [sizeOf, typeInfo, hi, hsz, sliced, Result.andThen, ha]
end SM
namespace OJ
set_option maxHeartbeats 8000000 in
set_option maxRecDepth 100000 in
theorem walk_large (k : Nat) (A0 : Option Addr) (c : Nat) (l : List ByteArray) (s : ByteArray) (w : World) (hGl : Gl w) (h1 : amphoralaw08_alive.f k = some true) (h2 : 3000 < l.length ∨ (l.length ≤ 3000 ∧ 20000 < s.size)) :
    Calls Tryd.prog 3 #[.slice A0 l.length c, .string s] w fun e w' => e = .returned (.bool true) ∧ Below w.heap.size w w' := by
  have HB := Aside0.mk (Below.refl w.heap.size w)
  have HGL := Aside0.mk hGl
  have A1 := Aside0.mk h1
  obtain ⟨n, hn⟩ : ∃ n, n = l.length := ⟨_, rfl⟩
  obtain ⟨m, hm⟩ : ∃ m, m = s.size := ⟨_, rfl⟩
  rw [← hn] at h2 ⊢
  rw [← hm] at h2
  rcases h2 with h2 | ⟨h2, h3⟩
  · have c1 : decide ((n : Int) > 3000) = true := decide_eq_true (by omega)
    have p1 := eq_true (show (3000 : Int) < (n : Int) by omega)
    clear h1 hGl hn hm h2
    go_enter Tryd.func3, Tryd.ntmps3
    go_wp2_with (go_at_call 9; (with_reducible refine (amphoralaw08_alive.calls k true _ ?s1 A1.out).mono ?_); (case s1 => exact HGL.out); rintro e1 w1 ⟨rfl, hb⟩; have n0_ := Aside0.mk (below_step HB.out hb); clear HB hb; have HB := n0_; clear n0_)
    go_ret
    exact ⟨by first | rfl | (simp; done) | (simp [*]; done), by repeat (first | (with_reducible first | exact HB.out | apply below_alloc | apply pw_below_drewN | apply below_drew1) | exact HB.out)⟩
  · have c1 : decide ((n : Int) > 3000) = false := decide_eq_false (by omega)
    have p1 := eq_false (show ¬ (3000 : Int) < (n : Int) by omega)
    have c2 : decide ((s.size : Int) > 20000) = true := decide_eq_true (by omega)
    have p2 := eq_true (show (20000 : Int) < (s.size : Int) by omega)
    clear h1 hGl hn hm h2 h3
    go_enter Tryd.func3, Tryd.ntmps3
    go_wp2_with (go_at_call 9; (with_reducible refine (amphoralaw08_alive.calls k true _ ?s1 A1.out).mono ?_); (case s1 => exact HGL.out); rintro e1 w1 ⟨rfl, hb⟩; have n0_ := Aside0.mk (below_step HB.out hb); clear HB hb; have HB := n0_; clear n0_)
    go_ret
    exact ⟨by first | rfl | (simp; done) | (simp [*]; done), by repeat (first | (with_reducible first | exact HB.out | apply below_alloc | apply pw_below_drewN | apply below_drew1) | exact HB.out)⟩
set_option maxHeartbeats 8000000 in
set_option maxRecDepth 100000 in
theorem walk_main (k : Nat) (A0 : Option Addr) (c : Nat) (l : List ByteArray) (s : ByteArray) (w : World) (hGl : Gl w) (x z : ByteArray) (e g : Option Int) (f h : Int)
    (hC : Kd.C Kd.string w A0 l.length l) (hc : l.length ≤ c) (hl : l.length ≤ 3000) (hs : s.size ≤ 20000)
    (h1 : amphoralaw08_alive.f k = some true) (h2 : path_Join.f k l = some (x, e)) (h3 : amphoraref08_Join.f k l = some (x, f)) (h4 : amphoranum_Num.f e = some f)
    (h5 : path_Normal.f k s = some (z, g)) (h6 : amphoraref08_Normal.f k s = some (z, h)) (h7 : amphoranum_Num.f g = some h) (h8 : amphoranum_Texts.f k l l = some true) :
    Calls Tryd.prog 3 #[.slice A0 l.length c, .string s] w fun e w' => e = .returned (.bool true) ∧ Below w.heap.size w w' := by
  have HB := Aside0.mk (Below.refl w.heap.size w)
  have HGL := Aside0.mk hGl
  have HC := Aside0.mk hC
  have A1 := Aside0.mk h1
  have A2 := Aside0.mk h2
  have A3 := Aside0.mk h3
  have A4 := Aside0.mk h4
  have A5 := Aside0.mk h5
  have A6 := Aside0.mk h6
  have A7 := Aside0.mk h7
  have A8 := Aside0.mk h8
  have HL := Aside0.mk hc
  have HLL := Aside0.mk hl
  obtain ⟨n, hn⟩ : ∃ n, n = l.length := ⟨_, rfl⟩
  have HN := Aside0.mk hn
  have c1 : decide ((n : Int) > 3000) = false := decide_eq_false (by omega)
  have p1 := eq_false (show ¬ (3000 : Int) < (n : Int) by omega)
  have c2 : decide ((s.size : Int) > 20000) = false := decide_eq_false (by omega)
  have p2 := eq_false (show ¬ (20000 : Int) < (s.size : Int) by omega)
  have hw : wrap64 ((n : Int) + 1) = (n : Int) + 1 := by unfold wrap64; omega
  obtain ⟨cur0, hcur0⟩ : ∃ x, x = madeCells #[Value.string ⟨#[]⟩] ((n + 1) * 1) := ⟨_, rfl⟩
  have hmk : ∀ W, (Instr.makeSlice 22 (.int .i64 0) (.int .i64 ((n : Int) + 1))).run Tryd.prog W = .ok (.slice (some ⟨W.heap.size, 0, none⟩) 0 (n + 1)) (W.alloc (.cells cur0 9)) := fun W => by rw [hcur0]; exact SM.make_run (n + 1) (by omega) W
  have hcut : ∀ (g : Nat) (W : World), (Instr.slice 22 (.slice (some ⟨g, 0, none⟩) (n + 1) (n + 1)) none (some (.int .i64 (n : Int))) none).run Tryd.prog W = .ok (.slice (some ⟨g, 0, none⟩) n (n + 1)) W := fun g W => SM.cut_to W _ _ _ n (by omega) (by omega)
  have hcut2 : ∀ (g : Nat) (W : World), (Instr.slice 22 (.slice (some ⟨g, 0, none⟩) n (n + 1)) none (some (.int .i64 ((n : Int) + 1))) none).run Tryd.prog W = .ok (.slice (some ⟨g, 0, none⟩) (n + 1) (n + 1)) W := fun g W => SM.cut_to W _ _ _ (n + 1) (by omega) (by omega)
  have hs0 : cur0.size = n + 1 := by rw [hcur0]; exact (size_madeCells _ _).trans (Nat.mul_one _)
  obtain ⟨cur1, hcur1⟩ : ∃ x, x = (cur0.toList.take 0 ++ SM.cells l ++ cur0.toList.drop (0 + n)).toArray := ⟨_, rfl⟩
  have hs1 : cur1.size = n + 1 := by rw [hcur1]; simp [SM.cells_length, ← HN.out, hs0] <;> omega
  have hcur2 : (cur1.toList.take n ++ SM.cells [SM.mark] ++ cur1.toList.drop (n + 1)).toArray = (SM.cells (l ++ [SM.mark])).toArray := by
    have e1 : cur1.toList.take n = SM.cells l := by
      rw [hcur1]
      show ((cur0.toList.take 0 ++ SM.cells l ++ cur0.toList.drop (0 + n))).take n = _
      rw [List.take_zero, List.nil_append]
      exact List.take_left' (by rw [SM.cells_length, HN.out])
    have e2 : cur1.toList.drop (n + 1) = [] := List.drop_eq_nil_of_le (by rw [Array.length_toList, hs1]; omega)
    rw [e1, e2, List.append_nil, SM.cells_append]
  have Xc1 := Aside0.mk hcur1
  have Xc2 := Aside0.mk hcur2
  have Xs0 := Aside0.mk hs0
  have Xs1 := Aside0.mk hs1
  have XN := Aside0.mk (show n ≤ 3000 by omega)
  have XC := Aside0.mk (show n ≤ c by omega)
  have J10 : Aside0 (∀ (A : Option Addr) (c : Nat) (W : World), Kd.C Kd.string W A l.length l → n ≤ c → Gl W → Calls Tryd.prog 10 #[.slice A n c] W fun e' w' => e' = .returned (.tuple #[.string x, errW e]) ∧ Below W.heap.size W w') :=
    ⟨by rw [hn]; exact fun A c W a1 a2 a3 => path_Join.calls k A c l x e W a1 a2 a3 h2⟩
  have J11 : Aside0 (∀ (A : Option Addr) (c : Nat) (W : World), Kd.C Kd.string W A l.length l → n ≤ c → Gl W → Calls Tryd.prog 11 #[.slice A n c] W fun e' w' => e' = .returned (.tuple #[.string x, .int .i64 f]) ∧ Below W.heap.size W w') :=
    ⟨by rw [hn]; exact fun A c W a1 a2 a3 => amphoraref08_Join.calls k A c l x f W a1 a2 a3 h3⟩
  have J15 : Aside0 (∀ (A : Option Addr) (c : Nat) (A1 : Option Addr) (c1 : Nat) (W : World), Kd.C Kd.string W A l.length l → n ≤ c → Kd.C Kd.string W A1 l.length l → n ≤ c1 → Gl W → Calls Tryd.prog 15 #[.slice A n c, .slice A1 n c1] W fun e' w' => e' = .returned (.bool true) ∧ Drawn0 W w') :=
    ⟨by rw [hn]; exact fun A c A1 c1 W a1 a2 a3 a4 a5 => amphoranum_Texts.calls k A c l A1 c1 l true W a1 a2 a3 a4 a5 h8⟩
  rw [← hn]
  clear hC hc hl hs h1 h2 h3 h4 h5 h6 h7 h8 hGl hcur0 hcur1 hcur2 hs0 hs1 hn
  go_enter Tryd.func3, Tryd.ntmps3
  go_wp2_with (first
    | (go_at_call 9; (with_reducible refine (amphoralaw08_alive.calls k true _ ?s1 A1.out).mono ?_); (case s1 => exact HGL.out); rintro e1 w1 ⟨rfl, hb⟩; have n0_ := Aside0.mk (below_step HB.out hb); clear HB hb; have HB := n0_; clear n0_)
    | (at_builtin; refine SM.ev_room rfl (.tmp 27) (.tmp 28) 22 22 9 _ _ rfl Tryd.underlying22 info9 w1.heap.size 0 (n + 1) cur0 ?row (.slice A0 n c) n (SM.cells l) rfl rfl ?src ?room ?fit ?_; (case row => exact SM.alloc_at _ _); (case src => (rw [HN.out]; exact SM.srcC Tryd.underlying22 (Kd.C_alloc (Kd.C_below HC.out HB.out) _) c)); (case room => omega); (case fit => (rw [Xs0.out]; omega)); intro wz hwz; rw [← Xc1.out] at hwz; have X1 := Aside0.mk (show wz.heap[w1.heap.size]? = some (.cells cur1 9 (0, 0)) by rw [hwz]; exact setRow_heap _ _ _ _ _ _ (SM.alloc_at _ _)); have B1 := Aside0.mk (show Below w1.heap.size w1 wz by rw [hwz]; exact SM.below_setRow (below_alloc (Below.refl _ _) _) (by simp) _ _ (Nat.le_refl _)); clear hwz)
    | (at_builtin; refine SM.ev_room rfl (.tmp 29) (.tmp 30) 22 22 9 _ _ rfl Tryd.underlying22 info9 w1.heap.size n (n + 1) cur1 ?row (.slice (some ⟨wz.heap.size, 0, none⟩) 1 1) 1 (SM.cells [SM.mark]) rfl rfl ?src ?room ?fit ?_; (case row => exact blk_alloc X1.out _); (case src => exact SM.srcC (l := [SM.mark]) Tryd.underlying22 (SM.rowC (l := [SM.mark]) (m := []) (by decide) (SM.alloc_at wz _)) 1); (case room => omega); (case fit => (rw [Xs1.out]; omega)); intro wy hwy; rw [Xc2.out] at hwy; have HM := Aside0.mk (show SM.At wy w1.heap.size l by rw [hwy]; exact setRow_heap _ _ _ _ _ _ (blk_alloc X1.out _)); have n0_ := Aside0.mk (below_step HB.out (show Below w1.heap.size w1 wy by rw [hwy]; exact SM.below_setRow (below_alloc B1.out _) (by have := B1.out.size; simp; omega) _ _ (Nat.le_refl _))); clear hwy HB X1 B1; have HB := n0_; clear n0_)
    | (go_at_call 10; refine (J10.out (some ⟨w1.heap.size, 0, none⟩) (n + 1) _ ?s1 ?s2 ?s3).mono ?_; (case s1 => exact SM.rowC (m := [SM.mark]) (by have := HLL.out; omega) HM.out); (case s2 => omega); (case s3 => exact HGL.out.of HB.out); rintro e2 w2 ⟨rfl, hb⟩; have n0_ := Aside0.mk (below_step HB.out hb); have n1_ := Aside0.mk (SM.At.below HM.out hb); clear HB HM hb; have HB := n0_; have HM := n1_; clear n0_ n1_)
    | (go_at_call 11; refine (J11.out A0 c _ ?s1 XC.out ?s3).mono ?_; (case s1 => exact Kd.C_below HC.out HB.out); (case s3 => exact HGL.out.of HB.out); rintro e3 w3 ⟨rfl, hb⟩; have n0_ := Aside0.mk (below_step HB.out hb); have n1_ := Aside0.mk (SM.At.below HM.out hb); clear HB HM hb; have HB := n0_; have HM := n1_; clear n0_ n1_)
    | (go_at_call 12; refine (path_Normal.calls k s z g _ ?s3 A5.out).mono ?_; (case s3 => exact HGL.out.of HB.out); rintro e4 w4 ⟨rfl, hb⟩; have n0_ := Aside0.mk (below_step HB.out hb); have n1_ := Aside0.mk (SM.At.below HM.out hb); clear HB HM hb; have HB := n0_; have HM := n1_; clear n0_ n1_)
    | (go_at_call 13; refine (amphoraref08_Normal.calls k s z h _ ?s3 A6.out).mono ?_; (case s3 => exact HGL.out.of HB.out); rintro e5 w5 ⟨rfl, hb⟩; have n0_ := Aside0.mk (below_step HB.out hb); have n1_ := Aside0.mk (SM.At.below HM.out hb); clear HB HM hb; have HB := n0_; have HM := n1_; clear n0_ n1_; have hcell : w5.cell? ⟨w1.heap.size, n, none⟩ = some (.string (⟨#[109, 97, 114, 107]⟩ : ByteArray)) := SM.row_cell (l := l ++ [SM.mark]) HM.out n SM.mark (by rw [HN.out]; simp); have HC5 := Aside0.mk (Kd.C_below HC.out HB.out))
    | (go_at_call 14; (with_reducible refine (amphoranum_Num.calls e f _ ?s1 A4.out).mono ?_); (case s1 => exact HGL.out.of (by first | exact HB.out | (apply pw_below_drewN; exact HB.out))); rintro e6 w6 ⟨rfl, ⟨nd6, rfl⟩⟩)
    | (go_at_call 14; (with_reducible refine (amphoranum_Num.calls g h _ ?s1 A7.out).mono ?_); (case s1 => exact HGL.out.of (by repeat (first | exact HB.out | apply pw_below_drewN))); rintro e7 w7 ⟨rfl, ⟨nd7, rfl⟩⟩)
    | (go_at_call 15; refine (J15.out (some ⟨w1.heap.size, 0, none⟩) (n + 1) A0 c _ ?s1 ?s2 ?s3 XC.out ?s5).mono ?_; (case s1 => exact SM.rowC (m := [SM.mark]) (by have := HLL.out; omega) (SM.At.below HM.out (by repeat (first | exact Below.refl _ _ | apply pw_below_drewN)))); (case s2 => omega); (case s3 => exact Kd.C_below HC5.out (by repeat (first | exact Below.refl _ _ | apply pw_below_drewN))); (case s5 => exact HGL.out.of (by repeat (first | exact HB.out | apply pw_below_drewN))); rintro e8 w8 ⟨rfl, ⟨nd8, rfl⟩⟩))
  go_ret
  exact ⟨by first | rfl | (simp; done) | (simp [*]; done), by repeat (first | (with_reducible first | exact HB.out | apply below_alloc | apply pw_below_drewN | apply below_drew1) | exact HB.out)⟩
/-- What the plain law gives. -/
def Ok (k : Nat) (l : List ByteArray) (s : ByteArray) : Prop := amphoralaw08_alive.f k = some true ∧ (3000 < l.length ∨ (l.length ≤ 3000 ∧ 20000 < s.size) ∨ (l.length ≤ 3000 ∧ s.size ≤ 20000 ∧
  ∃ (x z : ByteArray) (e g : Option Int) (f h : Int), path_Join.f k l = some (x, e) ∧ amphoraref08_Join.f k l = some (x, f) ∧ amphoranum_Num.f e = some f ∧ path_Normal.f k s = some (z, g) ∧ amphoraref08_Normal.f k s = some (z, h) ∧ amphoranum_Num.f g = some h ∧ amphoranum_Texts.f k l l = some true))
theorem walk (k : Nat) (A0 : Option Addr) (c : Nat) (l : List ByteArray) (s : ByteArray) (w : World) (hGl : Gl w) (hC : Kd.C Kd.string w A0 l.length l) (hc : l.length ≤ c) (H : Ok k l s) :
    Calls Tryd.prog 3 #[.slice A0 l.length c, .string s] w fun e w' => e = .returned (.bool true) ∧ Below w.heap.size w w' := by
  obtain ⟨h1, H⟩ := H
  rcases H with h2 | h2 | ⟨h2, h3, x, z, e, g, f, h, a1, a2, a3, a4, a5, a6, a7⟩
  · exact walk_large k A0 c l s w hGl h1 (.inl h2)
  · exact walk_large k A0 c l s w hGl h1 (.inr h2)
  · exact walk_main k A0 c l s w hGl x z e g f h hC hc h2 h3 h1 a1 a2 a3 a4 a5 a6 a7
end OJ
end Go.Proofs.YtplhgoccnjgkpaaDoor.PPath
