/- amphoranum: Apart, the worlds. Conditions: as each theorem says. -/
import Derived.Test.YtfkbmjfhakooiaaDoorProg
import Derived.Test.YtfkbmjfhakooiaaDoorWWords
import Derived.Test.YtfkbmjfhakooiaaDoorWLast
import Derived.Test.YtfkbmjfhakooiaaDoorWMore
import Derived.WalkKit
import Derived.Deep.MidRow
namespace Go.Proofs.YtfkbmjfhakooiaaDoor.PTree
open Go.RowKit Go.Proofs.YtfkbmjfhakooiaaDoorW.PrintWords Go.Proofs.YtfkbmjfhakooiaaDoorW.PrintLast Go.Proofs.YtfkbmjfhakooiaaDoorW.PrintMore
set_option linter.unusedVariables false
set_option linter.unusedSimpArgs false
/-! ### amphoranum.Apart: rows of bytes, each its own (the worlds) -/
namespace Apart
open Go.RowKit
def Ne (v v' : Value) : Prop := ∀ k, v.ownBlock = some k → v'.ownBlock ≠ some k
theorem Ne.symm {v v' : Value} (h : Ne v v') : Ne v' v := fun k hk hk' => h k hk' hk
theorem Ne.other {v v' : Value} (h : Ne v v') : v'.ownBlock = none ∨ v'.ownBlock ≠ v.ownBlock := by
  cases hv : v'.ownBlock with
  | none => exact .inl rfl
  | some k => exact .inr fun e => h k e.symm hv
theorem own_typed' {w : World} {base : Nat} {e : TypeId} {size n : Nat} {v : Value} {xs : List Value} (h : w.ownsRow base e size v n xs) {k : Nat} (hk : v.ownBlock = some k) : ∃ cells, w.heap[k]? = some (.cells cells e (0, 0)) := by
  rcases h.2 with ⟨rfl, _⟩ | ⟨g, cap, cur, rfl, hb, hg, _⟩
  · simp [Value.ownBlock] at hk
  · simp [Value.ownBlock] at hk; subst hk; exact ⟨cur, hg⟩
theorem Ne.types {w : World} {b b' : Nat} {e e' : TypeId} {s s' n n' : Nat} {v v' : Value} {xs xs' : List Value} (h : w.ownsRow b e s v n xs) (h' : w.ownsRow b' e' s' v' n' xs') (hne : e ≠ e') : Ne v v' := by
  intro k hk hk'
  obtain ⟨c, h1⟩ := own_typed' h hk
  obtain ⟨c', h2⟩ := own_typed' h' hk'
  rw [h1] at h2
  simp only [Option.some.injEq, Obj.cells.injEq] at h2
  exact hne h2.2.1
theorem Ne.fresh {w : World} {b : Nat} {e : TypeId} {s n : Nat} {v v' : Value} {xs : List Value} (h : w.ownsRow b e s v n xs) (hv : ∀ k, v'.ownBlock = some k → w.heap.size ≤ k) : Ne v' v := by
  intro k hk hk'
  have := (h.lt k hk').2
  have := hv k hk
  omega
/-- append to an own row: the row that stood stands. -/
theorem run_append_keep {P : Program} (w : World) (base : Nat) (t ty e : TypeId) (i : TypeInfo) (z : Value) (size bytes : Nat) (ht : P.underlying t = some (.slice e)) (hi : P.info? e = some i) (hz : i.zero = some z)
    (hsize : i.size = size) (hby : i.bytes = bytes) (hzs : z.cells.size = size) (hsz : 0 < size)
    (v : Value) (n : Nat) (xs : List Value) (hown : w.ownsRow base e size v n xs)
    (a : Addr) (m c : Nat) (news : List Value) (hl : news.length = m * size) (hnews : ∀ j u, news[j]? = some u → w.cell? (a.add j) = some u) (h1 : ∀ u ∈ news, u.oneCell' = true)
    (h63 : n + m ≤ maxLen) (hbytes : (n + m) * bytes ≤ 140737488355328) (hbase : base ≤ w.heap.size) :
    ∃ v' w', (Builtin.append_ #[t, t] ty #[v, .slice (some a) m c]).run P w = .ok v' w' ∧ w'.ownsRow base e size v' (n + m) (xs ++ news) ∧ w'.ownsRow base e size v n xs ∧ w.grownBy w' v.ownBlock ∧
      (v'.ownBlock = v.ownBlock ∨ ∃ b, v'.ownBlock = some b ∧ w.heap.size ≤ b) := by
  subst hsize
  subst hby
  have hsmall : n + m ≤ 9223372036854775807 := by simp only [maxLen] at h63; omega
  have hlen : (xs ++ news).length = (n + m) * i.size := by rw [List.length_append, hown.1, hl, Nat.add_mul]
  have grown : ∀ (old : Nat), old < n + m → ∀ (row : Option Nat),
      (w.drew.alloc (.cells (xs.toArray ++ news.toArray ++ Builtin.zeroCells z.cells (grownCap w (n + m) old e - (n + m))) e)).ownsRow base e i.size
        (.slice (some ⟨w.heap.size, 0, none⟩) (n + m) (grownCap w (n + m) old e)) (n + m) (xs ++ news) ∧
      w.grownBy (w.drew.alloc (.cells (xs.toArray ++ news.toArray ++ Builtin.zeroCells z.cells (grownCap w (n + m) old e - (n + m))) e)) row := by
    intro old ho row
    have hge := grownCap_ge w (n + m) old e
    have hcm : grownCap w (n + m) old e ≤ maxLen := grownCap_le_maxLen w (n + m) old e h63
    refine ⟨⟨hlen, .inr ⟨w.heap.size, _, _, rfl, hbase, heap_alloc_new w.drew _, hge, hcm, ?_, ?_⟩⟩, ⟨rfl, rfl, rfl, by simp, fun k hk _ => Below.heap_alloc w.drew _ k hk⟩⟩
    · simp only [Array.size_append, List.size_toArray, size_zeroCells, hzs, hown.1, hl, ← Nat.add_mul]
      congr 1
      omega
    · simp only [Array.toList_append, List.append_assoc]
      rw [← List.append_assoc, ← hlen]
      exact List.take_left
  have fresh : ∀ old, old < n + m → (w.drew.alloc (.cells (xs.toArray ++ news.toArray ++ Builtin.zeroCells z.cells (grownCap w (n + m) old e - (n + m))) e)).ownsRow base e i.size v n xs := fun old ho =>
    hown.kept (grown old ho none).2 (by cases v.ownBlock <;> simp)
  rcases hown.2 with ⟨rfl, rfl⟩ | ⟨g, cap, cur, rfl, hbg, hg, hnc, hcm, hcs, htake⟩
  · have hx : xs = [] := List.eq_nil_of_length_eq_zero (by simpa using hown.1)
    subst hx
    by_cases hm : m = 0
    · subst hm
      have hn : news = [] := List.eq_nil_of_length_eq_zero (by simpa using hl)
      subst hn
      refine ⟨.slice none 0 0, w, ?_, World.ownsRow_nil w base e i.size, hown, ⟨rfl, rfl, rfl, Nat.le_refl _, fun _ _ _ => rfl⟩, .inl rfl⟩
      simp [Builtin.append_, run_underlying ht, sizeOf, typeInfo, hi, Builtin.lenOf, Builtin.firstCells, loadCells, loadCellsFrom]
    · have hr := run_append_nil (P := P) w t ty e i z ht hi hz a m c news hl hnews (by omega) (by omega) (by have hb := hbytes; simp only [Nat.zero_add] at hb; omega)
      have hgr := grown 0 (by omega) (Value.ownBlock (.slice none 0 0))
      have hfr := fresh 0 (by omega)
      simp only [Nat.zero_add, List.nil_append, Array.empty_append] at hgr hfr ⊢
      exact ⟨_, _, hr, hgr.1, hfr, hgr.2, .inr ⟨_, rfl, Nat.le_refl _⟩⟩
  · by_cases hroom : n + m ≤ cap
    · have hfit : n * i.size + news.length ≤ cur.size := by rw [hl, hcs, ← Nat.add_mul]; exact Nat.mul_le_mul_right _ hroom
      have hr := run_append_room (P := P) w t ty e i ht hi g n cap cur hg a m c news hl hnews h1 hroom hfit
      have hsz2 : ((cur.toList.take (n * i.size) ++ news ++ cur.toList.drop (n * i.size + news.length)).toArray).size = cap * i.size := by
        simp only [List.size_toArray, List.length_append, List.length_take, List.length_drop, Array.length_toList]
        omega
      refine ⟨_, _, hr, ⟨hlen, .inr ⟨g, cap, _, rfl, hbg, setRow_heap w g cur _ e _ hg, hroom, hcm, hsz2, ?_⟩⟩, ⟨hown.1, .inr ⟨g, cap, _, rfl, hbg, setRow_heap w g cur _ e _ hg, hnc, hcm, hsz2, ?_⟩⟩, ⟨rfl, rfl, rfl, by simp, fun k _ hk => setRow_other w g k _ (fun e => hk (by simp [Value.ownBlock, e]))⟩, .inl rfl⟩
      · rw [htake, ← hlen]
        exact List.take_left
      · rw [htake, List.append_assoc]
        exact List.take_left' hown.1
    · have holds : ∀ j u, xs[j]? = some u → w.cell? ((⟨g, 0, none⟩ : Addr).add j) = some u := hown.cells (g := g) rfl
      have hr := run_append_grow (P := P) w t ty e i z ht hi hz ⟨g, 0, none⟩ n cap xs hown.1 holds a m c news hl hnews (by omega) (by omega) (growslice_fits (by omega) hbytes)
      have hgr := grown cap (by omega) (Value.ownBlock (.slice (some ⟨g, 0, none⟩) n cap))
      exact ⟨_, _, hr, hgr.1, fresh cap (by omega), hgr.2, .inr ⟨_, rfl, Nat.le_refl _⟩⟩
/-- As an event of a walk. -/
theorem ev_append {P : Program} {ops : Array Oper} {rest : List Oper} {o : Oper} {a : Act} {Q : Exit → Act → World → Prop} {w : World} (hgd : o.guard = none) (s x : Operand) (t : TypeId)
    (ho : o.op = .call { callee := .builtin .append, args := #[s, x], argTypes := #[t, t] })
    (base : Nat) (e : TypeId) (z : Value) (bytes : Nat) (ht : P.underlying t = some (.slice e)) (hinfo : (P.info? e).map (fun i => (i.zero, i.size, i.bytes)) = some (some z, 1, bytes)) (hzs : z.cells.size = 1)
    (v : Value) (n : Nat) (xs : List Value) (hs : a.eval s = v) (hown : w.ownsRow base e 1 v n xs)
    (ad : Addr) (c : Nat) (u : Value) (hx : a.eval x = .slice (some ad) 1 c) (hu : w.cell? (ad.add 0) = some u) (h1 : u.oneCell' = true)
    (h63 : n + 1 ≤ maxLen) (hbytes : (n + 1) * bytes ≤ 140737488355328) (hbase : base ≤ w.heap.size)
    (h : ∀ v' w', w'.ownsRow base e 1 v' (n + 1) (xs ++ [u]) → w'.ownsRow base e 1 v n xs → w.grownBy w' v.ownBlock → (v'.ownBlock = v.ownBlock ∨ ∃ b, v'.ownBlock = some b ∧ w.heap.size ≤ b) → wpList P ops Q rest (a.put o.dst v') w') :
    wpList P ops Q (o :: rest) a w := by
  obtain ⟨i0, hi, hzz⟩ := Option.map_eq_some_iff.1 hinfo
  simp only [Prod.mk.injEq] at hzz
  obtain ⟨hz0, hz1, hz2⟩ := hzz
  refine wpList_plain hgd fun K hK => ?_
  obtain ⟨v', w', hr, h2, h3, h4, h5⟩ := run_append_keep (P := P) w base t o.type e i0 z 1 bytes ht hi hz0 hz1 hz2 hzs (by omega) v n xs hown ad 1 c [u] rfl (fun j q hq => by
    match j, hq with
    | 0, hq => obtain rfl := Option.some.inj hq; exact hu
    | j + 1, hq => simp at hq) (fun q hq => by rw [List.mem_singleton.1 hq]; exact h1) h63 hbytes hbase
  have hw := h v' w' h2 h3 h4 h5
  unfold Oper.wp execOp
  simp only [ho, resolve, invoke, builtin, Sem.run_bind, Sem.run_pure, Result.andThen_ok, List.map_toArray, List.map_cons, List.map_nil, hs, hx, hr]
  exact hK _ _ hw
/-- A view of a row's beginning stands with the row. -/
theorem view {w w' : World} {base : Nat} {e : TypeId} {V v1 : Value} {n n1 : Nat} {xs xs1 : List Value} (hV : w.ownsRow base e 1 V n xs) (h1 : w.ownsRow base e 1 v1 n1 xs1) (h1' : w'.ownsRow base e 1 v1 n1 xs1) (hg : w.grownBy w' v1.ownBlock) (hn : n ≤ n1) : w'.ownsRow base e 1 V n xs := by
  by_cases hb : V.ownBlock = none ∨ V.ownBlock ≠ v1.ownBlock
  · exact hV.kept hg hb
  · rw [not_or, Classical.not_not] at hb
    obtain ⟨hb0, hb1⟩ := hb
    refine ⟨hV.1, ?_⟩
    rcases hV.2 with ⟨rfl, _⟩ | ⟨g, cap, cur, rfl, hbg, hgg, hnc, hcm, hcs, ht⟩
    · exact absurd rfl hb0
    · rcases h1.2 with ⟨rfl, _⟩ | ⟨g1, cap1, cur1, rfl, hbg1, hgg1, hnc1, hcm1, hcs1, ht1⟩
      · simp [Value.ownBlock] at hb1
      · have hgq : g = g1 := by simpa [Value.ownBlock] using hb1
        subst hgq
        rw [hgg] at hgg1
        simp only [Option.some.injEq, Obj.cells.injEq, and_true] at hgg1
        subst hgg1
        rcases h1'.2 with ⟨hx, _⟩ | ⟨g2, cap2, cur2, hx, hbg2, hgg2, hnc2, hcm2, hcs2, ht2⟩
        · cases hx
        · simp only [Value.slice.injEq, Option.some.injEq, Addr.mk.injEq, true_and, and_true] at hx
          obtain ⟨rfl, rfl⟩ := hx
          refine .inr ⟨g, cap, cur2, rfl, hbg, hgg2, hnc, hcm, by omega, ?_⟩
          rw [Nat.mul_one] at *
          rw [← ht, ← Nat.min_eq_left hn, ← List.take_take, ← List.take_take, ht1, ht2]
/-- A cell of an own row is written. -/
theorem put {w : World} {base : Nat} {e : TypeId} {g n cap : Nat} {xs : List Value} (h : w.ownsRow base e 1 (.slice (some ⟨g, 0, none⟩) n cap) n xs) (j : Nat) (hj : j < n) (u : Value) : (w.setCell ⟨g, j, none⟩ u).ownsRow base e 1 (.slice (some ⟨g, 0, none⟩) n cap) n (xs.set j u) := by
  refine ⟨by rw [List.length_set]; exact h.1, ?_⟩
  rcases h.2 with ⟨hx, _⟩ | ⟨g1, cap1, cur, hx, hbg, hgg, hnc, hcm, hcs, ht⟩
  · cases hx
  · simp only [Value.slice.injEq, Option.some.injEq, Addr.mk.injEq, true_and, and_true] at hx
    obtain ⟨rfl, rfl⟩ := hx
    rw [Nat.mul_one] at hcs ht
    refine .inr ⟨g, cap, cur.setIfInBounds j u, rfl, hbg, blk_put hgg j u rfl, hnc, hcm, by rw [Array.size_setIfInBounds, Nat.mul_one]; exact hcs, ?_⟩
    rw [Array.toList_setIfInBounds, Nat.mul_one, List.take_set, ht]
theorem far {w : World} {base : Nat} {e : TypeId} {n : Nat} {v : Value} {xs : List Value} (h : w.ownsRow base e 1 v n xs) (g j : Nat) (u : Value) (hne : v.ownBlock ≠ some g) : (w.setCell ⟨g, j, none⟩ u).ownsRow base e 1 v n xs := by
  refine ⟨h.1, ?_⟩
  rcases h.2 with hn | ⟨g1, cap, cur, rfl, hb, hg, rest⟩
  · exact .inl hn
  · refine .inr ⟨g1, cap, cur, rfl, hb, ?_, rest⟩
    exact (Below.heap_setCell w ⟨g, j, none⟩ u g1 (fun e => hne (by simp [Value.ownBlock, e]))).trans hg
/-! ### what the marks are -/
def pb (k j : Nat) : Int := (31 * (k : Int) + 7 * (j : Int) + 1) % 256
def pat (k n : Nat) : List Int := (List.range n).map (pb k)
theorem pat_length (k n : Nat) : (pat k n).length = n := by unfold pat; rw [List.length_map, List.length_range]
theorem pat_succ (k n : Nat) : pat k (n + 1) = pat k n ++ [pb k n] := by unfold pat; rw [List.range_succ, List.map_append]; rfl
theorem pat_get (k n j : Nat) (h : j < n) : (pat k n)[j]? = some (pb k j) := by unfold pat; rw [List.getElem?_map, List.getElem?_range h]; rfl
def mix (k j : Nat) (l : List Int) : List Int := pat k j ++ l.drop j
theorem mix_length (k j : Nat) (l : List Int) (h : j ≤ l.length) : (mix k j l).length = l.length := by unfold mix; rw [List.length_append, pat_length, List.length_drop]; omega
theorem mix_set (k j : Nat) (l : List Int) (h : j < l.length) : (mix k j l).set j (pb k j) = mix k (j + 1) l := by
  unfold mix
  rw [List.set_append_right _ _ (by rw [pat_length]; exact Nat.le_refl _), pat_length, Nat.sub_self, pat_succ, List.append_assoc, List.drop_eq_getElem_cons h]
  rfl
theorem mix_zero (k : Nat) (l : List Int) : mix k 0 l = l := rfl
theorem mix_full (k : Nat) (l : List Int) : mix k l.length l = pat k l.length := by unfold mix; rw [List.drop_length, List.append_nil]
theorem nums_set (l : List Int) (j : Nat) (x : Int) : (nums .u8 l).set j (.int .u8 x) = nums .u8 (l.set j x) := by unfold nums; rw [List.map_set]
/-! ### the state -/
/-- What stands: all but the rows' own blocks. -/
structure Fr (N : Nat) (V : Nat → Value) (w0 w : World) : Prop where
  os : w.os = w0.os
  tape : w.tape = w0.tape
  output : w.output = w0.output
  size : w0.heap.size ≤ w.heap.size
  block : ∀ k, k < w0.heap.size → (∀ j, j < N → (V j).ownBlock ≠ some k) → w.heap[k]? = w0.heap[k]?
theorem Fr.refl (N : Nat) (V : Nat → Value) (w : World) : Fr N V w w := ⟨rfl, rfl, rfl, Nat.le_refl _, fun _ _ _ => rfl⟩
theorem Fr.step {N : Nat} {V : Nat → Value} {w0 w w1 : World} {row : Option Nat} (h : Fr N V w0 w) (hg : w.grownBy w1 row) (hr : ∀ k, row = some k → w0.heap.size ≤ k ∨ ∃ j, j < N ∧ (V j).ownBlock = some k) : Fr N V w0 w1 :=
  ⟨hg.os.trans h.os, hg.tape.trans h.tape, hg.output.trans h.output, Nat.le_trans h.size hg.size, fun k hk hj =>
    (hg.block k (Nat.lt_of_lt_of_le hk h.size) (fun e => by
      rcases hr k e.symm with h1 | ⟨j, h1, h2⟩
      · omega
      · exact hj j h1 h2)).trans (h.block k hk hj)⟩
theorem Fr.below {N : Nat} {V : Nat → Value} {w0 w : World} (h : Fr N V w0 w) (B : Nat) (hB : B ≤ w0.heap.size) (hV : ∀ j, j < N → ∀ k, (V j).ownBlock = some k → B ≤ k) : Below B w0 w :=
  ⟨h.os, h.tape, h.output, h.size, fun k hk => h.block k (by omega) (fun j hj e => by have := hV j hj k e; omega)⟩
theorem grown_alloc (w : World) (o : Obj) : w.grownBy (w.alloc o) none := World.grownBy_alloc w o none
theorem grown_drewN (w : World) (n : Nat) : w.grownBy (w.drewN n) none := ⟨rfl, rfl, rfl, Nat.le_refl _, fun _ _ _ => rfl⟩
theorem grown_set (w : World) (g j : Nat) (u : Value) : w.grownBy (w.setCell ⟨g, j, none⟩ u) (some g) :=
  ⟨rfl, rfl, rfl, by simp [World.setCell], fun k _ hk => Below.heap_setCell w ⟨g, j, none⟩ u k (fun e => hk (by rw [e]))⟩
theorem kept_none {w w1 : World} {base : Nat} {e : TypeId} {size n : Nat} {v : Value} {xs : List Value} (h : w.ownsRow base e size v n xs) (hg : w.grownBy w1 none) : w1.ownsRow base e size v n xs := h.kept hg (by cases v.ownBlock <;> simp)
structure St (B N : Nat) (Lv : Value) (V : Nat → Value) (w0 w : World) (X : Nat → List Int) : Prop where
  fr : Fr N V w0 w
  row : w.ownsRow B 29 1 Lv N ((List.range N).map V)
  own : ∀ j, j < N → w.ownsRow B 5 1 (V j) (X j).length (nums .u8 (X j))
  hB : B ≤ w.heap.size
theorem St.congr {B N : Nat} {Lv : Value} {V : Nat → Value} {w0 w : World} {X Y : Nat → List Int} (h : St B N Lv V w0 w X) (he : ∀ j, j < N → X j = Y j) : St B N Lv V w0 w Y :=
  ⟨h.fr, h.row, fun j hj => by rw [← he j hj]; exact h.own j hj, h.hB⟩
theorem St.quiet {B N : Nat} {Lv : Value} {V : Nat → Value} {w0 w w1 : World} {X : Nat → List Int} (h : St B N Lv V w0 w X) (hg : w.grownBy w1 none) : St B N Lv V w0 w1 X :=
  ⟨h.fr.step hg (fun k e => by cases e), kept_none h.row hg, fun j hj => kept_none (h.own j hj) hg, Nat.le_trans h.hB hg.size⟩
theorem St.put {B N : Nat} {Lv : Value} {V : Nat → Value} {w0 w : World} {X : Nat → List Int} (h : St B N Lv V w0 w X) (hne : ∀ i j, i < N → j < N → i ≠ j → Ne (V i) (V j)) {k j g n cap : Nat} (hk : k < N) (hV : V k = .slice (some ⟨g, 0, none⟩) n cap) (hj : j < n) (hn : n = (X k).length) (x : Int) :
    St B N Lv V w0 (w.setCell ⟨g, j, none⟩ (.int .u8 x)) (fun i => if i = k then (X k).set j x else X i) := by
  have hob : (V k).ownBlock = some g := by rw [hV]; rfl
  refine ⟨h.fr.step (grown_set w g j _) (fun q e => .inr ⟨k, hk, by rw [hob, e]⟩), far h.row g j _ (fun e => ?_), fun i hi => ?_, by have := h.hB; simpa [World.setCell] using this⟩
  · exact Ne.types (h.own k hk) h.row (by decide) g hob e
  · by_cases hik : i = k
    · subst hik
      simp only [if_true]
      rw [List.length_set, ← nums_set, hV, ← hn]
      have := h.own i hi
      rw [hV, ← hn] at this
      exact Apart.put this j hj _
    · simp only [if_neg hik]
      exact far (h.own i hi) g j _ (fun e => hne k i hk hi (fun e => hik e.symm) g hob e)
/-- The second loop's state: behind k rows. -/
structure St2 (B N : Nat) (Lv : Value) (V : Nat → Value) (len : Nat → Nat) (w0 w : World) (k : Nat) (Gv : Value) (W : Nat → Value) : Prop where
  st : St B N Lv V w0 w (fun j => pat j (len j))
  grow : w.ownsRow B 29 1 Gv k ((List.range k).map W)
  gown : ∀ j, j < k → w.ownsRow B 5 1 (W j) (len j + 12) (nums .u8 (pat j (len j + 12)))
  gne : ∀ j, j < k → ∀ i, i < N → i ≠ j → Ne (W j) (V i)
  gl : Ne Gv Lv
  gb : ∀ b, Gv.ownBlock = some b → w0.heap.size ≤ b
theorem St2.quiet {B N : Nat} {Lv : Value} {V : Nat → Value} {len : Nat → Nat} {w0 w w1 : World} {k : Nat} {Gv : Value} {W : Nat → Value} (h : St2 B N Lv V len w0 w k Gv W) (hg : w.grownBy w1 none) : St2 B N Lv V len w0 w1 k Gv W :=
  ⟨h.st.quiet hg, kept_none h.grow hg, fun j hj => kept_none (h.gown j hj) hg, h.gne, h.gl, h.gb⟩
/-- One list grows: v is it as it stands, with m bytes. -/
structure St3 (B N : Nat) (Lv : Value) (V : Nat → Value) (len : Nat → Nat) (w0 w : World) (k : Nat) (Gv : Value) (W : Nat → Value) (v : Value) (m : Nat) : Prop where
  st2 : St2 B N Lv V len w0 w k Gv W
  cur : w.ownsRow B 5 1 v m (nums .u8 (pat k m))
  lo : len k ≤ m
  cne : ∀ i, i < N → i ≠ k → Ne v (V i)
  cnw : ∀ j, j < k → Ne v (W j)
  vb : ∀ b, v.ownBlock = some b → (V k).ownBlock = some b ∨ w0.heap.size ≤ b
theorem St3.quiet {B N : Nat} {Lv : Value} {V : Nat → Value} {len : Nat → Nat} {w0 w w1 : World} {k : Nat} {Gv : Value} {W : Nat → Value} {v : Value} {m : Nat} (h : St3 B N Lv V len w0 w k Gv W v m) (hg : w.grownBy w1 none) : St3 B N Lv V len w0 w1 k Gv W v m :=
  ⟨h.st2.quiet hg, kept_none h.cur hg, h.lo, h.cne, h.cnw, h.vb⟩
theorem St2.start {B N : Nat} {Lv : Value} {V : Nat → Value} {len : Nat → Nat} {w0 w : World} {k : Nat} {Gv : Value} {W : Nat → Value} (h : St2 B N Lv V len w0 w k Gv W) (hne : ∀ i j, i < N → j < N → i ≠ j → Ne (V i) (V j)) (hk : k < N) : St3 B N Lv V len w0 w k Gv W (V k) (len k) :=
  ⟨h, by have := h.st.own k hk; simp only [pat_length] at this; exact this, Nat.le_refl _, fun i hi hik => hne k i hk hi (fun e => hik e.symm), fun j hj => (h.gne j hj k hk (by omega)).symm, fun b hb => .inl hb⟩
theorem St3.app {B N : Nat} {Lv : Value} {V : Nat → Value} {len : Nat → Nat} {w0 w w1 : World} {k : Nat} {Gv : Value} {W : Nat → Value} {v v1 : Value} {m : Nat} (h : St3 B N Lv V len w0 w k Gv W v m) (hk : k < N)
    (h1 : w1.ownsRow B 5 1 v1 (m + 1) (nums .u8 (pat k m) ++ [.int .u8 (pb k m)])) (h2 : w1.ownsRow B 5 1 v m (nums .u8 (pat k m))) (hg : w.grownBy w1 v.ownBlock) (hat : v1.ownBlock = v.ownBlock ∨ ∃ b, v1.ownBlock = some b ∧ w.heap.size ≤ b) : St3 B N Lv V len w0 w1 k Gv W v1 (m + 1) := by
  have hT := Ne.types h.cur h.st2.st.row (by decide)
  have hT2 := Ne.types h.cur h.st2.grow (by decide)
  have ne' : ∀ {u : Value} {n : Nat} {e : TypeId} {xs : List Value}, w.ownsRow B e 1 u n xs → Ne v u → Ne v1 u := by
    intro u n e xs hu hne q hq hq'
    rcases hat with hat | ⟨b, hb, hle⟩
    · exact hne q (hat ▸ hq) hq'
    · rw [hb] at hq
      injection hq with hq
      have := (hu.lt q hq').2
      omega
  refine ⟨⟨⟨h.st2.st.fr.step hg (fun q e => ?_), h.st2.st.row.kept hg hT.other, fun j hj => ?_, Nat.le_trans h.st2.st.hB hg.size⟩, h.st2.grow.kept hg hT2.other, fun j hj => (h.st2.gown j hj).kept hg (h.cnw j hj).other, h.st2.gne, h.st2.gl, h.st2.gb⟩, ?_, by have := h.lo; omega, fun i hi hik => ?_, fun j hj => ?_, fun b hb => ?_⟩
  · rcases h.vb q e with h1 | h1
    · exact .inr ⟨k, hk, h1⟩
    · exact .inl h1
  · by_cases hjk : j = k
    · subst hjk
      have := h.st2.st.own j hj
      refine view this h.cur h2 hg (by simp only [pat_length]; exact h.lo)
    · exact (h.st2.st.own j hj).kept hg (h.cne j hj hjk).other
  · rw [pat_succ, nums_append]; exact h1
  · exact ne' (h.st2.st.own i hi) (h.cne i hi hik)
  · exact ne' (h.st2.gown j hj) (h.cnw j hj)
  · rcases hat with hat | ⟨q, hq, hle⟩
    · exact h.vb b (hat ▸ hb)
    · rw [hq] at hb
      injection hb with hb
      have := h.st2.st.fr.size
      exact .inr (by omega)
theorem range_map_succ (W : Nat → Value) (k : Nat) (v : Value) : (List.range (k + 1)).map (fun j => if j = k then v else W j) = (List.range k).map W ++ [v] := by
  rw [List.range_succ, List.map_append]
  congr 1
  · exact List.map_congr_left (fun j hj => by rw [if_neg (by have := List.mem_range.1 hj; omega)])
  · show [if k = k then v else W k] = _
    rw [if_pos rfl]
theorem St3.done {B N : Nat} {Lv : Value} {V : Nat → Value} {len : Nat → Nat} {w0 w w1 : World} {k : Nat} {Gv G1 : Value} {W : Nat → Value} {v : Value} (h : St3 B N Lv V len w0 w k Gv W v (len k + 12)) (hk : k < N)
    (h1 : w1.ownsRow B 29 1 G1 (k + 1) ((List.range k).map W ++ [v])) (hg : w.grownBy w1 Gv.ownBlock) (hat : G1.ownBlock = Gv.ownBlock ∨ ∃ b, G1.ownBlock = some b ∧ w.heap.size ≤ b) : St2 B N Lv V len w0 w1 (k + 1) G1 (fun j => if j = k then v else W j) := by
  have hT : ∀ {u : Value} {n : Nat} {xs : List Value}, w.ownsRow B 5 1 u n xs → w1.ownsRow B 5 1 u n xs := fun hu => hu.kept hg (Ne.types h.st2.grow hu (by decide)).other
  refine ⟨⟨h.st2.st.fr.step hg (fun q e => .inl (h.st2.gb q e)), h.st2.st.row.kept hg h.st2.gl.other, fun j hj => hT (h.st2.st.own j hj), Nat.le_trans h.st2.st.hB hg.size⟩, by rw [range_map_succ]; exact h1, fun j hj => ?_, fun j hj i hi hij => ?_, fun q hq hq' => ?_, fun b hb => ?_⟩
  · by_cases hjk : j = k
    · subst hjk; simp only [if_true]; exact hT h.cur
    · simp only [if_neg hjk]; exact hT (h.st2.gown j (by omega))
  · by_cases hjk : j = k
    · subst hjk; simp only [if_true]; exact h.cne i hi hij
    · simp only [if_neg hjk]; exact h.st2.gne j (by omega) i hi hij
  · rcases hat with hat | ⟨b, hb, hle⟩
    · exact h.st2.gl q (hat ▸ hq) hq'
    · rw [hb] at hq
      injection hq with hq
      have := (h.st2.st.row.lt q hq').2
      omega
  · rcases hat with hat | ⟨q, hq, hle⟩
    · exact h.st2.gb b (hat ▸ hb)
    · rw [hq] at hb
      injection hb with hb
      have := h.st2.st.fr.size
      omega
/-! ### what is read -/
theorem form {w : World} {base : Nat} {e : TypeId} {v : Value} {n : Nat} {xs : List Value} (h : w.ownsRow base e 1 v n xs) : ∃ A c, v = .slice A n c ∧ (0 < n → ∃ g, A = some ⟨g, 0, none⟩ ∧ (∀ j u, xs[j]? = some u → w.cell? ⟨g, j, none⟩ = some u) ∧ ∀ j, w.frozen? ⟨g, j, none⟩ = false) := by
  rcases h.2 with ⟨rfl, rfl⟩ | ⟨g, cap, cur, rfl, hb, hg, hnc, hcm, hcs, ht⟩
  · exact ⟨none, 0, rfl, fun h => by omega⟩
  · refine ⟨_, _, rfl, fun _ => ⟨g, rfl, fun j u hu => ?_, fun j => blk_frozen hg j⟩⟩
    have := h.cells (g := g) rfl j u hu
    rw [add_plain] at this
    exact this
end Apart
end Go.Proofs.YtfkbmjfhakooiaaDoor.PTree
