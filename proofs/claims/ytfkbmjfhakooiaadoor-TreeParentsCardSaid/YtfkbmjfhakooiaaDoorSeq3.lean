/- path.Normal: function 20, over strings.SplitSeq's iterator. Conditions: as the theorem says. -/
import Derived.Test.YtfkbmjfhakooiaaDoorSeq2
namespace Go.Proofs.YtfkbmjfhakooiaaDoor.PTree
open Go.RowKit Go.Shelf Go.Proofs.YtfkbmjfhakooiaaDoorW.PrintWords
attribute [local go_sem] Oper.semAt_some
set_option linter.unusedVariables false
set_option linter.unusedSimpArgs false

theorem info9s : (Tryd.prog.info? 9).map (fun i => (i.zero, i.size, i.bytes)) = some (some (.string ⟨#[]⟩), 1, 16) := by kernel_rfl


theorem ownsRow_le' {w : World} {n size k : Nat} {e : TypeId} {v : Value} {xs : List Value} (h : w.ownsRow (n + 6) e size v k xs) : w.ownsRow n e size v k xs := by
  obtain ⟨h1, h2⟩ := h
  refine ⟨h1, ?_⟩
  rcases h2 with h2 | ⟨g, cap, cur, e, hg, r⟩
  · exact .inl h2
  · exact .inr ⟨g, cap, cur, e, by omega, r⟩
theorem wrap_nat {k : Nat} (h : k ≤ 1000000000001) : wrap64 (k : Int) = (k : Int) := by unfold wrap64; omega
theorem le_cast {a b : Nat} (h : a ≤ b) : (a : Int) ≤ (b : Int) := by omega
/-- Between two rounds: n: where the call's boxes begin. -/
structure NI (n : Nat) (w : World) (l : List ByteArray) (v : Value) (W : World) : Prop where
  b4 : Boxed W (n + 1 + 1) 34 v
  own : W.ownsRow (n + 6) 9 1 v l.length (l.map Value.string)
  b2 : Boxed W n 9 (.string ⟨#[]⟩)
  b3 : Boxed W (n + 1) 26 .nilIface
  below : Below n w W
  size : n + 6 ≤ W.heap.size
theorem NI.turn {n : Nat} {w : World} {l : List ByteArray} {v : Value} {A B : World} {row : Option Nat} (h : NI n w l v A) (hn : n ≤ w.heap.size) (hg : A.grownBy B row) (hr : ∀ r, row = some r → n + 6 ≤ r ∧ ∃ o : Obj, A.heap[r]? = some o ∧ o.isCells = false) : NI n w l v B := by
  have hne : ∀ k, k < n + 6 → some k ≠ row := fun k hk e => by have := (hr k e.symm).1; omega
  refine ⟨h.b4.kept hg (hne _ (by omega)), h.own.kept hg ?_, h.b2.kept hg (hne _ (by omega)), h.b3.kept hg (hne _ (by omega)), h.below.grown hg (by have := h.size; omega) (fun k e => by have := (hr k e).1; omega), by have := hg.size; have := h.size; omega⟩
  rcases h.own.2 with ⟨rfl, _⟩ | ⟨g, cap, cur, rfl, _, hgb, _⟩
  · exact .inl rfl
  · refine .inr fun e' => ?_
    obtain ⟨_, o, ho, hc⟩ := hr g (by simpa [Value.ownBlock] using e'.symm)
    rw [hgb] at ho; cases ho; cases hc
theorem NI.wr {n : Nat} {w : World} {l : List ByteArray} {v : Value} {A : World} (h : NI n w l v A) (u : Value) : NI n w l v (A.setCell ⟨n + 1 + 1 + 1, 0, none⟩ u) :=
  ⟨h.b4.other (by omega) _, ownsRow_setCell_below h.own (by show n + 1 + 1 + 1 < n + 6; omega) _, h.b2.other (by omega) _, h.b3.other (by omega) _, h.below.setCell (p := ⟨n + 1 + 1 + 1, 0, none⟩) (by show n ≤ n + 1 + 1 + 1; omega) _, by have := (KeepsWalks.setCell A ⟨n + 1 + 1 + 1, 0, none⟩ u).size; have := h.size; omega⟩
/-- The parts' box is written. -/
theorem NI.put {n : Nat} {w : World} {l l' : List ByteArray} {v v' : Value} {A : World} (h : NI n w l v A) (ho : A.ownsRow (n + 6) 9 1 v' l'.length (l'.map Value.string)) : NI n w l' v' (A.setCell ⟨n + 1 + 1, 0, none⟩ v') :=
  ⟨h.b4.set _, ownsRow_setCell_below ho (by show n + 1 + 1 < n + 6; omega) _, h.b2.other (by omega) _, h.b3.other (by omega) _, h.below.setCell (p := ⟨n + 1 + 1, 0, none⟩) (by show n ≤ n + 1 + 1; omega) _, by have := (KeepsWalks.setCell A ⟨n + 1 + 1, 0, none⟩ v').size; have := h.size; omega⟩
/-- The body has returned. -/
structure NX (n : Nat) (w : World) (W : World) : Prop where
  b2 : Boxed W n 9 (.string ⟨#[]⟩)
  b3 : Boxed W (n + 1) 26 (.iface 56 (.int .i64 12))
  below : Below n w W
  size : n + 6 ≤ W.heap.size
theorem NX.turn {n : Nat} {w : World} {A B : World} {row : Option Nat} (h : NX n w A) (hn : n ≤ w.heap.size) (hg : A.grownBy B row) (hr : ∀ r, row = some r → n + 6 ≤ r ∧ ∃ o : Obj, A.heap[r]? = some o ∧ o.isCells = false) : NX n w B := by
  have hne : ∀ k, k < n + 6 → some k ≠ row := fun k hk e => by have := (hr k e.symm).1; omega
  exact ⟨h.b2.kept hg (hne _ (by omega)), h.b3.kept hg (hne _ (by omega)), h.below.grown hg (by have := h.size; omega) (fun k e => by have := (hr k e).1; omega), by have := hg.size; have := h.size; omega⟩
theorem NX.wr {n : Nat} {w : World} {A : World} (h : NX n w A) (u : Value) : NX n w (A.setCell ⟨n + 1 + 1 + 1, 0, none⟩ u) :=
  ⟨h.b2.other (by omega) _, h.b3.other (by omega) _, h.below.setCell (p := ⟨n + 1 + 1 + 1, 0, none⟩) (by show n ≤ n + 1 + 1 + 1; omega) _, by have := (KeepsWalks.setCell A ⟨n + 1 + 1 + 1, 0, none⟩ u).size; have := h.size; omega⟩

theorem ownsRow_pop1 {w : World} {base : Nat} {e : TypeId} {g cap k : Nat} {xs : List Value} (h : w.ownsRow base e 1 (.slice (some ⟨g, 0, none⟩) (k + 1) cap) (k + 1) xs) : w.ownsRow base e 1 (.slice (some ⟨g, 0, none⟩) k cap) k (xs.take k) := by
  obtain ⟨h1, h2⟩ := h
  rcases h2 with ⟨h0, _⟩ | ⟨g', cap', cur, hv, hg, hh, hn, hcap, hsz, htake⟩
  · cases h0
  · cases hv
    refine ⟨by rw [List.length_take]; omega, .inr ⟨g, cap, cur, rfl, hg, hh, by omega, hcap, hsz, ?_⟩⟩
    rw [← htake, List.take_take, Nat.min_eq_left (by omega), Nat.mul_one]
theorem NI.pop {n : Nat} {w : World} {l : List ByteArray} {A : World} {g cap k : Nat} (h : NI n w l (.slice (some ⟨g, 0, none⟩) (k + 1) cap) A) (hk : l.length = k + 1) :
    KeepsOthers A (A.setCell ⟨n + 1 + 1, 0, none⟩ (.slice (some ⟨g, 0, none⟩) k cap)) ∧ (∀ j, n + 1 + 1 + 1 ≤ j → j < n + 1 + 1 + 1 + 3 → (A.setCell ⟨n + 1 + 1, 0, none⟩ (.slice (some ⟨g, 0, none⟩) k cap)).heap[j]? = A.heap[j]?) ∧
    NI n w l.dropLast (.slice (some ⟨g, 0, none⟩) k cap) (A.setCell ⟨n + 1 + 1, 0, none⟩ (.slice (some ⟨g, 0, none⟩) k cap)) := by
  refine ⟨KeepsOthers.setCell _ _ _, fun j h1 h2 => heap_wr (by omega), h.put ?_⟩
  have ho := h.own
  rw [hk] at ho
  have := ownsRow_pop1 ho
  rw [List.length_dropLast, hk, List.dropLast_eq_take, hk]
  rw [show k + 1 - 1 = k by omega, List.map_take]
  exact this
theorem NI.append {n : Nat} {w : World} {l : List ByteArray} {v v' : Value} {A w1 : World} {x : ByteArray} {tmp : Obj} (h : NI n w l v A)
    (hown' : w1.ownsRow (n + 6) 9 1 v' (l.length + 1) (l.map Value.string ++ [.string x])) (hg : (A.alloc tmp).grownBy w1 v.ownBlock) :
    KeepsOthers A (w1.setCell ⟨n + 1 + 1, 0, none⟩ v') ∧ (∀ j, n + 1 + 1 + 1 ≤ j → j < n + 1 + 1 + 1 + 3 → (w1.setCell ⟨n + 1 + 1, 0, none⟩ v').heap[j]? = A.heap[j]?) ∧
    NI n w (l ++ [x]) v' (w1.setCell ⟨n + 1 + 1, 0, none⟩ v') := by
  have hsz := h.size
  obtain ⟨q1, q2, q3, q4, q5⟩ := Boxed.appended h.b4 (by decide) (ownsRow_le' h.own) (by omega) (by omega) (ownsRow_le' hown') hg
  have hne : ∀ j, j < n + 6 → some j ≠ v.ownBlock := fun j hj e => by have := (h.own.lt j e.symm).1; omega
  have hal : (A.alloc tmp).heap.size = A.heap.size + 1 := World.size_alloc _ _
  refine ⟨q4, fun j h1 h2 => ?_, q2, ?_, ?_, ?_, ?_, ?_⟩
  · rw [heap_wr (show j ≠ n + 1 + 1 by omega), hg.block j (by omega) (hne j (by omega))]
    exact Below.heap_alloc _ _ _ (by omega)
  · rw [List.length_append, List.map_append]
    exact ownsRow_setCell_below hown' (by show n + 1 + 1 < n + 6; omega) _
  · exact ((h.b2.alloc tmp).kept hg (hne n (by omega))).other (by omega) _
  · exact ((h.b3.alloc tmp).kept hg (hne (n + 1) (by omega))).other (by omega) _
  · exact h.below.trans q5
  · have e1 := hg.size
    have e2 := (KeepsWalks.setCell w1 ⟨n + 1 + 1, 0, none⟩ v').size
    omega
theorem NI.fail {n : Nat} {w : World} {l : List ByteArray} {v : Value} {A : World} (h : NI n w l v A) :
    KeepsOthers A ((A.setCell ⟨n, 0, none⟩ (.string ⟨#[]⟩)).setCell ⟨n + 1, 0, none⟩ (.iface 56 (.int .i64 12))) ∧ NX n w ((A.setCell ⟨n, 0, none⟩ (.string ⟨#[]⟩)).setCell ⟨n + 1, 0, none⟩ (.iface 56 (.int .i64 12))) := by
  have hsz := h.size
  refine ⟨(KeepsOthers.setCell _ _ _).trans (KeepsOthers.setCell _ _ _), (h.b2.set _).other (by omega) _, (h.b3.other (by omega) _).set _, (h.below.setCell (p := ⟨n, 0, none⟩) (Nat.le_refl _) _).setCell (p := ⟨n + 1, 0, none⟩) (by show n ≤ n + 1; omega) _, ?_⟩
  have e1 := (KeepsWalks.setCell A ⟨n, 0, none⟩ (.string ⟨#[]⟩)).size
  have e2 := (KeepsWalks.setCell (A.setCell ⟨n, 0, none⟩ (.string ⟨#[]⟩)) ⟨n + 1, 0, none⟩ (.iface 56 (.int .i64 12))).size
  omega
theorem nstep_up (acc : List ByteArray) (h : acc.length = 0) : nstep acc ⟨#[46, 46]⟩ = none := by
  unfold nstep
  rw [if_neg (by decide), if_neg (by decide), if_pos rfl, if_pos h]
theorem nstep_pop (acc : List ByteArray) (h : ¬ acc.length = 0) : nstep acc ⟨#[46, 46]⟩ = some acc.dropLast := by
  unfold nstep
  rw [if_neg (by decide), if_neg (by decide), if_pos rfl, if_neg h]
theorem nstep_more (acc : List ByteArray) (x : ByteArray) (h1 : x ≠ ⟨#[]⟩) (h2 : x ≠ ⟨#[46]⟩) (h3 : x ≠ ⟨#[46, 46]⟩) : nstep acc x = some (acc ++ [x]) := by
  unfold nstep
  rw [if_neg h1, if_neg h2, if_neg h3]
theorem kbound {pre acc : List ByteArray} {s : ByteArray} {k : Nat} (ha : nall pre = some acc) (hlen : pre.length < (pieces s).length) (hs : s.size ≤ 1000000000000) (hk : acc.length = k + 1) : k ≤ 1000000000001 := by
  have h1 := nall_len ha
  have h2 := pieces_len s
  omega
theorem abound {pre acc : List ByteArray} {s : ByteArray} (ha : nall pre = some acc) (hlen : pre.length < (pieces s).length) (hs : s.size ≤ 1000000000000) : acc.length ≤ 1000000000001 := by
  have h1 := nall_len ha
  have h2 := pieces_len s
  omega
theorem maxl {a : Nat} (h : a ≤ 1000000000001) : a + 1 ≤ maxLen := by unfold maxLen; omega
theorem maxb {a : Nat} (h : a ≤ 1000000000001) : (a + 1) * 16 ≤ 140737488355328 := by omega
theorem nall_up {pre acc : List ByteArray} (ha : nall pre = some acc) {x : ByteArray} {o : Option (List ByteArray)} (h : nstep acc x = o) : nall (pre ++ [x]) = o := by rw [nall_snoc, ha]; exact h

theorem results12 {W : World} {n : Nat} {a b : Value} {tmps : Array Value} (h2 : Boxed W n 9 a) (h3 : Boxed W (n + 1) 26 b) (e2 : tmps.getD 2 undef = .pointer (some ⟨n, 0, none⟩)) (e3 : tmps.getD 3 undef = .pointer (some ⟨n + 1, 0, none⟩)) :
    (results Tryd.f20 tmps).run Tryd.prog W = .ok (.tuple #[a, b]) W := by
  have hres : Tryd.f20.results = #[.cell 2 9, .cell 3 26] := by kernel_rfl
  have e2' : tmps[2]?.getD undef = .pointer (some ⟨n, 0, none⟩) := by simpa using e2
  have e3' : tmps[3]?.getD undef = .pointer (some ⟨n + 1, 0, none⟩) := by simpa using e3
  have k2 := h2.cell
  have k3 := h3.cell
  simp [results, hres, e2', e3', go_sem, Tryd.underlying9, Tryd.underlying26, k2, k3]
theorem leave12 {W w : World} {n D : Nat} {a b : Value} {tmps : Array Value} (hn : n = w.heap.size) (hb : Below n w W) (h2 : Boxed W n 9 a) (h3 : Boxed W (n + 1) 26 b) (hD : W.heap[D]? = some (.deferred (some []))) (hd : n + 6 ≤ D)
    (e2 : tmps.getD 2 undef = .pointer (some ⟨n, 0, none⟩)) (e3 : tmps.getD 3 undef = .pointer (some ⟨n + 1, 0, none⟩)) :
    LeavesInM Fence.wide 6 Tryd.prog Tryd.f20 tmps (fun e w' => e = .returned (.tuple #[a, b]) ∧ Below w.heap.size w w') [{ target := .collected D, args := #[] }] .returning W := by
  refine ⟨by simp, .inl ⟨_, _, rfl, run_takeDeferred hD, ?_⟩⟩
  have b2 : Boxed (W.putObj D (.deferred none)) n 9 a := (World.putObj_heap_other (by omega)).trans h2
  have b3 : Boxed (W.putObj D (.deferred none)) (n + 1) 26 b := (World.putObj_heap_other (by omega)).trans h3
  refine ⟨_, results12 b2 b3 e2 e3, rfl, ?_⟩
  rw [← hn]
  exact hb.grown (grownBy_putObj' W D _) (by have := (Array.getElem?_eq_some_iff.1 hD).1; omega) (fun k e => by cases e; omega)
set_option maxHeartbeats 4000000 in
set_option maxRecDepth 100000 in
theorem normal_in (s : ByteArray) (r1 : ByteArray) (v2 : Value) (w : World) (hGl : Gl w) (hs0 : s.size ≤ 1000000000000) (hv2 : v2 = .nilIface ∨ ∃ c, v2 = .iface 56 (.int .i64 c)) (hnone : nall (pieces s) = none → r1 = ⟨#[]⟩ ∧ v2 = .iface 56 (.int .i64 12))
    (hsome : ∀ l, nall (pieces s) = some l → ∀ (A0 : Option Addr) (c0 : Nat) (W : World), Kd.C Kd.string W A0 l.length l → l.length ≤ c0 → Gl W → Calls Tryd.prog 39 #[.slice A0 l.length c0] W fun e w' => e = .returned (.tuple #[.string r1, v2]) ∧ Below W.heap.size W w') :
    Calls Tryd.prog 20 #[.string s] w fun e w' => e = .returned (.tuple #[.string r1, v2]) ∧ Below w.heap.size w w' := by
  have hs := Aside0.mk hs0
  clear hs0
  obtain ⟨i0, hi, hz0, hz1, hz2⟩ := info_parts info9s
  refine (callsIn_wide (n := 6)).1 ?_
  refine callsIn_of_wp_marks Tryd.func20 rfl trivial ?_ rfl
  simp only [Tryd.ntmps20, List.size_toArray, List.length_cons, List.length_nil, Nat.reduceAdd, Nat.reduceSub, Array.replicate_succ, Array.replicate_zero, List.push_toArray, List.append_toArray, List.nil_append, List.cons_append]
  gi_wp2_with (refine ⟨trivial, ?_⟩; gi_at_call 38; refine (SplitSeq_in s _ _ (by omega)).mono ?_; rintro e w' ⟨rfl, rfl⟩)
  obtain ⟨n, hn⟩ : ∃ n, n = w.heap.size := ⟨_, rfl⟩
  obtain ⟨w6, hw6⟩ : ∃ w6, w6 = ((((((w.alloc (Obj.cells #[Value.string { data := #[] }] 9)).alloc (Obj.cells #[Value.nilIface] 26)).alloc (Obj.cells #[Value.slice none 0 0] 34)).alloc (Obj.cells #[Value.string s] 9)).alloc (Obj.cells #[Value.string { data := #[47] }] 9)).alloc (Obj.cells #[Value.int IntKind.i64 0] 3)) := ⟨_, rfl⟩
  have z6 : w6.heap.size = n + 6 := by rw [hw6]; simp only [World.size_alloc]; omega
  have H0 : NI n w [] (.slice none 0 0) w6 := by
    have e0 := Boxed.new w 9 (.string ⟨#[]⟩)
    have e1 := Boxed.new (w.alloc (Obj.cells #[Value.string { data := #[] }] 9)) 26 .nilIface
    have e2 := Boxed.new ((w.alloc (Obj.cells #[Value.string { data := #[] }] 9)).alloc (Obj.cells #[Value.nilIface] 26)) 34 (.slice none 0 0)
    simp only [World.size_alloc] at e1 e2
    rw [hn, hw6]
    exact ⟨((e2.alloc _).alloc _).alloc _, World.ownsRow_nil _ _ _ _, ((((e0.alloc _).alloc _).alloc _).alloc _).alloc _, (((e1.alloc _).alloc _).alloc _).alloc _, by repeat (first | exact Below.refl _ _ | refine below_alloc ?_ _), by simp only [World.size_alloc]; omega⟩
  have g0 : w6.heap[n + 1 + 1 + 1]? = some (.cells #[.string s] 9 (0, 0)) := by
    have e := Boxed.new (((w.alloc (Obj.cells #[Value.string { data := #[] }] 9)).alloc (Obj.cells #[Value.nilIface] 26)).alloc (Obj.cells #[Value.slice none 0 0] 34)) 9 (.string s)
    simp only [World.size_alloc] at e
    rw [hn, hw6]; exact (e.alloc _).alloc _
  have g1 : w6.heap[n + 1 + 1 + 1 + 1]? = some (.cells #[.string ⟨#[47]⟩] 9 (0, 0)) := by
    have e := Boxed.new ((((w.alloc (Obj.cells #[Value.string { data := #[] }] 9)).alloc (Obj.cells #[Value.nilIface] 26)).alloc (Obj.cells #[Value.slice none 0 0] 34)).alloc (Obj.cells #[Value.string s] 9)) 9 (.string ⟨#[47]⟩)
    simp only [World.size_alloc] at e
    rw [hn, hw6]; exact e.alloc _
  have g2 : w6.heap[n + 1 + 1 + 1 + 1 + 1]? = some (.cells #[.int .i64 0] 3 (0, 0)) := by
    have e := Boxed.new (((((w.alloc (Obj.cells #[Value.string { data := #[] }] 9)).alloc (Obj.cells #[Value.nilIface] 26)).alloc (Obj.cells #[Value.slice none 0 0] 34)).alloc (Obj.cells #[Value.string s] 9)).alloc (Obj.cells #[Value.string { data := #[47] }] 9)) 3 (.int .i64 0)
    simp only [World.size_alloc] at e
    rw [hn, hw6]; exact e
  have hnw : n ≤ w.heap.size := Nat.le_of_eq hn
  have hne := Aside0.mk hn
  have HGL : Aside0 (∀ W, Below n w W → Gl W) := ⟨fun W hb => hGl.of (hn ▸ hb)⟩
  clear hGl
  rw [← hw6, ← hn]
  clear hw6 hn
  refine wpIn_seqW (b := n + 1 + 1 + 1) rfl (by omega) (gf := 75) (lb := #[.pointer (some ⟨n + 1 + 1 + 1 + 1, 0, none⟩), .pointer (some ⟨n + 1 + 1 + 1, 0, none⟩), .pointer (some ⟨n + 1 + 1 + 1 + 1 + 1, 0, none⟩)]) rfl trivial (enters_of Tryd.func75 (by kernel_rfl) rfl)
    (by omega) (seq61_in (6 - 1) (by omega) (n + 1 + 1 + 1) s w6 (by omega) hs.out g0 g1 g2)
    (fun h1 h2 k ha hb => (h2 k ha hb).trans (h1 k ha hb)) (fun W l o hl k ha hb => World.putObj_heap_other (by omega)) (fun _ => rfl)
    (fun pre W => ∃ l v, nall pre = some l ∧ NI n w l v W)
    (fun c pre W => c = .ret ∧ nall pre = none ∧ NX n w W)
    (fun p A B row ⟨l, v, h1, h2⟩ hg hr => ⟨l, v, h1, h2.turn hnw hg (by rw [z6] at hr; exact hr)⟩)
    (fun c p A B row h hg hr => ⟨h.1, h.2.1, h.2.2.turn hnw hg (by rw [z6] at hr; exact hr)⟩)
    (fun p A u ⟨l, v, h1, h2⟩ => ⟨l, v, h1, h2.wr u⟩)
    (fun c p A u h => ⟨h.1, h.2.1, h.2.2.wr u⟩)
    ⟨[], _, rfl, H0⟩
    (fun x => { tmps := #[.string s, undef, .pointer (some ⟨n, 0, none⟩), .pointer (some ⟨n + 1, 0, none⟩), .pointer (some ⟨n + 1 + 1, 0, none⟩), .string x, .string s, .func (.func 75) #[] #[.pointer (some ⟨n + 1 + 1 + 1 + 1, 0, none⟩), .pointer (some ⟨n + 1 + 1 + 1, 0, none⟩), .pointer (some ⟨n + 1 + 1 + 1 + 1 + 1, 0, none⟩)], .string x, undef, undef, undef, undef, undef, undef, undef, undef, undef, undef, undef, undef, undef, undef, undef, undef, undef, undef, undef, undef, undef, undef, undef], defers := [] }) ?assign ?body ?done ?stop
  case assign =>
    intro l x W K hK
    gi_wp2
    exact hK
  case body =>
    rintro l pre x W ⟨acc, v, ha, H⟩ hlen
    have hf4 := H.b4.frozen
    have hf2 := H.b2.frozen
    have hf3 := H.b3.frozen
    have k4 := H.b4.cell
    have k2 := H.b2.cell
    have k3 := H.b3.cell
    have m3 := (H.b3.other (show n + 1 ≠ n by omega) (.string ⟨#[]⟩)).cell
    have mf3 := (H.b3.other (show n + 1 ≠ n by omega) (.string ⟨#[]⟩)).frozen
    by_cases x1 : x = ⟨#[]⟩
    · subst x1
      gi_wp2
      exact ⟨KeepsOthers.refl _, fun _ _ _ => rfl, acc, v, by rw [nall_snoc, ha]; rfl, H⟩
    by_cases x2 : x = ⟨#[46]⟩
    · subst x2
      gi_wp2
      exact ⟨KeepsOthers.refl _, fun _ _ _ => rfl, acc, v, by rw [nall_snoc, ha]; rfl, H⟩
    by_cases x3 : x = ⟨#[46, 46]⟩
    · subst x3
      by_cases hz : acc.length = 0
      · have hacc : acc = [] := List.eq_nil_of_length_eq_zero hz
        subst hacc
        have hv : v = .slice none 0 0 ∨ ∃ g cap, v = .slice (some ⟨g, 0, none⟩) 0 cap := by
          rcases H.own.2 with ⟨e, _⟩ | ⟨g, cap, cur, e, _⟩
          · exact .inl e
          · exact .inr ⟨g, cap, e⟩
        rcases hv with rfl | ⟨g, cap, rfl⟩
        · gi_wp2
          exact ⟨H.fail.1, rfl, nall_up ha (nstep_up _ hz), H.fail.2⟩
        · gi_wp2
          exact ⟨H.fail.1, rfl, nall_up ha (nstep_up _ hz), H.fail.2⟩
      · obtain ⟨k, hk⟩ : ∃ k, acc.length = k + 1 := ⟨acc.length - 1, by omega⟩
        have ho := H.own
        rw [hk] at ho
        obtain ⟨g, cap, rfl⟩ := ownsRow_succ ho
        have hcap : k + 1 ≤ cap := by
          rcases ho.2 with ⟨e, _⟩ | ⟨g', cap', cur, e, _, _, hc, _⟩
          · cases e
          · cases e; exact hc
        have qw := wrap_nat (kbound ha hlen hs.out hk)
        have hcapS := Aside0.mk hcap
        have q1 := eq_true (le_cast (Nat.le_of_succ_le hcap))
        have q2 := eq_true (Int.natCast_nonneg k)
        have q3 := eq_false (Nat.ne_of_gt (Nat.lt_of_lt_of_le (Nat.succ_pos k) hcap))
        have HP := Aside0.mk (H.pop hk)
        have HK := Aside0.mk (nall_up ha (nstep_pop acc hz))
        clear hcap hk ho H hz ha
        gi_wp2
        exact ⟨HP.out.1, HP.out.2.1, _, _, HK.out, HP.out.2.2⟩
    · have e1 : x.toList.isEmpty = false := by
        cases h : x.toList with
        | nil => exact absurd (ba_toList h) x1
        | cons a b => rfl
      have e2 : (x.toList == [46]) = false := by
        rw [beq_eq_false_iff_ne]; intro h; exact x2 (ba_toList h)
      have e3 : (x.toList == [46, 46]) = false := by
        rw [beq_eq_false_iff_ne]; intro h; exact x3 (ba_toList h)
      have hB := H.below
      have hsz := H.size
      have hlenA := Aside0.mk (abound ha hlen hs.out)
      obtain ⟨a0, c0, hv⟩ : ∃ a c, v = .slice a acc.length c := by
        rcases H.own.2 with ⟨e, e0⟩ | ⟨g, cap, cur, e, _⟩
        · exact ⟨none, 0, by rw [e, e0]⟩
        · exact ⟨_, _, e⟩
      subst hv
      have H4 := Aside0.mk H.b4
      gi_wp2_with (gi_at_builtin; refine wpListIn_append_own _ rfl _ _ 34 rfl (n + 6) 9 i0 (.string ⟨#[]⟩) 1 16 Tryd.underlying34 hi hz0 hz1 hz2 rfl (by decide) _ _ _ rfl (H.own.alloc _) ⟨W.heap.size, 0, none⟩ 1 1 [.string x] rfl rfl (cell_one_new _ _ _) (by simp [Value.oneCell']) (maxl hlenA.out) (maxb hlenA.out) (by simp; omega) ?_; intro v' w1 hown' hgrow _; obtain ⟨g', cap', rfl⟩ := ownsRow_succ hown'; have hAp := Aside0.mk (Boxed.appended H4.out (by decide) (ownsRow_le' H.own) (by omega) (by omega) (ownsRow_le' hown') hgrow); have hc1 := hAp.out.1.cell; have hf1 := hAp.out.1.frozen)
      have HA := NI.append H hown' hgrow
      exact ⟨HA.1, HA.2.1, _, _, nall_up ha (nstep_more acc x x1 x2 x3), HA.2.2⟩
  case done =>
    rintro D xs W hD rfl ⟨l, v, ha, H⟩ hl
    have hR := Kd.R_of_own (enc := Value.string) (h1 := fun _ => rfl) (ok := fun _ => True) (xs := l) H.own (fun _ _ => trivial)
    obtain ⟨a0, c0, rfl, hcap, hC⟩ := Kd.R_reads hR
    clear hR
    have k4 := H.b4.cell
    have hG : Gl W := HGL.out W H.below
    have HC := Aside0.mk (hsome l ha a0 c0 W hC hcap hG)
    have hl2 := Aside0.mk hl
    have HH := Aside0.mk H
    have HD := Aside0.mk hD
    clear hC hcap hG hl H hD hsome hnone
    rcases hv2 with rfl | ⟨c2, rfl⟩
    · gi_wp2_with (refine ⟨trivial, ?_⟩; gi_at_call 39; refine (callsIn_wide.2 HC.out).mono ?_; rintro e w1 ⟨rfl, hb⟩; have b2 := (hb.block n (by have := HH.out.size; omega)).trans HH.out.b2; have b3 := (hb.block (n + 1) (by have := HH.out.size; omega)).trans HH.out.b3; have cD := (hb.block D (Array.getElem?_eq_some_iff.1 hl2.out).1).trans hl2.out; have B1 := Aside0.mk (Boxed.set (v := .string ⟨#[]⟩) (.string r1) b2); have B2 := Aside0.mk (Boxed.other (v := .nilIface) (t := 26) (B := n + 1) b3 (show n + 1 ≠ n by omega) (.string r1)); have HB := Aside0.mk hb; have k2 := Boxed.cell (t := 9) (v := .string ⟨#[]⟩) b2; have kf2 := Boxed.frozen (t := 9) (v := .string ⟨#[]⟩) b2; have k3 := B2.out.cell; have kf3 := B2.out.frozen; have CD := Aside0.mk cD; clear b2 b3 cD hb)
      have hsz := HH.out.size
      have hDD := HD.out
      rw [z6] at hDD
      exact leave12 hne.out (((HH.out.below.trans (HB.out.mono (by omega))).setCell (p := ⟨n, 0, none⟩) (Nat.le_refl _) _).setCell (p := ⟨n + 1, 0, none⟩) (by show n ≤ n + 1; omega) _) (B1.out.other (by omega) _) (B2.out.set _) ((heap_wr (by omega)).trans ((heap_wr (by omega)).trans CD.out)) hDD rfl rfl
    · gi_wp2_with (refine ⟨trivial, ?_⟩; gi_at_call 39; refine (callsIn_wide.2 HC.out).mono ?_; rintro e w1 ⟨rfl, hb⟩; have b2 := (hb.block n (by have := HH.out.size; omega)).trans HH.out.b2; have b3 := (hb.block (n + 1) (by have := HH.out.size; omega)).trans HH.out.b3; have cD := (hb.block D (Array.getElem?_eq_some_iff.1 hl2.out).1).trans hl2.out; have B1 := Aside0.mk (Boxed.set (v := .string ⟨#[]⟩) (.string r1) b2); have B2 := Aside0.mk (Boxed.other (v := .nilIface) (t := 26) (B := n + 1) b3 (show n + 1 ≠ n by omega) (.string r1)); have HB := Aside0.mk hb; have k2 := Boxed.cell (t := 9) (v := .string ⟨#[]⟩) b2; have kf2 := Boxed.frozen (t := 9) (v := .string ⟨#[]⟩) b2; have k3 := B2.out.cell; have kf3 := B2.out.frozen; have CD := Aside0.mk cD; clear b2 b3 cD hb)
      have hsz := HH.out.size
      have hDD := HD.out
      rw [z6] at hDD
      exact leave12 hne.out (((HH.out.below.trans (HB.out.mono (by omega))).setCell (p := ⟨n, 0, none⟩) (Nat.le_refl _) _).setCell (p := ⟨n + 1, 0, none⟩) (by show n ≤ n + 1; omega) _) (B1.out.other (by omega) _) (B2.out.set _) ((heap_wr (by omega)).trans ((heap_wr (by omega)).trans CD.out)) hDD rfl rfl
  case stop =>
    rintro D c pre W hD hp ⟨rfl, hno, H⟩ hl
    obtain ⟨rfl, rfl⟩ := hnone (nall_none hno hp)
    gi_wp2
    rw [z6] at hD
    exact leave12 hne.out H.below H.b2 H.b3 hl hD rfl rfl
