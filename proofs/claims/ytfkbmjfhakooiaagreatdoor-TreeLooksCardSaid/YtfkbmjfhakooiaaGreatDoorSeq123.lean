/- Iterators that the program meets. Conditions: as each theorem says. -/
import Derived.RangeFuncNested
import Derived.RangeFuncBound
import Derived.RangeFuncCalls
import Derived.RangeFuncLeaves
import Derived.RangeFuncBox
import Derived.Shelf.Abstract
import Derived.Shelf.RegionOpen
import Derived.WalkKit
import Derived.OwnWalkIn
import Derived.TacticsInMore
import Derived.LoopNIn
import Derived.LoopIn
import Derived.Maps.AppendAt
import Derived.Test.YtfkbmjfhakooiaaGreatDoorProg
import Derived.Test.YtfkbmjfhakooiaaGreatDoorShelf
import Derived.Test.YtfkbmjfhakooiaaGreatDoorGl
import Derived.Test.YtfkbmjfhakooiaaGreatDoorSeq0
/- A range over strings.SplitSeq: the iterator keeps its rest in a cell of its own and writes it between two rounds. A contract whose invariants abide such writes; the law of the loop over it; strings.splitSeq$1, splitSeq, SplitSeq walked. Conditions: as each theorem says. -/
namespace Go.Proofs.YtfkbmjfhakooiaaGreatDoor.PTree
open Go.RowKit Go.Shelf
attribute [local go_sem] Oper.semAt_some
set_option linter.unusedVariables false
set_option linter.unusedSimpArgs false

/-! ### The contract and the law -/
/-- J abides a write of the cell ⟨b, 0⟩. -/
def Wr {β : Type} (b : Nat) (J : β → World → Prop) : Prop := ∀ s W u, J s W → J s (W.setCell ⟨b, 0, none⟩ u)

/-- What an iterator promises whose invariants abide, besides, writes of the cell b. -/
def SeqW {α : Type} (b : Nat) (F : Fence) (n : Nat) (P : Program) (g : Nat) (lb : Array Value) (encs : α → Array Value) (Kp : World → World → Prop) (S Sp : List α → Prop) (N : Nat) (w : World) : Prop :=
  ∀ (l : Nat) (J Jx : List α → World → Prop) (W : World), Below w.heap.size w W → Wr b J → Wr b Jx → J [] W →
    (∀ pre x W1, J pre W1 → pre.length < N → YieldAt F (n - 1) P l (encs x) W1 fun e W' =>
      (e = .returned (.bool true) ∧ J (pre ++ [x]) W' ∧ Kp W1 W') ∨ (e = .returned (.bool false) ∧ Jx (pre ++ [x]) W')) →
    CallsIn F n P g (#[.func (.yield l) #[] #[]] ++ lb) W fun e W' => (∃ v, e = .returned v) ∧ ((∃ xs, S xs ∧ J xs W') ∨ (∃ pre, Sp pre ∧ Jx pre W'))

theorem heap_wr {W : World} {b k : Nat} {u : Value} (h : k ≠ b) : (W.setCell ⟨b, 0, none⟩ u).heap[k]? = W.heap[k]? := Below.heap_setCell _ _ _ k h

/-- The loop over such an iterator. -/
theorem wpIn_seqW {F : Fence} {n : Nat} {P : Program} {α : Type} {g : Operand} {ps : Array Tmp} {assign body : Code} {Q : Exit → Act → World → Prop} {a : Act} {w : World} {b : Nat}
    (hro : F.round = none) (h1 : 1 ≤ n) {gf : Nat} {lb : Array Value} (hg : a.eval g = .func (.func gf) #[] lb) (hFg : F.fn gf) (eg : ∀ args w, (callFunc gf args).run P w = .ok (.enter gf args) w)
    {encs : α → Array Value} {Kp : World → World → Prop} {S Sp : List α → Prop} {N : Nat} (hb : b < w.heap.size) (hseq : SeqW b F (n - 1) P gf lb encs Kp S Sp N w)
    (hKt : ∀ {A B C : World}, Kp A B → Kp B C → Kp A C) (hKb : ∀ (W : World) (l : Nat) (o' : Obj), w.heap.size ≤ l → Kp W (W.putObj l o')) (hps : ∀ x, (encs x).size = ps.size)
    (I : List α → World → Prop) (Ix : Code → List α → World → Prop) (hI : OwnFrom w.heap.size I) (hIx : ∀ c, OwnFrom w.heap.size (Ix c)) (hIw : Wr b I) (hIxw : ∀ c, Wr b (Ix c)) (h0 : I [] w) (a₁ : α → Act)
    (hassign : ∀ (l : Nat) (x : α) (W : World) (K : Act → World → Prop), K (a₁ x) W →
      assign.wpIn (F.inRound l) (n - 1 - 1) P (Exit.then K (fun _ _ _ => False)) { tmps := (ps.zip (encs x)).foldl (fun t (p, v) => t.setIfInBounds p v) a.tmps, defers := [] } W)
    (hbody : ∀ (l : Nat) (pre : List α) (x : α) (W : World), I pre W → pre.length < N → body.wpIn (F.inRound l) (n - 1 - 1) P (ownPostK Kp I Ix (pre ++ [x]) W) (a₁ x) W)
    (hdone : ∀ (D : Nat) (xs : List α) (W : World), w.heap.size ≤ D → S xs → I xs W → W.heap[D]? = some (.deferred (some [])) → Q .normal { a with defers := { target := .collected D, args := #[] } :: a.defers } W)
    (hstop : ∀ (D : Nat) (c : Code) (pre : List α) (W : World), w.heap.size ≤ D → Sp pre → Ix c pre W → W.heap[D]? = some (.deferred (some [])) → c.wpIn F n P Q { a with defers := { target := .collected D, args := #[] } :: a.defers } W) :
    (Code.rangeFunc g ps assign body).wpIn F n P Q a w := by
  refine wpIn_rangeFunc fun fn hfn => ?_
  rw [hro]
  -- the two blocks that the loop lays: the rounds' deferred calls (d0), the loop's record (d0 + 1)
  obtain ⟨d0, hd0⟩ : ∃ d, d = w.heap.size := ⟨_, rfl⟩
  obtain ⟨rec, hrec⟩ : ∃ rec : LoopState → Option Code → Loop, rec = fun st pe => { state := st, pending := pe, fn, tmps := a.tmps, params := ps, assign, body, defers := d0 } := ⟨_, rfl⟩
  obtain ⟨Wa, hWa⟩ : ∃ W, W = w.alloc (.deferred (some [])) := ⟨_, rfl⟩
  obtain ⟨Wb, hWb⟩ : ∃ W, W = Wa.alloc (.loop (rec .ready none)) := ⟨_, rfl⟩
  have sa : Wa.heap.size = d0 + 1 := by rw [hWa, World.size_alloc, hd0]
  have la : Wa.heap[d0]? = some (.deferred (some [])) := by rw [hWa, hd0]; exact World.alloc_heap_new w _
  have lb1 : Wb.heap[d0 + 1]? = some (.loop (rec .ready none)) := by have h := World.alloc_heap_new Wa (.loop (rec .ready none)); rw [sa, ← hWb] at h; exact h
  have lb0 : Wb.heap[d0]? = some (.deferred (some [])) := by rw [hWb]; exact (Below.heap_alloc _ _ _ (by omega)).trans la
  have ib : I [] Wb := by rw [hWb, hWa]; exact hI.alloc _ (hI.alloc _ h0)
  have bb : Below w.heap.size w Wb := by rw [hWb, hWa]; exact ((Below.refl _ w).alloc (Nat.le_refl _) _).alloc (by simp) _
  -- where a block of ours lies as it lay
  have two : ∀ {W : World} {u : Value}, (W.setCell ⟨b, 0, none⟩ u).heap[d0 + 1]? = W.heap[d0 + 1]? ∧ (W.setCell ⟨b, 0, none⟩ u).heap[d0]? = W.heap[d0]? := ⟨heap_wr (by omega), heap_wr (by omega)⟩
  refine ⟨d0 + 1, [{ target := .collected d0, args := #[] }], Wb, { target := .fn (.func gf) lb, args := #[.func (.yield (d0 + 1)) #[] #[]] }, Wb, gf, #[.func (.yield (d0 + 1)) #[] #[]] ++ lb, Wb, ?_, ?_, ?_, ?_, fun _ => h1, ?_⟩
  · rw [hWb, hWa, hrec, hd0]; exact run_enterLoop_outer _ _ _ _ _
  · simp only [resolve, hg]; simp [go_sem]
  · intro f' hf'; simp [Target.leads] at hf'; subst hf'; exact hFg
  · simp [invoke, go_sem, eg]
  refine (hseq (d0 + 1) (fun pre W => I pre W ∧ W.heap[d0 + 1]? = some (.loop (rec .ready none)) ∧ W.heap[d0]? = some (.deferred (some [])))
      (fun pre W => ∃ c, Ix c pre W ∧ W.heap[d0 + 1]? = some (.loop (rec .done (some c))) ∧ W.heap[d0]? = some (.deferred (some [])))
      Wb bb (fun s W u h => ⟨hIw s W u h.1, two.1.trans h.2.1, two.2.trans h.2.2⟩) (fun s W u ⟨c, h⟩ => ⟨c, hIxw c s W u h.1, two.1.trans h.2.1, two.2.trans h.2.2⟩) ⟨ib, lb1, lb0⟩ ?_).mono ?_
  · -- one round
    rintro pre x W ⟨hi, hl, hk⟩ hlen
    have hlt : d0 + 1 < W.heap.size := (Array.getElem?_eq_some_iff.1 hl).1
    have hy := run_yield (P := P) (args := encs x) hl (by rw [hrec]; exact hps x)
    rw [hrec] at hy
    obtain ⟨Wc, hWc⟩ : ∃ W', W' = W.putObj (d0 + 1) (.loop { rec .ready none with state := .busy }) := ⟨_, rfl⟩
    have lc1 : Wc.heap[d0 + 1]? = some (.loop { rec .ready none with state := .busy }) := by rw [hWc]; exact World.putObj_heap_same hlt
    have lc0 : Wc.heap[d0]? = some (.deferred (some [])) := by rw [hWc]; exact (World.putObj_heap_other (by omega)).trans hk
    have kc : Kp W Wc := by rw [hWc]; exact hKb _ _ _ (by omega)
    have ic : I pre Wc := by rw [hWc]; exact hI.putObj _ hi (by omega) hl rfl
    refine ⟨fn, _, assign, body, hy, roundIn_of_wpIn hfn (hassign _ x W _ ⟨Wc, by rw [hWc]; exact run_beginRound hl (by rw [hrec]), ?_⟩)⟩
    refine wpIn_mono (hbody _ pre x Wc ic hlen) ?_
    have fin : ∀ (jump : Option Code) (W3 : World), KeepsOthers Wc W3 → ∃ W4, W4 = W3.putObj (d0 + 1) (.loop (rec (if jump.isNone then .ready else .done) jump)) ∧ (Instr.endRound (d0 + 1) jump).run P W3 = .ok (.bool jump.isNone) W4 ∧
        W3.heap[d0 + 1]? = some (.loop { rec .ready none with state := .busy }) ∧ W4.heap[d0 + 1]? = some (.loop (rec (if jump.isNone then .ready else .done) jump)) ∧ W4.heap[d0]? = some (.deferred (some [])) := fun jump W3 hk3 => by
      have hl3 := hk3.same _ _ lc1 rfl
      have he := run_endRound (P := P) jump hl3
      refine ⟨_, rfl, ?_, hl3, World.putObj_heap_same (Array.getElem?_eq_some_iff.1 hl3).1, (World.putObj_heap_other (by omega)).trans (hk3.same _ _ lc0 rfl)⟩
      rw [hrec] at he ⊢; exact he
    have out : ∀ (c : Code) (W3 : World), KeepsOthers Wc W3 → Ix c (pre ++ [x]) W3 → ∃ W4, (Instr.endRound (d0 + 1) (some c)).run P W3 = .ok (.bool false) W4 ∧ (∃ c, Ix c (pre ++ [x]) W4 ∧ W4.heap[d0 + 1]? = some (.loop (rec .done (some c))) ∧ W4.heap[d0]? = some (.deferred (some []))) := fun c W3 hk3 hi3 => by
      obtain ⟨W4, e4, hr, hl3, hl4, hk4⟩ := fin (some c) W3 hk3
      exact ⟨W4, hr, c, by rw [e4]; exact (hIx _).putObj _ hi3 (by omega) hl3 rfl, hl4, hk4⟩
    rintro e a3 W3 hp
    cases e with
    | normal =>
      obtain ⟨hk3, hkp3, hi3⟩ := hp
      obtain ⟨W4, e4, hr, hl3, hl4, hk4⟩ := fin none W3 hk3
      exact ⟨_, _, hr, .inl ⟨rfl, ⟨by rw [e4]; exact hI.putObj _ hi3 (by omega) hl3 rfl, hl4, hk4⟩, hKt (hKt kc hkp3) (by rw [e4]; exact hKb _ _ _ (by omega))⟩⟩
    | ret => obtain ⟨W4, hr, h4⟩ := out .ret W3 hp.1 hp.2; exact ⟨_, _, hr, .inr ⟨rfl, h4⟩⟩
    | exit id => obtain ⟨W4, hr, h4⟩ := out (.exit id) W3 hp.1 hp.2; exact ⟨_, _, hr, .inr ⟨rfl, h4⟩⟩
    | goto t => obtain ⟨W4, hr, h4⟩ := out (.goto t) W3 hp.1 hp.2; exact ⟨_, _, hr, .inr ⟨rfl, h4⟩⟩
    | panic ch => exact hp.elim
    | outgrown => exact hp.elim
  · -- behind the iterator
    rintro e W2 ⟨⟨v, rfl⟩, (⟨xs, hS, hi, hl, hk⟩ | ⟨pre, hSp, c, hi, hl, hk⟩)⟩
    · have he := run_endLoop (P := P) hl (by rw [hrec]; simp)
      rw [hrec] at he
      exact ⟨none, _, he, hdone d0 xs _ (by omega) hS (hI.putObj _ hi (by omega) hl rfl) ((World.putObj_heap_other (by omega)).trans hk)⟩
    · have he := run_endLoop (P := P) hl (by rw [hrec]; simp)
      rw [hrec] at he
      exact ⟨some c, _, he, hstop d0 c pre _ (by omega) hSp ((hIx c).putObj _ hi (by omega) hl rfl) ((World.putObj_heap_other (by omega)).trans hk)⟩

/- strings.splitSeq$1, splitSeq, SplitSeq at the separator "/": the pieces, one by one. Conditions: none. -/
end Go.Proofs.YtfkbmjfhakooiaaGreatDoor.PTree
namespace Go.Proofs.YtfkbmjfhakooiaaGreatDoor.PTree
open Go.RowKit Go.Shelf Go.Proofs.YtfkbmjfhakooiaaGreatDoorW.PrintWords
attribute [local go_sem] Oper.semAt_some
set_option linter.unusedVariables false
set_option linter.unusedSimpArgs false

/-! ### strings.SplitSeq, splitSeq: functions 33, 49 -/
set_option maxHeartbeats 1000000 in
theorem splitSeq_in (s : ByteArray) (w : World) (n : Nat) :
    CallsIn Fence.wide n Tryz.prog 89 #[.string s, .string ⟨#[47]⟩, .int .i64 0] w fun e w' => e = .returned (.func (.func 103) #[] #[.pointer (some ⟨w.heap.size + 1, 0, none⟩), .pointer (some ⟨w.heap.size, 0, none⟩), .pointer (some ⟨w.heap.size + 1 + 1, 0, none⟩)]) ∧ w' = ((w.alloc (.cells #[.string s] 9)).alloc (.cells #[.string ⟨#[47]⟩] 9)).alloc (.cells #[.int .i64 0] 3) := by
  refine callsIn_of_wp Tryz.func89 rfl trivial ?_ rfl
  simp only [Tryz.ntmps89, List.size_toArray, List.length_cons, List.length_nil, Nat.reduceAdd, Nat.reduceSub, Array.replicate_succ, Array.replicate_zero, List.push_toArray, List.append_toArray, List.nil_append, List.cons_append]
  gi_wp2
  go_ret
  exact ⟨rfl, rfl⟩
set_option maxHeartbeats 1000000 in
theorem SplitSeq_in (s : ByteArray) (w : World) (n : Nat) (hn : 1 ≤ n) :
    CallsIn Fence.wide n Tryz.prog 70 #[.string s, .string ⟨#[47]⟩] w fun e w' => e = .returned (.func (.func 103) #[] #[.pointer (some ⟨w.heap.size + 1, 0, none⟩), .pointer (some ⟨w.heap.size, 0, none⟩), .pointer (some ⟨w.heap.size + 1 + 1, 0, none⟩)]) ∧ w' = ((w.alloc (.cells #[.string s] 9)).alloc (.cells #[.string ⟨#[47]⟩] 9)).alloc (.cells #[.int .i64 0] 3) := by
  refine callsIn_of_wp Tryz.func70 rfl trivial ?_ rfl
  simp only [Tryz.ntmps70, List.size_toArray, List.length_cons, List.length_nil, Nat.reduceAdd, Nat.reduceSub, Array.replicate_succ, Array.replicate_zero, List.push_toArray, List.append_toArray, List.nil_append, List.cons_append]
  gi_wp2_with (refine ⟨trivial, ?_⟩; gi_at_call 89; refine (splitSeq_in s _ _).mono ?_; rintro e w' ⟨rfl, rfl⟩)
  go_ret
  exact ⟨rfl, rfl⟩

/-! ### strings.splitSeq$1: function 103 -/
def leftS (B : Nat) (W : World) : Nat := match W.cell? ⟨B, 0, none⟩ with
  | some (.string r) => r.size
  | _ => 0
theorem leftS_eq {B : Nat} {W : World} {r : ByteArray} (h : Boxed W B 9 (.string r)) : leftS B W = r.size := by unfold leftS; rw [h.cell]
set_option maxHeartbeats 4000000 in
set_option maxRecDepth 100000 in
theorem seq61_in (n : Nat) (hn : 2 ≤ n) (B : Nat) (s : ByteArray) (w : World) (hB : B + 2 < w.heap.size) (hs : s.size ≤ 1000000000000)
    (h0 : w.heap[B]? = some (.cells #[.string s] 9 (0, 0))) (h1 : w.heap[B + 1]? = some (.cells #[.string ⟨#[47]⟩] 9 (0, 0))) (h2 : w.heap[B + 1 + 1]? = some (.cells #[.int .i64 0] 3 (0, 0))) :
    SeqW B Fence.wide n Tryz.prog 103 #[.pointer (some ⟨B + 1, 0, none⟩), .pointer (some ⟨B, 0, none⟩), .pointer (some ⟨B + 1 + 1, 0, none⟩)] (fun x : ByteArray => #[Value.string x]) (fun X Y => ∀ k, B ≤ k → k < B + 3 → Y.heap[k]? = X.heap[k]?) (fun ys => ys = pieces s) (fun pre => pre <+: pieces s) (pieces s).length w := by
  intro l J Jx W hW hJ hJx hJ0 hY
  refine callsIn_of_wp Tryz.func103 rfl trivial ?_ rfl
  simp only [Tryz.ntmps103, List.size_toArray, List.length_cons, List.length_nil, Nat.reduceAdd, Nat.reduceSub, Array.replicate_succ, Array.replicate_zero, List.push_toArray, List.append_toArray, List.nil_append, List.cons_append]
  have hb0 : Boxed W B 9 (.string s) := (hW.block B (by omega)).trans h0
  have hb1 : Boxed W (B + 1) 9 (.string ⟨#[47]⟩) := (hW.block (B + 1) (by omega)).trans h1
  have hb2 : Boxed W (B + 1 + 1) 3 (.int .i64 0) := (hW.block (B + 1 + 1) (by omega)).trans h2
  have k0 := hb0.cell
  have k1 := hb1.cell
  have k2 := hb2.cell
  gi_wp2
  gi_loopw [7] (fun v7 wr => ∃ (pre : List ByteArray) (r : ByteArray), Boxed wr B 9 (.string r) ∧ Boxed wr (B + 1) 9 (.string ⟨#[47]⟩) ∧ Boxed wr (B + 1 + 1) 3 (.int .i64 0) ∧ Aside0 (pieces s = pre ++ pieces r) ∧ Aside0 (r.size ≤ s.size) ∧ J pre wr)
    (fun v7 wr => leftS B wr)
  case atStart => exact ⟨[], s, hb0, hb1, hb2, ⟨by simp⟩, ⟨Nat.le_refl _⟩, hJ0⟩
  case round =>
    obtain ⟨pre, r, b0, b1, b2, HP, HS, hJs⟩ := hrel
    clear hb0 hb1 hb2 k0 k1 k2
    have k0 := b0.cell
    have k1 := b1.cell
    have k2 := b2.cell
    have hg := Lib.indexByte_ge r.data.toList 47
    have hn1 : 1 ≤ n := by omega
    by_cases hm : Lib.indexByte r.data.toList 47 < 0
    · have hpr := pieces_none hm
      have hlen : pre.length < (pieces s).length := by rw [HP.out, hpr]; simp
      obtain ⟨fn, tmps, assign, body, hy, hR⟩ := hY pre r wr hJs hlen
      have hmb := decide_eq_true hm
      gi_wp2_with (refine ⟨trivial, ?_⟩; gi_at_call 100; refine (callsIn_wide.2 (Tryz.strings_Index_one r 47 _)).mono ?_; rintro e w' ⟨rfl, rfl⟩)
      refine hR.mono ?_
      rintro e W3 (⟨rfl, hJ3, hk3⟩ | ⟨rfl, hJx3⟩)
      · gi_wp2
        go_end0
        exact ⟨⟨_, rfl⟩, .inl ⟨_, by rw [HP.out, hpr], hJ3⟩⟩
      · gi_wp2
        go_end0
        exact ⟨⟨_, rfl⟩, .inr ⟨_, ⟨[], by rw [HP.out, hpr]; simp⟩, hJx3⟩⟩
    · obtain ⟨m, em⟩ : ∃ m : Nat, Lib.indexByte r.data.toList 47 = m := ⟨(Lib.indexByte r.data.toList 47).toNat, by omega⟩
      obtain ⟨es, hml⟩ := pieces_some em
      have hlen : pre.length < (pieces s).length := by rw [HP.out, es]; simp
      obtain ⟨fn, tmps, assign, body, hy, hR⟩ := hY pre (r.extract 0 m) wr hJs hlen
      have hy2 := hy
      rw [show r.extract 0 m = r.extract 0 ((m : Int)).toNat by rw [Int.toNat_natCast]] at hy2
      have HSo := HS.out
      have q0 := eq_false (show ¬ (m : Int) < 0 by omega)
      have qK : m ≤ 1000000000000 := by omega
      have q1 : ∀ x : Nat, x ≤ 1000000000000 → wrap64 (x : Int) = (x : Int) := fun x hx => by unfold wrap64; omega
      have q2 : ∀ x : Nat, x ≤ 1000000000000 → wrap64 ((x : Int) + 1) = ((x + 1 : Nat) : Int) := fun x hx => by unfold wrap64; omega
      have q3 := eq_true (show (m : Int) ≤ (r.size : Int) by omega)
      have q4 := eq_true (show ((m + 1 : Nat) : Int) ≤ (r.size : Int) by omega)
      have q5 := eq_true (show (0 : Int) ≤ (m : Int) by omega)
      have q6 := eq_true (show (0 : Int) ≤ ((m + 1 : Nat) : Int) by omega)
      gi_wp2_with (refine ⟨trivial, ?_⟩; gi_at_call 100; refine (callsIn_wide.2 (Tryz.strings_Index_one r 47 _)).mono ?_; rintro e w' ⟨rfl, rfl⟩; rw [em])
      clear hy hy2
      refine hR.mono ?_
      rintro e W3 (⟨rfl, hJ3, hk3⟩ | ⟨rfl, hJx3⟩)
      · have c0 : Boxed W3 B 9 (.string r) := (hk3 B (Nat.le_refl _) (by omega)).trans b0
        have c1 : Boxed W3 (B + 1) 9 (.string ⟨#[47]⟩) := (hk3 (B + 1) (by omega) (by omega)).trans b1
        have c2 : Boxed W3 (B + 1 + 1) 3 (.int .i64 0) := (hk3 (B + 1 + 1) (by omega) (by omega)).trans b2
        clear k0 k1 k2
        have k0 := c0.cell
        have k1 := c1.cell
        have k2 := c2.cell
        have kf := c0.frozen
        gi_wp2
        go_roundw
        case rel => exact ⟨pre ++ [r.extract 0 m], r.extract (m + 1) r.size, c0.set _, c1.other (by omega) _, c2.other (by omega) _, ⟨by rw [HP.out, es]; simp⟩, ⟨by rw [size_ext]; omega⟩, hJ _ _ _ hJ3⟩
        case measure => rw [leftS_eq (c0.set _), leftS_eq b0, size_ext]; omega
      · gi_wp2
        refine bodyPost_ret (results_none rfl _ _ _) rfl ?_
        exact ⟨⟨_, rfl⟩, .inr ⟨_, ⟨pieces (r.extract (m + 1) r.size), by rw [HP.out, es]; simp⟩, hJx3⟩⟩

/- path.Normal: function 56, over strings.SplitSeq's iterator. Conditions: as the theorem says. -/
end Go.Proofs.YtfkbmjfhakooiaaGreatDoor.PTree
namespace Go.Proofs.YtfkbmjfhakooiaaGreatDoor.PTree
open Go.RowKit Go.Shelf Go.Proofs.YtfkbmjfhakooiaaGreatDoorW.PrintWords
attribute [local go_sem] Oper.semAt_some
set_option linter.unusedVariables false
set_option linter.unusedSimpArgs false

theorem info9s : (Tryz.prog.info? 9).map (fun i => (i.zero, i.size, i.bytes)) = some (some (.string ⟨#[]⟩), 1, 16) := by kernel_rfl


theorem ownsRow_le' {w : World} {n size k : Nat} {e : TypeId} {v : Value} {xs : List Value} (h : w.ownsRow (n + 6) e size v k xs) : w.ownsRow n e size v k xs := by
  obtain ⟨h1, h2⟩ := h
  refine ⟨h1, ?_⟩
  rcases h2 with h2 | ⟨g, cap, cur, e, hg, r⟩
  · exact .inl h2
  · exact .inr ⟨g, cap, cur, e, by omega, r⟩
theorem wrap_nat {k : Nat} (h : k ≤ 1000000000001) : wrap64 (k : Int) = (k : Int) := by unfold wrap64; omega
theorem le_cast {a b : Nat} (h : a ≤ b) : (a : Int) ≤ (b : Int) := by omega
/-- Between two rounds: n: where the call's boxes begin. -/
structure NI (n : Nat) (w : World) (l : List ByteArray) (v : Value) (W : World) : Prop where
  b4 : Boxed W (n + 1 + 1) 33 v
  own : W.ownsRow (n + 6) 9 1 v l.length (l.map Value.string)
  b2 : Boxed W n 9 (.string ⟨#[]⟩)
  b3 : Boxed W (n + 1) 44 .nilIface
  below : Below n w W
  size : n + 6 ≤ W.heap.size
theorem NI.turn {n : Nat} {w : World} {l : List ByteArray} {v : Value} {A B : World} {row : Option Nat} (h : NI n w l v A) (hn : n ≤ w.heap.size) (hg : A.grownBy B row) (hr : ∀ r, row = some r → n + 6 ≤ r ∧ ∃ o : Obj, A.heap[r]? = some o ∧ o.isCells = false) : NI n w l v B := by
  have hne : ∀ k, k < n + 6 → some k ≠ row := fun k hk e => by have := (hr k e.symm).1; omega
  refine ⟨h.b4.kept hg (hne _ (by omega)), h.own.kept hg ?_, h.b2.kept hg (hne _ (by omega)), h.b3.kept hg (hne _ (by omega)), h.below.grown hg (by have := h.size; omega) (fun k e => by have := (hr k e).1; omega), by have := hg.size; have := h.size; omega⟩
  rcases h.own.2 with ⟨rfl, _⟩ | ⟨g, cap, cur, rfl, _, hgb, _⟩
  · exact .inl rfl
  · refine .inr fun e' => ?_
    obtain ⟨_, o, ho, hc⟩ := hr g (by simpa [Value.ownBlock] using e'.symm)
    rw [hgb] at ho; cases ho; cases hc
theorem NI.wr {n : Nat} {w : World} {l : List ByteArray} {v : Value} {A : World} (h : NI n w l v A) (u : Value) : NI n w l v (A.setCell ⟨n + 1 + 1 + 1, 0, none⟩ u) :=
  ⟨h.b4.other (by omega) _, ownsRow_setCell_below h.own (by show n + 1 + 1 + 1 < n + 6; omega) _, h.b2.other (by omega) _, h.b3.other (by omega) _, h.below.setCell (p := ⟨n + 1 + 1 + 1, 0, none⟩) (by show n ≤ n + 1 + 1 + 1; omega) _, by have := (KeepsWalks.setCell A ⟨n + 1 + 1 + 1, 0, none⟩ u).size; have := h.size; omega⟩
/-- The parts' box is written. -/
theorem NI.put {n : Nat} {w : World} {l l' : List ByteArray} {v v' : Value} {A : World} (h : NI n w l v A) (ho : A.ownsRow (n + 6) 9 1 v' l'.length (l'.map Value.string)) : NI n w l' v' (A.setCell ⟨n + 1 + 1, 0, none⟩ v') :=
  ⟨h.b4.set _, ownsRow_setCell_below ho (by show n + 1 + 1 < n + 6; omega) _, h.b2.other (by omega) _, h.b3.other (by omega) _, h.below.setCell (p := ⟨n + 1 + 1, 0, none⟩) (by show n ≤ n + 1 + 1; omega) _, by have := (KeepsWalks.setCell A ⟨n + 1 + 1, 0, none⟩ v').size; have := h.size; omega⟩
/-- The body has returned. -/
structure NX (n : Nat) (w : World) (W : World) : Prop where
  b2 : Boxed W n 9 (.string ⟨#[]⟩)
  b3 : Boxed W (n + 1) 44 (.iface 63 (.int .i64 12))
  below : Below n w W
  size : n + 6 ≤ W.heap.size
theorem NX.turn {n : Nat} {w : World} {A B : World} {row : Option Nat} (h : NX n w A) (hn : n ≤ w.heap.size) (hg : A.grownBy B row) (hr : ∀ r, row = some r → n + 6 ≤ r ∧ ∃ o : Obj, A.heap[r]? = some o ∧ o.isCells = false) : NX n w B := by
  have hne : ∀ k, k < n + 6 → some k ≠ row := fun k hk e => by have := (hr k e.symm).1; omega
  exact ⟨h.b2.kept hg (hne _ (by omega)), h.b3.kept hg (hne _ (by omega)), h.below.grown hg (by have := h.size; omega) (fun k e => by have := (hr k e).1; omega), by have := hg.size; have := h.size; omega⟩
theorem NX.wr {n : Nat} {w : World} {A : World} (h : NX n w A) (u : Value) : NX n w (A.setCell ⟨n + 1 + 1 + 1, 0, none⟩ u) :=
  ⟨h.b2.other (by omega) _, h.b3.other (by omega) _, h.below.setCell (p := ⟨n + 1 + 1 + 1, 0, none⟩) (by show n ≤ n + 1 + 1 + 1; omega) _, by have := (KeepsWalks.setCell A ⟨n + 1 + 1 + 1, 0, none⟩ u).size; have := h.size; omega⟩

theorem ownsRow_pop1 {w : World} {base : Nat} {e : TypeId} {g cap k : Nat} {xs : List Value} (h : w.ownsRow base e 1 (.slice (some ⟨g, 0, none⟩) (k + 1) cap) (k + 1) xs) : w.ownsRow base e 1 (.slice (some ⟨g, 0, none⟩) k cap) k (xs.take k) := by
  obtain ⟨h1, h2⟩ := h
  rcases h2 with ⟨h0, _⟩ | ⟨g', cap', cur, hv, hg, hh, hn, hcap, hsz, htake⟩
  · cases h0
  · cases hv
    refine ⟨by rw [List.length_take]; omega, .inr ⟨g, cap, cur, rfl, hg, hh, by omega, hcap, hsz, ?_⟩⟩
    rw [← htake, List.take_take, Nat.min_eq_left (by omega), Nat.mul_one]
theorem NI.pop {n : Nat} {w : World} {l : List ByteArray} {A : World} {g cap k : Nat} (h : NI n w l (.slice (some ⟨g, 0, none⟩) (k + 1) cap) A) (hk : l.length = k + 1) :
    KeepsOthers A (A.setCell ⟨n + 1 + 1, 0, none⟩ (.slice (some ⟨g, 0, none⟩) k cap)) ∧ (∀ j, n + 1 + 1 + 1 ≤ j → j < n + 1 + 1 + 1 + 3 → (A.setCell ⟨n + 1 + 1, 0, none⟩ (.slice (some ⟨g, 0, none⟩) k cap)).heap[j]? = A.heap[j]?) ∧
    NI n w l.dropLast (.slice (some ⟨g, 0, none⟩) k cap) (A.setCell ⟨n + 1 + 1, 0, none⟩ (.slice (some ⟨g, 0, none⟩) k cap)) := by
  refine ⟨KeepsOthers.setCell _ _ _, fun j h1 h2 => heap_wr (by omega), h.put ?_⟩
  have ho := h.own
  rw [hk] at ho
  have := ownsRow_pop1 ho
  rw [List.length_dropLast, hk, List.dropLast_eq_take, hk]
  rw [show k + 1 - 1 = k by omega, List.map_take]
  exact this
theorem NI.append {n : Nat} {w : World} {l : List ByteArray} {v v' : Value} {A w1 : World} {x : ByteArray} {tmp : Obj} (h : NI n w l v A)
    (hown' : w1.ownsRow (n + 6) 9 1 v' (l.length + 1) (l.map Value.string ++ [.string x])) (hg : (A.alloc tmp).grownBy w1 v.ownBlock) :
    KeepsOthers A (w1.setCell ⟨n + 1 + 1, 0, none⟩ v') ∧ (∀ j, n + 1 + 1 + 1 ≤ j → j < n + 1 + 1 + 1 + 3 → (w1.setCell ⟨n + 1 + 1, 0, none⟩ v').heap[j]? = A.heap[j]?) ∧
    NI n w (l ++ [x]) v' (w1.setCell ⟨n + 1 + 1, 0, none⟩ v') := by
  have hsz := h.size
  obtain ⟨q1, q2, q3, q4, q5⟩ := Boxed.appended h.b4 (by decide) (ownsRow_le' h.own) (by omega) (by omega) (ownsRow_le' hown') hg
  have hne : ∀ j, j < n + 6 → some j ≠ v.ownBlock := fun j hj e => by have := (h.own.lt j e.symm).1; omega
  have hal : (A.alloc tmp).heap.size = A.heap.size + 1 := World.size_alloc _ _
  refine ⟨q4, fun j h1 h2 => ?_, q2, ?_, ?_, ?_, ?_, ?_⟩
  · rw [heap_wr (show j ≠ n + 1 + 1 by omega), hg.block j (by omega) (hne j (by omega))]
    exact Below.heap_alloc _ _ _ (by omega)
  · rw [List.length_append, List.map_append]
    exact ownsRow_setCell_below hown' (by show n + 1 + 1 < n + 6; omega) _
  · exact ((h.b2.alloc tmp).kept hg (hne n (by omega))).other (by omega) _
  · exact ((h.b3.alloc tmp).kept hg (hne (n + 1) (by omega))).other (by omega) _
  · exact h.below.trans q5
  · have e1 := hg.size
    have e2 := (KeepsWalks.setCell w1 ⟨n + 1 + 1, 0, none⟩ v').size
    omega
theorem NI.fail {n : Nat} {w : World} {l : List ByteArray} {v : Value} {A : World} (h : NI n w l v A) :
    KeepsOthers A ((A.setCell ⟨n, 0, none⟩ (.string ⟨#[]⟩)).setCell ⟨n + 1, 0, none⟩ (.iface 63 (.int .i64 12))) ∧ NX n w ((A.setCell ⟨n, 0, none⟩ (.string ⟨#[]⟩)).setCell ⟨n + 1, 0, none⟩ (.iface 63 (.int .i64 12))) := by
  have hsz := h.size
  refine ⟨(KeepsOthers.setCell _ _ _).trans (KeepsOthers.setCell _ _ _), (h.b2.set _).other (by omega) _, (h.b3.other (by omega) _).set _, (h.below.setCell (p := ⟨n, 0, none⟩) (Nat.le_refl _) _).setCell (p := ⟨n + 1, 0, none⟩) (by show n ≤ n + 1; omega) _, ?_⟩
  have e1 := (KeepsWalks.setCell A ⟨n, 0, none⟩ (.string ⟨#[]⟩)).size
  have e2 := (KeepsWalks.setCell (A.setCell ⟨n, 0, none⟩ (.string ⟨#[]⟩)) ⟨n + 1, 0, none⟩ (.iface 63 (.int .i64 12))).size
  omega
theorem nstep_up (acc : List ByteArray) (h : acc.length = 0) : nstep acc ⟨#[46, 46]⟩ = none := by
  unfold nstep
  rw [if_neg (by decide), if_neg (by decide), if_pos rfl, if_pos h]
theorem nstep_pop (acc : List ByteArray) (h : ¬ acc.length = 0) : nstep acc ⟨#[46, 46]⟩ = some acc.dropLast := by
  unfold nstep
  rw [if_neg (by decide), if_neg (by decide), if_pos rfl, if_neg h]
theorem nstep_more (acc : List ByteArray) (x : ByteArray) (h1 : x ≠ ⟨#[]⟩) (h2 : x ≠ ⟨#[46]⟩) (h3 : x ≠ ⟨#[46, 46]⟩) : nstep acc x = some (acc ++ [x]) := by
  unfold nstep
  rw [if_neg h1, if_neg h2, if_neg h3]
theorem kbound {pre acc : List ByteArray} {s : ByteArray} {k : Nat} (ha : nall pre = some acc) (hlen : pre.length < (pieces s).length) (hs : s.size ≤ 1000000000000) (hk : acc.length = k + 1) : k ≤ 1000000000001 := by
  have h1 := nall_len ha
  have h2 := pieces_len s
  omega
theorem abound {pre acc : List ByteArray} {s : ByteArray} (ha : nall pre = some acc) (hlen : pre.length < (pieces s).length) (hs : s.size ≤ 1000000000000) : acc.length ≤ 1000000000001 := by
  have h1 := nall_len ha
  have h2 := pieces_len s
  omega
theorem maxl {a : Nat} (h : a ≤ 1000000000001) : a + 1 ≤ maxLen := by unfold maxLen; omega
theorem maxb {a : Nat} (h : a ≤ 1000000000001) : (a + 1) * 16 ≤ 140737488355328 := by omega
theorem nall_up {pre acc : List ByteArray} (ha : nall pre = some acc) {x : ByteArray} {o : Option (List ByteArray)} (h : nstep acc x = o) : nall (pre ++ [x]) = o := by rw [nall_snoc, ha]; exact h

theorem results12 {W : World} {n : Nat} {a b : Value} {tmps : Array Value} (h2 : Boxed W n 9 a) (h3 : Boxed W (n + 1) 44 b) (e2 : tmps.getD 2 undef = .pointer (some ⟨n, 0, none⟩)) (e3 : tmps.getD 3 undef = .pointer (some ⟨n + 1, 0, none⟩)) :
    (results Tryz.f56 tmps).run Tryz.prog W = .ok (.tuple #[a, b]) W := by
  have hres : Tryz.f56.results = #[.cell 2 9, .cell 3 44] := by kernel_rfl
  have e2' : tmps[2]?.getD undef = .pointer (some ⟨n, 0, none⟩) := by simpa using e2
  have e3' : tmps[3]?.getD undef = .pointer (some ⟨n + 1, 0, none⟩) := by simpa using e3
  have k2 := h2.cell
  have k3 := h3.cell
  simp [results, hres, e2', e3', go_sem, Tryz.underlying9, Tryz.underlying44, k2, k3]
theorem leave12 {W w : World} {n D : Nat} {a b : Value} {tmps : Array Value} (hn : n = w.heap.size) (hb : Below n w W) (h2 : Boxed W n 9 a) (h3 : Boxed W (n + 1) 44 b) (hD : W.heap[D]? = some (.deferred (some []))) (hd : n + 6 ≤ D)
    (e2 : tmps.getD 2 undef = .pointer (some ⟨n, 0, none⟩)) (e3 : tmps.getD 3 undef = .pointer (some ⟨n + 1, 0, none⟩)) :
    LeavesInM Fence.wide 6 Tryz.prog Tryz.f56 tmps (fun e w' => e = .returned (.tuple #[a, b]) ∧ Below w.heap.size w w') [{ target := .collected D, args := #[] }] .returning W := by
  refine ⟨by simp, .inl ⟨_, _, rfl, run_takeDeferred hD, ?_⟩⟩
  have b2 : Boxed (W.putObj D (.deferred none)) n 9 a := (World.putObj_heap_other (by omega)).trans h2
  have b3 : Boxed (W.putObj D (.deferred none)) (n + 1) 44 b := (World.putObj_heap_other (by omega)).trans h3
  refine ⟨_, results12 b2 b3 e2 e3, rfl, ?_⟩
  rw [← hn]
  exact hb.grown (grownBy_putObj' W D _) (by have := (Array.getElem?_eq_some_iff.1 hD).1; omega) (fun k e => by cases e; omega)
set_option maxHeartbeats 4000000 in
set_option maxRecDepth 100000 in
theorem normal_in (s : ByteArray) (r1 : ByteArray) (v2 : Value) (w : World) (hGl : Gl w) (hs0 : s.size ≤ 1000000000000) (hv2 : v2 = .nilIface ∨ ∃ c, v2 = .iface 63 (.int .i64 c)) (hnone : nall (pieces s) = none → r1 = ⟨#[]⟩ ∧ v2 = .iface 63 (.int .i64 12))
    (hsome : ∀ l, nall (pieces s) = some l → ∀ (A0 : Option Addr) (c0 : Nat) (W : World), Kd.C Kd.string W A0 l.length l → l.length ≤ c0 → Gl W → Calls Tryz.prog 71 #[.slice A0 l.length c0] W fun e w' => e = .returned (.tuple #[.string r1, v2]) ∧ Below W.heap.size W w') :
    Calls Tryz.prog 56 #[.string s] w fun e w' => e = .returned (.tuple #[.string r1, v2]) ∧ Below w.heap.size w w' := by
  have hs := Aside0.mk hs0
  clear hs0
  obtain ⟨i0, hi, hz0, hz1, hz2⟩ := info_parts info9s
  refine (callsIn_wide (n := 6)).1 ?_
  refine callsIn_of_wp_marks Tryz.func56 rfl trivial ?_ rfl
  simp only [Tryz.ntmps56, List.size_toArray, List.length_cons, List.length_nil, Nat.reduceAdd, Nat.reduceSub, Array.replicate_succ, Array.replicate_zero, List.push_toArray, List.append_toArray, List.nil_append, List.cons_append]
  gi_wp2_with (refine ⟨trivial, ?_⟩; gi_at_call 70; refine (SplitSeq_in s _ _ (by omega)).mono ?_; rintro e w' ⟨rfl, rfl⟩)
  obtain ⟨n, hn⟩ : ∃ n, n = w.heap.size := ⟨_, rfl⟩
  obtain ⟨w6, hw6⟩ : ∃ w6, w6 = ((((((w.alloc (Obj.cells #[Value.string { data := #[] }] 9)).alloc (Obj.cells #[Value.nilIface] 44)).alloc (Obj.cells #[Value.slice none 0 0] 33)).alloc (Obj.cells #[Value.string s] 9)).alloc (Obj.cells #[Value.string { data := #[47] }] 9)).alloc (Obj.cells #[Value.int IntKind.i64 0] 3)) := ⟨_, rfl⟩
  have z6 : w6.heap.size = n + 6 := by rw [hw6]; simp only [World.size_alloc]; omega
  have H0 : NI n w [] (.slice none 0 0) w6 := by
    have e0 := Boxed.new w 9 (.string ⟨#[]⟩)
    have e1 := Boxed.new (w.alloc (Obj.cells #[Value.string { data := #[] }] 9)) 44 .nilIface
    have e2 := Boxed.new ((w.alloc (Obj.cells #[Value.string { data := #[] }] 9)).alloc (Obj.cells #[Value.nilIface] 44)) 33 (.slice none 0 0)
    simp only [World.size_alloc] at e1 e2
    rw [hn, hw6]
    exact ⟨((e2.alloc _).alloc _).alloc _, World.ownsRow_nil _ _ _ _, ((((e0.alloc _).alloc _).alloc _).alloc _).alloc _, (((e1.alloc _).alloc _).alloc _).alloc _, by repeat (first | exact Below.refl _ _ | refine below_alloc ?_ _), by simp only [World.size_alloc]; omega⟩
  have g0 : w6.heap[n + 1 + 1 + 1]? = some (.cells #[.string s] 9 (0, 0)) := by
    have e := Boxed.new (((w.alloc (Obj.cells #[Value.string { data := #[] }] 9)).alloc (Obj.cells #[Value.nilIface] 44)).alloc (Obj.cells #[Value.slice none 0 0] 33)) 9 (.string s)
    simp only [World.size_alloc] at e
    rw [hn, hw6]; exact (e.alloc _).alloc _
  have g1 : w6.heap[n + 1 + 1 + 1 + 1]? = some (.cells #[.string ⟨#[47]⟩] 9 (0, 0)) := by
    have e := Boxed.new ((((w.alloc (Obj.cells #[Value.string { data := #[] }] 9)).alloc (Obj.cells #[Value.nilIface] 44)).alloc (Obj.cells #[Value.slice none 0 0] 33)).alloc (Obj.cells #[Value.string s] 9)) 9 (.string ⟨#[47]⟩)
    simp only [World.size_alloc] at e
    rw [hn, hw6]; exact e.alloc _
  have g2 : w6.heap[n + 1 + 1 + 1 + 1 + 1]? = some (.cells #[.int .i64 0] 3 (0, 0)) := by
    have e := Boxed.new (((((w.alloc (Obj.cells #[Value.string { data := #[] }] 9)).alloc (Obj.cells #[Value.nilIface] 44)).alloc (Obj.cells #[Value.slice none 0 0] 33)).alloc (Obj.cells #[Value.string s] 9)).alloc (Obj.cells #[Value.string { data := #[47] }] 9)) 3 (.int .i64 0)
    simp only [World.size_alloc] at e
    rw [hn, hw6]; exact e
  have hnw : n ≤ w.heap.size := Nat.le_of_eq hn
  have hne := Aside0.mk hn
  have HGL : Aside0 (∀ W, Below n w W → Gl W) := ⟨fun W hb => hGl.of (hn ▸ hb)⟩
  clear hGl
  rw [← hw6, ← hn]
  clear hw6 hn
  refine wpIn_seqW (b := n + 1 + 1 + 1) rfl (by omega) (gf := 103) (lb := #[.pointer (some ⟨n + 1 + 1 + 1 + 1, 0, none⟩), .pointer (some ⟨n + 1 + 1 + 1, 0, none⟩), .pointer (some ⟨n + 1 + 1 + 1 + 1 + 1, 0, none⟩)]) rfl trivial (enters_of Tryz.func103 (by kernel_rfl) rfl)
    (by omega) (seq61_in (6 - 1) (by omega) (n + 1 + 1 + 1) s w6 (by omega) hs.out g0 g1 g2)
    (fun h1 h2 k ha hb => (h2 k ha hb).trans (h1 k ha hb)) (fun W l o hl k ha hb => World.putObj_heap_other (by omega)) (fun _ => rfl)
    (fun pre W => ∃ l v, nall pre = some l ∧ NI n w l v W)
    (fun c pre W => c = .ret ∧ nall pre = none ∧ NX n w W)
    (fun p A B row ⟨l, v, h1, h2⟩ hg hr => ⟨l, v, h1, h2.turn hnw hg (by rw [z6] at hr; exact hr)⟩)
    (fun c p A B row h hg hr => ⟨h.1, h.2.1, h.2.2.turn hnw hg (by rw [z6] at hr; exact hr)⟩)
    (fun p A u ⟨l, v, h1, h2⟩ => ⟨l, v, h1, h2.wr u⟩)
    (fun c p A u h => ⟨h.1, h.2.1, h.2.2.wr u⟩)
    ⟨[], _, rfl, H0⟩
    (fun x => { tmps := #[.string s, undef, .pointer (some ⟨n, 0, none⟩), .pointer (some ⟨n + 1, 0, none⟩), .pointer (some ⟨n + 1 + 1, 0, none⟩), .string x, .string s, .func (.func 103) #[] #[.pointer (some ⟨n + 1 + 1 + 1 + 1, 0, none⟩), .pointer (some ⟨n + 1 + 1 + 1, 0, none⟩), .pointer (some ⟨n + 1 + 1 + 1 + 1 + 1, 0, none⟩)], .string x, undef, undef, undef, undef, undef, undef, undef, undef, undef, undef, undef, undef, undef, undef, undef, undef, undef, undef, undef, undef, undef, undef, undef], defers := [] }) ?assign ?body ?done ?stop
  case assign =>
    intro l x W K hK
    gi_wp2
    exact hK
  case body =>
    rintro l pre x W ⟨acc, v, ha, H⟩ hlen
    have hf4 := H.b4.frozen
    have hf2 := H.b2.frozen
    have hf3 := H.b3.frozen
    have k4 := H.b4.cell
    have k2 := H.b2.cell
    have k3 := H.b3.cell
    have m3 := (H.b3.other (show n + 1 ≠ n by omega) (.string ⟨#[]⟩)).cell
    have mf3 := (H.b3.other (show n + 1 ≠ n by omega) (.string ⟨#[]⟩)).frozen
    by_cases x1 : x = ⟨#[]⟩
    · subst x1
      gi_wp2
      exact ⟨KeepsOthers.refl _, fun _ _ _ => rfl, acc, v, by rw [nall_snoc, ha]; rfl, H⟩
    by_cases x2 : x = ⟨#[46]⟩
    · subst x2
      gi_wp2
      exact ⟨KeepsOthers.refl _, fun _ _ _ => rfl, acc, v, by rw [nall_snoc, ha]; rfl, H⟩
    by_cases x3 : x = ⟨#[46, 46]⟩
    · subst x3
      by_cases hz : acc.length = 0
      · have hacc : acc = [] := List.eq_nil_of_length_eq_zero hz
        subst hacc
        have hv : v = .slice none 0 0 ∨ ∃ g cap, v = .slice (some ⟨g, 0, none⟩) 0 cap := by
          rcases H.own.2 with ⟨e, _⟩ | ⟨g, cap, cur, e, _⟩
          · exact .inl e
          · exact .inr ⟨g, cap, e⟩
        rcases hv with rfl | ⟨g, cap, rfl⟩
        · gi_wp2
          exact ⟨H.fail.1, rfl, nall_up ha (nstep_up _ hz), H.fail.2⟩
        · gi_wp2
          exact ⟨H.fail.1, rfl, nall_up ha (nstep_up _ hz), H.fail.2⟩
      · obtain ⟨k, hk⟩ : ∃ k, acc.length = k + 1 := ⟨acc.length - 1, by omega⟩
        have ho := H.own
        rw [hk] at ho
        obtain ⟨g, cap, rfl⟩ := ownsRow_succ ho
        have hcap : k + 1 ≤ cap := by
          rcases ho.2 with ⟨e, _⟩ | ⟨g', cap', cur, e, _, _, hc, _⟩
          · cases e
          · cases e; exact hc
        have qw := wrap_nat (kbound ha hlen hs.out hk)
        have hcapS := Aside0.mk hcap
        have q1 := eq_true (le_cast (Nat.le_of_succ_le hcap))
        have q2 := eq_true (Int.natCast_nonneg k)
        have q3 := eq_false (Nat.ne_of_gt (Nat.lt_of_lt_of_le (Nat.succ_pos k) hcap))
        have HP := Aside0.mk (H.pop hk)
        have HK := Aside0.mk (nall_up ha (nstep_pop acc hz))
        clear hcap hk ho H hz ha
        gi_wp2
        exact ⟨HP.out.1, HP.out.2.1, _, _, HK.out, HP.out.2.2⟩
    · have e1 : x.toList.isEmpty = false := by
        cases h : x.toList with
        | nil => exact absurd (ba_toList h) x1
        | cons a b => rfl
      have e2 : (x.toList == [46]) = false := by
        rw [beq_eq_false_iff_ne]; intro h; exact x2 (ba_toList h)
      have e3 : (x.toList == [46, 46]) = false := by
        rw [beq_eq_false_iff_ne]; intro h; exact x3 (ba_toList h)
      have hB := H.below
      have hsz := H.size
      have hlenA := Aside0.mk (abound ha hlen hs.out)
      obtain ⟨a0, c0, hv⟩ : ∃ a c, v = .slice a acc.length c := by
        rcases H.own.2 with ⟨e, e0⟩ | ⟨g, cap, cur, e, _⟩
        · exact ⟨none, 0, by rw [e, e0]⟩
        · exact ⟨_, _, e⟩
      subst hv
      have H4 := Aside0.mk H.b4
      gi_wp2_with (gi_at_builtin; refine wpListIn_append_own _ rfl _ _ 33 rfl (n + 6) 9 i0 (.string ⟨#[]⟩) 1 16 Tryz.underlying33 hi hz0 hz1 hz2 rfl (by decide) _ _ _ rfl (H.own.alloc _) ⟨W.heap.size, 0, none⟩ 1 1 [.string x] rfl rfl (cell_one_new _ _ _) (by simp [Value.oneCell']) (maxl hlenA.out) (maxb hlenA.out) (by simp; omega) ?_; intro v' w1 hown' hgrow _; obtain ⟨g', cap', rfl⟩ := ownsRow_succ hown'; have hAp := Aside0.mk (Boxed.appended H4.out (by decide) (ownsRow_le' H.own) (by omega) (by omega) (ownsRow_le' hown') hgrow); have hc1 := hAp.out.1.cell; have hf1 := hAp.out.1.frozen)
      have HA := NI.append H hown' hgrow
      exact ⟨HA.1, HA.2.1, _, _, nall_up ha (nstep_more acc x x1 x2 x3), HA.2.2⟩
  case done =>
    rintro D xs W hD rfl ⟨l, v, ha, H⟩ hl
    have hR := Kd.R_of_own (enc := Value.string) (h1 := fun _ => rfl) (ok := fun _ => True) (xs := l) H.own (fun _ _ => trivial)
    obtain ⟨a0, c0, rfl, hcap, hC⟩ := Kd.R_reads hR
    clear hR
    have k4 := H.b4.cell
    have hG : Gl W := HGL.out W H.below
    have HC := Aside0.mk (hsome l ha a0 c0 W hC hcap hG)
    have hl2 := Aside0.mk hl
    have HH := Aside0.mk H
    have HD := Aside0.mk hD
    clear hC hcap hG hl H hD hsome hnone
    rcases hv2 with rfl | ⟨c2, rfl⟩
    · gi_wp2_with (refine ⟨trivial, ?_⟩; gi_at_call 71; refine (callsIn_wide.2 HC.out).mono ?_; rintro e w1 ⟨rfl, hb⟩; have b2 := (hb.block n (by have := HH.out.size; omega)).trans HH.out.b2; have b3 := (hb.block (n + 1) (by have := HH.out.size; omega)).trans HH.out.b3; have cD := (hb.block D (Array.getElem?_eq_some_iff.1 hl2.out).1).trans hl2.out; have B1 := Aside0.mk (Boxed.set (v := .string ⟨#[]⟩) (.string r1) b2); have B2 := Aside0.mk (Boxed.other (v := .nilIface) (t := 44) (B := n + 1) b3 (show n + 1 ≠ n by omega) (.string r1)); have HB := Aside0.mk hb; have k2 := Boxed.cell (t := 9) (v := .string ⟨#[]⟩) b2; have kf2 := Boxed.frozen (t := 9) (v := .string ⟨#[]⟩) b2; have k3 := B2.out.cell; have kf3 := B2.out.frozen; have CD := Aside0.mk cD; clear b2 b3 cD hb)
      have hsz := HH.out.size
      have hDD := HD.out
      rw [z6] at hDD
      exact leave12 hne.out (((HH.out.below.trans (HB.out.mono (by omega))).setCell (p := ⟨n, 0, none⟩) (Nat.le_refl _) _).setCell (p := ⟨n + 1, 0, none⟩) (by show n ≤ n + 1; omega) _) (B1.out.other (by omega) _) (B2.out.set _) ((heap_wr (by omega)).trans ((heap_wr (by omega)).trans CD.out)) hDD rfl rfl
    · gi_wp2_with (refine ⟨trivial, ?_⟩; gi_at_call 71; refine (callsIn_wide.2 HC.out).mono ?_; rintro e w1 ⟨rfl, hb⟩; have b2 := (hb.block n (by have := HH.out.size; omega)).trans HH.out.b2; have b3 := (hb.block (n + 1) (by have := HH.out.size; omega)).trans HH.out.b3; have cD := (hb.block D (Array.getElem?_eq_some_iff.1 hl2.out).1).trans hl2.out; have B1 := Aside0.mk (Boxed.set (v := .string ⟨#[]⟩) (.string r1) b2); have B2 := Aside0.mk (Boxed.other (v := .nilIface) (t := 44) (B := n + 1) b3 (show n + 1 ≠ n by omega) (.string r1)); have HB := Aside0.mk hb; have k2 := Boxed.cell (t := 9) (v := .string ⟨#[]⟩) b2; have kf2 := Boxed.frozen (t := 9) (v := .string ⟨#[]⟩) b2; have k3 := B2.out.cell; have kf3 := B2.out.frozen; have CD := Aside0.mk cD; clear b2 b3 cD hb)
      have hsz := HH.out.size
      have hDD := HD.out
      rw [z6] at hDD
      exact leave12 hne.out (((HH.out.below.trans (HB.out.mono (by omega))).setCell (p := ⟨n, 0, none⟩) (Nat.le_refl _) _).setCell (p := ⟨n + 1, 0, none⟩) (by show n ≤ n + 1; omega) _) (B1.out.other (by omega) _) (B2.out.set _) ((heap_wr (by omega)).trans ((heap_wr (by omega)).trans CD.out)) hDD rfl rfl
  case stop =>
    rintro D c pre W hD hp ⟨rfl, hno, H⟩ hl
    obtain ⟨rfl, rfl⟩ := hnone (nall_none hno hp)
    gi_wp2
    rw [z6] at hD
    exact leave12 hne.out H.below H.b2 H.b3 hl hD rfl rfl
