/- A range over strings.SplitSeq: the iterator keeps its rest in a cell of its own and writes it between two rounds. A contract whose invariants abide such writes; the law of the loop over it; strings.splitSeq$1, splitSeq, SplitSeq walked. Conditions: as each theorem says. -/
import Derived.RangeFuncNested
import Derived.RangeFuncBound
import Derived.RangeFuncCalls
import Derived.RangeFuncLeaves
import Derived.RangeFuncBox
import Derived.Shelf.Abstract
import Derived.Shelf.RegionOpen
import Derived.WalkKit
import Derived.OwnWalkIn
import Derived.TacticsInMore
import Derived.LoopNIn
import Derived.LoopIn
import Derived.Maps.AppendAt
import Derived.Test.YtfkbmjfhakooiaaDoorProg
import Derived.Test.YtfkbmjfhakooiaaDoorShelf
import Derived.Test.YtfkbmjfhakooiaaDoorGl
namespace Go.Proofs.YtfkbmjfhakooiaaDoor.PTree
open Go.RowKit Go.Shelf
attribute [local go_sem] Oper.semAt_some
set_option linter.unusedVariables false
set_option linter.unusedSimpArgs false

/-! ### The contract and the law -/
/-- J abides a write of the cell ⟨b, 0⟩. -/
def Wr {β : Type} (b : Nat) (J : β → World → Prop) : Prop := ∀ s W u, J s W → J s (W.setCell ⟨b, 0, none⟩ u)

/-- What an iterator promises whose invariants abide, besides, writes of the cell b. -/
def SeqW {α : Type} (b : Nat) (F : Fence) (n : Nat) (P : Program) (g : Nat) (lb : Array Value) (encs : α → Array Value) (Kp : World → World → Prop) (S Sp : List α → Prop) (N : Nat) (w : World) : Prop :=
  ∀ (l : Nat) (J Jx : List α → World → Prop) (W : World), Below w.heap.size w W → Wr b J → Wr b Jx → J [] W →
    (∀ pre x W1, J pre W1 → pre.length < N → YieldAt F (n - 1) P l (encs x) W1 fun e W' =>
      (e = .returned (.bool true) ∧ J (pre ++ [x]) W' ∧ Kp W1 W') ∨ (e = .returned (.bool false) ∧ Jx (pre ++ [x]) W')) →
    CallsIn F n P g (#[.func (.yield l) #[] #[]] ++ lb) W fun e W' => (∃ v, e = .returned v) ∧ ((∃ xs, S xs ∧ J xs W') ∨ (∃ pre, Sp pre ∧ Jx pre W'))

theorem heap_wr {W : World} {b k : Nat} {u : Value} (h : k ≠ b) : (W.setCell ⟨b, 0, none⟩ u).heap[k]? = W.heap[k]? := Below.heap_setCell _ _ _ k h

/-- The loop over such an iterator. -/
theorem wpIn_seqW {F : Fence} {n : Nat} {P : Program} {α : Type} {g : Operand} {ps : Array Tmp} {assign body : Code} {Q : Exit → Act → World → Prop} {a : Act} {w : World} {b : Nat}
    (hro : F.round = none) (h1 : 1 ≤ n) {gf : Nat} {lb : Array Value} (hg : a.eval g = .func (.func gf) #[] lb) (hFg : F.fn gf) (eg : ∀ args w, (callFunc gf args).run P w = .ok (.enter gf args) w)
    {encs : α → Array Value} {Kp : World → World → Prop} {S Sp : List α → Prop} {N : Nat} (hb : b < w.heap.size) (hseq : SeqW b F (n - 1) P gf lb encs Kp S Sp N w)
    (hKt : ∀ {A B C : World}, Kp A B → Kp B C → Kp A C) (hKb : ∀ (W : World) (l : Nat) (o' : Obj), w.heap.size ≤ l → Kp W (W.putObj l o')) (hps : ∀ x, (encs x).size = ps.size)
    (I : List α → World → Prop) (Ix : Code → List α → World → Prop) (hI : OwnFrom w.heap.size I) (hIx : ∀ c, OwnFrom w.heap.size (Ix c)) (hIw : Wr b I) (hIxw : ∀ c, Wr b (Ix c)) (h0 : I [] w) (a₁ : α → Act)
    (hassign : ∀ (l : Nat) (x : α) (W : World) (K : Act → World → Prop), K (a₁ x) W →
      assign.wpIn (F.inRound l) (n - 1 - 1) P (Exit.then K (fun _ _ _ => False)) { tmps := (ps.zip (encs x)).foldl (fun t (p, v) => t.setIfInBounds p v) a.tmps, defers := [] } W)
    (hbody : ∀ (l : Nat) (pre : List α) (x : α) (W : World), I pre W → pre.length < N → body.wpIn (F.inRound l) (n - 1 - 1) P (ownPostK Kp I Ix (pre ++ [x]) W) (a₁ x) W)
    (hdone : ∀ (D : Nat) (xs : List α) (W : World), w.heap.size ≤ D → S xs → I xs W → W.heap[D]? = some (.deferred (some [])) → Q .normal { a with defers := { target := .collected D, args := #[] } :: a.defers } W)
    (hstop : ∀ (D : Nat) (c : Code) (pre : List α) (W : World), w.heap.size ≤ D → Sp pre → Ix c pre W → W.heap[D]? = some (.deferred (some [])) → c.wpIn F n P Q { a with defers := { target := .collected D, args := #[] } :: a.defers } W) :
    (Code.rangeFunc g ps assign body).wpIn F n P Q a w := by
  refine wpIn_rangeFunc fun fn hfn => ?_
  rw [hro]
  -- the two blocks that the loop lays: the rounds' deferred calls (d0), the loop's record (d0 + 1)
  obtain ⟨d0, hd0⟩ : ∃ d, d = w.heap.size := ⟨_, rfl⟩
  obtain ⟨rec, hrec⟩ : ∃ rec : LoopState → Option Code → Loop, rec = fun st pe => { state := st, pending := pe, fn, tmps := a.tmps, params := ps, assign, body, defers := d0 } := ⟨_, rfl⟩
  obtain ⟨Wa, hWa⟩ : ∃ W, W = w.alloc (.deferred (some [])) := ⟨_, rfl⟩
  obtain ⟨Wb, hWb⟩ : ∃ W, W = Wa.alloc (.loop (rec .ready none)) := ⟨_, rfl⟩
  have sa : Wa.heap.size = d0 + 1 := by rw [hWa, World.size_alloc, hd0]
  have la : Wa.heap[d0]? = some (.deferred (some [])) := by rw [hWa, hd0]; exact World.alloc_heap_new w _
  have lb1 : Wb.heap[d0 + 1]? = some (.loop (rec .ready none)) := by have h := World.alloc_heap_new Wa (.loop (rec .ready none)); rw [sa, ← hWb] at h; exact h
  have lb0 : Wb.heap[d0]? = some (.deferred (some [])) := by rw [hWb]; exact (Below.heap_alloc _ _ _ (by omega)).trans la
  have ib : I [] Wb := by rw [hWb, hWa]; exact hI.alloc _ (hI.alloc _ h0)
  have bb : Below w.heap.size w Wb := by rw [hWb, hWa]; exact ((Below.refl _ w).alloc (Nat.le_refl _) _).alloc (by simp) _
  -- where a block of ours lies as it lay
  have two : ∀ {W : World} {u : Value}, (W.setCell ⟨b, 0, none⟩ u).heap[d0 + 1]? = W.heap[d0 + 1]? ∧ (W.setCell ⟨b, 0, none⟩ u).heap[d0]? = W.heap[d0]? := ⟨heap_wr (by omega), heap_wr (by omega)⟩
  refine ⟨d0 + 1, [{ target := .collected d0, args := #[] }], Wb, { target := .fn (.func gf) lb, args := #[.func (.yield (d0 + 1)) #[] #[]] }, Wb, gf, #[.func (.yield (d0 + 1)) #[] #[]] ++ lb, Wb, ?_, ?_, ?_, ?_, fun _ => h1, ?_⟩
  · rw [hWb, hWa, hrec, hd0]; exact run_enterLoop_outer _ _ _ _ _
  · simp only [resolve, hg]; simp [go_sem]
  · intro f' hf'; simp [Target.leads] at hf'; subst hf'; exact hFg
  · simp [invoke, go_sem, eg]
  refine (hseq (d0 + 1) (fun pre W => I pre W ∧ W.heap[d0 + 1]? = some (.loop (rec .ready none)) ∧ W.heap[d0]? = some (.deferred (some [])))
      (fun pre W => ∃ c, Ix c pre W ∧ W.heap[d0 + 1]? = some (.loop (rec .done (some c))) ∧ W.heap[d0]? = some (.deferred (some [])))
      Wb bb (fun s W u h => ⟨hIw s W u h.1, two.1.trans h.2.1, two.2.trans h.2.2⟩) (fun s W u ⟨c, h⟩ => ⟨c, hIxw c s W u h.1, two.1.trans h.2.1, two.2.trans h.2.2⟩) ⟨ib, lb1, lb0⟩ ?_).mono ?_
  · -- one round
    rintro pre x W ⟨hi, hl, hk⟩ hlen
    have hlt : d0 + 1 < W.heap.size := (Array.getElem?_eq_some_iff.1 hl).1
    have hy := run_yield (P := P) (args := encs x) hl (by rw [hrec]; exact hps x)
    rw [hrec] at hy
    obtain ⟨Wc, hWc⟩ : ∃ W', W' = W.putObj (d0 + 1) (.loop { rec .ready none with state := .busy }) := ⟨_, rfl⟩
    have lc1 : Wc.heap[d0 + 1]? = some (.loop { rec .ready none with state := .busy }) := by rw [hWc]; exact World.putObj_heap_same hlt
    have lc0 : Wc.heap[d0]? = some (.deferred (some [])) := by rw [hWc]; exact (World.putObj_heap_other (by omega)).trans hk
    have kc : Kp W Wc := by rw [hWc]; exact hKb _ _ _ (by omega)
    have ic : I pre Wc := by rw [hWc]; exact hI.putObj _ hi (by omega) hl rfl
    refine ⟨fn, _, assign, body, hy, roundIn_of_wpIn hfn (hassign _ x W _ ⟨Wc, by rw [hWc]; exact run_beginRound hl (by rw [hrec]), ?_⟩)⟩
    refine wpIn_mono (hbody _ pre x Wc ic hlen) ?_
    have fin : ∀ (jump : Option Code) (W3 : World), KeepsOthers Wc W3 → ∃ W4, W4 = W3.putObj (d0 + 1) (.loop (rec (if jump.isNone then .ready else .done) jump)) ∧ (Instr.endRound (d0 + 1) jump).run P W3 = .ok (.bool jump.isNone) W4 ∧
        W3.heap[d0 + 1]? = some (.loop { rec .ready none with state := .busy }) ∧ W4.heap[d0 + 1]? = some (.loop (rec (if jump.isNone then .ready else .done) jump)) ∧ W4.heap[d0]? = some (.deferred (some [])) := fun jump W3 hk3 => by
      have hl3 := hk3.same _ _ lc1 rfl
      have he := run_endRound (P := P) jump hl3
      refine ⟨_, rfl, ?_, hl3, World.putObj_heap_same (Array.getElem?_eq_some_iff.1 hl3).1, (World.putObj_heap_other (by omega)).trans (hk3.same _ _ lc0 rfl)⟩
      rw [hrec] at he ⊢; exact he
    have out : ∀ (c : Code) (W3 : World), KeepsOthers Wc W3 → Ix c (pre ++ [x]) W3 → ∃ W4, (Instr.endRound (d0 + 1) (some c)).run P W3 = .ok (.bool false) W4 ∧ (∃ c, Ix c (pre ++ [x]) W4 ∧ W4.heap[d0 + 1]? = some (.loop (rec .done (some c))) ∧ W4.heap[d0]? = some (.deferred (some []))) := fun c W3 hk3 hi3 => by
      obtain ⟨W4, e4, hr, hl3, hl4, hk4⟩ := fin (some c) W3 hk3
      exact ⟨W4, hr, c, by rw [e4]; exact (hIx _).putObj _ hi3 (by omega) hl3 rfl, hl4, hk4⟩
    rintro e a3 W3 hp
    cases e with
    | normal =>
      obtain ⟨hk3, hkp3, hi3⟩ := hp
      obtain ⟨W4, e4, hr, hl3, hl4, hk4⟩ := fin none W3 hk3
      exact ⟨_, _, hr, .inl ⟨rfl, ⟨by rw [e4]; exact hI.putObj _ hi3 (by omega) hl3 rfl, hl4, hk4⟩, hKt (hKt kc hkp3) (by rw [e4]; exact hKb _ _ _ (by omega))⟩⟩
    | ret => obtain ⟨W4, hr, h4⟩ := out .ret W3 hp.1 hp.2; exact ⟨_, _, hr, .inr ⟨rfl, h4⟩⟩
    | exit id => obtain ⟨W4, hr, h4⟩ := out (.exit id) W3 hp.1 hp.2; exact ⟨_, _, hr, .inr ⟨rfl, h4⟩⟩
    | goto t => obtain ⟨W4, hr, h4⟩ := out (.goto t) W3 hp.1 hp.2; exact ⟨_, _, hr, .inr ⟨rfl, h4⟩⟩
    | panic ch => exact hp.elim
    | outgrown => exact hp.elim
  · -- behind the iterator
    rintro e W2 ⟨⟨v, rfl⟩, (⟨xs, hS, hi, hl, hk⟩ | ⟨pre, hSp, c, hi, hl, hk⟩)⟩
    · have he := run_endLoop (P := P) hl (by rw [hrec]; simp)
      rw [hrec] at he
      exact ⟨none, _, he, hdone d0 xs _ (by omega) hS (hI.putObj _ hi (by omega) hl rfl) ((World.putObj_heap_other (by omega)).trans hk)⟩
    · have he := run_endLoop (P := P) hl (by rw [hrec]; simp)
      rw [hrec] at he
      exact ⟨some c, _, he, hstop d0 c pre _ (by omega) hSp ((hIx c).putObj _ hi (by omega) hl rfl) ((World.putObj_heap_other (by omega)).trans hk)⟩
