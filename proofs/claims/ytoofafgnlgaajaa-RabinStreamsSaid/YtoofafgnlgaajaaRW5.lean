/- rabin's chunker: the worlds. Conditions: as each theorem says. -/
import Derived.Test.YtoofafgnlgaajaaRW4
import Derived.Test.YtoofafgnlgaajaaApart1
namespace Go.Proofs.Ytoofafgnlgaajaa.RW
open Go.RowKit Go.Proofs.Ytoofafgnlgaajaa.PRabin Go.Proofs.YtoofafgnlgaajaaW.PrintWords Go.Proofs.YtoofafgnlgaajaaW.PrintLast Go.Proofs.YtoofafgnlgaajaaW.PrintMore
set_option linter.unusedVariables false
set_option linter.unusedSimpArgs false
/-- Naturals as numbers. -/
def I (l : List Nat) : List Int := l.map fun (x : Nat) => (x : Int)
theorem I_len (l : List Nat) : (I l).length = l.length := by unfold I; simp
theorem I_app (l m : List Nat) : I (l ++ m) = I l ++ I m := by unfold I; simp
structure WS where
  s : RS
  rest : List Nat
  out : List (List Nat)
def stepW (S : Set5) (σ : WS) (x : Nat) : WS :=
  if endsN S (σ.rest.length + 1) (σ.s.next x) then ⟨(σ.s.roll x).reset, [], σ.out ++ [σ.rest ++ [x]]⟩ else ⟨σ.s.roll x, σ.rest ++ [x], σ.out⟩
def runW (S : Set5) (σ : WS) (l : List Nat) : WS := l.foldl (stepW S) σ
theorem runW_snoc (S : Set5) (σ : WS) (l : List Nat) (x : Nat) : runW S σ (l ++ [x]) = stepW S (runW S σ l) x := by unfold runW; rw [List.foldl_append]; rfl
theorem runW_app (S : Set5) (σ : WS) (l m : List Nat) : runW S σ (l ++ m) = runW S (runW S σ l) m := by unfold runW; rw [List.foldl_append]
theorem stepW_len (S : Set5) (σ : WS) (x : Nat) : (stepW S σ x).rest.length ≤ σ.rest.length + 1 ∧ (stepW S σ x).out.length ≤ σ.out.length + 1 := by
  unfold stepW
  split <;> simp
theorem runW_len (S : Set5) : ∀ (l : List Nat) (σ : WS), (runW S σ l).rest.length ≤ σ.rest.length + l.length ∧ (runW S σ l).out.length ≤ σ.out.length + l.length
  | [], σ => ⟨by simp [runW], by simp [runW]⟩
  | x :: l, σ => by
    have h := runW_len S l (stepW S σ x)
    have h2 := stepW_len S σ x
    have e : runW S σ (x :: l) = runW S (stepW S σ x) l := rfl
    rw [e, List.length_cons]
    omega
theorem stepW_ok {S : Set5} {σ : WS} {x : Nat} (h : σ.s.Ok) (hx : x < 256) : (stepW S σ x).s.Ok := by
  unfold stepW
  split
  · exact (h.roll hx).reset
  · exact h.roll hx
theorem runW_ok {S : Set5} : ∀ (l : List Nat) (σ : WS), σ.s.Ok → (∀ x ∈ l, x < 256) → (runW S σ l).s.Ok
  | [], σ, h, _ => h
  | x :: l, σ, h, hl => runW_ok l (stepW S σ x) (stepW_ok h (hl x List.mem_cons_self)) (fun y hy => hl y (List.mem_cons_of_mem _ hy))
theorem RoAt.move {W W1 : World} {b g : Nat} {s : RS} (h : RoAt W b g s) (hb : W1.heap[b]? = W.heap[b]?) (hg : W1.heap[g]? = W.heap[g]?) : RoAt W1 b g s := by
  obtain ⟨cs, h0, h1⟩ := h.blk
  exact ⟨h.ne, ⟨cs, hb.trans h0, h1⟩, hg.trans h.win⟩
theorem typed_ne {W : World} {k c : Nat} {cs cs' : Array Value} {t t' : TypeId} (h : W.heap[k]? = some (.cells cs t (0, 0))) (h' : W.heap[c]? = some (.cells cs' t' (0, 0))) (ht : t ≠ t') : k ≠ c := by
  rintro rfl
  rw [h] at h'
  simp only [Option.some.injEq, Obj.cells.injEq] at h'
  exact ht h'.2.1
/-- A chunker lies in block c, its roller in b, the window in g; u: what its cell says of the rest, v: the rest's row. -/
structure ChAt (W : World) (B c b g : Nat) (S : Set5) (s : RS) (v : Value) (rest : List Nat) : Prop where
  ck : W.heap[c]? = some (.cells (ckCells S b v) 72 (0, 0))
  ro : RoAt W b g s
  own : W.ownsRow B 5 1 v rest.length (nums .u8 (I rest))
  vg : v.ownBlock ≠ some g
theorem ChAt.roblk {W : World} {B c b g : Nat} {S : Set5} {s : RS} {v : Value} {rest : List Nat} (h : ChAt W B c b g S s v rest) : ∃ cs, W.heap[b]? = some (.cells cs 84 (0, 0)) := let ⟨cs, h0, _⟩ := h.ro.blk; ⟨cs, h0⟩
theorem ChAt.cb {W : World} {B c b g : Nat} {S : Set5} {s : RS} {v : Value} {rest : List Nat} (h : ChAt W B c b g S s v rest) : c ≠ b := let ⟨_, h0⟩ := h.roblk; typed_ne h.ck h0 (by decide)
theorem ChAt.cg {W : World} {B c b g : Nat} {S : Set5} {s : RS} {v : Value} {rest : List Nat} (h : ChAt W B c b g S s v rest) : c ≠ g := typed_ne h.ck h.ro.win (by decide)
theorem ChAt.vc {W : World} {B c b g : Nat} {S : Set5} {s : RS} {v : Value} {rest : List Nat} (h : ChAt W B c b g S s v rest) : v.ownBlock ≠ some c := fun e => own_ne h.own h.ck (by decide) e.symm
theorem ChAt.vb {W : World} {B c b g : Nat} {S : Set5} {s : RS} {v : Value} {rest : List Nat} (h : ChAt W B c b g S s v rest) : v.ownBlock ≠ some b := fun e => let ⟨_, h0⟩ := h.roblk; own_ne h.own h0 (by decide) e.symm
theorem ChAt.move {W W1 : World} {B c b g : Nat} {S : Set5} {s : RS} {v : Value} {rest : List Nat} (h : ChAt W B c b g S s v rest) (hc : W1.heap[c]? = W.heap[c]?) (hb : W1.heap[b]? = W.heap[b]?) (hg : W1.heap[g]? = W.heap[g]?) (hv : ∀ k, v.ownBlock = some k → W1.heap[k]? = W.heap[k]?) : ChAt W1 B c b g S s v rest :=
  ⟨hc.trans h.ck, h.ro.move hb hg, own_move h.own hv, h.vg⟩
/-- What lies in the chunker's blocks lies in the world. -/
theorem ChAt.lt {W : World} {B c b g : Nat} {S : Set5} {s : RS} {v : Value} {rest : List Nat} (h : ChAt W B c b g S s v rest) : c < W.heap.size ∧ b < W.heap.size ∧ g < W.heap.size ∧ ∀ k, v.ownBlock = some k → k < W.heap.size := by
  obtain ⟨_, h0⟩ := h.roblk
  exact ⟨blk_lt h.ck, blk_lt h0, blk_lt h.ro.win, own_lt h.own⟩
theorem ChAt.below {W W1 : World} {B c b g : Nat} {S : Set5} {s : RS} {v : Value} {rest : List Nat} (h : ChAt W B c b g S s v rest) (hb : Below W.heap.size W W1) : ChAt W1 B c b g S s v rest :=
  h.move (hb.block _ h.lt.1) (hb.block _ h.lt.2.1) (hb.block _ h.lt.2.2.1) (fun k hk => hb.block k (h.lt.2.2.2 k hk))
/-- Rows of bytes, each its own, in a row. -/
structure OutAt (W : World) (n0 B g : Nat) (V0 : Value) (out : List (List Nat)) (V : Nat → Value) : Prop where
  row : W.ownsRow n0 25 1 V0 out.length ((List.range out.length).map V)
  own : ∀ j, j < out.length → W.ownsRow B 5 1 (V j) (out.getD j []).length (nums .u8 (I (out.getD j [])))
  ne : ∀ i j, i < out.length → j < out.length → i ≠ j → Apart.Ne (V i) (V j)
  og : ∀ j, j < out.length → (V j).ownBlock ≠ some g
theorem OutAt.nil (W : World) (n0 B g : Nat) (V : Nat → Value) : OutAt W n0 B g (.slice none 0 0) [] V :=
  ⟨World.ownsRow_nil W n0 25 1, fun j hj => absurd hj (Nat.not_lt_zero _), fun i j hi => absurd hi (Nat.not_lt_zero _), fun j hj => absurd hj (Nat.not_lt_zero _)⟩
theorem OutAt.move {W W1 : World} {n0 B g : Nat} {V0 : Value} {out : List (List Nat)} {V : Nat → Value} (h : OutAt W n0 B g V0 out V) (h0 : ∀ k, V0.ownBlock = some k → W1.heap[k]? = W.heap[k]?) (hv : ∀ j, j < out.length → ∀ k, (V j).ownBlock = some k → W1.heap[k]? = W.heap[k]?) : OutAt W1 n0 B g V0 out V :=
  ⟨own_move h.row h0, fun j hj => own_move (h.own j hj) (hv j hj), h.ne, h.og⟩
theorem OutAt.below {W W1 : World} {n0 B g : Nat} {V0 : Value} {out : List (List Nat)} {V : Nat → Value} (h : OutAt W n0 B g V0 out V) (hb : Below W.heap.size W W1) : OutAt W1 n0 B g V0 out V :=
  h.move (fun k hk => hb.block k (own_lt h.row k hk)) (fun j hj k hk => hb.block k (own_lt (h.own j hj) k hk))
theorem Ex.grown {X : Nat → Prop} {w0 W w1 : World} {row : Option Nat} (h : Ex X w0 W) (hg : W.grownBy w1 row) (hr : ∀ k, row = some k → X k ∨ w0.heap.size ≤ k) : Ex X w0 w1 :=
  ⟨hg.os.trans h.os, hg.tape.trans h.tape, hg.output.trans h.output, Nat.le_trans h.size hg.size, fun k hk hx => (hg.block k (Nat.lt_of_lt_of_le hk h.size) (fun e => (hr k e.symm).elim hx (fun q => by omega))).trans (h.block k hk hx)⟩
/-- What stands while a chunker is written to. -/
structure Inv (w0 W : World) (B c b g : Nat) (S : Set5) (v0 : Value) (σ : WS) (v V0 : Value) (V : Nat → Value) : Prop where
  hB : B ≤ w0.heap.size
  ch : ChAt W B c b g S σ.s v σ.rest
  out : OutAt W w0.heap.size B g V0 σ.out V
  on : ∀ j, j < σ.out.length → Apart.Ne (V j) v
  fv : ∀ k, v.ownBlock = some k → v0.ownBlock = some k ∨ w0.heap.size ≤ k
  fV : ∀ j, j < σ.out.length → ∀ k, (V j).ownBlock = some k → v0.ownBlock = some k ∨ w0.heap.size ≤ k
  ex : Ex (fun k => k = c ∨ k = b ∨ k = g ∨ v0.ownBlock = some k) w0 W
section
variable {w0 W : World} {B c b g : Nat} {S : Set5} {v0 : Value} {σ : WS} {v V0 : Value} {V : Nat → Value}
theorem Inv.below {W1 : World} (h : Inv w0 W B c b g S v0 σ v V0 V) (hb : Below W.heap.size W W1) : Inv w0 W1 B c b g S v0 σ v V0 V :=
  ⟨h.hB, h.ch.below hb, h.out.below hb, h.on, h.fv, h.fV, h.ex.trans (Ex.of_below hb)⟩
theorem Inv.alloc (h : Inv w0 W B c b g S v0 σ v V0 V) (o : Obj) : Inv w0 (W.alloc o) B c b g S v0 σ v V0 V := h.below (below_alloc (Below.refl _ _) o)
theorem Inv.drewN (h : Inv w0 W B c b g S v0 σ v V0 V) (n : Nat) : Inv w0 (W.drewN n) B c b g S v0 σ v V0 V := h.below (pw_below_drewN (Below.refl _ _) n)
/-- The chunker's own cells stand while a row is grown. -/
theorem Inv.ck1 {w1 : World} (h : Inv w0 W B c b g S v0 σ v V0 V) (hg : W.grownBy w1 v.ownBlock) : w1.heap[c]? = some (.cells (ckCells S b v) 72 (0, 0)) := (hg.block c h.ch.lt.1 (fun e => h.ch.vc e.symm)).trans h.ch.ck
theorem Inv.ck2 {w1 : World} (h : Inv w0 W B c b g S v0 σ v V0 V) (hg : W.grownBy w1 V0.ownBlock) : w1.heap[c]? = some (.cells (ckCells S b v) 72 (0, 0)) := (hg.block c h.ch.lt.1 (own_ne h.out.row h.ch.ck (by decide))).trans h.ch.ck
/-- The roller has moved. -/
theorem Inv.rolled {W1 : World} {s1 : RS} (h : Inv w0 W B c b g S v0 σ v V0 V) (hr : RoAt W1 b g s1) (he : Ex (fun k => k = b ∨ k = g) W W1) : Inv w0 W1 B c b g S v0 { σ with s := s1 } v V0 V := by
  obtain ⟨l1, l2, l3, l4⟩ := h.ch.lt
  obtain ⟨_, hb0⟩ := h.ch.roblk
  have hmv : ∀ k, k < W.heap.size → k ≠ b → k ≠ g → W1.heap[k]? = W.heap[k]? := fun k hk k1 k2 => he.block k hk (fun e => e.elim k1 k2)
  refine ⟨h.hB, ⟨(hmv c l1 h.ch.cb h.ch.cg).trans h.ch.ck, hr, own_move h.ch.own (fun k hk => hmv k (l4 k hk) (fun e => h.ch.vb (e ▸ hk)) (fun e => h.ch.vg (e ▸ hk))), h.ch.vg⟩, ?_, h.on, h.fv, h.fV, ?_⟩
  · refine h.out.move (fun k hk => hmv k (own_lt h.out.row k hk) (fun e => own_ne h.out.row hb0 (by decide) (e ▸ hk).symm) (fun e => own_ne h.out.row h.ch.ro.win (by decide) (e ▸ hk).symm))
      (fun j hj k hk => hmv k (own_lt (h.out.own j hj) k hk) (fun e => own_ne (h.out.own j hj) hb0 (by decide) (e ▸ hk).symm) (fun e => h.out.og j hj (e ▸ hk)))
  · exact h.ex.trans (he.imp (fun k hk => hk.elim (fun e => .inr (.inl e)) (fun e => .inr (.inr (.inl e)))))
theorem ck_set {W : World} {c b : Nat} {S : Set5} {v : Value} (h : W.heap[c]? = some (.cells (ckCells S b v) 72 (0, 0))) (u : Value) : (W.setCell ⟨c, 6, none⟩ u).heap[c]? = some (.cells (ckCells S b u) 72 (0, 0)) := by
  have := heapSet h 6 u
  rw [this]
  rfl
/-- A byte more in the rest. -/
theorem Inv.added {w1 : World} {v1 : Value} {x : Nat} (h : Inv w0 W B c b g S v0 σ v V0 V) (h1 : w1.ownsRow B 5 1 v1 (σ.rest.length + 1) (nums .u8 (I σ.rest) ++ [.int .u8 (x : Int)])) (hg : W.grownBy w1 v.ownBlock)
    (hat : v1.ownBlock = v.ownBlock ∨ ∃ b, v1.ownBlock = some b ∧ W.heap.size ≤ b) : Inv w0 (w1.setCell ⟨c, 6, none⟩ v1) B c b g S v0 { σ with rest := σ.rest ++ [x] } v1 V0 V := by
  obtain ⟨l1, l2, l3, l4⟩ := h.ch.lt
  obtain ⟨_, hb0⟩ := h.ch.roblk
  have hmv : ∀ k, k < W.heap.size → v.ownBlock ≠ some k → w1.heap[k]? = W.heap[k]? := fun k hk k1 => hg.block k hk (fun e => k1 e.symm)
  have hst : ∀ k, k ≠ c → (w1.setCell ⟨c, 6, none⟩ v1).heap[k]? = w1.heap[k]? := fun k hk => Below.heap_setCell _ _ _ _ hk
  have hc1 := (hmv c l1 h.ch.vc).trans h.ch.ck
  have hv1 : ∀ k, v1.ownBlock = some k → v.ownBlock = some k ∨ W.heap.size ≤ k := fun k hk => by
    rcases hat with e | ⟨q, e, hq⟩
    · exact .inl (e ▸ hk)
    · rw [e] at hk; injection hk with hk; exact .inr (hk ▸ hq)
  refine ⟨h.hB, ⟨ck_set hc1 v1, h.ch.ro.move ((hst b h.ch.cb.symm).trans (hmv b l2 h.ch.vb)) ((hst g h.ch.cg.symm).trans (hmv g l3 h.ch.vg)), ?_, ?_⟩, ?_, ?_, ?_, h.fV, ?_⟩
  · have e : nums .u8 (I (σ.rest ++ [x])) = nums .u8 (I σ.rest) ++ [.int .u8 (x : Int)] := by rw [I_app]; unfold nums I; simp
    show World.ownsRow _ B 5 1 v1 (σ.rest ++ [x]).length _
    rw [List.length_append, List.length_singleton, e]
    exact own_move h1 (fun k hk => hst k (fun e => own_ne h1 hc1 (by decide) (e ▸ hk).symm))
  · intro e
    rcases hv1 g e with e | e
    · exact h.ch.vg e
    · omega
  · refine h.out.move (fun k hk => (hst k (fun e => own_ne h.out.row h.ch.ck (by decide) (e ▸ hk).symm)).trans (hmv k (own_lt h.out.row k hk) (fun e => (Apart.Ne.types h.out.row h.ch.own (by decide)) k hk e)))
      (fun j hj k hk => (hst k (fun e => own_ne (h.out.own j hj) h.ch.ck (by decide) (e ▸ hk).symm)).trans (hmv k (own_lt (h.out.own j hj) k hk) (fun e => h.on j hj k hk e)))
  · intro j hj k hk e
    rcases hv1 k e with e | e
    · exact h.on j hj k hk e
    · have := own_lt (h.out.own j hj) k hk; omega
  · intro k hk
    rcases hv1 k hk with e | e
    · exact h.fv k e
    · exact .inr (Nat.le_trans h.ex.size e)
  · exact (h.ex.grown hg (fun k hk => (h.fv k hk).elim (fun e => .inl (.inr (.inr (.inr e)))) .inr)).set ⟨c, 6, none⟩ v1 (.inl rfl)
theorem getD_snoc {α : Type} (l : List α) (x d : α) (j : Nat) : (l ++ [x]).getD j d = if j < l.length then l.getD j d else if j = l.length then x else d := by
  simp only [List.getD_eq_getElem?_getD, List.getElem?_append]
  split
  · rfl
  · split
    · simp [*]
    · rw [List.getElem?_eq_none (by simp; omega)]; rfl
theorem range_snoc (V : Nat → Value) (n : Nat) (v : Value) : (List.range (n + 1)).map (fun j => if j = n then v else V j) = (List.range n).map V ++ [v] := by
  rw [List.range_succ, List.map_append]
  congr 1
  · exact List.map_congr_left (fun j hj => by rw [if_neg (by have := List.mem_range.1 hj; omega)])
  · simp
/-- The rest becomes a chunk. -/
theorem Inv.flushed {w1 : World} {V1 : Value} (h : Inv w0 W B c b g S v0 σ v V0 V) (h1 : w1.ownsRow w0.heap.size 25 1 V1 (σ.out.length + 1) ((List.range σ.out.length).map V ++ [v])) (hg : W.grownBy w1 V0.ownBlock)
    (hat : V1.ownBlock = V0.ownBlock ∨ ∃ b, V1.ownBlock = some b ∧ W.heap.size ≤ b) : Inv w0 (w1.setCell ⟨c, 6, none⟩ (.slice none 0 0)) B c b g S v0 { σ with rest := [], out := σ.out ++ [σ.rest] } (.slice none 0 0) V1 (fun j => if j = σ.out.length then v else V j) := by
  obtain ⟨l1, l2, l3, l4⟩ := h.ch.lt
  obtain ⟨_, hb0⟩ := h.ch.roblk
  have hty : ∀ {k : Nat} {cs : Array Value} {t : TypeId}, W.heap[k]? = some (.cells cs t (0, 0)) → 25 ≠ t → V0.ownBlock ≠ some k := fun hk ht e => own_ne h.out.row hk ht e.symm
  have hmv : ∀ k, k < W.heap.size → V0.ownBlock ≠ some k → w1.heap[k]? = W.heap[k]? := fun k hk k1 => hg.block k hk (fun e => k1 e.symm)
  have hst : ∀ k, k ≠ c → (w1.setCell ⟨c, 6, none⟩ (.slice none 0 0)).heap[k]? = w1.heap[k]? := fun k hk => Below.heap_setCell _ _ _ _ hk
  have hc1 := (hmv c l1 (hty h.ch.ck (by decide))).trans h.ch.ck
  have hrow : ∀ j, j < σ.out.length + 1 → (w1.setCell ⟨c, 6, none⟩ (.slice none 0 0)).ownsRow B 5 1 (if j = σ.out.length then v else V j) ((σ.out ++ [σ.rest]).getD j []).length (nums .u8 (I ((σ.out ++ [σ.rest]).getD j []))) := by
    have hm : ∀ {u : Value} {n : Nat} {xs : List Value}, W.ownsRow B 5 1 u n xs → (w1.setCell ⟨c, 6, none⟩ (.slice none 0 0)).ownsRow B 5 1 u n xs := fun {u n xs} hu => own_move hu (fun k hk => by
      obtain ⟨cs, hcs⟩ := own_typed hu k hk
      exact (hst k (typed_ne hcs h.ch.ck (by decide))).trans (hmv k (own_lt hu k hk) (hty hcs (by decide))))
    intro j hj
    rw [getD_snoc]
    by_cases e : j = σ.out.length
    · rw [if_pos e, if_neg (by omega), if_pos e]
      exact hm h.ch.own
    · rw [if_neg e, if_pos (by omega)]
      exact hm (h.out.own j (by omega))
  refine ⟨h.hB, ⟨ck_set hc1 _, h.ch.ro.move ((hst b h.ch.cb.symm).trans (hmv b l2 (hty hb0 (by decide)))) ((hst g h.ch.cg.symm).trans (hmv g l3 (hty h.ch.ro.win (by decide)))), World.ownsRow_nil _ B 5 1, by simp [Value.ownBlock]⟩, ⟨?_, ?_, ?_, ?_⟩, ?_, ?_, ?_, ?_⟩
  · show World.ownsRow _ w0.heap.size 25 1 V1 (σ.out ++ [σ.rest]).length ((List.range (σ.out ++ [σ.rest]).length).map _)
    rw [List.length_append, List.length_singleton, range_snoc]
    exact own_move h1 (fun k hk => hst k (fun e => own_ne h1 hc1 (by decide) (e ▸ hk).symm))
  · intro j hj
    exact hrow j (by simpa using hj)
  · intro i j hi hj hij
    have hi' : i < σ.out.length + 1 := by simpa using hi
    have hj' : j < σ.out.length + 1 := by simpa using hj
    show Apart.Ne (if i = σ.out.length then v else V i) (if j = σ.out.length then v else V j)
    by_cases e : i = σ.out.length
    · rw [if_pos e, if_neg (by omega)]
      exact (h.on j (by omega)).symm
    · by_cases e2 : j = σ.out.length
      · rw [if_neg e, if_pos e2]
        exact h.on i (by omega)
      · rw [if_neg e, if_neg e2]
        exact h.out.ne i j (by omega) (by omega) hij
  · intro j hj
    have hj' : j < σ.out.length + 1 := by simpa using hj
    show (if j = σ.out.length then v else V j).ownBlock ≠ some g
    by_cases e : j = σ.out.length
    · rw [if_pos e]; exact h.ch.vg
    · rw [if_neg e]; exact h.out.og j (by omega)
  · intro j hj k hk e
    simp [Value.ownBlock] at e
  · intro k hk
    simp [Value.ownBlock] at hk
  · intro j hj k hk
    have hj' : j < σ.out.length + 1 := by simpa using hj
    have hk' : (if j = σ.out.length then v else V j).ownBlock = some k := hk
    by_cases e : j = σ.out.length
    · rw [if_pos e] at hk'; exact h.fv k hk'
    · rw [if_neg e] at hk'; exact h.fV j (by omega) k hk'
  · exact (h.ex.grown hg (fun k hk => .inr (own_base h.out.row k hk))).set ⟨c, 6, none⟩ _ (.inl rfl)
end
end Go.Proofs.Ytoofafgnlgaajaa.RW
