/- A map of the call's own, texts to numbers, by what it answers. Conditions: as each theorem says. -/
import Derived.Test.YtfkbmjfhakooiaaGreatDoorPTreex0
import Derived.Maps.Own
import Derived.Maps.OwnSet
import Derived.Maps.OwnOps
import Derived.Maps.Views
import Derived.StringKeys
import Derived.KernelRfl
namespace Go.Proofs.YtfkbmjfhakooiaaGreatDoor.TR
open Go.RowKit Go.Proofs.YtfkbmjfhakooiaaGreatDoor.PTree Go.Proofs.YtfkbmjfhakooiaaGreatDoorW.PrintWords Go.Proofs.YtfkbmjfhakooiaaGreatDoorW.PrintLast Go.Proofs.YtfkbmjfhakooiaaGreatDoorW.PrintMore
open Go.Maps (Keyed string_keyed)
open Go.WideMaps
set_option linter.unusedVariables false
set_option linter.unusedSimpArgs false
theorem keyed : Keyed Tryz.prog 9 := string_keyed Tryz.underlying9
theorem zero3 (w : World) : (zeroValue 3).run Tryz.prog w = .ok (.int .i64 0) w := by kernel_rfl
/-- Block b is a map of at most n entries that answers M. -/
def MapAt (W : World) (b n : Nat) (M : ByteArray → Int) : Prop :=
  ∃ D : DataW Unit, W.ownsMap Tryz.prog 9 (plainElem Tryz.prog 3) b n D ∧ Maps.IsMap D ∧ (∀ s : ByteArray, D.atKey (.string s.data.toList) (.lit (.int .i64 0)) = .lit (.int .i64 (M s))) ∧ (n = 0 ↔ Maps.size D = 0)
theorem MapAt.move {W W1 : World} {b n : Nat} {M : ByteArray → Int} (h : MapAt W b n M) (e : W1.heap[b]? = W.heap[b]?) : MapAt W1 b n M := by
  obtain ⟨D, ⟨es, cl, h0, h1⟩, h2⟩ := h
  exact ⟨D, ⟨es, cl, e.trans h0, h1⟩, h2⟩
theorem MapAt.lt {W : World} {b n : Nat} {M : ByteArray → Int} (h : MapAt W b n M) : b < W.heap.size := by
  obtain ⟨D, h0, _⟩ := h
  exact h0.lt
theorem MapAt.blk {W : World} {b n : Nat} {M : ByteArray → Int} (h : MapAt W b n M) : ∃ es cl, W.heap[b]? = some (.map es cl) := by
  obtain ⟨D, ⟨es, cl, h0, _⟩, _⟩ := h
  exact ⟨es, cl, h0⟩
theorem MapAt.below {W W1 : World} {b n : Nat} {M : ByteArray → Int} (h : MapAt W b n M) (hb : Below W.heap.size W W1) : MapAt W1 b n M := h.move (hb.block b h.lt)
theorem MapAt.made (w : World) : MapAt (w.alloc (.map #[] 0)) w.heap.size 0 (fun _ => 0) :=
  ⟨.map [], World.ownsMap_made _ _ _ _, Maps.isMap_empty, fun s => rfl, by simp [Maps.size]⟩
theorem bsize {s : ByteArray} (h : s.size ≤ 1000000000000) : s.size ≤ maxLen := by unfold maxLen; omega
theorem MapAt.look {W : World} {b n : Nat} {M : ByteArray → Int} (h : MapAt W b n M) (s : ByteArray) (hs : s.size ≤ 1000000000000) : (Instr.lookup 65 (.map (some b)) (.string s) false).run Tryz.prog W = .ok (.int .i64 (M s)) W := by
  obtain ⟨D, h0, _, h2, _⟩ := h
  obtain ⟨c, hr, hat, _⟩ := h0.lookup_int keyed Tryz.underlying65 Tryz.underlying3 (zero3 W) (keyOf_string_mk Tryz.underlying9 (bsize hs))
  rw [h2 s] at hat
  simp only [DataW.lit.injEq, Lit.int.injEq, true_and] at hat
  rw [hr, hat]
theorem MapAt.len {W : World} {b n : Nat} {M : ByteArray → Int} (h : MapAt W b n M) : ∃ z : Nat, (∀ ty, (Builtin.len_ #[65] ty #[.map (some b)]).run Tryz.prog W = .ok (.int .i64 (z : Int)) W) ∧ (n = 0 ↔ z = 0) := by
  obtain ⟨D, h0, _, _, h3⟩ := h
  exact ⟨Maps.size D, fun ty => h0.len Tryz.underlying65 ty, h3⟩
def upd (M : ByteArray → Int) (s : ByteArray) (v : Int) : ByteArray → Int := fun x => if x = s then v else M x
theorem ba_ext {x s : ByteArray} (h : x.data.toList = s.data.toList) : x = s := by apply ByteArray.ext; apply Array.ext'; exact h
theorem size_of_has {D : DataW Unit} {k : Lit} (h : Maps.has D k = true) : Maps.size D ≠ 0 := by
  cases D with
  | map es =>
    intro e
    have : es = [] := List.eq_nil_of_length_eq_zero e
    subst this
    simp [Maps.has] at h
  | _ => simp [Maps.has] at h
theorem MapAt.put {W W1 : World} {b n : Nat} {M : ByteArray → Int} {D : DataW Unit} (hm : Maps.IsMap D) (hat : ∀ s : ByteArray, D.atKey (.string s.data.toList) (.lit (.int .i64 0)) = .lit (.int .i64 (M s))) (s : ByteArray) (v : Int)
    (h : W1.ownsMap Tryz.prog 9 (plainElem Tryz.prog 3) b (n + 1) (D.put (.string s.data.toList) (.lit (.int .i64 v)))) : MapAt W1 b (n + 1) (upd M s v) := by
  refine ⟨_, h, hm.put _ _, fun x => ?_, ?_⟩
  · unfold upd
    by_cases e : x = s
    · subst e
      rw [if_pos rfl]
      exact Maps.atKey_put_same hm (by trivial) _ _
    · rw [if_neg e, Maps.atKey_put_other (fun e2 => e (ba_ext (by injection e2)))]
      exact hat x
  · have := size_of_has (Maps.has_put_same hm (k := .string s.data.toList) (by trivial) (.lit (.int .i64 v)))
    constructor
    · intro e; omega
    · intro e; exact absurd e this
/-- m[s] = v at the operation. -/
theorem ev_put {ops : Array Oper} {rest : List Oper} {o : Oper} {a : Act} {Q : Exit → Act → World → Prop} (w : World) (hg : o.guard = none) (m x v : Operand) (hop : o.op = Op.mapUpdate 65 m x v) (b n : Nat) (M : ByteArray → Int) (hm : a.eval m = .map (some b)) (h : MapAt w b n M) (hn : n ≤ 1000000000000)
    (s : ByteArray) (hs : s.size ≤ 1000000000000) (val : Int) (hw : (Lit.int .i64 val).wf = true) (hx : a.eval x = .string s) (hv : a.eval v = .int .i64 val)
    (hK : ∀ w', MapAt w' b (n + 1) (upd M s val) → w.grownBy w' (some b) → wpList Tryz.prog ops Q rest (a.put o.dst undef) w') : wpList Tryz.prog ops Q (o :: rest) a w := by
  obtain ⟨D, h0, h1, h2, _⟩ := h
  exact wpList_mapUpdate_own w hg m x v 65 hop 9 3 keyed Tryz.underlying65 (plainElem Tryz.prog 3) b n D hm h0 (by unfold maxLen; omega) _ _ _ hx hv (keyOf_string_mk Tryz.underlying9 (bsize hs)) _ [] (plainElem_int Tryz.underlying3 hw) (fun w' r1 r2 => hK w' (MapAt.put (W := w) h1 h2 s val r1) r2)
end Go.Proofs.YtfkbmjfhakooiaaGreatDoor.TR
