/- slices.SortFunc of entries by their paths, walked. Conditions: as each theorem says. -/
import Derived.Test.YtfkbmjfhakooiaaDoorSrtLay
import Derived.Test.YtfkbmjfhakooiaaDoorMp
import Derived.Test.YtfkbmjfhakooiaaDoorPTreex2
namespace Go.Proofs.YtfkbmjfhakooiaaDoor.TR
open Go.RowKit Go.Proofs.YtfkbmjfhakooiaaDoor.PTree Go.Proofs.YtfkbmjfhakooiaaDoorW.PrintWords Go.Proofs.YtfkbmjfhakooiaaDoorW.PrintLast Go.Proofs.YtfkbmjfhakooiaaDoorW.PrintMore
open Go.Sort (grow HoldsK putRowK putRow flatK putCells mapBlock onCells)
open Go.Proofs (sortWorldK CmpLays)
set_option linter.unusedVariables false
set_option linter.unusedSimpArgs false
abbrev EntB (B : Nat) := {x : S31 × Option Addr × Nat // x.1.f0.size ≤ B}
instance (B : Nat) : Inhabited (EntB B) := ⟨⟨(z31, none, 0), Nat.zero_le _⟩⟩
def encE (x : S31) (A : Option Addr) (c : Nat) : List Value := [.string x.f0, .int .i64 x.f1, .int .i64 x.f2, .int .i64 x.f3, .int .i64 x.f4, .int .i64 x.f5, .string x.f6, .slice A x.f7.length c]
def encB {B : Nat} (x : EntB B) : List Value := encE x.1.1 x.1.2.1 x.1.2.2
def cfB (K B : Nat) (x y : EntB B) : Int := (path_Compare.f K x.1.1.f0 y.1.1.f0).getD 0
set_option maxHeartbeats 4000000 in
theorem closure25 (K B : Nat) (hC : ∀ a b : ByteArray, a.size ≤ B → b.size ≤ B → ∃ r, path_Compare.f K a b = some r) (x y : EntB B) (W : World) (hGl : Gl W) :
    Calls Tryd.prog 25 #[.agg (encB x).toArray, .agg (encB y).toArray] W fun e w' => e = .returned (.int .i64 (cfB K B x y)) ∧ ∃ q os', w' = grow (W.drewN q) os' := by
  have hu31 := Tryd.underlying31
  obtain ⟨r, hr⟩ := hC x.1.1.f0 y.1.1.f0 x.2 y.2
  have hcf : cfB K B x y = r := by unfold cfB; rw [hr]; rfl
  rw [hcf]
  have HR := Aside0.mk hr
  have HGL := Aside0.mk hGl
  clear hr hcf hC
  obtain ⟨⟨⟨a0, a1, a2, a3, a4, a5, a6, a7⟩, A, c⟩, hx⟩ := x
  obtain ⟨⟨⟨b0, b1, b2, b3, b4, b5, b6, b7⟩, A', c'⟩, hy⟩ := y
  show Calls Tryd.prog 25 #[.agg #[.string a0, .int .i64 a1, .int .i64 a2, .int .i64 a3, .int .i64 a4, .int .i64 a5, .string a6, .slice A a7.length c], .agg #[.string b0, .int .i64 b1, .int .i64 b2, .int .i64 b3, .int .i64 b4, .int .i64 b5, .string b6, .slice A' b7.length c']] W _
  go_enter Tryd.func25, Tryd.ntmps25
  go_wp2_with (first
    | (go_at_call 26; refine (path_Compare.calls K a0 b0 r _ (HGL.out.of (below_alloc (below_alloc (Below.refl _ _) _) _)) HR.out).mono ?_; rintro e w' ⟨rfl, ⟨⟨n, rfl⟩⟩⟩))
  go_ret
  exact ⟨rfl, n, _, by rw [Go.Sort.alloc_eq_grow, Go.Sort.alloc_eq_grow, Go.Sort.grow_grow]; rfl⟩
/-- What the sort's worlds keep. -/
theorem sortW_heap {B : Nat} (w : World) (blk m : Nat) (dk : Array (EntB B)) (os : Array Obj) (hb : blk < w.heap.size) (i : Nat) (hi : i < w.heap.size) (hne : i ≠ blk) : (sortWorldK encB 8 w blk 0 m dk os).heap[i]? = w.heap[i]? := by
  unfold sortWorldK putRowK putRow mapBlock
  show ((w.heap.modify blk _) ++ os)[i]? = _
  rw [Array.getElem?_append_left (by rw [Array.size_modify]; exact hi), Array.getElem?_modify, if_neg (fun e => hne e.symm)]
theorem sortW_size {B : Nat} (w : World) (blk m : Nat) (dk : Array (EntB B)) (os : Array Obj) : w.heap.size ≤ (sortWorldK encB 8 w blk 0 m dk os).heap.size := by
  unfold sortWorldK putRowK putRow mapBlock
  show _ ≤ ((w.heap.modify blk _) ++ os).size
  rw [Array.size_append, Array.size_modify]
  omega
theorem sortW_blk {B : Nat} (w : World) (blk m : Nat) (dk : Array (EntB B)) (os : Array Obj) (cur : Array Value) (t : TypeId) (h : w.heap[blk]? = some (.cells cur t (0, 0))) : (sortWorldK encB 8 w blk 0 m dk os).heap[blk]? = some (.cells (putCells id 0 (flatK encB 8 dk) cur) t (0, 0)) := by
  obtain ⟨hlt, hk⟩ := Array.getElem?_eq_some_iff.1 h
  unfold sortWorldK putRowK putRow mapBlock
  show ((w.heap.modify blk _) ++ os)[blk]? = _
  rw [Array.getElem?_append_left (by rw [Array.size_modify]; exact hlt), Array.getElem?_modify, if_pos rfl, h]
  rfl
theorem sortW_below {B : Nat} (w0 w : World) (h0 : Below w0.heap.size w0 w) (blk m : Nat) (dk : Array (EntB B)) (os : Array Obj) (hb : blk < w.heap.size) (hge : w0.heap.size ≤ blk) : Below w0.heap.size w0 (sortWorldK encB 8 w blk 0 m dk os) :=
  h0.trans ⟨rfl, rfl, rfl, sortW_size w blk m dk os, fun k hk => sortW_heap w blk m dk os hb k (Nat.lt_of_lt_of_le hk h0.size) (by omega)⟩
end Go.Proofs.YtfkbmjfhakooiaaDoor.TR
