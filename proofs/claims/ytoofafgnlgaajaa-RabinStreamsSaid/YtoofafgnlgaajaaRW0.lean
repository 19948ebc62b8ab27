/- What build makes of the parts of a struct. Conditions: as each theorem says. -/
import Derived.Test.YtoofafgnlgaajaaProg
import Derived.Laws.Tables
import Derived.KernelRfl
namespace Go.Proofs.Ytoofafgnlgaajaa.RW
set_option linter.unusedVariables false
set_option linter.unusedSimpArgs false
theorem foldl_set (off : Nat) : ∀ (vs : List (Value × Nat)) (cells : Array Value), (vs.foldl (fun cs x => cs.setIfInBounds (off + x.2) x.1) cells).size = cells.size
  | [], cells => rfl
  | x :: r, cells => by rw [List.foldl_cons, foldl_set off r, Array.size_setIfInBounds]
theorem foldl_get (off : Nat) : ∀ (vs : List Value) (n : Nat) (cells : Array Value) (k : Nat), off + n + vs.length ≤ cells.size →
    ((vs.zipIdx n).foldl (fun cs x => cs.setIfInBounds (off + x.2) x.1) cells)[k]? = if off + n ≤ k ∧ k < off + n + vs.length then vs[k - (off + n)]? else cells[k]?
  | [], n, cells, k, h => by
    rw [if_neg (by simp)]; rfl
  | v :: r, n, cells, k, h => by
    simp only [List.length_cons] at h ⊢
    rw [List.zipIdx_cons, List.foldl_cons, foldl_get off r (n + 1) _ k (by rw [Array.size_setIfInBounds]; omega)]
    by_cases h1 : k = off + n
    · subst h1
      rw [if_neg (by omega), if_pos (by omega), Array.getElem?_setIfInBounds_self_of_lt (by omega), Nat.sub_self]; rfl
    · by_cases h2 : off + n ≤ k ∧ k < off + n + (r.length + 1)
      · rw [if_pos h2, if_pos (by omega), show k - (off + n) = k - (off + (n + 1)) + 1 by omega, List.getElem?_cons_succ]
      · rw [if_neg h2, if_neg (by omega), Array.getElem?_setIfInBounds_ne (by omega)]
theorem fill_cons {place : Nat → Option (Nat × Nat)} {cells : Array Value} {i off size : Nat} {v : Value} {rest : List (Nat × Value)} (hp : place i = some (off, size)) (hs : v.cells.size = size) (ho : off + size ≤ cells.size) :
    ∃ cells', cells'.size = cells.size ∧ (∀ k, cells'[k]? = if off ≤ k ∧ k < off + size then v.cells[k - off]? else cells[k]?) ∧ Instr.fill place cells ((i, v) :: rest) = Instr.fill place cells' rest := by
  refine ⟨v.cells.zipIdx.foldl (fun cs (c, j) => cs.setIfInBounds (off + j) c) cells, ?_, fun k => ?_, ?_⟩
  · rw [← Array.foldl_toList, Array.toList_zipIdx]
    exact foldl_set off _ _
  · rw [← Array.foldl_toList, Array.toList_zipIdx]
    have := foldl_get off v.cells.toList 0 cells k (by rw [Array.length_toList]; omega)
    rw [Array.length_toList, hs, Nat.add_zero, Array.getElem?_toList] at this
    exact this
  · simp [Instr.fill, hp, hs]
    omega
theorem built_struct {P : Program} {t : TypeId} {fields : Array Field} {it : TypeInfo} {z : Value} {places : List (Nat × Nat)} {parts : List (Nat × Value)} (hi : P.info? t = some it) (hu : P.underlying t = some (.struct fields)) (hz : it.zero = some z)
    (hp : fields.toList.mapM (fun f => (P.info? f.type).map fun i => (f.offset, i.size)) = some places) : P.built t parts = Instr.fill (places.toArray[·]?) z.cells parts := by
  simp only [Program.built, hi, hu, hz, hp]
noncomputable def fieldsOf (t : TypeId) : Option (List (Nat × Nat)) := match Try.prog.underlying t with
  | some (.struct fs) => fs.toList.mapM (fun f => (Try.prog.info? f.type).map fun i => (f.offset, i.size))
  | _ => none
theorem built_of {t : TypeId} {it : TypeInfo} {z : Value} {places : List (Nat × Nat)} {parts : List (Nat × Value)} (hi : Try.prog.info? t = some it) (hz : it.zero = some z) (hp : fieldsOf t = some places) :
    Try.prog.built t parts = Instr.fill (places.toArray[·]?) z.cells parts := by
  unfold fieldsOf at hp
  split at hp
  · next fs hu => exact built_struct hi hu hz hp
  · cases hp
theorem f80 : fieldsOf 80 = some [(0, 1), (1, 1), (2, 256)] := by kernel_rfl
theorem f84 : fieldsOf 84 = some [(0, 258), (258, 256), (514, 1), (515, 1), (516, 1), (517, 1)] := by kernel_rfl
theorem f72 : fieldsOf 72 = some [(0, 5), (5, 1), (6, 1)] := by kernel_rfl
/-- The zero of a struct, cell by cell: the cells that the parts leave. -/
theorem z80 : ∃ it z, Try.prog.info? 80 = some it ∧ it.zero = some z ∧ it.size = 258 ∧ z.cells.size = 258 := by
  have h : (Try.prog.info? 80).map (fun i => (i.size, i.zero.map fun z => z.cells.size)) = some (258, some 258) := by kernel_rfl
  obtain ⟨it, h1, h2⟩ := Option.map_eq_some_iff.1 h
  simp only [Prod.mk.injEq] at h2
  obtain ⟨z, h3, h4⟩ := Option.map_eq_some_iff.1 h2.2
  exact ⟨it, z, h1, h3, h2.1, h4⟩
theorem z84 : ∃ it z, Try.prog.info? 84 = some it ∧ it.zero = some z ∧ it.size = 518 ∧ z.cells.size = 518 ∧ z.cells[515]? = some (.int .i64 0) ∧ z.cells[516]? = some (.bool false) ∧ z.cells[517]? = some (.int .u64 0) := by
  have h : (Try.prog.info? 84).map (fun i => (i.size, i.zero.map fun z => (z.cells.size, z.cells[515]?, z.cells[516]?, z.cells[517]?))) = some (518, some (518, some (.int .i64 0), some (.bool false), some (.int .u64 0))) := by kernel_rfl
  obtain ⟨it, h1, h2⟩ := Option.map_eq_some_iff.1 h
  simp only [Prod.mk.injEq] at h2
  obtain ⟨z, h3, h4⟩ := Option.map_eq_some_iff.1 h2.2
  simp only [Prod.mk.injEq] at h4
  exact ⟨it, z, h1, h3, h2.1, h4⟩
theorem build80 (p d : Int) (TV : Array Value) (ht : TV.size = 256) : ∃ cs : Array Value, cs.size = 258 ∧ cs[0]? = some (.int .u64 p) ∧ cs[1]? = some (.int .i64 d) ∧ (∀ i, i < 256 → cs[2 + i]? = TV[i]?) ∧
    ∀ W, (Instr.build 80 #[(0, .int .u64 p), (1, .int .i64 d), (2, .agg TV)]).run Try.prog W = .ok (.agg cs) W := by
  obtain ⟨it, z, h1, h2, h3, h4⟩ := z80
  obtain ⟨c1, s1, g1, e1⟩ := fill_cons (place := fun k => ([(0, 1), (1, 1), (2, 256)] : List (Nat × Nat)).toArray[k]?) (cells := z.cells) (i := 0) (off := 0) (size := 1) (v := .int .u64 p) (rest := [(1, .int .i64 d), (2, .agg TV)]) rfl rfl (by omega)
  obtain ⟨c2, s2, g2, e2⟩ := fill_cons (place := fun k => ([(0, 1), (1, 1), (2, 256)] : List (Nat × Nat)).toArray[k]?) (cells := c1) (i := 1) (off := 1) (size := 1) (v := .int .i64 d) (rest := [(2, .agg TV)]) rfl rfl (by omega)
  obtain ⟨c3, s3, g3, e3⟩ := fill_cons (place := fun k => ([(0, 1), (1, 1), (2, 256)] : List (Nat × Nat)).toArray[k]?) (cells := c2) (i := 2) (off := 2) (size := 256) (v := .agg TV) (rest := []) rfl ht (by omega)
  refine ⟨c3, by omega, ?_, ?_, fun i hi => ?_, fun W => run_build W 80 _ c3 ?_⟩
  · rw [g3, if_neg (by omega), g2, if_neg (by omega), g1, if_pos (by omega)]; rfl
  · rw [g3, if_neg (by omega), g2, if_pos (by omega)]; rfl
  · rw [g3, if_pos (by omega), Nat.add_sub_cancel_left]; rfl
  · rw [built_of h1 h2 f80]
    show Instr.fill _ _ [(0, .int .u64 p), (1, .int .i64 d), (2, .agg TV)] = _
    rw [e1, e2, e3]; rfl
theorem build84 (TV T2 : Array Value) (sl : Value) (hsl : sl.cells = #[sl]) (ht : TV.size = 258) (ht2 : T2.size = 256) : ∃ cs : Array Value, cs.size = 518 ∧ (∀ i, i < 258 → cs[i]? = TV[i]?) ∧ (∀ i, i < 256 → cs[258 + i]? = T2[i]?) ∧ cs[514]? = some sl ∧ cs[515]? = some (.int .i64 0) ∧ cs[516]? = some (.bool false) ∧ cs[517]? = some (.int .u64 0) ∧
    (∀ W, (Instr.build 84 #[(0, .agg TV), (1, .agg T2), (2, sl)]).run Try.prog W = .ok (.agg cs) W) ∧ Try.prog.built 84 [(0, .agg TV), (1, .agg T2), (2, sl)] = some cs := by
  obtain ⟨it, z, h1, h2, h3, h4, h5, h6, h7⟩ := z84
  obtain ⟨c1, s1, g1, e1⟩ := fill_cons (place := fun k => ([(0, 258), (258, 256), (514, 1), (515, 1), (516, 1), (517, 1)] : List (Nat × Nat)).toArray[k]?) (cells := z.cells) (i := 0) (off := 0) (size := 258) (v := .agg TV) (rest := [(1, .agg T2), (2, sl)]) rfl ht (by omega)
  obtain ⟨c2, s2, g2, e2⟩ := fill_cons (place := fun k => ([(0, 258), (258, 256), (514, 1), (515, 1), (516, 1), (517, 1)] : List (Nat × Nat)).toArray[k]?) (cells := c1) (i := 1) (off := 258) (size := 256) (v := .agg T2) (rest := [(2, sl)]) rfl ht2 (by omega)
  obtain ⟨c3, s3, g3, e3⟩ := fill_cons (place := fun k => ([(0, 258), (258, 256), (514, 1), (515, 1), (516, 1), (517, 1)] : List (Nat × Nat)).toArray[k]?) (cells := c2) (i := 2) (off := 514) (size := 1) (v := sl) (rest := []) rfl (by rw [hsl]; rfl) (by omega)
  have hb : Try.prog.built 84 [(0, .agg TV), (1, .agg T2), (2, sl)] = some c3 := by
    rw [built_of h1 h2 f84, e1, e2, e3]; rfl
  refine ⟨c3, by omega, fun i hi => ?_, fun i hi => ?_, ?_, ?_, ?_, ?_, fun W => run_build W 84 _ c3 hb, hb⟩
  · rw [g3, if_neg (by omega), g2, if_neg (by omega), g1, if_pos (by omega), Nat.sub_zero]; rfl
  · rw [g3, if_neg (by omega), g2, if_pos (by omega), Nat.add_sub_cancel_left]; rfl
  · rw [g3, if_pos (by omega), hsl]; rfl
  · rw [g3, if_neg (by omega), g2, if_neg (by omega), g1, if_neg (by omega), h5]
  · rw [g3, if_neg (by omega), g2, if_neg (by omega), g1, if_neg (by omega), h6]
  · rw [g3, if_neg (by omega), g2, if_neg (by omega), g1, if_neg (by omega), h7]
end Go.Proofs.Ytoofafgnlgaajaa.RW
