/- Parents of paths in plain Lean. Conditions: none. -/
import Derived.Test.YtfkbmjfhakooiaaDoorPM3
namespace Go.Proofs.YtfkbmjfhakooiaaDoor
open Go.RowKit Go.Proofs.YtfkbmjfhakooiaaDoor.PTree Go.Proofs.YtfkbmjfhakooiaaDoorW.PrintWords Go.Proofs.YtfkbmjfhakooiaaDoorW.PrintLast
set_option linter.unusedSimpArgs false
set_option linter.unusedVariables false
namespace PM
theorem pieces_one {s : ByteArray} : (pieces s).length = 1 ↔ 47 ∉ s.data.toList := by
  rw [← splitL_one, ← pieces_lists, List.length_map]
theorem last_spec (s : ByteArray) : (Lib.lastIndexByte s 47 = -1 ∧ 47 ∉ s.data.toList) ∨ ∃ i : Nat, Lib.lastIndexByte s 47 = i ∧ i < s.size ∧ pieces s = pieces (s.extract 0 i) ++ [s.extract (i + 1) s.size] := by
  have hg : ∀ j (h : j < s.size), s.data[j]! = s.data.toList[j]'(by rw [dl]; exact h) := fun j h => by
    rw [getElem!_pos s.data j h]; simp
  rcases Lib.lastIndexByte_spec s 47 with ⟨e, hn⟩ | ⟨i, hi, e, hc, hn⟩
  · refine .inl ⟨e, fun h => ?_⟩
    obtain ⟨j, hj, e2⟩ := List.getElem_of_mem h
    rw [dl] at hj
    refine hn j hj ?_
    rw [hg j hj, e2]; rfl
  · refine .inr ⟨i, e, hi, ?_⟩
    have h1 : s.data.toList[i]? = some 47 := by
      rw [List.getElem?_eq_getElem (by rw [dl]; exact hi)]
      congr 1
      apply UInt8.toNat_inj.1
      rw [← hg i hi]
      have : (47 : UInt8).toNat = 47 := rfl
      omega
    have h2 : ∀ j, i < j → s.data.toList[j]? ≠ some 47 := by
      intro j hj h
      obtain ⟨hl, e2⟩ := List.getElem?_eq_some_iff.1 h
      rw [dl] at hl
      refine hn j hj hl ?_
      rw [hg j hl, e2]; rfl
    apply map_dl_inj
    rw [pieces_lists, List.map_append, pieces_lists, splitL_last h1 h2, ext_list, List.drop_zero]
    simp only [List.map_cons, List.map_nil]
    rw [ext_list, List.take_of_length_le (show s.data.toList.length ≤ s.size by rw [dl]; exact Nat.le_refl _)]
def parentB (s : ByteArray) : ByteArray × Bool := if GoodP s ∧ 2 ≤ (pieces s).length then (joinB (pieces s).dropLast, true) else ((⟨#[]⟩ : ByteArray), false)
theorem parent_f (s : ByteArray) (k : Nat) (hs : s.size < 4611686018427387904) (hk : 500 ≤ k) : path_Parent.f k s = some (parentB s) := by
  unfold path_Parent.f strings_LastIndexByte.f parentB
  rw [if_pos hs, Option.bind_some, good_f s k hk, Option.bind_some]
  rcases last_spec s with ⟨e, hn⟩ | ⟨i, e, hi, hp⟩
  · rw [e, if_pos (by omega), if_neg (fun h => by have := pieces_one.2 hn; omega)]
  · rw [e, if_neg (by omega)]
    have h2 : 2 ≤ (pieces s).length := by
      rw [hp, List.length_append]
      have := List.length_pos_iff.2 (pieces_ne (s.extract 0 i))
      simp only [List.length_cons, List.length_nil]; omega
    by_cases hg : GoodP s
    · rw [decide_eq_true hg, if_pos rfl, if_pos (by omega), if_pos (by omega), if_pos ⟨hg, h2⟩, Int.toNat_natCast, hp, List.dropLast_concat, joinB_pieces]
    · rw [decide_eq_false hg, if_neg (by simp), if_neg (fun h => hg h.1)]
theorem dl_good {s : ByteArray} (hg : GoodP s) (h2 : 2 ≤ (pieces s).length) : JoinP (pieces s).dropLast := by
  refine ⟨?_, fun x hx => hg.2 x (List.dropLast_subset _ hx), ?_⟩
  · intro e; have := congrArg List.length e; rw [List.length_dropLast] at this; simp at this; omega
  · have e := tot_append (pieces s).dropLast [(pieces s).getLast (pieces_ne s)]
    rw [List.dropLast_concat_getLast, tot_pieces] at e
    have := hg.1
    omega
end PM
end Go.Proofs.YtfkbmjfhakooiaaDoor
