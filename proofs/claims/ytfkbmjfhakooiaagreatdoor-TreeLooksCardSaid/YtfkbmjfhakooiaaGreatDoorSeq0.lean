/- The pieces of a text between its '/', in plain Lean. Conditions: none. -/
import Derived.Lib.Bytealg
import Derived.Lib.Join
namespace Go.Proofs.YtfkbmjfhakooiaaGreatDoor.PTree
set_option linter.unusedVariables false
set_option linter.unusedSimpArgs false

/-- What stands between the '/'. -/
def splitL : List UInt8 → List (List UInt8)
  | [] => [[]]
  | c :: t => if c = 47 then [] :: splitL t else (c :: (splitL t).headD []) :: (splitL t).tail
theorem splitL_ne : ∀ l, splitL l ≠ []
  | [] => by simp [splitL]
  | c :: t => by unfold splitL; split <;> simp
theorem splitL_none : ∀ {l : List UInt8}, Lib.indexByte l 47 < 0 → splitL l = [l]
  | [], _ => rfl
  | c :: t, h => by
    unfold Lib.indexByte at h
    by_cases hc : c = 47
    · subst hc; simp at h
    · have hg := Lib.indexByte_ge t 47
      have : Lib.indexByte t 47 < 0 := by
        by_cases h2 : Lib.indexByte t 47 = -1
        · omega
        · simp [hc, h2] at h; omega
      unfold splitL
      rw [if_neg hc, splitL_none this]
      rfl
theorem splitL_some : ∀ {l : List UInt8} {m : Nat}, Lib.indexByte l 47 = m → splitL l = l.take m :: splitL (l.drop (m + 1)) ∧ m < l.length
  | [], m, h => by unfold Lib.indexByte at h; omega
  | c :: t, m, h => by
    unfold Lib.indexByte at h
    by_cases hc : c = 47
    · subst hc
      simp at h
      obtain rfl : m = 0 := by omega
      exact ⟨by simp [splitL], by simp⟩
    · have hg := Lib.indexByte_ge t 47
      by_cases h2 : Lib.indexByte t 47 = -1
      · simp [hc, h2] at h
      · simp [hc, h2] at h
        obtain ⟨k, rfl⟩ : ∃ k, m = k + 1 := ⟨m - 1, by omega⟩
        obtain ⟨e, hk⟩ := splitL_some (l := t) (m := k) (by omega)
        have e2 : splitL (c :: t) = (c :: (splitL t).headD []) :: (splitL t).tail := by rw [splitL, if_neg hc]
        exact ⟨by rw [e2, e]; simp, by simp; omega⟩
/-- The pieces of a text. -/
def pieces (s : ByteArray) : List ByteArray := (splitL s.data.toList).map fun l => ⟨l.toArray⟩

theorem ba_eta (s : ByteArray) : (⟨s.data.toList.toArray⟩ : ByteArray) = s := by cases s; simp
theorem pieces_none {s : ByteArray} (h : Lib.indexByte s.data.toList 47 < 0) : pieces s = [s] := by unfold pieces; rw [splitL_none h]; simp [ba_eta]
theorem pieces_some {r : ByteArray} {m : Nat} (h : Lib.indexByte r.data.toList 47 = m) : pieces r = r.extract 0 m :: pieces (r.extract (m + 1) r.size) ∧ m < r.size := by
  obtain ⟨e, hm⟩ := splitL_some h
  have hsz : r.data.toList.length = r.size := by rw [Array.length_toList]; rfl
  refine ⟨?_, by omega⟩
  unfold pieces
  rw [e]
  have e1 : (⟨(r.data.toList.take m).toArray⟩ : ByteArray) = r.extract 0 m := by
    apply ByteArray.ext; apply Array.ext'; simp [List.extract_eq_take_drop]
  have e2 : (r.extract (m + 1) r.size).data.toList = r.data.toList.drop (m + 1) := by
    simp [List.extract_eq_take_drop]
    rw [List.take_of_length_le (by rw [List.length_drop]; omega)]
  rw [e2, List.map_cons, e1]
theorem size_ext (r : ByteArray) (a b : Nat) : (r.extract a b).size = min b r.size - a := by rw [ByteArray.size_extract]
theorem ba_tl (x : ByteArray) : x.toList = x.data.toList := by first | rfl | simp [ByteArray.toList_eq] | exact?
theorem ba_toList {x : ByteArray} {l : List UInt8} (h : x.toList = l) : x = ⟨l.toArray⟩ := by
  have e : x.data.toList = l := by rw [← ba_tl]; exact h
  apply ByteArray.ext; apply Array.ext'; rw [e]
/-- One piece. -/
def nstep (acc : List ByteArray) (x : ByteArray) : Option (List ByteArray) :=
  if x = ⟨#[]⟩ then some acc else if x = ⟨#[46]⟩ then some acc else if x = ⟨#[46, 46]⟩ then (if acc.length = 0 then none else some acc.dropLast) else some (acc ++ [x])
def nall (l : List ByteArray) : Option (List ByteArray) := l.foldlM nstep []
theorem nall_snoc (pre : List ByteArray) (x : ByteArray) : nall (pre ++ [x]) = (nall pre).bind fun l => nstep l x := by
  unfold nall
  rw [List.foldlM_append]
  show (List.foldlM nstep [] pre >>= fun l => (nstep l x >>= fun l' => pure l')) = _
  cases List.foldlM nstep [] pre with
  | none => rfl
  | some l => show (nstep l x >>= fun l' => pure l') = nstep l x; cases nstep l x <;> rfl
theorem nall_none {pre l : List ByteArray} (h : nall pre = none) (hp : pre <+: l) : nall l = none := by
  obtain ⟨t, rfl⟩ := hp
  unfold nall at h ⊢
  rw [List.foldlM_append, h]
  rfl
theorem nall_len : ∀ {pre l : List ByteArray}, nall pre = some l → l.length ≤ pre.length := by
  intro pre
  suffices H : ∀ (q : List ByteArray) {l}, nall q.reverse = some l → l.length ≤ q.length by
    intro l h
    have := H pre.reverse (l := l) (by rw [List.reverse_reverse]; exact h)
    rw [List.length_reverse] at this; exact this
  intro q
  induction q with
  | nil => intro l h; cases h; simp
  | cons x p ih =>
    intro l h
    rw [List.reverse_cons] at h
    rw [nall_snoc] at h
    obtain ⟨l1, e1, e2⟩ := Option.bind_eq_some_iff.1 h
    have h1 := ih e1
    unfold nstep at e2
    simp only [List.length_cons]
    split at e2
    · cases e2; omega
    · split at e2
      · cases e2; omega
      · split at e2
        · split at e2
          · cases e2
          · cases e2; rw [List.length_dropLast]; omega
        · cases e2; rw [List.length_append]; simp only [List.length_cons, List.length_nil]; omega
theorem splitL_len : ∀ l : List UInt8, (splitL l).length ≤ l.length + 1
  | [] => by simp [splitL]
  | c :: t => by
    have h := splitL_len t
    have hn : 0 < (splitL t).length := List.length_pos_iff.2 (splitL_ne t)
    rw [splitL]
    split
    · simp; omega
    · simp; omega
theorem pieces_len (s : ByteArray) : (pieces s).length ≤ s.size + 1 := by
  have h := splitL_len s.data.toList
  unfold pieces
  rw [List.length_map]
  rw [Array.length_toList] at h
  exact h
end Go.Proofs.YtfkbmjfhakooiaaGreatDoor.PTree
