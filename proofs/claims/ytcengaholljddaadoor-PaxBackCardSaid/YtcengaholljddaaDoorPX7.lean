import Derived.Test.YtcengaholljddaaDoorPX6
namespace Go.Proofs.YtcengaholljddaaDoor
open Go.RowKit Go.Proofs.YtcengaholljddaaDoor.PPax Go.Proofs.YtcengaholljddaaDoorW.PrintWords Go.Proofs.YtcengaholljddaaDoorW.PrintLast
set_option linter.unusedSimpArgs false
set_option linter.unusedVariables false
namespace PX
theorem line_uniq {b : List Int} (h2 : b.length ≤ 65536) {key val key' val' : ByteArray} {n n' : Nat} (h : Line (Lib.bytesOf b) key val n) (h' : Line (Lib.bytesOf b) key' val' n') : key = key' ∧ val = val' ∧ n = n' := by
  have a := first_complete b h2 70000 (Nat.le_refl _) key val n h
  rw [first_complete b h2 70000 (Nat.le_refl _) key' val' n' h'] at a
  injection a with a
  injection a with a1 a2
  injection a2 with a2 a3
  exact ⟨a1.symm, a2.symm, by omega⟩
open Classical in
/-- The line at the beginning of bytes. -/
noncomputable def stepV (B : List UInt8) : Option (ByteArray × ByteArray × Nat) :=
  if h : ∃ p : ByteArray × ByteArray × Nat, Line B p.1 p.2.1 p.2.2 then some (Classical.choose h) else none
theorem stepV_some {B : List UInt8} {key val : ByteArray} {n : Nat} (h : stepV B = some (key, val, n)) : Line B key val n := by
  unfold stepV at h
  split at h
  · next hx => have := Classical.choose_spec hx; rw [Option.some.inj h] at this; exact this
  · cases h
theorem stepV_none {B : List UInt8} (h : stepV B = none) : ∀ key val n, ¬ Line B key val n := by
  intro key val n hl
  unfold stepV at h
  split at h
  · cases h
  · next hx => exact hx ⟨(key, val, n), hl⟩
theorem stepV_of {b : List Int} (h2 : b.length ≤ 65536) {key val : ByteArray} {n : Nat} (h : Line (Lib.bytesOf b) key val n) : stepV (Lib.bytesOf b) = some (key, val, n) := by
  cases hs : stepV (Lib.bytesOf b) with
  | none => exact absurd h (stepV_none hs _ _ _)
  | some p =>
    obtain ⟨key', val', n'⟩ := p
    obtain ⟨rfl, rfl, rfl⟩ := line_uniq h2 h (stepV_some hs)
    rfl
def fOut : Option (ByteArray × ByteArray × Nat) → Option (ByteArray × ByteArray × Int)
  | some p => some (p.1, p.2.1, (p.2.2 : Int))
  | none => none1
theorem first_f (b : List Int) (h1 : 1 ≤ b.length) (h2 : b.length ≤ 65536) (k : Nat) (hk : 70000 ≤ k) : pax_first.f k b = fOut (stepV (Lib.bytesOf b)) := by
  cases hs : stepV (Lib.bytesOf b) with
  | some p =>
    obtain ⟨key, val, n⟩ := p
    exact first_complete b h2 k hk key val n (stepV_some hs)
  | none =>
    rcases first_sound b h1 h2 k hk with h | ⟨key, val, n, h, _⟩
    · exact h
    · exact absurd h (stepV_none hs _ _ _)
/-! ### all lines -/
def badK (out : List S44) (key : ByteArray) : Bool := decide (0 < out.length) && !(Op.bytesLess ((rd_T44 out ((out.length : Int) - 1)).f0).toList key.toList)
noncomputable def dec : Nat → List Int → List S44 → Option (List S44)
  | 0, _, out => some out
  | m + 1, b, out => if b.length = 0 then some out else match stepV (Lib.bytesOf b) with
    | none => none
    | some p => if badK out p.1 = true then none else dec m (b.drop p.2.2) (out ++ [⟨p.1, p.2.1⟩])
def dOut : Option (List S44) → List S44 × Option Int
  | some o => (o, none)
  | none => ([], some 15)
theorem decode_l : ∀ (m : Nat) (b : List Int) (out : List S44) (k : Nat), b.length ≤ m → m ≤ 65536 → out.length + b.length ≤ 65536 → 70000 + m + 1 ≤ k → pax_Decode.l0 k b out = some (dOut (dec m b out)) := by
  intro m
  induction m with
  | zero =>
    intro b out k h1 h2 h3 hk
    obtain ⟨k, rfl⟩ : ∃ j, k = j + 1 := ⟨k - 1, by omega⟩
    simp only [pax_Decode.l0]
    rw [if_neg (by omega)]; rfl
  | succ m ih =>
    intro b out k h1 h2 h3 hk
    obtain ⟨k, rfl⟩ : ∃ j, k = j + 1 := ⟨k - 1, by omega⟩
    simp only [pax_Decode.l0]
    by_cases hb : b.length = 0
    · rw [if_neg (by omega)]; unfold dec; rw [if_pos hb]; rfl
    · rw [if_pos (by omega), first_f b (by omega) (by omega) k (by omega)]
      unfold dec; rw [if_neg hb]
      cases hs : stepV (Lib.bytesOf b) with
      | none =>
        simp only [fOut, none1, Option.bind_some]
        rw [if_pos trivial]; rfl
      | some p =>
        obtain ⟨key, val, n⟩ := p
        obtain ⟨_, hn, h5, _, _⟩ := (stepV_some hs).at
        have hlen : (Lib.bytesOf b).length = b.length := by simp [Lib.bytesOf]
        rw [hlen] at hn
        show _ = some (dOut (if badK out key = true then none else dec m (b.drop n) (out ++ [⟨key, val⟩])))
        simp only [fOut, Option.bind_some]
        have hrec := ih (b.drop n) (out ++ [⟨key, val⟩]) k (by rw [List.length_drop]; omega) (by omega) (by rw [List.length_drop, List.length_append]; show out.length + 1 + _ ≤ _; omega) (by omega)
        have hw : wrap64 ((out.length : Int) - 1) = (out.length : Int) - 1 := w64 (by omega) (by omega)
        rw [if_neg (by omega), hw]
        simp only [fOut, Option.bind_some, Int.toNat_natCast]
        unfold badK
        by_cases ho : 0 < out.length
        · rw [if_pos (by omega), if_pos (by omega), if_pos (by omega), decide_eq_true ho, Bool.true_and]
          cases hl : Op.bytesLess ((rd_T44 out ((out.length : Int) - 1)).f0).toList key.toList with
          | true => rw [if_pos rfl, if_pos (by omega), if_pos (by omega), if_pos (by omega), if_neg (by simp)]; exact hrec
          | false => rw [if_neg (by simp), if_pos (by simp)]; rfl
        · rw [if_neg (by omega), if_pos (by omega), if_pos (by omega), if_pos (by omega), decide_eq_false ho, Bool.false_and, if_neg (by simp)]; exact hrec
noncomputable def decV (b : List Int) : Option (List S44) := if b.length > 65536 then none else dec b.length b []
theorem decode_f (b : List Int) (k : Nat) (hk : 140000 ≤ k) : pax_Decode.f k b = some (dOut (decV b)) := by
  unfold pax_Decode.f decV
  by_cases h : b.length > 65536
  · rw [if_pos (by omega), if_pos h]; rfl
  · rw [if_neg (by omega), if_neg h]
    exact decode_l b.length b [] k (Nat.le_refl _) (by omega) (by simp; omega) (by omega)
end PX
end Go.Proofs.YtcengaholljddaaDoor
