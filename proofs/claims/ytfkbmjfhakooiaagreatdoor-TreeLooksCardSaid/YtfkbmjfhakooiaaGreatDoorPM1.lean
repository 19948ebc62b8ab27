/- Paths in plain Lean: orders of lists, pieces and joins. Conditions: none. -/
import Derived.Test.YtfkbmjfhakooiaaGreatDoorSeq0
namespace Go.Proofs.YtfkbmjfhakooiaaGreatDoor.PTree
set_option linter.unusedVariables false
set_option linter.unusedSimpArgs false

/-! ### orders -/
/-- c compares. -/
structure IsCmp {α : Type} (c : α → α → Int) : Prop where
  anti : ∀ a b, c b a = - c a b
  eq0 : ∀ a b, c a b = 0 ↔ a = b
  tri : ∀ a b, c a b = -1 ∨ c a b = 0 ∨ c a b = 1
  trans : ∀ a b d, c a b ≤ 0 → c b d ≤ 0 → c a d ≤ 0
theorem IsCmp.self {α : Type} {c : α → α → Int} (h : IsCmp c) (a : α) : c a a = 0 := (h.eq0 a a).2 rfl
/-- Strictly below, then below. -/
theorem IsCmp.lt {α : Type} {c : α → α → Int} (h : IsCmp c) {a b d : α} (h1 : c a b = -1) (h2 : c b d ≤ 0) : c a d = -1 := by
  have h3 := h.trans a b d (by omega) h2
  rcases h.tri a d with h4 | h4 | h4
  · exact h4
  · have := (h.eq0 a d).1 h4
    subst this
    have := h.anti b a
    omega
  · omega
/-- Lists, element by element. -/
def lexC {α : Type} (c : α → α → Int) : List α → List α → Int
  | [], [] => 0
  | [], _ :: _ => -1
  | _ :: _, [] => 1
  | a :: as, b :: bs => if c a b = 0 then lexC c as bs else c a b
theorem lexC_isCmp {α : Type} {c : α → α → Int} (h : IsCmp c) : IsCmp (lexC c) where
  anti := by
    intro a
    induction a with
    | nil => intro b; cases b <;> simp [lexC]
    | cons x xs ih =>
      intro b
      cases b with
      | nil => simp [lexC]
      | cons y ys =>
        have e := h.anti x y
        by_cases hz : c x y = 0
        · simp only [lexC]; rw [if_pos hz, if_pos (by omega)]; exact ih ys
        · simp only [lexC]; rw [if_neg hz, if_neg (by omega)]; exact e
  eq0 := by
    intro a
    induction a with
    | nil => intro b; cases b <;> simp [lexC]
    | cons x xs ih =>
      intro b
      cases b with
      | nil => simp [lexC]
      | cons y ys =>
        have e := h.eq0 x y
        by_cases hz : c x y = 0
        · simp only [lexC]; rw [if_pos hz, ih ys, List.cons.injEq, ← e]; exact ⟨fun q => ⟨hz, q⟩, fun q => q.2⟩
        · simp only [lexC]; rw [if_neg hz, List.cons.injEq, ← e]; exact ⟨fun q => absurd q hz, fun q => absurd q.1 hz⟩
  tri := by
    intro a
    induction a with
    | nil => intro b; cases b <;> simp [lexC]
    | cons x xs ih =>
      intro b
      cases b with
      | nil => simp [lexC]
      | cons y ys =>
        by_cases hz : c x y = 0
        · simp only [lexC]; rw [if_pos hz]; exact ih ys
        · simp only [lexC]; rw [if_neg hz]; exact h.tri x y
  trans := by
    intro a
    induction a with
    | nil => intro b d _ _; cases d <;> simp [lexC]
    | cons x xs ih =>
      intro b d
      cases b with
      | nil => intro h1 _; simp [lexC] at h1
      | cons y ys =>
        cases d with
        | nil => intro _ h2; simp [lexC] at h2
        | cons z zs =>
          intro h1 h2
          simp only [lexC] at h1 h2 ⊢
          by_cases hxy : c x y = 0
          · rw [if_pos hxy] at h1
            obtain rfl := (h.eq0 x y).1 hxy
            by_cases hyz : c x z = 0
            · rw [if_pos hyz] at h2 ⊢; exact ih ys zs h1 h2
            · rw [if_neg hyz] at h2 ⊢; exact h2
          · rw [if_neg hxy] at h1
            have l1 : c x y = -1 := by rcases h.tri x y with q | q | q <;> omega
            by_cases hyz : c y z = 0
            · obtain rfl := (h.eq0 y z).1 hyz
              rw [if_neg hxy]; exact h1
            · rw [if_neg hyz] at h2
              have l2 := h.lt l1 h2
              rw [if_neg (by omega)]; omega
def cU8 (a b : UInt8) : Int := if a < b then -1 else if b < a then 1 else 0
theorem cU8_isCmp : IsCmp cU8 where
  anti := by
    intro a b; unfold cU8
    simp only [UInt8.lt_iff_toNat_lt]
    split <;> split <;> omega
  eq0 := by
    intro a b; unfold cU8
    simp only [UInt8.lt_iff_toNat_lt, ← UInt8.toNat_inj]
    split
    · constructor <;> intro q <;> omega
    · split
      · constructor <;> intro q <;> omega
      · constructor <;> intro q <;> omega
  tri := by
    intro a b; unfold cU8
    split
    · simp
    · split <;> simp
  trans := by
    intro a b d; unfold cU8
    simp only [UInt8.lt_iff_toNat_lt]
    repeat' split
    all_goals omega
theorem compareBytes_lex : ∀ a b, Lib.compareBytes a b = lexC cU8 a b
  | [], [] => rfl
  | [], _ :: _ => rfl
  | _ :: _, [] => rfl
  | a :: as, b :: bs => by
    unfold Lib.compareBytes lexC
    rw [compareBytes_lex as bs]
    unfold cU8
    by_cases h1 : a < b
    · simp [h1]
    · by_cases h2 : b < a <;> simp [h1, h2]
theorem cmpB_isCmp : IsCmp Lib.compareBytes := by
  rw [show Lib.compareBytes = lexC cU8 from funext fun a => funext fun b => compareBytes_lex a b]
  exact lexC_isCmp cU8_isCmp
/-! ### pieces and joins -/
def joinL (xs : List (List UInt8)) : List UInt8 := Lib.join xs [47]
theorem joinL_cons (x : List UInt8) (y : List UInt8) (r : List (List UInt8)) : joinL (x :: y :: r) = x ++ 47 :: joinL (y :: r) := by
  unfold joinL
  rw [Lib.join_cons, Lib.join_cons]
  simp [Lib.joinTail]
theorem joinL_one (x : List UInt8) : joinL [x] = x := Lib.join_one x [47]
theorem joinL_cons' (x : List UInt8) {r : List (List UInt8)} (hr : r ≠ []) : joinL (x :: r) = x ++ 47 :: joinL r := by
  cases r with
  | nil => exact absurd rfl hr
  | cons y r => exact joinL_cons x y r
theorem splitL_plain : ∀ {l : List UInt8}, 47 ∉ l → splitL l = [l]
  | [], _ => rfl
  | c :: t, h => by
    have hc : c ≠ 47 := fun e => h (by simp [e])
    unfold splitL
    rw [if_neg hc, splitL_plain (fun e => h (List.mem_cons_of_mem _ e))]; rfl
theorem splitL_cut : ∀ (a b : List UInt8), splitL (a ++ 47 :: b) = splitL a ++ splitL b
  | [], b => by rw [List.nil_append]; show splitL (47 :: b) = [] :: splitL b; simp [splitL]
  | c :: t, b => by
    have ih := splitL_cut t b
    rw [List.cons_append, splitL, splitL]
    by_cases hc : c = 47
    · rw [if_pos hc, if_pos hc, ih]; rfl
    · rw [if_neg hc, if_neg hc, ih]
      obtain ⟨x, r, e⟩ : ∃ x r, splitL t = x :: r := List.exists_cons_of_ne_nil (splitL_ne t)
      rw [e]; rfl
theorem splitL_mem : ∀ {l : List UInt8} {x : List UInt8}, x ∈ splitL l → 47 ∉ x
  | [], x, h => by simp [splitL] at h; subst h; simp
  | c :: t, x, h => by
    rw [splitL] at h
    by_cases hc : c = 47
    · rw [if_pos hc] at h
      rcases List.mem_cons.1 h with h | h
      · subst h; simp
      · exact splitL_mem h
    · rw [if_neg hc] at h
      obtain ⟨y, r, e⟩ : ∃ x r, splitL t = x :: r := List.exists_cons_of_ne_nil (splitL_ne t)
      rw [e] at h
      rcases List.mem_cons.1 h with h | h
      · subst h
        have := splitL_mem (l := t) (x := y) (by rw [e]; simp)
        intro q
        rcases List.mem_cons.1 q with q | q
        · exact hc q.symm
        · exact this q
      · exact splitL_mem (l := t) (by rw [e]; exact List.mem_cons_of_mem _ h)
theorem joinL_splitL : ∀ (l : List UInt8), joinL (splitL l) = l
  | [] => rfl
  | c :: t => by
    have ih := joinL_splitL t
    rw [splitL]
    by_cases hc : c = 47
    · rw [if_pos hc, joinL_cons' _ (splitL_ne t), ih, hc]; rfl
    · rw [if_neg hc]
      obtain ⟨y, r, e⟩ : ∃ x r, splitL t = x :: r := List.exists_cons_of_ne_nil (splitL_ne t)
      rw [e] at ih ⊢
      show joinL ((c :: y) :: r) = _
      cases r with
      | nil => rw [joinL_one] at ih ⊢; rw [ih]
      | cons z r => rw [joinL_cons] at ih ⊢; rw [List.cons_append, ih]
theorem splitL_inj {a b : List UInt8} (h : splitL a = splitL b) : a = b := by rw [← joinL_splitL a, h, joinL_splitL]
theorem splitL_one {l : List UInt8} : (splitL l).length = 1 ↔ 47 ∉ l := by
  constructor
  · intro h
    obtain ⟨x, e⟩ := List.length_eq_one_iff.1 h
    have hl := joinL_splitL l
    rw [e, joinL_one] at hl
    have := splitL_mem (l := l) (x := x) (by rw [e]; simp)
    rw [← hl]; exact this
  · intro h; rw [splitL_plain h]; rfl
theorem joinL_append {p r : List (List UInt8)} (hp : p ≠ []) (hr : r ≠ []) : joinL (p ++ r) = joinL p ++ 47 :: joinL r := by
  induction p with
  | nil => exact absurd rfl hp
  | cons x p ih =>
    rw [List.cons_append]
    cases p with
    | nil => rw [List.nil_append, joinL_cons' _ hr, joinL_one]
    | cons y p =>
      rw [joinL_cons' x (show y :: p ++ r ≠ [] by simp), ih (by simp), joinL_cons, List.append_assoc, List.cons_append]
/-- The text a, then '/', begins b: a's pieces begin b's, which are more. -/
theorem prefix_pieces {a b : List UInt8} : (a ++ [47]) <+: b ↔ ∃ r, r ≠ [] ∧ splitL b = splitL a ++ r := by
  constructor
  · rintro ⟨t, rfl⟩
    exact ⟨splitL t, splitL_ne t, by rw [List.append_assoc]; exact splitL_cut a t⟩
  · rintro ⟨r, hr, e⟩
    refine ⟨joinL r, ?_⟩
    rw [← joinL_splitL b, e, joinL_append (splitL_ne a) hr, joinL_splitL, List.append_assoc]; rfl
/-- The last piece, and what stands ahead of it. -/
theorem splitL_last {l : List UInt8} {i : Nat} (hi : l[i]? = some 47) (hn : ∀ j, i < j → l[j]? ≠ some 47) : splitL l = splitL (l.take i) ++ [l.drop (i + 1)] := by
  have hlt := (List.getElem?_eq_some_iff.1 hi)
  obtain ⟨hl, he⟩ := hlt
  have e : l = l.take i ++ 47 :: l.drop (i + 1) := by
    conv => lhs; rw [← List.take_append_drop i l, List.drop_eq_getElem_cons hl, he]
  have hp : 47 ∉ l.drop (i + 1) := by
    intro h
    obtain ⟨k, hk, e2⟩ := List.getElem_of_mem h
    refine hn (i + 1 + k) (by omega) ?_
    rw [List.getElem_drop] at e2
    rw [List.length_drop] at hk
    exact List.getElem?_eq_some_iff.2 ⟨by omega, e2⟩
  conv => lhs; rw [e]
  rw [splitL_cut, splitL_plain hp]
theorem joinL_length {xs : List (List UInt8)} (h : xs ≠ []) : (joinL xs).length + 1 = Lib.lens xs + xs.length := by
  cases xs with
  | nil => exact absurd rfl h
  | cons x r => unfold joinL; rw [Lib.join_length]; simp; omega
theorem splitL_len' (l : List UInt8) : Lib.lens (splitL l) + (splitL l).length = l.length + 1 := by
  rw [← joinL_length (splitL_ne l), joinL_splitL]
end Go.Proofs.YtfkbmjfhakooiaaGreatDoor.PTree
