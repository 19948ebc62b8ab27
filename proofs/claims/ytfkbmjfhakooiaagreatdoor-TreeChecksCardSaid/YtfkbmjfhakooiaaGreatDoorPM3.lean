/- What the printed functions of paths compute: joins, orders, what lies above. Conditions: none. -/
import Derived.Test.YtfkbmjfhakooiaaGreatDoorPTreex3
import Derived.Test.YtfkbmjfhakooiaaGreatDoorPTreex7
import Derived.Test.YtfkbmjfhakooiaaGreatDoorPM2
namespace Go.Proofs.YtfkbmjfhakooiaaGreatDoor
open Go.RowKit Go.Proofs.YtfkbmjfhakooiaaGreatDoor.PTree Go.Proofs.YtfkbmjfhakooiaaGreatDoorW.PrintWords Go.Proofs.YtfkbmjfhakooiaaGreatDoorW.PrintLast
set_option linter.unusedSimpArgs false
set_option linter.unusedVariables false
namespace PM
/-! ### joins -/
def lists (xs : List ByteArray) : List (List UInt8) := xs.map (·.data.toList)
def joinB (xs : List ByteArray) : ByteArray := ⟨(joinL (lists xs)).toArray⟩
def tot : List ByteArray → Nat
  | [] => 0
  | x :: r => x.size + 1 + tot r
theorem lists_pieces (s : ByteArray) : lists (pieces s) = splitL s.data.toList := pieces_lists s
theorem joinB_list (xs : List ByteArray) : (joinB xs).data.toList = joinL (lists xs) := rfl
theorem tot_lens : ∀ xs : List ByteArray, tot xs = Lib.lens (lists xs) + xs.length
  | [] => rfl
  | x :: r => by
    have ih := tot_lens r
    simp only [tot, lists, Lib.lens, List.map_cons, List.sum_cons, List.length_cons] at ih ⊢
    rw [ih, dl]; omega
theorem joinB_size {xs : List ByteArray} (h : xs ≠ []) : (joinB xs).size + 1 = tot xs := by
  rw [tot_lens, ← dl, joinB_list, joinL_length (by unfold lists; simpa using h)]
  unfold lists; rw [List.length_map]
theorem joinB_pieces (s : ByteArray) : joinB (pieces s) = s := ba_ext (by rw [joinB_list, lists_pieces, joinL_splitL])
theorem pieces_joinB {xs : List ByteArray} (h : xs ≠ []) (hn : ∀ x ∈ xs, 47 ∉ x.data.toList) : pieces (joinB xs) = xs := by
  apply map_dl_inj
  rw [pieces_lists, joinB_list]
  show splitL (joinL (lists xs)) = lists xs
  refine splitL_joinL (by unfold lists; simpa using h) (fun x hx => ?_)
  obtain ⟨y, hy, rfl⟩ := List.mem_map.1 hx
  exact hn y hy
theorem tot_append : ∀ p r : List ByteArray, tot (p ++ r) = tot p + tot r
  | [], r => by simp [tot]
  | x :: p, r => by rw [List.cons_append, tot, tot, tot_append p r]; omega
theorem tot_pieces (s : ByteArray) : tot (pieces s) = s.size + 1 := by rw [← joinB_size (pieces_ne s), joinB_pieces]
def JoinP (xs : List ByteArray) : Prop := xs ≠ [] ∧ (∀ x ∈ xs, PartP x) ∧ tot xs ≤ 401
instance (xs : List ByteArray) : Decidable (JoinP xs) := inferInstanceAs (Decidable (_ ∧ _ ∧ _))
theorem part_size {x : ByteArray} (h : PartP x) : x.size ≤ 120 := by have := h.1.2.1; omega
theorem join_len (xs : List ByteArray) (h : xs ≠ []) : (Lib.join (xs.map (·.data.toList)) (⟨#[47]⟩ : ByteArray).data.toList).length + 1 = tot xs := by
  rw [← joinB_size h, ← dl, joinB_list]; rfl
theorem len_le_tot : ∀ xs : List ByteArray, xs.length ≤ tot xs
  | [] => Nat.le_refl _
  | x :: r => by have := len_le_tot r; rw [tot, List.length_cons]; omega
theorem pjoin_l (xs : List ByteArray) (hz : ∀ x ∈ xs, x.size ≤ 9223372036854775807) (hl : xs.length ≤ 1000000000000) : ∀ (m i n k : Nat), i + m = xs.length → n ≤ 401 → m + 1 ≤ k →
    path_Join.l0 k xs (n : Int) xs (xs.length : Int) (i : Int) = (if (∀ x ∈ xs.drop i, PartP x) ∧ n + tot (xs.drop i) ≤ 401 then (if xs = [] then some ((⟨#[]⟩ : ByteArray), some 12) else (strings_Join.f xs (⟨#[47]⟩ : ByteArray)).bind fun t => some (t, none)) else some ((⟨#[]⟩ : ByteArray), some 12))
  | 0, i, n, k, hi, hn, hk => by
    obtain ⟨k, rfl⟩ : ∃ j, k = j + 1 := ⟨k - 1, by omega⟩
    rw [List.drop_eq_nil_of_le (by omega), if_pos ⟨by simp, by simp [tot]; omega⟩]
    simp only [path_Join.l0]
    rw [if_neg (by omega)]
    by_cases h : xs = []
    · rw [if_pos h, if_pos (by rw [h]; rfl)]
    · rw [if_neg h, if_neg (by have := List.length_pos_iff.2 h; omega)]
  | m + 1, i, n, k, hi, hn, hk => by
    obtain ⟨k, rfl⟩ : ∃ j, k = j + 1 := ⟨k - 1, by omega⟩
    have hlt : i < xs.length := by omega
    have hrd : rdOf ByteArray.empty xs (i : Int) = xs[i] := by unfold rdOf; rw [Int.toNat_natCast, List.getD_eq_getElem?_getD, List.getElem?_eq_getElem hlt]; rfl
    simp only [path_Join.l0]
    rw [if_pos (by omega), if_pos (by omega), if_pos (by omega), hrd, part_f _ (hz _ (List.getElem_mem hlt)), Option.bind_some]
    rw [List.drop_eq_getElem_cons hlt]
    by_cases hp : PartP xs[i]
    · have hps := part_size hp
      rw [decide_eq_true hp, if_pos rfl, w64 (show -9223372036854775808 ≤ ((xs[i].size : Int) + 1) by omega) (by omega), w64 (by omega) (by omega), w64 (by omega) (by omega)]
      by_cases hb : (n : Int) + ((xs[i].size : Int) + 1) > 401
      · rw [if_pos hb, if_neg (fun h => by have := h.2; rw [tot] at this; omega)]
      · rw [if_neg hb, show (n : Int) + ((xs[i].size : Int) + 1) = ((n + (xs[i].size + 1) : Nat) : Int) by omega, show (i : Int) + 1 = ((i + 1 : Nat) : Int) by omega]
        rw [pjoin_l xs hz hl m (i + 1) _ k (by omega) (by omega) (by omega)]
        have : ((∀ x ∈ xs[i] :: xs.drop (i + 1), PartP x) ∧ n + tot (xs[i] :: xs.drop (i + 1)) ≤ 401) ↔ ((∀ x ∈ xs.drop (i + 1), PartP x) ∧ n + (xs[i].size + 1) + tot (xs.drop (i + 1)) ≤ 401) := by
          rw [tot]
          constructor
          · rintro ⟨h1, h2⟩; exact ⟨fun x hx => h1 x (List.mem_cons_of_mem _ hx), by omega⟩
          · rintro ⟨h1, h2⟩
            refine ⟨fun x hx => ?_, by omega⟩
            rcases List.mem_cons.1 hx with rfl | hx
            · exact hp
            · exact h1 x hx
        by_cases hq : ((∀ x ∈ xs[i] :: xs.drop (i + 1), PartP x) ∧ n + tot (xs[i] :: xs.drop (i + 1)) ≤ 401)
        · rw [if_pos hq, if_pos (this.1 hq)]
        · rw [if_neg hq, if_neg (fun h => hq (this.2 h))]
    · rw [decide_eq_false hp, if_neg (by simp), if_neg (fun h => hp (h.1 xs[i] (List.mem_cons_self ..)))]
theorem sjoin_f (xs : List ByteArray) (h : tot xs ≤ 401) (hne : xs ≠ []) : strings_Join.f xs (⟨#[47]⟩ : ByteArray) = some (joinB xs) := by
  unfold strings_Join.f
  have h1 := join_len xs hne
  have h2 := len_le_tot xs
  rw [if_pos ⟨by omega, by omega⟩]
  rfl
theorem pjoin_f (xs : List ByteArray) (k : Nat) (hz : ∀ x ∈ xs, x.size ≤ 9223372036854775807) (hl : xs.length ≤ 1000000000000) (hk : xs.length + 1 ≤ k) :
    path_Join.f k xs = some (if JoinP xs then (joinB xs, none) else ((⟨#[]⟩ : ByteArray), some 12)) := by
  unfold path_Join.f
  have := pjoin_l xs hz hl xs.length 0 0 k (by omega) (by omega) hk
  rw [show ((0 : Nat) : Int) = 0 from rfl, List.drop_zero] at this
  rw [this]
  by_cases h : JoinP xs
  · rw [if_pos h, if_pos ⟨h.2.1, by have := h.2.2; omega⟩, if_neg h.1, sjoin_f xs h.2.2 h.1]; rfl
  · rw [if_neg h]
    by_cases h2 : (∀ x ∈ xs, PartP x) ∧ 0 + tot xs ≤ 401
    · rw [if_pos h2]
      by_cases h3 : xs = []
      · rw [if_pos h3]
      · exact absurd ⟨h3, h2.1, by have := h2.2; omega⟩ h
    · rw [if_neg h2]
/-! ### Normal -/
theorem nall_mem : ∀ (q : List ByteArray) {l x}, nall q.reverse = some l → x ∈ l → x ∈ q
  | [], l, x, h, hx => by cases h; exact hx
  | y :: p, l, x, h, hx => by
    rw [List.reverse_cons, nall_snoc] at h
    obtain ⟨l1, e1, e2⟩ := Option.bind_eq_some_iff.1 h
    unfold nstep at e2
    have ih := fun hh => nall_mem p (x := x) e1 hh
    split at e2
    · cases e2; exact List.mem_cons_of_mem _ (ih hx)
    · split at e2
      · cases e2; exact List.mem_cons_of_mem _ (ih hx)
      · split at e2
        · split at e2
          · cases e2
          · cases e2; exact List.mem_cons_of_mem _ (ih (List.dropLast_subset _ hx))
        · cases e2
          rcases List.mem_append.1 hx with hx | hx
          · exact List.mem_cons_of_mem _ (ih hx)
          · simp at hx; subst hx; simp
theorem nall_mem' {q l : List ByteArray} {x : ByteArray} (h : nall q = some l) (hx : x ∈ l) : x ∈ q := by
  have := nall_mem q.reverse (l := l) (x := x) (by rw [List.reverse_reverse]; exact h) hx
  simpa using this
def normB (s : ByteArray) : ByteArray × Option Int := match nall (pieces s) with
  | none => ((⟨#[]⟩ : ByteArray), some 12)
  | some l => if JoinP l then (joinB l, none) else ((⟨#[]⟩ : ByteArray), some 12)
theorem normal_f (s : ByteArray) (k : Nat) (hs : s.size ≤ 1000000000) (hk : s.size + 2 ≤ k) : path_Normal.f k s = some (normB s) := by
  unfold path_Normal.f normB
  rw [if_pos (by omega)]
  have h1 := pieces_len s
  cases h : nall (pieces s) with
  | none => rfl
  | some l =>
    have h2 := nall_len h
    exact pjoin_f l k (fun x hx => by have := pieces_size (nall_mem' h hx); omega) (by omega) (by omega)
theorem nall_good : ∀ {q : List ByteArray}, (∀ x ∈ q, PartP x) → nall q = some q := by
  intro q
  suffices H : ∀ (p : List ByteArray), (∀ x ∈ p, PartP x) → nall p.reverse = some p.reverse by
    intro h
    have := H q.reverse (fun x hx => h x (by simpa using hx))
    rw [List.reverse_reverse] at this; exact this
  intro p
  induction p with
  | nil => intro _; rfl
  | cons x p ih =>
    intro h
    rw [List.reverse_cons, nall_snoc, ih (fun y hy => h y (List.mem_cons_of_mem _ hy)), Option.bind_some]
    have hx := h x (by simp)
    unfold nstep
    rw [if_neg (fun e => by subst e; have := hx.1.1; exact absurd this (by decide)), if_neg (fun e => by subst e; exact hx.2.1 rfl), if_neg (fun e => by subst e; exact hx.2.2.1 rfl)]
theorem good_join {xs : List ByteArray} (h : JoinP xs) : GoodP (joinB xs) ∧ pieces (joinB xs) = xs := by
  have e := pieces_joinB h.1 (fun x hx => (h.2.1 x hx).2.2.2)
  refine ⟨⟨?_, ?_⟩, e⟩
  · have := joinB_size h.1; have := h.2.2; omega
  · rw [e]; exact h.2.1
theorem join_good {s : ByteArray} (h : GoodP s) : JoinP (pieces s) := ⟨pieces_ne s, h.2, by rw [tot_pieces]; have := h.1; omega⟩
theorem norm_good {s : ByteArray} (h : GoodP s) : normB s = (s, none) := by
  unfold normB
  rw [nall_good h.2]
  show (if JoinP (pieces s) then _ else _) = _
  rw [if_pos (join_good h), joinB_pieces]
theorem norm_ok {s : ByteArray} (h : (normB s).2 = none) : GoodP (normB s).1 := by
  unfold normB at h ⊢
  cases hn : nall (pieces s) with
  | none => rw [hn] at h; simp at h
  | some l =>
    rw [hn] at h
    simp only at h ⊢
    by_cases hj : JoinP l
    · rw [if_pos hj]; exact (good_join hj).1
    · rw [if_neg hj] at h; simp at h
/-! ### Compare -/
def cB (a b : ByteArray) : Int := Lib.compareBytes a.data.toList b.data.toList
theorem cB_isCmp : IsCmp cB where
  anti a b := cmpB_isCmp.anti _ _
  eq0 a b := by unfold cB; rw [cmpB_isCmp.eq0]; exact ⟨ba_ext, fun h => by rw [h]⟩
  tri a b := cmpB_isCmp.tri _ _
  trans a b d := cmpB_isCmp.trans _ _ _
def cQ (a b : ByteArray) : Int := lexC cB (pieces a) (pieces b)
theorem cQ_isCmp : IsCmp cQ where
  anti a b := (lexC_isCmp cB_isCmp).anti _ _
  eq0 a b := by unfold cQ; rw [(lexC_isCmp cB_isCmp).eq0]; exact ⟨pieces_inj, fun h => by rw [h]⟩
  tri a b := (lexC_isCmp cB_isCmp).tri _ _
  trans a b d := (lexC_isCmp cB_isCmp).trans _ _ _
theorem cut_f (s : ByteArray) (hs : s.size ≤ 4611686018427387904) : ∃ h r m, strings_Cut.f s (⟨#[47]⟩ : ByteArray) = some (h, r, m) ∧ ((m = false ∧ pieces s = [h]) ∨ (m = true ∧ pieces s = h :: pieces r ∧ r.size < s.size)) := by
  unfold strings_Cut.f stringslite_Cut.f stringslite_Index.f idx1
  rw [if_pos (by rfl), Option.bind_some]
  have hh : ((⟨#[47]⟩ : ByteArray).data.toList.headD 0) = (47 : UInt8) := rfl
  have z : ((⟨#[47]⟩ : ByteArray).size : Int) = 1 := rfl
  rw [hh, z]
  by_cases h0 : Lib.indexByte s.data.toList 47 < 0
  · rw [if_neg (by omega), Option.bind_some]
    exact ⟨_, _, _, rfl, .inl ⟨rfl, pieces_none h0⟩⟩
  · obtain ⟨p, hp⟩ : ∃ p : Nat, Lib.indexByte s.data.toList 47 = p := ⟨(Lib.indexByte s.data.toList 47).toNat, by omega⟩
    obtain ⟨e1, e2⟩ := pieces_some hp
    rw [hp, w64 (show -9223372036854775808 ≤ (p : Int) + 1 by omega) (by omega), if_pos (by omega), if_pos (by omega), if_pos (by omega), if_pos (by omega), if_pos (by omega), Option.bind_some]
    refine ⟨_, _, _, rfl, .inr ⟨rfl, ?_, ?_⟩⟩
    · rw [e1, Int.toNat_natCast, show ((p : Int) + 1).toNat = p + 1 by omega]
    · rw [ByteArray.size_extract, show ((p : Int) + 1).toNat = p + 1 by omega]; omega
theorem cmp_l : ∀ (n : Nat) (a b : ByteArray) (k : Nat), a.size ≤ n → a.size ≤ 4611686018427387904 → b.size ≤ 4611686018427387904 → 2 * n + 3 ≤ k → path_Compare.l0 k a b = some (cQ a b) := by
  intro n
  induction n with
  | zero =>
    intro a b k ha hA hB hk
    obtain ⟨k, rfl⟩ : ∃ j, k = j + 2 := ⟨k - 2, by omega⟩
    simp only [path_Compare.l0]
    obtain ⟨h1, r1, m1, e1, p1⟩ := cut_f a hA
    obtain ⟨h2, r2, m2, e2, p2⟩ := cut_f b hB
    rw [e1, e2, Option.bind_some, Option.bind_some]
    simp only [strings_Compare.f, Option.bind_some]
    rcases p1 with ⟨rfl, p1⟩ | ⟨rfl, p1, q1⟩
    · unfold cQ
      rw [p1]
      have hcb : ∀ q : List ByteArray, lexC cB [h1] (h2 :: q) = if cB h1 h2 = 0 then lexC cB [] q else cB h1 h2 := fun q => rfl
      rcases p2 with ⟨rfl, p2⟩ | ⟨rfl, p2, q2⟩
      · rw [p2, hcb]
        by_cases hz : Lib.compareBytes h1.data.toList h2.data.toList = 0
        · rw [if_pos hz, if_pos (show cB h1 h2 = 0 from hz)]; rfl
        · rw [if_neg hz, if_neg (show ¬ cB h1 h2 = 0 from hz)]; rfl
      · rw [p2, hcb]
        by_cases hz : Lib.compareBytes h1.data.toList h2.data.toList = 0
        · rw [if_pos hz, if_pos (show cB h1 h2 = 0 from hz)]
          obtain ⟨x, r, e⟩ := List.exists_cons_of_ne_nil (pieces_ne r2)
          rw [e]; rfl
        · rw [if_neg hz, if_neg (show ¬ cB h1 h2 = 0 from hz)]; rfl
    · omega
  | succ n ih =>
    intro a b k ha hA hB hk
    obtain ⟨k, rfl⟩ : ∃ j, k = j + 2 := ⟨k - 2, by omega⟩
    simp only [path_Compare.l0]
    obtain ⟨h1, r1, m1, e1, p1⟩ := cut_f a hA
    obtain ⟨h2, r2, m2, e2, p2⟩ := cut_f b hB
    rw [e1, e2, Option.bind_some, Option.bind_some]
    simp only [strings_Compare.f, Option.bind_some]
    have hcb : ∀ p q : List ByteArray, lexC cB (h1 :: p) (h2 :: q) = if cB h1 h2 = 0 then lexC cB p q else cB h1 h2 := fun p q => rfl
    unfold cQ
    rcases p1 with ⟨rfl, p1⟩ | ⟨rfl, p1, q1⟩
    · rw [p1]
      rcases p2 with ⟨rfl, p2⟩ | ⟨rfl, p2, q2⟩
      · rw [p2, hcb]
        by_cases hz : Lib.compareBytes h1.data.toList h2.data.toList = 0
        · rw [if_pos hz, if_pos (show cB h1 h2 = 0 from hz)]; rfl
        · rw [if_neg hz, if_neg (show ¬ cB h1 h2 = 0 from hz)]; rfl
      · rw [p2, hcb]
        by_cases hz : Lib.compareBytes h1.data.toList h2.data.toList = 0
        · rw [if_pos hz, if_pos (show cB h1 h2 = 0 from hz)]
          obtain ⟨x, r, e⟩ := List.exists_cons_of_ne_nil (pieces_ne r2)
          rw [e]; rfl
        · rw [if_neg hz, if_neg (show ¬ cB h1 h2 = 0 from hz)]; rfl
    · rw [p1]
      rcases p2 with ⟨rfl, p2⟩ | ⟨rfl, p2, q2⟩
      · rw [p2, hcb]
        by_cases hz : Lib.compareBytes h1.data.toList h2.data.toList = 0
        · rw [if_pos hz, if_pos (show cB h1 h2 = 0 from hz)]
          obtain ⟨x, r, e⟩ := List.exists_cons_of_ne_nil (pieces_ne r1)
          rw [e]; rfl
        · rw [if_neg hz, if_neg (show ¬ cB h1 h2 = 0 from hz)]; rfl
      · rw [p2, hcb]
        by_cases hz : Lib.compareBytes h1.data.toList h2.data.toList = 0
        · rw [if_pos hz, if_pos (show cB h1 h2 = 0 from hz)]
          exact ih r1 r2 k (by omega) (by omega) (by omega) (by omega)
        · rw [if_neg hz, if_neg (show ¬ cB h1 h2 = 0 from hz)]; rfl
theorem cmp_f (a b : ByteArray) (k : Nat) (hA : a.size ≤ 4611686018427387904) (hB : b.size ≤ 4611686018427387904) (hk : 2 * a.size + 3 ≤ k) : path_Compare.f k a b = some (cQ a b) := cmp_l a.size a b k (Nat.le_refl _) hA hB hk
/-! ### Above -/
def AboveP (a b : ByteArray) : Prop := GoodP a ∧ GoodP b ∧ (a.data.toList ++ [47]) <+: b.data.toList
instance (a b : ByteArray) : Decidable (AboveP a b) := inferInstanceAs (Decidable (_ ∧ _ ∧ _))
theorem hasPrefix_f (b p : ByteArray) : strings_HasPrefix.f b p = some (decide (p.data.toList <+: b.data.toList)) := by
  unfold strings_HasPrefix.f stringslite_HasPrefix.f
  by_cases h : (b.size : Int) ≥ (p.size : Int)
  · rw [if_pos h, if_pos (by omega), if_pos (by omega), Option.bind_some, Int.toNat_natCast, ba_tl, ba_tl, ext_list, List.drop_zero]
    congr 1
    by_cases he : List.take p.size b.data.toList = p.data.toList
    · rw [decide_eq_true (List.prefix_iff_eq_take.2 (by rw [dl]; exact he.symm))]; simpa using he
    · rw [decide_eq_false (fun h => he (by have := List.prefix_iff_eq_take.1 h; rw [dl] at this; exact this.symm))]; simpa using he
  · rw [if_neg h, Option.bind_some]
    rw [decide_eq_false]
    intro hp
    have := hp.length_le
    rw [dl, dl] at this; omega
theorem above_f (a b : ByteArray) (k : Nat) (hk : 500 ≤ k) : path_Above.f k a b = some (decide (AboveP a b)) := by
  unfold path_Above.f
  rw [good_f a k hk, good_f b k hk, Option.bind_some, Option.bind_some]
  by_cases ha : GoodP a
  · rw [decide_eq_true ha, if_pos rfl]
    by_cases hb : GoodP b
    · rw [decide_eq_true hb, if_pos rfl, if_pos (by have := ha.1; omega), hasPrefix_f, Option.bind_some]
      congr 1
      apply decide_eq_decide.2
      rw [show (a ++ (⟨#[47]⟩ : ByteArray)).data.toList = a.data.toList ++ [47] by simp]
      exact ⟨fun h => ⟨ha, hb, h⟩, fun h => h.2.2⟩
    · rw [decide_eq_false hb, if_neg (by simp), decide_eq_false (fun h => hb h.2.1)]
  · rw [decide_eq_false ha, if_neg (by simp), decide_eq_false (fun h => ha h.1)]
theorem prefix_B {a b : ByteArray} : (a.data.toList ++ [47]) <+: b.data.toList ↔ ∃ r, r ≠ [] ∧ pieces b = pieces a ++ r := by
  rw [prefix_pieces]
  constructor
  · rintro ⟨r, hr, e⟩
    refine ⟨r.map fun l => ⟨l.toArray⟩, by simpa using hr, ?_⟩
    unfold pieces
    rw [e, List.map_append]
  · rintro ⟨r, hr, e⟩
    refine ⟨lists r, by unfold lists; simpa using hr, ?_⟩
    rw [← pieces_lists, ← pieces_lists, e, List.map_append]; rfl
theorem above_iff {a b : ByteArray} : AboveP a b ↔ GoodP a ∧ GoodP b ∧ ∃ r, r ≠ [] ∧ pieces b = pieces a ++ r := by
  unfold AboveP; rw [prefix_B]
/-! ### Nests -/
theorem above_cmp {a b : ByteArray} (h : AboveP a b) : cQ a b = -1 := by
  obtain ⟨_, _, r, hr, e⟩ := above_iff.1 h
  unfold cQ; rw [e]; exact lexC_append cB_isCmp _ hr
theorem above_anti {a b : ByteArray} (h : AboveP a b) : ¬ AboveP b a := by
  intro h2
  have e1 := above_cmp h
  have e2 := above_cmp h2
  have := cQ_isCmp.anti a b
  omega
theorem above_trans {a b c : ByteArray} (h : AboveP a b) (h2 : AboveP b c) : AboveP a c := by
  obtain ⟨g1, _, r, hr, e⟩ := above_iff.1 h
  obtain ⟨_, g3, q, hq, e2⟩ := above_iff.1 h2
  exact above_iff.2 ⟨g1, g3, r ++ q, by simp [hr], by rw [e2, e, List.append_assoc]⟩
theorem above_nest {a b c : ByteArray} (h : AboveP a b) (hc : GoodP c) (hne : c ≠ a) (hn : ¬ AboveP a c) : cQ a c = cQ b c := by
  obtain ⟨g1, _, r, hr, e⟩ := above_iff.1 h
  unfold cQ
  rw [e]
  refine (lexC_nest cB_isCmp _ r _ ?_).symm
  rintro ⟨q, hq⟩
  by_cases hq0 : q = []
  · subst hq0
    rw [List.append_nil] at hq
    exact hne (pieces_inj hq.symm)
  · exact hn (above_iff.2 ⟨g1, hc, q, hq0, hq.symm⟩)
end PM
end Go.Proofs.YtfkbmjfhakooiaaGreatDoor
