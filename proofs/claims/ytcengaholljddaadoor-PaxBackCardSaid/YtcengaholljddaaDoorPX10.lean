import Derived.Test.YtcengaholljddaaDoorPX9
import Derived.Test.YtcengaholljddaaDoorPPaxx7
import Derived.Test.YtcengaholljddaaDoorPPaxx8
import Derived.Test.YtcengaholljddaaDoorPPaxx9
namespace Go.Proofs.YtcengaholljddaaDoor
open Go.RowKit Go.Proofs.YtcengaholljddaaDoor.PPax Go.Proofs.YtcengaholljddaaDoorW.PrintWords Go.Proofs.YtcengaholljddaaDoorW.PrintLast
set_option linter.unusedSimpArgs false
set_option linter.unusedVariables false
namespace PX
/-! ### Encode -/
theorem rd_get (l : List S44) (i : Nat) (h : i < l.length) : rd_T44 l (i : Int) = l[i] := by
  unfold rd_T44
  rw [Int.toNat_natCast, List.getD_eq_getElem?_getD, List.getElem?_eq_getElem h, Option.getD_some]
theorem rd_mem (l : List S44) (i : Nat) (h : i < l.length) : rd_T44 l (i : Int) ∈ l := by rw [rd_get l i h]; exact List.getElem_mem h
def encV (l : List S44) : Nat → Nat → List Int → Option (List Int)
  | 0, _, out => some out
  | m + 1, i, out => match lineB (rd_T44 l i).f0 (rd_T44 l i).f1 with
    | none => none
    | some s => if (decide (0 < i) && !(Op.bytesLess (rd_T44 l ((i : Int) - 1)).f0.toList (rd_T44 l i).f0.toList)) = true then none
      else if out.length + s.size > 65536 then none else encV l m (i + 1) (out ++ bytesOf s)
def eOut : Option (List Int) → List Int × Option Int
  | some o => (o, none)
  | none => ([], some 15)
def eOut2 : Option (List Int) → List Int × Int
  | some o => (o, 0)
  | none => ([], 15)
theorem bytesOf_length (s : ByteArray) : (bytesOf s).length = s.size := by unfold bytesOf; rw [List.length_map, Array.length_toList]; rfl
theorem lineB_size {key val s : ByteArray} (h : lineB key val = some s) : s.size ≤ 65536 := (lineB_shape h).2.1
theorem encode_l (l : List S44) (S : Nat) (hS : ∀ x ∈ l, x.f0.size ≤ S) (hl : l.length ≤ 4398046510976) : ∀ (m i : Nat) (out : List Int) (k : Nat), i + m = l.length → out.length ≤ 65536 → S + 70000 + m ≤ k → pax_Encode.l0 k l out l (l.length : Int) (i : Int) = some (eOut (encV l m i out)) := by
  intro m
  induction m with
  | zero =>
    intro i out k h1 h2 hk
    obtain ⟨k, rfl⟩ : ∃ j, k = j + 1 := ⟨k - 1, by omega⟩
    simp only [pax_Encode.l0]
    rw [if_neg (by omega)]; rfl
  | succ m ih =>
    intro i out k h1 h2 hk
    obtain ⟨k, rfl⟩ : ∃ j, k = j + 1 := ⟨k - 1, by omega⟩
    have hi : i < l.length := by omega
    have hks := hS _ (rd_mem l i hi)
    have e1 : Aside0 (wrap64 ((i : Int) + 1) = ((i + 1 : Nat) : Int)) := ⟨by rw [w64 (by omega) (by omega)]; rfl⟩
    have e2 : Aside0 (wrap64 ((i : Int) - 1) = (i : Int) - 1) := ⟨w64 (by omega) (by omega)⟩
    simp only [pax_Encode.l0, e1.out, e2.out]
    rw [if_pos (by omega), if_pos (by omega), if_pos (by omega), line_f _ _ k (by omega), Option.bind_some]
    unfold encV
    cases hL : lineB (rd_T44 l (i : Int)).f0 (rd_T44 l (i : Int)).f1 with
    | none => rfl
    | some s =>
      have hs := lineB_size hL
      have e3 : Aside0 (wrap64 ((out.length : Int) + (s.size : Int)) = (out.length : Int) + (s.size : Int)) := ⟨w64 (by omega) (by omega)⟩
      simp only [out1, Option.isNone_none, if_true, e3.out]
      have tail : (if (out.length : Int) + (s.size : Int) > 65536 then (some (([] : List Int), some (15 : Int))) else (if out.length + s.size < 140737488355328 then (pax_Encode.l0 k l (out ++ bytesOf s) l (l.length : Int) ((i + 1 : Nat) : Int)) else (none))) = some (eOut (if out.length + s.size > 65536 then none else encV l m (i + 1) (out ++ bytesOf s))) := by
        by_cases hc : out.length + s.size > 65536
        · rw [if_pos (by omega), if_pos hc]; rfl
        · rw [if_neg (by omega), if_neg hc, if_pos (by omega)]
          exact ih (i + 1) (out ++ bytesOf s) k (by omega) (by rw [List.length_append, bytesOf_length]; omega) (by omega)
      by_cases h0 : 0 < i
      · rw [if_pos (by omega), if_pos (by omega), if_pos (by omega), decide_eq_true h0, Bool.true_and]
        cases hb : Op.bytesLess (rd_T44 l ((i : Int) - 1)).f0.toList (rd_T44 l (i : Int)).f0.toList with
        | true => rw [if_pos rfl, if_neg (show ¬ ((!true) = true) by simp)]; exact tail
        | false => rw [if_neg (show ¬ (false = true) by simp), if_pos (show (!false) = true by rfl)]; rfl
      · rw [if_neg (by omega), decide_eq_false h0, Bool.false_and, if_neg (show ¬ (false = true) by simp)]; exact tail
theorem rencode_l (l : List S44) (S : Nat) (hS : ∀ x ∈ l, x.f0.size ≤ S) (hS2 : S ≤ 140737488351232) (hl : l.length ≤ 4398046510976) : ∀ (m i : Nat) (out : List Int) (k : Nat), i + m = l.length → out.length ≤ 65536 → S + 150000 + 2 * m ≤ k → amphoraref11_Encode.l0 k l out (i : Int) = some (eOut2 (encV l m i out)) := by
  intro m
  induction m with
  | zero =>
    intro i out k h1 h2 hk
    obtain ⟨k, rfl⟩ : ∃ j, k = j + 1 := ⟨k - 1, by omega⟩
    simp only [amphoraref11_Encode.l0]
    rw [if_neg (by omega)]; rfl
  | succ m ih =>
    intro i out k h1 h2 hk
    obtain ⟨k, rfl⟩ : ∃ j, k = j + 2 := ⟨k - 2, by omega⟩
    have hi : i < l.length := by omega
    have hks := hS _ (rd_mem l i hi)
    have e1 : Aside0 (wrap64 ((i : Int) + 1) = ((i + 1 : Nat) : Int)) := ⟨by rw [w64 (by omega) (by omega)]; rfl⟩
    have e2 : Aside0 (wrap64 ((i : Int) - 1) = (i : Int) - 1) := ⟨w64 (by omega) (by omega)⟩
    simp only [amphoraref11_Encode.l0, e2.out]
    rw [if_pos (by omega), if_pos (by omega), rline_f _ _ (by omega) (k + 1) (by omega), Option.bind_some]
    unfold encV
    cases hL : lineB (rd_T44 l (i : Int)).f0 (rd_T44 l (i : Int)).f1 with
    | none => simp only [out2, amphoraref11_Encode.j1]; rw [if_neg (by omega), if_pos trivial]; rfl
    | some s =>
      have hs := lineB_size hL
      simp only [out2]
      rw [if_pos trivial]
      have tail : amphoraref11_Encode.j1 (k + 1) l out (i : Int) s false = some (eOut2 (if out.length + s.size > 65536 then none else encV l m (i + 1) (out ++ bytesOf s))) := by
        simp only [amphoraref11_Encode.j1, e1.out]
        rw [if_neg (by simp), if_pos (by omega), Option.bind_some]
        have hz : (out ++ bytesOf s).length = out.length + s.size := by rw [List.length_append, bytesOf_length]
        by_cases hc : out.length + s.size > 65536
        · rw [if_pos (by omega), if_pos hc]; rfl
        · rw [if_neg (by omega), if_neg hc]
          exact ih (i + 1) (out ++ bytesOf s) k (by omega) (by omega) (by omega)
      by_cases h0 : 0 < i
      · rw [if_pos (by omega), if_pos (by omega), if_pos (by omega), decide_eq_true h0, Bool.true_and]
        cases hb : Op.bytesLess (rd_T44 l ((i : Int) - 1)).f0.toList (rd_T44 l (i : Int)).f0.toList with
        | true => rw [if_neg (show ¬ ((!true) = true) by simp)]; exact tail
        | false => rw [if_pos (show (!false) = true by rfl)]; simp only [amphoraref11_Encode.j1]; rfl
      · rw [if_neg (by omega), decide_eq_false h0, Bool.false_and, if_neg (show ¬ (false = true) by simp)]; exact tail
/-! ### Find -/
def step (key : ByteArray) (s : ByteArray × Bool) (r : S44) : ByteArray × Bool := if (!s.2 && (r.f0.toList == key.toList)) = true then (r.f1, true) else s
def seen (key : ByteArray) (l : List S44) : ByteArray × Bool := l.foldl (step key) ((⟨#[]⟩ : ByteArray), false)
theorem seen_snoc (key : ByteArray) (l : List S44) (i : Nat) (h : i < l.length) : seen key (l.take (i + 1)) = step key (seen key (l.take i)) (rd_T44 l (i : Int)) := by
  unfold seen
  rw [List.take_add_one, List.getElem?_eq_getElem h, rd_get l i h, List.foldl_append]; rfl
theorem fold_true (key v : ByteArray) : ∀ l : List S44, l.foldl (step key) (v, true) = (v, true)
  | [] => rfl
  | a :: r => by
    show r.foldl (step key) (step key (v, true) a) = _
    have : step key (v, true) a = (v, true) := by unfold step; rw [if_neg (by simp)]
    rw [this]; exact fold_true key v r
theorem find_l (key : ByteArray) (l : List S44) (hl : l.length ≤ 4398046510976) : ∀ (m i k : Nat), i + m = l.length → m + 1 ≤ k → pax_Find.l0 k key l (l.length : Int) (i : Int) = some ((l.drop i).foldl (step key) ((⟨#[]⟩ : ByteArray), false)) := by
  intro m
  induction m with
  | zero =>
    intro i k h1 hk
    obtain ⟨k, rfl⟩ : ∃ j, k = j + 1 := ⟨k - 1, by omega⟩
    simp only [pax_Find.l0]
    rw [if_neg (by omega), List.drop_eq_nil_of_le (by omega)]; rfl
  | succ m ih =>
    intro i k h1 hk
    obtain ⟨k, rfl⟩ : ∃ j, k = j + 1 := ⟨k - 1, by omega⟩
    have hi : i < l.length := by omega
    have e1 : Aside0 (wrap64 ((i : Int) + 1) = ((i + 1 : Nat) : Int)) := ⟨by rw [w64 (by omega) (by omega)]; rfl⟩
    simp only [pax_Find.l0, e1.out]
    rw [if_pos (by omega), if_pos (by omega), if_pos (by omega), List.drop_eq_getElem_cons hi, List.foldl_cons, rd_get l i hi]
    unfold step
    by_cases hc : (l[i]).f0.toList = key.toList
    · rw [if_pos hc, if_pos (show (!false && ((l[i]).f0.toList == key.toList)) = true by rw [hc]; simp)]
      exact congrArg some (fold_true key _ _).symm
    · rw [if_neg hc, if_neg (show ¬ (!false && ((l[i]).f0.toList == key.toList)) = true by simp [hc])]
      exact ih (i + 1) k (by omega) (by omega)
theorem find_f (key : ByteArray) (l : List S44) (hl : l.length ≤ 4398046510976) (k : Nat) (hk : l.length + 1 ≤ k) : pax_Find.f k l key = some (seen key l) := by
  unfold pax_Find.f
  exact find_l key l hl l.length 0 k (by omega) hk
/-! ### large -/
theorem large_l (l : List S44) (hz : ∀ x ∈ l, x.f0.size ≤ 140737488351232 ∧ x.f1.size ≤ 140737488351232) (hl : l.length ≤ 4398046510976) : ∀ (m i n k : Nat), i + m = l.length → n ≤ 262144 → m + 1 ≤ k → ∃ r, amphoralaw11_large.l0 k (n : Int) l (l.length : Int) (i : Int) = some r ∧ (r = false → n + m ≤ 262144 ∧ ∀ x ∈ l.drop i, x.f0.size ≤ 262144) := by
  intro m
  induction m with
  | zero =>
    intro i n k h1 h2 hk
    obtain ⟨k, rfl⟩ : ∃ j, k = j + 1 := ⟨k - 1, by omega⟩
    refine ⟨false, ?_, fun _ => ⟨by omega, fun x hx => ?_⟩⟩
    · simp only [amphoralaw11_large.l0]
      rw [if_neg (by omega)]
    · rw [List.drop_eq_nil_of_le (by omega)] at hx; cases hx
  | succ m ih =>
    intro i n k h1 h2 hk
    obtain ⟨k, rfl⟩ : ∃ j, k = j + 1 := ⟨k - 1, by omega⟩
    have hi : i < l.length := by omega
    obtain ⟨z0, z1⟩ := hz _ (rd_mem l i hi)
    have e1 : Aside0 (wrap64 ((i : Int) + 1) = ((i + 1 : Nat) : Int)) := ⟨by rw [w64 (by omega) (by omega)]; rfl⟩
    have e2 : Aside0 (wrap64 ((n : Int) + wrap64 (wrap64 (1 + ((rd_T44 l (i : Int)).f0.size : Int)) + ((rd_T44 l (i : Int)).f1.size : Int))) = ((n + (1 + (rd_T44 l (i : Int)).f0.size + (rd_T44 l (i : Int)).f1.size) : Nat) : Int)) := ⟨by
      rw [w64 (n := 1 + ((rd_T44 l (i : Int)).f0.size : Int)) (by omega) (by omega), w64 (n := 1 + ((rd_T44 l (i : Int)).f0.size : Int) + ((rd_T44 l (i : Int)).f1.size : Int)) (by omega) (by omega), w64 (by omega) (by omega)]; omega⟩
    simp only [amphoralaw11_large.l0, e1.out, e2.out]
    rw [if_pos (by omega), if_pos (by omega), if_pos (by omega)]
    by_cases hc : n + (1 + (rd_T44 l (i : Int)).f0.size + (rd_T44 l (i : Int)).f1.size) > 262144
    · rw [if_pos (by omega)]
      exact ⟨true, rfl, fun h => by cases h⟩
    · rw [if_neg (by omega)]
      obtain ⟨r, h3, h4⟩ := ih (i + 1) (n + (1 + (rd_T44 l (i : Int)).f0.size + (rd_T44 l (i : Int)).f1.size)) k (by omega) (by omega) (by omega)
      refine ⟨r, h3, fun hr => ?_⟩
      obtain ⟨h5, h6⟩ := h4 hr
      refine ⟨by omega, fun x hx => ?_⟩
      rw [List.drop_eq_getElem_cons hi, ← rd_get l i hi] at hx
      rcases List.mem_cons.1 hx with rfl | hx
      · omega
      · exact h6 x hx
theorem large_f (l : List S44) (hz : ∀ x ∈ l, x.f0.size ≤ 140737488351232 ∧ x.f1.size ≤ 140737488351232) (hl : l.length ≤ 4398046510976) (k : Nat) (hk : l.length + 1 ≤ k) : ∃ r, amphoralaw11_large.f k l = some r ∧ (r = false → l.length ≤ 262144 ∧ ∀ x ∈ l, x.f0.size ≤ 262144) := by
  obtain ⟨r, h1, h2⟩ := large_l l hz hl l.length 0 0 k (by omega) (by omega) hk
  refine ⟨r, h1, fun hr => ?_⟩
  obtain ⟨h3, h4⟩ := h2 hr
  exact ⟨by omega, fun x hx => h4 x (by rw [List.drop_zero]; exact hx)⟩
theorem encode_f (l : List S44) (hS : ∀ x ∈ l, x.f0.size ≤ 262144) (hl : l.length ≤ 262144) (k : Nat) (hk : 2000000 ≤ k) : pax_Encode.f k l = some (eOut (encV l l.length 0 [])) :=
  encode_l l 262144 hS (by omega) l.length 0 [] k (by omega) (by simp) (by omega)
theorem rencode_f (l : List S44) (hS : ∀ x ∈ l, x.f0.size ≤ 262144) (hl : l.length ≤ 262144) (k : Nat) (hk : 2000000 ≤ k) : amphoraref11_Encode.f k l = some (eOut2 (encV l l.length 0 [])) :=
  rencode_l l 262144 hS (by omega) (by omega) l.length 0 [] k (by omega) (by simp) (by omega)
theorem encodes (l : List S44) (key : ByteArray) (hz : ∀ x ∈ l, x.f0.size ≤ 140737488351232 ∧ x.f1.size ≤ 140737488351232) (hl : l.length ≤ 4398046510976) :
    ∃ k, 300 ≤ k ∧ (amphoralaw11_large.f k l = some true ∨ amphoralaw11_large.f k l = some false ∧ l.length ≤ 262144 ∧ ∃ b e q, pax_Encode.f k l = some (b, e) ∧ amphoraref11_Encode.f k l = some (b, q) ∧ amphoranum_Num.f e = some q ∧ b.length ≤ 65536 ∧ pax_Find.f k l key = some (seen key l) ∧ amphoraref11_Same.f k l l = some true) := by
  refine ⟨2000000 + l.length, by omega, ?_⟩
  obtain ⟨r, h1, h2⟩ := large_f l hz hl (2000000 + l.length) (by omega)
  cases r with
  | true => exact .inl h1
  | false =>
    obtain ⟨h3, h4⟩ := h2 rfl
    refine .inr ⟨h1, h3, (eOut (encV l l.length 0 [])).1, (eOut (encV l l.length 0 [])).2, (eOut2 (encV l l.length 0 [])).2, encode_f l h4 h3 _ (by omega), ?_, ?_, ?_, find_f key l hl _ (by omega), same_f l (by omega) _ (by omega)⟩
    · rw [rencode_f l h4 h3 _ (by omega)]; cases encV l l.length 0 [] <;> rfl
    · cases encV l l.length 0 [] <;> rfl
    · have enc_len : ∀ (m i : Nat) (out o : List Int), out.length ≤ 65536 → encV l m i out = some o → o.length ≤ 65536 := by
        intro m
        induction m with
        | zero => intro i out o h hh; unfold encV at hh; injection hh with hh; subst hh; exact h
        | succ m ih =>
          intro i out o h hh
          unfold encV at hh
          split at hh
          · cases hh
          · split at hh
            · cases hh
            · split at hh
              · cases hh
              · exact ih _ _ _ (by rw [List.length_append, bytesOf_length]; omega) hh
      cases he : encV l l.length 0 [] with
      | none => simp [eOut]
      | some o => exact enc_len _ _ _ _ (by simp) he
end PX
end Go.Proofs.YtcengaholljddaaDoor
