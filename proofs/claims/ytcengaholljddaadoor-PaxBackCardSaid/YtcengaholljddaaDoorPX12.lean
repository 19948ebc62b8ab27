import Derived.Test.YtcengaholljddaaDoorPX10
namespace Go.Proofs.YtcengaholljddaaDoor
open Go.RowKit Go.Proofs.YtcengaholljddaaDoor.PPax Go.Proofs.YtcengaholljddaaDoorW.PrintWords Go.Proofs.YtcengaholljddaaDoorW.PrintLast
set_option linter.unusedSimpArgs false
set_option linter.unusedVariables false
namespace PX
/-! ### there and back -/
theorem libOf (s : ByteArray) : Lib.bytesOf (bytesOf s) = bl s := by
  unfold Lib.bytesOf bytesOf
  rw [List.map_map]
  have : ((fun n : Int => UInt8.ofNat n.toNat) ∘ fun b : UInt8 => (b.toNat : Int)) = id := by
    funext b
    show UInt8.ofNat ((b.toNat : Int)).toNat = b
    rw [Int.toNat_natCast]
    exact UInt8.ofNat_toNat
  rw [this, List.map_id]
theorem lib_of (b : List Int) (hB : Byt b) (s : ByteArray) (h : bl s = (Lib.bytesOf b).take s.size) : bytesOf s = b.take s.size := by
  unfold bytesOf
  show (bl s).map _ = _
  rw [h]
  unfold Lib.bytesOf
  rw [← List.map_take, List.map_map]
  refine (List.map_congr_left (g := id) fun x hx => ?_).trans (List.map_id _)
  have := hB x (List.mem_of_mem_take hx)
  show ((UInt8.ofNat x.toNat).toNat : Int) = x
  have e : (UInt8.ofNat x.toNat).toNat = x.toNat := by simp; omega
  rw [e]; omega
theorem rd_app_last (out : List S44) (r : S44) (rest : List S44) : rd_T44 (out ++ r :: rest) (out.length : Int) = r := by
  unfold rd_T44
  rw [Int.toNat_natCast, List.getD_eq_getElem?_getD, List.getElem?_append_right (Nat.le_refl _), Nat.sub_self]; rfl
theorem rd_app_prev (out rest : List S44) (h : 0 < out.length) : rd_T44 (out ++ rest) ((out.length : Int) - 1) = rd_T44 out ((out.length : Int) - 1) := by
  unfold rd_T44
  rw [List.getD_eq_getElem?_getD, List.getD_eq_getElem?_getD, List.getElem?_append_left (by omega)]
/-- What was decoded is encoded again. -/
theorem dec_enc : ∀ (m : Nat) (b : List Int) (out o : List S44) (E : List Int), Byt b → b.length ≤ m → E.length + b.length ≤ 65536 → dec m b out = some o → ∃ rest, o = out ++ rest ∧ encV o rest.length out.length E = some (E ++ b) := by
  intro m
  induction m with
  | zero =>
    intro b out o E hB h1 h2 h
    unfold dec at h
    injection h with h
    subst h
    have hb : b = [] := List.eq_nil_of_length_eq_zero (by omega)
    exact ⟨[], by rw [List.append_nil], by rw [hb, List.append_nil]; rfl⟩
  | succ m ih =>
    intro b out o E hB h1 h2 h
    unfold dec at h
    by_cases hb : b.length = 0
    · rw [if_pos hb] at h
      injection h with h
      subst h
      have hb : b = [] := List.eq_nil_of_length_eq_zero hb
      exact ⟨[], by rw [List.append_nil], by rw [hb, List.append_nil]; rfl⟩
    · rw [if_neg hb] at h
      cases hs : stepV (Lib.bytesOf b) with
      | none => rw [hs] at h; cases h
      | some p =>
        obtain ⟨key, val, n⟩ := p
        rw [hs] at h
        have hl := stepV_some hs
        obtain ⟨_, hn, h5, _, _⟩ := hl.at
        have hlb : (Lib.bytesOf b).length = b.length := by simp [Lib.bytesOf]
        rw [hlb] at hn
        obtain ⟨L, l1, l2, l3⟩ := hl
        subst l2
        have hbad : ¬ badK out key = true := by intro hb; simp only [hb, if_true] at h; cases h
        simp only [if_neg hbad] at h
        have hby := lib_of b hB L l3
        obtain ⟨rest, h3, h4⟩ := ih (b.drop L.size) (out ++ [⟨key, val⟩]) o (E ++ bytesOf L) (fun x hx => hB x (List.mem_of_mem_drop hx)) (by rw [List.length_drop]; omega) (by rw [List.length_append, bytesOf_length, List.length_drop]; omega) h
        have ho : o = out ++ ⟨key, val⟩ :: rest := by rw [h3, List.append_assoc]; rfl
        refine ⟨⟨key, val⟩ :: rest, ho, ?_⟩
        rw [List.length_cons]
        unfold encV
        have hrd : rd_T44 o (out.length : Int) = ⟨key, val⟩ := by rw [ho]; exact rd_app_last _ _ _
        rw [hrd]
        simp only [l1]
        have hcond : ¬ (decide (0 < out.length) && !(Op.bytesLess (rd_T44 o ((out.length : Int) - 1)).f0.toList key.toList)) = true := by
          intro hc
          refine hbad ?_
          unfold badK
          by_cases h0 : 0 < out.length
          · rw [ho, rd_app_prev _ _ h0] at hc; exact hc
          · rw [decide_eq_false h0, Bool.false_and] at hc; cases hc
        rw [if_neg hcond, if_neg (by omega)]
        have hlen : (out ++ [(⟨key, val⟩ : S44)]).length = out.length + 1 := by rw [List.length_append]; rfl
        rw [hlen] at h4
        rw [h4, hby, List.append_assoc, List.take_append_drop]
/-- What was encoded is decoded again. -/
theorem enc_dec (l : List S44) : ∀ (m i M : Nat) (out o : List Int), i + m = l.length → out.length ≤ 65536 → encV l m i out = some o → ∃ rest, o = out ++ rest ∧ o.length ≤ 65536 ∧ (rest.length ≤ M → dec M rest (l.take i) = some l) := by
  intro m
  induction m with
  | zero =>
    intro i M out o h1 h2 h
    unfold encV at h
    injection h with h
    subst h
    refine ⟨[], by rw [List.append_nil], h2, fun _ => ?_⟩
    rw [List.take_of_length_le (by omega)]
    cases M with
    | zero => rfl
    | succ M => unfold dec; rw [if_pos List.length_nil]
  | succ m ih =>
    intro i M out o h1 h2 h
    have hi : i < l.length := by omega
    unfold encV at h
    cases hL : lineB (rd_T44 l (i : Int)).f0 (rd_T44 l (i : Int)).f1 with
    | none => rw [hL] at h; cases h
    | some s =>
      rw [hL] at h
      simp only at h
      by_cases hc : (decide (0 < i) && !(Op.bytesLess (rd_T44 l ((i : Int) - 1)).f0.toList (rd_T44 l (i : Int)).f0.toList)) = true
      · rw [if_pos hc] at h; cases h
      · rw [if_neg hc] at h
        by_cases hz : out.length + s.size > 65536
        · rw [if_pos hz] at h; cases h
        · rw [if_neg hz] at h
          obtain ⟨a1, a2, a3, a4⟩ := lineB_shape hL
          obtain ⟨rest, h3, h4, h5⟩ := ih (i + 1) (M - 1) (out ++ bytesOf s) o (by omega) (by rw [List.length_append, bytesOf_length]; omega) h
          refine ⟨bytesOf s ++ rest, by rw [h3, List.append_assoc], h4, fun hM => ?_⟩
          rw [List.length_append, bytesOf_length] at hM
          obtain ⟨M, rfl⟩ : ∃ j, M = j + 1 := ⟨M - 1, by omega⟩
          have h5 := h5 (by omega)
          have hlen : (bytesOf s ++ rest).length = s.size + rest.length := by rw [List.length_append, bytesOf_length]
          have hle : (bytesOf s ++ rest).length ≤ 65536 := by
            have : o.length = out.length + (s.size + rest.length) := by rw [h3, List.append_assoc, List.length_append, hlen]
            omega
          have hlib : Lib.bytesOf (bytesOf s ++ rest) = bl s ++ Lib.bytesOf rest := by
            have : Lib.bytesOf (bytesOf s ++ rest) = Lib.bytesOf (bytesOf s) ++ Lib.bytesOf rest := by unfold Lib.bytesOf; rw [List.map_append]
            rw [this, libOf]
          have hst := stepV_of hle (show Line (Lib.bytesOf (bytesOf s ++ rest)) _ _ s.size from ⟨s, hL, rfl, by rw [hlib, List.take_left' (bl_len s)]⟩)
          unfold dec
          rw [if_neg (by omega), hst]
          have hbad : ¬ badK (l.take i) (rd_T44 l (i : Int)).f0 = true := by
            intro hb
            refine hc ?_
            unfold badK at hb
            have htl : (l.take i).length = i := by rw [List.length_take]; omega
            rw [htl] at hb
            by_cases h0 : 0 < i
            · have hq : rd_T44 (l.take i) ((i : Int) - 1) = rd_T44 l ((i : Int) - 1) := by
                have := rd_app_prev (l.take i) (l.drop i) (by omega)
                rw [List.take_append_drop, htl] at this
                exact this.symm
              rw [hq] at hb; exact hb
            · rw [decide_eq_false h0, Bool.false_and] at hb; cases hb
          show (if badK (l.take i) (rd_T44 l (i : Int)).f0 = true then none else dec M ((bytesOf s ++ rest).drop s.size) (l.take i ++ [⟨(rd_T44 l (i : Int)).f0, (rd_T44 l (i : Int)).f1⟩])) = _
          rw [if_neg hbad, List.drop_left' (bytesOf_length s)]
          have htk : l.take i ++ [⟨(rd_T44 l (i : Int)).f0, (rd_T44 l (i : Int)).f1⟩] = l.take (i + 1) := by
            rw [List.take_add_one, List.getElem?_eq_getElem hi, rd_get l i hi]; rfl
          rw [htk]
          exact h5
/-- Keys that were decoded are short. -/
theorem dec_keys : ∀ (m : Nat) (b : List Int) (out o : List S44), (∀ x ∈ out, x.f0.size ≤ 262144) → dec m b out = some o → ∀ x ∈ o, x.f0.size ≤ 262144 := by
  intro m
  induction m with
  | zero => intro b out o h hh; unfold dec at hh; injection hh with hh; subst hh; exact h
  | succ m ih =>
    intro b out o h hh
    unfold dec at hh
    split at hh
    · injection hh with hh; subst hh; exact h
    · split at hh
      · cases hh
      · next p hs =>
        split at hh
        · cases hh
        · refine ih _ _ _ (fun x hx => ?_) hh
          rcases List.mem_append.1 hx with hx | hx
          · exact h x hx
          · rw [List.mem_singleton.1 hx]
            obtain ⟨key, val, n⟩ := p
            have := kwB_size (stepV_some hs).at.2.2.2.2
            show key.size ≤ _
            omega
theorem back (l : List S44) (b : List Int) (hz : ∀ x ∈ l, x.f0.size ≤ 140737488351232 ∧ x.f1.size ≤ 140737488351232) (hl : l.length ≤ 4398046510976) (hB : Byt b) :
    ∃ k, 300 ≤ k ∧ (amphoralaw11_large.f k l = some true ∨ amphoralaw11_large.f k l = some false ∧ l.length ≤ 262144 ∧ (pax_Encode.f k l = some ([], some 15) ∨ ∃ x, x.length ≤ 262144 ∧ pax_Encode.f k l = some (x, none) ∧ pax_Decode.f k x = some (l, none) ∧ amphoraref11_Same.f k l l = some true) ∧
      (pax_Decode.f k b = some ([], some 15) ∨ ∃ res, pax_Decode.f k b = some (res, none) ∧ pax_Encode.f k res = some (b, none))) := by
  refine ⟨2000000 + l.length, by omega, ?_⟩
  obtain ⟨r, h1, h2⟩ := large_f l hz hl (2000000 + l.length) (by omega)
  cases r with
  | true => exact .inl h1
  | false =>
    obtain ⟨h3, h4⟩ := h2 rfl
    refine .inr ⟨h1, h3, ?_, ?_⟩
    · rw [encode_f l h4 h3 _ (by omega)]
      cases he : encV l l.length 0 [] with
      | none => exact .inl rfl
      | some x =>
        obtain ⟨rest, q1, q2, q3⟩ := enc_dec l l.length 0 x.length [] x (by omega) (by simp) he
        rw [List.nil_append] at q1
        subst q1
        refine .inr ⟨x, by omega, rfl, ?_, same_f l (by omega) _ (by omega)⟩
        rw [decode_f x _ (by omega)]
        unfold decV
        rw [if_neg (by omega)]
        have := q3 (Nat.le_refl _)
        rw [List.take_zero] at this
        rw [this]; rfl
    · rw [decode_f b _ (by omega)]
      cases hd : decV b with
      | none => exact .inl rfl
      | some o =>
        unfold decV at hd
        by_cases hb : b.length > 65536
        · rw [if_pos hb] at hd; cases hd
        · rw [if_neg hb] at hd
          obtain ⟨rest, q1, q2⟩ := dec_enc b.length b [] o [] hB (Nat.le_refl _) (by simp; omega) hd
          rw [List.nil_append] at q1
          subst q1
          have hlen := dec_len _ _ _ _ hd
          rw [List.length_nil, Nat.zero_add] at hlen
          refine .inr ⟨o, rfl, ?_⟩
          rw [encode_f o (dec_keys _ _ _ _ (fun x hx => by cases hx) hd) (by omega) _ (by omega)]
          rw [List.length_nil, List.nil_append] at q2
          rw [q2]; rfl
end PX
end Go.Proofs.YtcengaholljddaaDoor
