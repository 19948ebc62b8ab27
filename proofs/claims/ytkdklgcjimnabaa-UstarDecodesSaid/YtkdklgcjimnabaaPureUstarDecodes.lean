/- The statement UstarDecodes over what the functions compute. Conditions: bytes. -/
import Derived.Test.YtkdklgcjimnabaaUPR
import Derived.Test.YtkdklgcjimnabaaUAlive
import Derived.Test.YtkdklgcjimnabaaPUstarxD
import Derived.KernelRfl
namespace Go.Proofs.Ytkdklgcjimnabaa.PUstar
open Go.RowKit Go.Proofs.YtkdklgcjimnabaaW.PrintWords Go.Proofs.YtkdklgcjimnabaaW.PrintLast
set_option linter.unusedVariables false
set_option linter.unusedSimpArgs false
namespace UP
open UM CopyS
theorem tw_zero (L : List Int) (i : Nat) (h : i < L.length) (h0 : L[i] = 0) : (L.drop i).takeWhile Asc.nz = [] := by
  rw [List.drop_eq_getElem_cons h, List.takeWhile_cons_of_neg]; rw [h0]; decide
theorem nz_of {c : Int} (h0 : 0 ≤ c) (h1 : c < 256) (h : c ≠ 0) : Asc.nz c = true := by
  unfold Asc.nz
  have : UInt8.ofNat c.toNat ≠ 0 := by
    intro q
    have := congrArg UInt8.toNat q
    rw [UInt8.toNat_ofNat', Nat.mod_eq_of_lt (by omega)] at this
    have : c.toNat = 0 := this
    omega
  simp [this]
theorem field_l (L : List Int) (hb : By L) (hl : L.length ≤ 100000) : ∀ (m i k : Nat), i + m = L.length → m + 1 ≤ k → amphoraref10_field.l0 k L (i : Int) = some (strOfNums (L.take i ++ (L.drop i).takeWhile Asc.nz)) := by
  intro m
  induction m with
  | zero =>
    intro i k h hk
    obtain ⟨k, rfl⟩ : ∃ j, k = j + 1 := ⟨k - 1, by omega⟩
    simp only [amphoraref10_field.l0]
    rw [if_neg (by omega), if_pos (by omega), if_pos (by omega), Int.toNat_natCast, List.drop_eq_nil_of_le (by omega)]; simp
  | succ m ih =>
    intro i k h hk
    obtain ⟨k, rfl⟩ : ∃ j, k = j + 1 := ⟨k - 1, by omega⟩
    have hi : i < L.length := by omega
    have hbd := hb L[i] (List.getElem_mem hi)
    have e1 : wrap64 ((i : Int) + 1) = ((i + 1 : Nat) : Int) := by rw [UP.w64 (by omega) (by omega)]; omega
    simp only [amphoraref10_field.l0, e1, rd_at L i hi]
    rw [if_pos (by omega), if_pos (by omega)]
    by_cases h0 : L[i] = 0
    · rw [if_pos h0, if_pos (by omega), tw_zero L i hi h0, List.append_nil, Int.toNat_natCast]
    · rw [if_neg h0, ih (i + 1) k (by omega) (by omega)]
      have e2 : (L.drop i).takeWhile Asc.nz = L[i] :: (L.drop (i + 1)).takeWhile Asc.nz := by
        rw [List.drop_eq_getElem_cons hi, List.takeWhile_cons_of_pos (nz_of hbd.1 hbd.2 h0)]
      rw [e2, List.take_succ_eq_append_getElem hi, List.append_assoc]; rfl
theorem field_f (L : List Int) (hb : By L) (hl : L.length ≤ 1000) (k : Nat) (hk : 1001 ≤ k) : amphoraref10_field.f k L = some (strOfNums (L.takeWhile Asc.nz)) := by
  have := field_l L hb (by omega) L.length 0 k (by omega) (by omega)
  rw [List.take_zero, List.drop_zero, List.nil_append] at this
  exact this
/-- What the reference reads as a number. -/
def rn (a : Int) : List Int → Int
  | [] => a
  | c :: r => if c < 48 then -1 else if c > 55 then -1 else rn (8 * a + (c - 48)) r
theorem rnum_l (X : List Int) (hb : By X) (hl : X.length ≤ 20) : ∀ (m i : Nat) (a : Int) (k : Nat), i + m = X.length → 0 ≤ a → a < 8 ^ i → m + 1 ≤ k → amphoraref10_number.l0 k X a (i : Int) = some (rn a (X.drop i)) := by
  intro m
  induction m with
  | zero =>
    intro i a k h1 h3 h4 hk
    obtain ⟨k, rfl⟩ : ∃ j, k = j + 1 := ⟨k - 1, by omega⟩
    simp only [amphoraref10_number.l0]
    rw [if_neg (by omega), List.drop_eq_nil_of_le (by omega)]; rfl
  | succ m ih =>
    intro i a k h1 h3 h4 hk
    obtain ⟨k, rfl⟩ : ∃ j, k = j + 1 := ⟨k - 1, by omega⟩
    have hi : i < X.length := by omega
    have hbd := hb X[i] (List.getElem_mem hi)
    have hp : (8 : Int) ^ i ≤ 8 ^ 19 := pow8 i (by omega)
    have hq : (8 : Int) ^ 19 = 144115188075855872 := by decide
    have e1 : wrap64 ((i : Int) + 1) = ((i + 1 : Nat) : Int) := by rw [UP.w64 (by omega) (by omega)]; omega
    have e3 : rn a (X.drop i) = if X[i] < 48 then -1 else if X[i] > 55 then -1 else rn (8 * a + (X[i] - 48)) (X.drop (i + 1)) := by rw [List.drop_eq_getElem_cons hi]; rfl
    simp only [amphoraref10_number.l0, e1, rd_at X i hi, e3]
    rw [if_pos (by omega), if_pos (by omega)]
    by_cases c1 : X[i] < 48
    · rw [if_pos c1, if_pos c1]
    · by_cases c2 : X[i] > 55
      · rw [if_neg c1, if_pos c2, if_neg c1, if_pos c2]
      · have e2 : wrap64 (wrap64 (8 * a) + ((X[i] - 48) % 256)) = 8 * a + (X[i] - 48) := by rw [UP.w64 (n := 8 * a) (by omega) (by omega), UP.w64 (by omega) (by omega)]; omega
        rw [if_neg c1, if_neg c2, if_neg c1, if_neg c2, e2, ih (i + 1) _ k (by omega) (by omega) (by rw [Int.pow_succ]; omega) (by omega)]
theorem rnum_f (X : List Int) (hb : By X) (hl : X.length ≤ 20) (k : Nat) (hk : 30 ≤ k) : amphoraref10_number.f k X = some (rn 0 X) := by
  have := rnum_l X hb hl X.length 0 0 k (by omega) (by omega) (by decide) (by omega)
  rw [List.drop_zero] at this; exact this
def okD (X : List Int) : Bool := X.all (fun c => decide (48 ≤ c) && decide (c ≤ 55))
theorem rn_ok (X : List Int) : ∀ a, okD X = true → rn a X = num a X := by
  induction X with
  | nil => intro a _; rfl
  | cons c r ih =>
    intro a h
    unfold okD at h
    simp only [List.all_cons, Bool.and_eq_true, decide_eq_true_eq] at h
    obtain ⟨⟨h1, h2⟩, h3⟩ := h
    have h3 : okD r = true := h3
    rw [rn, num, if_neg (by omega), if_neg (by omega), ih _ h3]
    congr 1; omega
theorem rn_bad (X : List Int) : ∀ a, okD X = false → rn a X = -1 := by
  induction X with
  | nil => intro a h; cases h
  | cons c r ih =>
    intro a h
    rw [rn]
    by_cases h1 : c < 48
    · rw [if_pos h1]
    · by_cases h2 : c > 55
      · rw [if_neg h1, if_pos h2]
      · rw [if_neg h1, if_neg h2]
        refine ih _ ?_
        unfold okD at h
        rw [List.all_cons, decide_eq_true (by omega : 48 ≤ c), decide_eq_true (by omega : c ≤ 55)] at h
        exact h
theorem okD_od (n : Int) (d : Nat) : okD (od n d) = true := by
  unfold okD
  rw [List.all_eq_true]
  intro c hc
  have := od_oct n d c hc
  simp [this.1, this.2]
def Hd := ByteArray × Int × Int × Int × Int × Int × Int × ByteArray
/-- What the reference's Decode answers of a block. -/
def refV (l : List Int) : ByteArray × Int × Int × Int × Int × Int × Int × ByteArray × Int :=
  if (encV (pathOf (txt l 345 155) (txt l 0 100)) (rn 0 (fld l 100 7)) (rn 0 (fld l 108 7)) (rn 0 (fld l 116 7)) (rn 0 (fld l 124 11)) (rn 0 (fld l 136 11)) (rd l 156) (txt l 157 100)) = (l, none) then
    (pathOf (txt l 345 155) (txt l 0 100), rn 0 (fld l 100 7), rn 0 (fld l 108 7), rn 0 (fld l 116 7), rn 0 (fld l 124 11), rn 0 (fld l 136 11), rd l 156, txt l 157 100, 0)
  else (⟨#[]⟩, 0, 0, 0, 0, 0, 0, ⟨#[]⟩, 14)
theorem ref_j {α : Type} (l : List Int) (hb : By l) (p : ByteArray) (mode uid gid size time typ : Int) (link : ByteArray) (ht : 0 ≤ typ ∧ typ < 256) (a b : Option α) :
    (if numE (encV p mode uid gid size time typ link).2 = 0 then (if (strOfNums (encV p mode uid gid size time typ link).1).toList = (strOfNums l).toList then a else b) else b) = if encV p mode uid gid size time typ link = (l, none) then a else b := by
  cases hE : (encV p mode uid gid size time typ link).2 with
  | some v =>
    have hv : v = 14 := by have := encV_err p mode uid gid size time typ link; rw [hE] at this; simpa using this
    rw [if_neg (by rw [hv]; decide), if_neg (fun h => by rw [h] at hE; cases hE)]
  | none =>
    rw [if_pos (by rfl)]
    by_cases hq : (encV p mode uid gid size time typ link).1 = l
    · rw [if_pos (by rw [hq]), if_pos (by rw [← hq, ← hE])]
    · rw [if_neg (fun h => hq (str_inj (encV_By ht) hb (UM.toList_inj h))), if_neg (fun h => hq (by rw [h]))]
theorem rdec_f (l : List Int) (hb : By l) (hl : l.length = 512) (k : Nat) (hk : 4000 ≤ k) : amphoraref10_Decode.f k l = some (refV l) := by
  unfold amphoraref10_Decode.f
  have L : ∀ p n, p + n ≤ 512 → (fld l p n).length = n := fun p n h => fld_length l p n (by omega)
  have B : ∀ p n, By (fld l p n) := fun p n => By_fld hb p n
  have n1 := rnum_f (fld l 100 7) (B _ _) (by rw [L _ _ (by omega)]; omega) k (by omega)
  have n2 := rnum_f (fld l 108 7) (B _ _) (by rw [L _ _ (by omega)]; omega) k (by omega)
  have n3 := rnum_f (fld l 116 7) (B _ _) (by rw [L _ _ (by omega)]; omega) k (by omega)
  have n4 := rnum_f (fld l 124 11) (B _ _) (by rw [L _ _ (by omega)]; omega) k (by omega)
  have n5 := rnum_f (fld l 136 11) (B _ _) (by rw [L _ _ (by omega)]; omega) k (by omega)
  have x1 : amphoraref10_field.f k (l.take 100) = some (txt l 0 100) := field_f (fld l 0 100) (B _ _) (by rw [L _ _ (by omega)]; omega) k (by omega)
  have x2 : amphoraref10_field.f k ((l.take 257).drop 157) = some (txt l 157 100) := field_f (fld l 157 100) (B _ _) (by rw [L _ _ (by omega)]; omega) k (by omega)
  have x3 : amphoraref10_field.f k ((l.take 500).drop 345) = some (txt l 345 155) := field_f (fld l 345 155) (B _ _) (by rw [L _ _ (by omega)]; omega) k (by omega)
  have n1 : amphoraref10_number.f k ((l.take 107).drop 100) = _ := n1
  have n2 : amphoraref10_number.f k ((l.take 115).drop 108) = _ := n2
  have n3 : amphoraref10_number.f k ((l.take 123).drop 116) = _ := n3
  have n4 : amphoraref10_number.f k ((l.take 135).drop 124) = _ := n4
  have n5 : amphoraref10_number.f k ((l.take 147).drop 136) = _ := n5
  have ht : 0 ≤ rd l 156 ∧ rd l 156 < 256 := by
    have := rd_at l 156 (by omega)
    have q := hb l[156] (List.getElem_mem _)
    rw [show ((156 : Nat) : Int) = 156 by rfl] at this
    rw [this]; exact q
  have s1 := txt_size l 0 100 (by omega)
  have s3 := txt_size l 345 155 (by omega)
  rw [n1, n2, n3, n4, n5, x1, x2, x3]
  simp only [Option.bind_some, hl]
  have y1 : (((512 : Nat) : Int) = 512) = True := eq_true rfl
  have y2 : ((100 : Int) ≤ ((512 : Nat) : Int)) = True := eq_true (by decide)
  have y3 : ((107 : Int) ≤ ((512 : Nat) : Int)) = True := eq_true (by decide)
  have y4 : ((115 : Int) ≤ ((512 : Nat) : Int)) = True := eq_true (by decide)
  have y5 : ((123 : Int) ≤ ((512 : Nat) : Int)) = True := eq_true (by decide)
  have y6 : ((135 : Int) ≤ ((512 : Nat) : Int)) = True := eq_true (by decide)
  have y7 : ((147 : Int) ≤ ((512 : Nat) : Int)) = True := eq_true (by decide)
  have y8 : ((156 : Int) < ((512 : Nat) : Int)) = True := eq_true (by decide)
  have y9 : ((257 : Int) ≤ ((512 : Nat) : Int)) = True := eq_true (by decide)
  have y10 : ((500 : Int) ≤ ((512 : Nat) : Int)) = True := eq_true (by decide)
  have z1 : (100 ≤ 107) = True := eq_true (by decide)
  have z2 : (108 ≤ 115) = True := eq_true (by decide)
  have z3 : (116 ≤ 123) = True := eq_true (by decide)
  have z4 : (124 ≤ 135) = True := eq_true (by decide)
  have z5 : (136 ≤ 147) = True := eq_true (by decide)
  have z6 : (157 ≤ 257) = True := eq_true (by decide)
  have z7 : (345 ≤ 500) = True := eq_true (by decide)
  simp only [y1, y2, y3, y4, y5, y6, y7, y8, y9, y10, z1, z2, z3, z4, z5, z6, z7, if_true]
  by_cases h0 : (txt l 345 155).size = 0
  · rw [if_pos (size_nil.2 h0), renc_f _ _ _ _ _ _ _ _ (by omega) ht k (by omega), Option.bind_some, ref_j l hb _ _ _ _ _ _ _ _ ht]
    unfold refV pathOf
    rw [if_pos h0]
    split <;> rfl
  · have es : (⟨#[47]⟩ : ByteArray) = slash := rfl
    have w1 : (txt l 345 155 ++ slash).size = (txt l 345 155).size + 1 := by rw [ByteArray.size_append]; rfl
    have w2 : ((txt l 345 155 ++ slash) ++ txt l 0 100).size = (txt l 345 155).size + 1 + (txt l 0 100).size := by rw [ByteArray.size_append, w1]
    rw [es, if_neg (fun h => h0 (size_nil.1 h)), if_pos (by omega), if_pos (by rw [w1]; omega), renc_f _ _ _ _ _ _ _ _ (by omega) ht k (by omega), Option.bind_some, ref_j l hb _ _ _ _ _ _ _ _ ht]
    unfold refV pathOf
    rw [if_neg h0]
    split <;> rfl
theorem same (l : List Int) (hl : l.length = 512) : ∃ p mode uid gid size time typ link e, decV l = (p, mode, uid, gid, size, time, typ, link, e) ∧ refV l = (p, mode, uid, gid, size, time, typ, link, numE e) ∧ (e = none ∨ e = some 14) := by
  by_cases hA : okD (fld l 100 7) = true ∧ okD (fld l 108 7) = true ∧ okD (fld l 116 7) = true ∧ okD (fld l 124 11) = true ∧ okD (fld l 136 11) = true
  · obtain ⟨a1, a2, a3, a4, a5⟩ := hA
    unfold decV refV
    rw [rn_ok _ _ a1, rn_ok _ _ a2, rn_ok _ _ a3, rn_ok _ _ a4, rn_ok _ _ a5]
    split
    · exact ⟨_, _, _, _, _, _, _, _, none, rfl, rfl, .inl rfl⟩
    · exact ⟨_, _, _, _, _, _, _, _, some 14, rfl, rfl, .inr rfl⟩
  · have hd : decV l = bad := by
      rcases dec_either l with h | ⟨p, mode, uid, gid, size, time, typ, link, h⟩
      · exact h
      · exfalso
        have hk := dec_ok h
        obtain ⟨h1, h2, h3⟩ := encV_none (show (encV p mode uid gid size time typ link).2 = none by rw [hk])
        rw [hk] at h3
        have hx : l = encS (splitS p).1 (splitS p).2.1 mode uid gid size time typ link := congrArg Prod.fst h3
        have s := split_ok h1
        unfold encS at hx
        obtain ⟨_, r2, r3, r4, r5, r6, _, _, _⟩ := reads (pre := (splitS p).1) (name := (splitS p).2.1) s.n2 s.p1 (ty_link (fits_ty h2)) (by simp [sumF, od_length]) l hx.symm
        exact hA ⟨by rw [r2]; exact okD_od _ _, by rw [r3]; exact okD_od _ _, by rw [r4]; exact okD_od _ _, by rw [r5]; exact okD_od _ _, by rw [r6]; exact okD_od _ _⟩
    have hr : refV l = (⟨#[]⟩, 0, 0, 0, 0, 0, 0, ⟨#[]⟩, 14) := by
      unfold refV
      rw [if_neg]
      intro h
      have h2 := (encV_none (p := pathOf (txt l 345 155) (txt l 0 100)) (show (encV _ _ _ _ _ _ _ _).2 = none by rw [h])).2.1
      unfold fitsS idB tmB at h2
      simp only [Bool.and_eq_true, decide_eq_true_eq] at h2
      obtain ⟨⟨m0, _⟩, ⟨u0, _⟩, ⟨g0, _⟩, ⟨s0, _⟩, ⟨t0, _⟩, _⟩ := h2
      have key : ∀ X, 0 ≤ rn 0 X → okD X = true := by
        intro X h
        cases hq : okD X with
        | true => rfl
        | false => rw [rn_bad X 0 hq] at h; omega
      exact hA ⟨key _ m0, key _ u0, key _ g0, key _ s0, key _ t0⟩
    rw [hd, hr]
    exact ⟨_, _, _, _, _, _, _, _, some 14, rfl, rfl, .inr rfl⟩
theorem decodes (l : List Int) (hb : By l) : ∃ k p mode uid gid size time typ link e, 600 ≤ k ∧ ustar_Decode.f k l = some (p, mode, uid, gid, size, time, typ, link, e) ∧ amphoraref10_Decode.f k l = some (p, mode, uid, gid, size, time, typ, link, numE e) ∧ amphoranum_Num.f e = some (numE e) := by
  by_cases hl : l.length = 512
  · obtain ⟨p, mode, uid, gid, size, time, typ, link, e, h1, h2, h3⟩ := same l hl
    exact ⟨5000, p, mode, uid, gid, size, time, typ, link, e, by omega, by rw [dec_f l hb hl _ (by omega), h1], by rw [rdec_f l hb hl _ (by omega), h2], num_e h3⟩
  · refine ⟨5000, ⟨#[]⟩, 0, 0, 0, 0, 0, 0, ⟨#[]⟩, some 14, by omega, ?_, ?_, rfl⟩
    · unfold ustar_Decode.f; rw [if_neg (by omega)]
    · unfold amphoraref10_Decode.f; rw [if_neg (by omega)]; rfl
end UP
end Go.Proofs.Ytkdklgcjimnabaa.PUstar
