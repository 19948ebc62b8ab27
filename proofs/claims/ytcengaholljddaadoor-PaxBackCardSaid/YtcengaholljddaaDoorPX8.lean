import Derived.Test.YtcengaholljddaaDoorPX7
import Derived.Test.YtcengaholljddaaDoorPPaxx6
namespace Go.Proofs.YtcengaholljddaaDoor
open Go.RowKit Go.Proofs.YtcengaholljddaaDoor.PPax Go.Proofs.YtcengaholljddaaDoorW.PrintWords Go.Proofs.YtcengaholljddaaDoorW.PrintLast
set_option linter.unusedSimpArgs false
set_option linter.unusedVariables false
namespace PX
/-! ### the reference's cut -/
theorem bt_bl (s : ByteArray) (i : Nat) (c : UInt8) (X : List UInt8) (h : (bl s).drop i = c :: X) : bt s (i : Int) = (c.toNat : Int) := by
  have hi : i < s.size := by
    rcases Nat.lt_or_ge i s.size with h' | h'
    · exact h'
    · rw [List.drop_eq_nil_of_le (by rw [bl_len]; exact h')] at h; cases h
  have hi' : i < (bl s).length := by rw [bl_len]; exact hi
  rw [bt_get s i hi]
  rw [List.drop_eq_getElem_cons hi'] at h
  injection h with h1 h2
  rw [← h1]
theorem rcut_sound (L : ByteArray) (n : Nat) (hL : L.size ≤ 65536) (hn : n ≤ 6) : ∀ (m i k : Nat), i + m = L.size + 10 → n + 1 ≤ i → m + 150000 ≤ k → ∃ key val ok, amphoraref11_cut.l0 k L n i = some (key, val, ok) ∧ (ok = true → lineB key val = some L) := by
  intro m
  have e1 : Aside0 (wrap64 ((L.size : Int) - 1) = (L.size : Int) - 1) := ⟨w64 (by omega) (by omega)⟩
  have e2 : Aside0 (wrap64 ((n : Int) + 1) = ((n + 1 : Nat) : Int)) := ⟨by rw [w64 (by omega) (by omega)]; rfl⟩
  induction m with
  | zero =>
    intro i k h1 h2 hk
    obtain ⟨k, rfl⟩ : ∃ j, k = j + 1 := ⟨k - 1, by omega⟩
    simp only [amphoraref11_cut.l0, e1.out]
    rw [if_neg (by omega)]
    exact ⟨_, _, _, rfl, fun h => by cases h⟩
  | succ m ih =>
    intro i k h1 h2 hk
    obtain ⟨k, rfl⟩ : ∃ j, k = j + 1 := ⟨k - 1, by omega⟩
    have e3 : Aside0 (wrap64 ((i : Int) + 1) = ((i + 1 : Nat) : Int)) := ⟨by rw [w64 (by omega) (by omega)]; rfl⟩
    simp only [amphoraref11_cut.l0, e1.out, e2.out, e3.out]
    by_cases hc : (i : Int) < (L.size : Int) - 1
    · rw [if_pos hc, if_pos (by omega), if_pos (by omega)]
      by_cases h61 : bt L (i : Int) = 61
      · rw [if_pos h61, if_pos (by omega), if_pos (by omega), if_pos (by omega), if_pos (by omega), if_pos (by omega), if_pos (by omega)]
        have hz : (L.extract (((n + 1 : Nat) : Int)).toNat ((i : Int)).toNat).size ≤ L.size := by rw [ByteArray.size_extract]; omega
        rw [rline_f _ _ (by omega) k (by omega), Option.bind_some]
        generalize hkey : L.extract (((n + 1 : Nat) : Int)).toNat ((i : Int)).toNat = key
        generalize hval : L.extract (((i + 1 : Nat) : Int)).toNat ((L.size : Int) - 1).toNat = val
        cases hl : lineB key val with
        | none =>
          refine ⟨key, val, false, ?_, fun h => by cases h⟩
          show (if (15 : Int) = 0 then _ else _) = _
          rw [if_neg (by omega)]
        | some s =>
          refine ⟨key, val, s.toList == L.toList, ?_, fun h => ?_⟩
          · show (if (0 : Int) = 0 then _ else _) = _
            rw [if_pos rfl]; rfl
          · rw [beq_iff_eq] at h; rw [hl, str_beq.1 h]
      · rw [if_neg h61]
        exact ih (i + 1) k (by omega) (by omega) (by omega)
    · rw [if_neg hc]
      exact ⟨_, _, _, rfl, fun h => by cases h⟩
theorem bytesL_drop (n : Nat) (key val : ByteArray) : (bytesL n key val).drop (Lib.nDigits n + 1) = bl key ++ 61 :: (bl val ++ [10]) := by
  unfold bytesL
  rw [List.drop_append, Lib.decDigits_length, List.drop_eq_nil_of_le (by rw [Lib.decDigits_length]; omega), Nat.add_sub_cancel_left]; rfl
theorem rcut_complete (L key val : ByteArray) (hl : lineB key val = some L) : ∀ (m j k : Nat), j + m = key.size → m + 150000 ≤ k → amphoraref11_cut.l0 k L (Lib.nDigits L.size : Nat) ((Lib.nDigits L.size + 1 + j : Nat) : Int) = some (key, val, true) := by
  obtain ⟨hb, hL, hkw, h5⟩ := lineB_shape hl
  have hz : L.size = Lib.nDigits L.size + key.size + val.size + 3 := by
    have := congrArg List.length hb
    rw [bytesL_length, bl_len] at this
    exact this
  have hd : (bl L).drop (Lib.nDigits L.size + 1) = bl key ++ 61 :: (bl val ++ [10]) := by rw [hb]; exact bytesL_drop _ _ _
  have hks := kwB_size hkw
  generalize hn : Lib.nDigits L.size = n at *
  have e1 : Aside0 (wrap64 ((L.size : Int) - 1) = ((L.size - 1 : Nat) : Int)) := ⟨by rw [w64 (by omega) (by omega)]; omega⟩
  have e2 : Aside0 (wrap64 ((n : Int) + 1) = ((n + 1 : Nat) : Int)) := ⟨by rw [w64 (by omega) (by omega)]; rfl⟩
  intro m
  induction m with
  | zero =>
    intro j k h1 hk
    obtain ⟨k, rfl⟩ : ∃ j, k = j + 1 := ⟨k - 1, by omega⟩
    obtain rfl : j = key.size := by omega
    have e3 : Aside0 (wrap64 (((n + 1 + key.size : Nat) : Int) + 1) = ((n + 1 + key.size + 1 : Nat) : Int)) := ⟨by rw [w64 (by omega) (by omega)]; rfl⟩
    have hb61 : bt L ((n + 1 + key.size : Nat) : Int) = 61 := by
      rw [bt_bl L _ 61 (bl val ++ [10])]; rfl
      rw [← List.drop_drop, hd, List.drop_append, bl_len, Nat.sub_self, List.drop_eq_nil_of_le (by rw [bl_len]; omega)]; rfl
    have hkey : L.extract (n + 1) (n + 1 + key.size) = key := by
      apply bl_inj; rw [bl_ext, hd, Nat.add_sub_cancel_left, List.take_append_of_le_length (by rw [bl_len]; omega), List.take_of_length_le (by rw [bl_len]; omega)]
    have hval : L.extract (n + 1 + key.size + 1) (L.size - 1) = val := by
      apply bl_inj; rw [bl_ext, show n + 1 + key.size + 1 = (n + 1) + (key.size + 1) by omega, ← List.drop_drop, hd, List.drop_append, bl_len, List.drop_eq_nil_of_le (by rw [bl_len]; omega), Nat.add_sub_cancel_left]
      show List.take _ (bl val ++ [10]) = _
      rw [show L.size - 1 - (n + 1 + (key.size + 1)) = val.size by omega, List.take_append_of_le_length (by rw [bl_len]; omega), List.take_of_length_le (by rw [bl_len]; omega)]
    simp only [amphoraref11_cut.l0, e1.out, e2.out, e3.out]
    rw [if_pos (by omega), if_pos (by omega), if_pos (by omega), if_pos hb61, if_pos (by omega), if_pos (by omega), if_pos (by omega), if_pos (by omega), if_pos (by omega), if_pos (by omega)]
    simp only [Int.toNat_natCast]
    rw [hkey, hval, rline_f _ _ (by omega) k (by omega), Option.bind_some, hl]
    show (if (0 : Int) = 0 then _ else _) = _
    rw [if_pos rfl]
    show some (key, val, (L.toList == L.toList)) = _
    rw [beq_self_eq_true]
  | succ m ih =>
    intro j k h1 hk
    obtain ⟨k, rfl⟩ : ∃ j, k = j + 1 := ⟨k - 1, by omega⟩
    have e3 : Aside0 (wrap64 (((n + 1 + j : Nat) : Int) + 1) = ((n + 1 + (j + 1) : Nat) : Int)) := ⟨by rw [w64 (by omega) (by omega)]; omega⟩
    have hj : j < (bl key).length := by rw [bl_len]; omega
    have hne : ¬ bt L ((n + 1 + j : Nat) : Int) = 61 := by
      rw [bt_bl L _ ((bl key)[j]) ((bl key).drop (j + 1) ++ 61 :: (bl val ++ [10]))]
      · intro h
        refine key_no61 hkw ((bl key)[j]) (List.getElem_mem hj) ?_
        apply UInt8.toNat_inj.1
        show _ = 61
        omega
      · rw [← List.drop_drop, hd, List.drop_append_of_le_length (by omega), List.drop_eq_getElem_cons hj]; rfl
    simp only [amphoraref11_cut.l0, e1.out, e2.out, e3.out]
    rw [if_pos (by omega), if_pos (by omega), if_pos (by omega), if_neg hne]
    exact ih (j + 1) k (by omega) (by omega)
/-! ### the reference's scan of digits -/
def Byt (b : List Int) : Prop := ∀ x ∈ b, 0 ≤ x ∧ x < 256
theorem rd_bl {b : List Int} (hb : Byt b) (i : Nat) (c : UInt8) (X : List UInt8) (h : (Lib.bytesOf b).drop i = c :: X) : rd b (i : Int) = (c.toNat : Int) ∧ i < b.length := by
  have hi : i < b.length := by
    rcases Nat.lt_or_ge i b.length with h' | h'
    · exact h'
    · rw [List.drop_eq_nil_of_le (by simp [Lib.bytesOf]; exact h')] at h; cases h
  refine ⟨?_, hi⟩
  have hi' : i < (Lib.bytesOf b).length := by simp [Lib.bytesOf]; exact hi
  rw [List.drop_eq_getElem_cons hi'] at h
  injection h with h1 h2
  rw [← h1]
  have hx := hb _ (List.getElem_mem hi)
  unfold rd
  rw [Int.toNat_natCast, List.getD_eq_getElem?_getD, List.getElem?_eq_getElem hi, Option.getD_some]
  simp only [Lib.bytesOf, List.getElem_map]
  have : (UInt8.ofNat (b[i]).toNat).toNat = (b[i]).toNat := by simp; omega
  rw [this]; omega
theorem pow_step {L n c : Nat} (h : L < 10 ^ n) (hc : c ≤ 9) : 10 * L + c < 10 ^ (n + 1) := by
  have e : (10 : Nat) ^ (n + 1) = 10 * 10 ^ n := by rw [Nat.pow_succ, Nat.mul_comm]
  rw [e]
  generalize (10 : Nat) ^ n = q at *
  omega
theorem pow_lt5 {L n : Nat} (h : L < 10 ^ n) (hn : n ≤ 5) : L < 100000 := Nat.lt_of_lt_of_le h (Nat.le_trans (Nat.pow_le_pow_right (by omega) hn) (by decide))
theorem scan_sound {b : List Int} (hb : Byt b) (h2 : b.length ≤ 65536) (out : List S44) : ∀ (m n L k : Nat), n + m = 6 → L < 10 ^ n → m + 2 ≤ k → ∃ n' L' k' : Nat, n ≤ n' ∧ n' ≤ 6 ∧ L' < 10 ^ n' ∧ k ≤ k' + m + 1 ∧ amphoraref11_Decode.l1 k b 15 out n L = amphoraref11_Decode.j2 k' b 15 out n' L' := by
  intro m
  induction m with
  | zero =>
    intro n L k h1 h3 hk
    obtain ⟨k, rfl⟩ : ∃ j, k = j + 1 := ⟨k - 1, by omega⟩
    refine ⟨n, L, k, by omega, by omega, h3, by omega, ?_⟩
    simp only [amphoraref11_Decode.l1]
    by_cases ha : (n : Int) < (b.length : Int)
    · rw [if_pos ha, if_neg (by omega)]
    · rw [if_neg ha]
  | succ m ih =>
    intro n L k h1 h3 hk
    obtain ⟨k, rfl⟩ : ∃ j, k = j + 1 := ⟨k - 1, by omega⟩
    have here : ∀ X, X = amphoraref11_Decode.j2 k b 15 out n L → ∃ n' L' k' : Nat, n ≤ n' ∧ n' ≤ 6 ∧ L' < 10 ^ n' ∧ k + 1 ≤ k' + (m + 1) + 1 ∧ X = amphoraref11_Decode.j2 k' b 15 out n' L' := fun X hX => ⟨n, L, k, by omega, by omega, h3, by omega, hX⟩
    simp only [amphoraref11_Decode.l1]
    by_cases ha : (n : Int) < (b.length : Int)
    · rw [if_pos ha, if_pos (by omega), if_pos (by omega)]
      have hx : 0 ≤ rd b (n : Int) ∧ rd b (n : Int) < 256 := by
        unfold rd
        rw [Int.toNat_natCast, List.getD_eq_getElem?_getD, List.getElem?_eq_getElem (by omega), Option.getD_some]
        exact hb _ (List.getElem_mem _)
      by_cases h48 : rd b (n : Int) ≥ 48
      · rw [if_pos h48]
        by_cases h57 : rd b (n : Int) ≤ 57
        · rw [if_pos h57]
          have hL5 : L < 100000 := pow_lt5 h3 (by omega)
          obtain ⟨c, hc⟩ := Int.eq_ofNat_of_zero_le hx.1
          have hc9 : c - 48 ≤ 9 := by omega
          have g1 : n + 1 + m = 6 := by omega
          have g2 : m + 2 ≤ k := by omega
          have e1 : Aside0 (wrap64 (wrap64 (10 * (L : Int)) + (rd b (n : Int) - 48) % 256) = ((10 * L + (c - 48) : Nat) : Int)) := by
            refine ⟨?_⟩
            rw [w64 (n := 10 * (L : Int)) (by omega) (by omega), w64 (by omega) (by omega)]; omega
          have e2 : Aside0 (wrap64 ((n : Int) + 1) = ((n + 1 : Nat) : Int)) := ⟨by rw [w64 (by omega) (by omega)]; rfl⟩
          rw [e1.out, e2.out]
          clear e1 e2 hc hx h48 h57
          obtain ⟨n', L', k', a1, a2, a3, a4, a5⟩ := ih (n + 1) (10 * L + (c - 48)) k g1 (pow_step h3 hc9) g2
          exact ⟨n', L', k', by omega, a2, a3, by omega, a5⟩
        · rw [if_neg h57]; exact here _ rfl
      · rw [if_neg h48]; exact here _ rfl
    · rw [if_neg ha]; exact here _ rfl
theorem scan_complete {b : List Int} (hb : Byt b) (out : List S44) (R : List UInt8) : ∀ (D : List UInt8) (j L k : Nat), (Lib.bytesOf b).drop j = D ++ 32 :: R → (∀ c ∈ D, 48 ≤ c.toNat ∧ c.toNat ≤ 57) → j + D.length ≤ 5 → L < 10 ^ j → D.length + 2 ≤ k → ∃ k' : Nat, k ≤ k' + D.length + 1 ∧ amphoraref11_Decode.l1 k b 15 out j L = amphoraref11_Decode.j2 k' b 15 out ((j + D.length : Nat) : Int) (numU L D : Nat) := by
  intro D
  induction D with
  | nil =>
    intro j L k h1 _ h3 h4 hk
    obtain ⟨k, rfl⟩ : ∃ j, k = j + 1 := ⟨k - 1, by omega⟩
    obtain ⟨hr, hj⟩ := rd_bl hb j 32 R h1
    have hr : rd b (j : Int) = 32 := hr
    refine ⟨k, by omega, ?_⟩
    simp only [amphoraref11_Decode.l1]
    change j + 0 ≤ 5 at h3
    rw [if_pos (by omega), if_pos (by omega), if_pos (by omega), if_neg (by omega)]; rfl
  | cons c r ih =>
    intro j L k h1 h2 h3 h4 hk
    obtain ⟨k, rfl⟩ : ∃ j, k = j + 1 := ⟨k - 1, by omega⟩
    obtain ⟨hr, hj⟩ := rd_bl hb j c (r ++ 32 :: R) h1
    have hc := h2 c List.mem_cons_self
    rw [List.length_cons] at h3 hk
    have hL5 : L < 100000 := pow_lt5 h4 (by omega)
    have e1 : Aside0 (wrap64 (wrap64 (10 * (L : Int)) + (rd b (j : Int) - 48) % 256) = ((L * 10 + (c.toNat - 48) : Nat) : Int)) := by
      refine ⟨?_⟩
      rw [w64 (n := 10 * (L : Int)) (by omega) (by omega), w64 (by omega) (by omega)]; omega
    have e2 : Aside0 (wrap64 ((j : Int) + 1) = ((j + 1 : Nat) : Int)) := ⟨by rw [w64 (by omega) (by omega)]; rfl⟩
    have hc9 : c.toNat - 48 ≤ 9 := by omega
    rw [List.length_cons]
    have h3' : j + 1 + r.length ≤ 5 := by omega
    have hk' : r.length + 2 ≤ k := by omega
    have t1 : (j : Int) < (b.length : Int) := by omega
    have t2 : (j : Int) < 6 := by omega
    have t3 : rd b (j : Int) ≥ 48 := by omega
    have t4 : rd b (j : Int) ≤ 57 := by omega
    have t5 : (0 : Int) ≤ (j : Int) := by omega
    simp only [amphoraref11_Decode.l1]
    rw [if_pos t1, if_pos t2, if_pos t5, if_pos t3, if_pos t4, e1.out, e2.out]
    clear e1 e2 t1 t2 t3 t4 t5 hr hc hk
    obtain ⟨k', a1, a2⟩ := ih (j + 1) (L * 10 + (c.toNat - 48)) k (by rw [← List.drop_drop, h1]; rfl) (fun c hc => h2 c (List.mem_cons_of_mem _ hc)) h3' (by rw [Nat.mul_comm L 10]; exact pow_step h4 hc9) hk'
    refine ⟨k', by omega, ?_⟩
    rw [a2, show j + 1 + r.length = j + (r.length + 1) by omega]; rfl
/-! ### the reference's Decode -/
def dOut2 : Option (List S44) → List S44 × Int
  | some o => (o, 0)
  | none => ([], 15)
theorem bl_take (b : List Int) (n : Nat) : bl (strOfNums (b.take n)) = (Lib.bytesOf b).take n := by
  rw [bl_str]; simp [Lib.bytesOf, List.map_take]
theorem rdecode_l : ∀ (m : Nat) (b : List Int) (out : List S44) (k : Nat), Byt b → b.length ≤ m → m ≤ 65536 → out.length + b.length ≤ 65536 → 300000 + 30 * m ≤ k → amphoraref11_Decode.l0 k b 15 out = some (dOut2 (dec m b out)) := by
  intro m
  induction m with
  | zero =>
    intro b out k hB h1 h2 h3 hk
    obtain ⟨k, rfl⟩ : ∃ j, k = j + 1 := ⟨k - 1, by omega⟩
    simp only [amphoraref11_Decode.l0]
    rw [if_neg (by omega)]; rfl
  | succ m ih =>
    intro b out k hB h1 h2 h3 hk
    obtain ⟨k, rfl⟩ : ∃ j, k = j + 1 := ⟨k - 1, by omega⟩
    simp only [amphoraref11_Decode.l0]
    have hlb : (Lib.bytesOf b).length = b.length := by simp [Lib.bytesOf]
    by_cases hb : b.length = 0
    · rw [if_neg (by omega)]; unfold dec; rw [if_pos hb]; rfl
    · rw [if_pos (by omega)]
      unfold dec; rw [if_neg hb]
      -- what follows a line
      have next : ∀ (key val : ByteArray) (n k' : Nat), Line (Lib.bytesOf b) key val n → k ≤ k' + 20 → (if (out.length : Int) > 0 then (if 0 ≤ (wrap64 ((out.length : Int) - 1)) then (if (wrap64 ((out.length : Int) - 1)) < (out.length : Int) then (if ((Op.bytesLess (((rd_T44 out (wrap64 ((out.length : Int) - 1))).f0).toList) key.toList) = true) then (if out.length < 4398046511104 then (amphoraref11_Decode.l0 k' (b.drop n) 15 (out ++ [(⟨key, val⟩ : S44)])) else (none)) else (some (([] : List (S44)), 15))) else (none)) else (none)) else (if out.length < 4398046511104 then (amphoraref11_Decode.l0 k' (b.drop n) 15 (out ++ [(⟨key, val⟩ : S44)])) else (none))) = some (dOut2 (if badK out key = true then none else dec m (b.drop n) (out ++ [⟨key, val⟩]))) := by
        intro key val n k' hl hk'
        obtain ⟨_, hn, h5, _, _⟩ := hl.at
        rw [hlb] at hn
        have hrec := ih (b.drop n) (out ++ [⟨key, val⟩]) k' (fun x hx => hB x (List.mem_of_mem_drop hx)) (by rw [List.length_drop]; omega) (by omega) (by rw [List.length_drop, List.length_append]; show out.length + 1 + _ ≤ _; omega) (by omega)
        have hw : Aside0 (wrap64 ((out.length : Int) - 1) = (out.length : Int) - 1) := ⟨w64 (by omega) (by omega)⟩
        rw [hw.out]
        unfold badK
        by_cases ho : 0 < out.length
        · rw [if_pos (by omega), if_pos (by omega), if_pos (by omega), decide_eq_true ho, Bool.true_and]
          cases hl : Op.bytesLess ((rd_T44 out ((out.length : Int) - 1)).f0).toList key.toList with
          | true => rw [if_pos rfl, if_pos (by omega), if_neg (by simp)]; exact hrec
          | false => rw [if_neg (by simp), if_pos (by simp)]; rfl
        · rw [if_neg (by omega), if_pos (by omega), decide_eq_false ho, Bool.false_and, if_neg (by simp)]; exact hrec
      cases hs : stepV (Lib.bytesOf b) with
      | none =>
        obtain ⟨n', L', k', a1, a2, a3, a4, a5⟩ := scan_sound hB (by omega) out 6 0 0 k (by omega) (by decide) (by omega)
        have a5 : amphoraref11_Decode.l1 k b 15 out 0 0 = amphoraref11_Decode.j2 k' b 15 out n' L' := a5
        rw [a5]
        obtain ⟨k', rfl⟩ : ∃ j, k' = j + 2 := ⟨k' - 2, by omega⟩
        have bad : amphoraref11_Decode.j3 (k' + 1) b 15 out n' L' true = some (([] : List S44), (15 : Int)) := by simp only [amphoraref11_Decode.j3]; rw [if_pos trivial]
        have hsome : some (dOut2 none) = some (([] : List S44), (15 : Int)) := rfl
        rw [hsome]
        simp only [amphoraref11_Decode.j2]
        by_cases hc1 : (L' : Int) > (b.length : Int)
        · rw [if_pos hc1]; exact bad
        · rw [if_neg hc1]
          by_cases hc2 : (L' : Int) ≤ (n' : Int)
          · rw [decide_eq_true hc2]; exact bad
          · rw [decide_eq_false hc2]
            simp only [amphoraref11_Decode.j3]
            rw [if_neg (by simp), if_pos (by omega), if_pos (by omega), Int.toNat_natCast]
            have hsz : (strOfNums (b.take L')).size = L' := by rw [strOfNums_size, List.length_take]; omega
            have e2 : Aside0 (wrap64 ((n' : Int) + 1) = ((n' + 1 : Nat) : Int)) := ⟨by rw [w64 (by omega) (by omega)]; rfl⟩
            obtain ⟨key, val, ok, c1, c2⟩ := rcut_sound (strOfNums (b.take L')) n' (by omega) a2 ((strOfNums (b.take L')).size + 10 - (n' + 1)) (n' + 1) k' (by omega) (by omega) (by omega)
            unfold amphoraref11_cut.f
            rw [e2.out, c1, Option.bind_some]
            cases ok with
            | true => exact absurd ⟨_, c2 rfl, hsz, bl_take b L'⟩ (stepV_none hs key val L')
            | false => rfl
      | some p =>
        obtain ⟨key, val, n⟩ := p
        have hl := stepV_some hs
        obtain ⟨h4, hn, h5, h6, hkw⟩ := hl.at
        rw [hlb] at hn
        have hD : (Lib.decDigits n).length ≤ 5 := by rw [Lib.decDigits_length]; exact nd_le n (by omega)
        have hdrop : ∃ R, (Lib.bytesOf b).drop 0 = Lib.decDigits n ++ 32 :: R := by
          refine ⟨(bl key ++ 61 :: (bl val ++ [10])) ++ (Lib.bytesOf b).drop n, ?_⟩
          have hT := List.take_append_drop n (Lib.bytesOf b)
          rw [h4] at hT
          refine List.drop_zero.trans (hT.symm.trans ?_)
          unfold bytesL
          simp [List.append_assoc, List.cons_append]
        obtain ⟨R, hR⟩ := hdrop
        obtain ⟨k', a1, a2⟩ := scan_complete hB out R (Lib.decDigits n) 0 0 k hR (dig_digit n) (by omega) (by decide) (by omega)
        rw [numU_dig, Nat.zero_add, Lib.decDigits_length] at a2
        have a2 : amphoraref11_Decode.l1 k b 15 out 0 0 = amphoraref11_Decode.j2 k' b 15 out (Lib.nDigits n : Nat) n := a2
        rw [a2]
        obtain ⟨k', rfl⟩ : ∃ j, k' = j + 2 := ⟨k' - 2, by omega⟩
        simp only [amphoraref11_Decode.j2]
        have hnd : Lib.nDigits n ≤ 5 := nd_le n (by omega)
        obtain ⟨Lb, l1, l2, l3⟩ := id hl
        have hLb : strOfNums (b.take n) = Lb := bl_inj (by rw [bl_take, l3])
        have hlt : Lib.nDigits n < n := by
          have := bytesL_length n key val
          rw [← h4, List.length_take, hlb] at this
          omega
        rw [if_neg (by omega), decide_eq_false (by omega)]
        simp only [amphoraref11_Decode.j3]
        rw [if_neg (by simp), if_pos (by omega), if_pos (by omega), Int.toNat_natCast, hLb]
        have e2 : Aside0 (wrap64 (((Lib.nDigits n : Nat) : Int) + 1) = ((Lib.nDigits n + 1 + 0 : Nat) : Int)) := ⟨by rw [w64 (by omega) (by omega)]; rfl⟩
        have hcut := rcut_complete Lb key val l1 key.size 0 k' (by omega) (by have := kwB_size hkw; omega)
        rw [l2] at hcut
        unfold amphoraref11_cut.f
        rw [e2.out, hcut, Option.bind_some, if_pos rfl]
        exact next key val n k' hl (by rw [Lib.decDigits_length] at a1; omega)
theorem rdecode_f (b : List Int) (hB : Byt b) (k : Nat) (hk : 3000000 ≤ k) : amphoraref11_Decode.f k b = some (dOut2 (decV b)) := by
  unfold amphoraref11_Decode.f decV
  by_cases h : b.length > 65536
  · rw [if_pos (by omega), if_pos h]; rfl
  · rw [if_neg (by omega), if_neg h]
    exact rdecode_l b.length b [] k hB (Nat.le_refl _) (by omega) (by simp; omega) (by omega)
/-! ### Same -/
theorem same_l (l : List S44) (hl : l.length ≤ 140737488351232) : ∀ (m i k : Nat), i + m = l.length → m + 1 ≤ k → amphoraref11_Same.l0 k l l (i : Int) = some true := by
  intro m
  induction m with
  | zero =>
    intro i k h1 hk
    obtain ⟨k, rfl⟩ : ∃ j, k = j + 1 := ⟨k - 1, by omega⟩
    simp only [amphoraref11_Same.l0]; rw [if_neg (by omega)]
  | succ m ih =>
    intro i k h1 hk
    obtain ⟨k, rfl⟩ : ∃ j, k = j + 1 := ⟨k - 1, by omega⟩
    have e2 : Aside0 (wrap64 ((i : Int) + 1) = ((i + 1 : Nat) : Int)) := ⟨by rw [w64 (by omega) (by omega)]; rfl⟩
    simp only [amphoraref11_Same.l0, e2.out]
    rw [if_pos (by omega), if_pos (by omega), if_pos (by omega), if_neg (by simp)]
    exact ih (i + 1) k (by omega) (by omega)
theorem same_f (l : List S44) (hl : l.length ≤ 140737488351232) (k : Nat) (hk : l.length + 1 ≤ k) : amphoraref11_Same.f k l l = some true := by
  unfold amphoraref11_Same.f
  rw [if_pos rfl]
  exact same_l l hl l.length 0 k (by omega) (by omega)
theorem dec_len : ∀ (m : Nat) (b : List Int) (out o : List S44), dec m b out = some o → o.length ≤ out.length + m := by
  intro m
  induction m with
  | zero => intro b out o h; unfold dec at h; injection h with h; subst h; omega
  | succ m ih =>
    intro b out o h
    unfold dec at h
    split at h
    · injection h with h; subst h; omega
    · split at h
      · cases h
      · split at h
        · cases h
        · have := ih _ _ _ h
          rw [List.length_append] at this
          change o.length ≤ out.length + 1 + m at this
          omega
end PX
end Go.Proofs.YtcengaholljddaaDoor
