import Derived.Test.YtcengaholljddaaDoorPX1
namespace Go.Proofs.YtcengaholljddaaDoor
open Go.RowKit Go.Proofs.YtcengaholljddaaDoor.PPax Go.Proofs.YtcengaholljddaaDoorW.PrintWords Go.Proofs.YtcengaholljddaaDoorW.PrintLast
namespace PX
def dgs (x : Nat) : Nat := if x ≤ 8 then 1 else if x ≤ 97 then 2 else if x ≤ 996 then 3 else if x ≤ 9995 then 4 else 5
theorem itoaB_size (u : Nat) : (itoaB (u : Int)).size = Lib.nDigits u := by
  unfold itoaB; rw [Lib.itoa_nonneg]
  show (Lib.decDigits u).toArray.size = _
  rw [List.size_toArray, Lib.decDigits_length]
theorem nd (u : Nat) (h : u < 100000) : Lib.nDigits u = if u < 10 then 1 else if u < 100 then 2 else if u < 1000 then 3 else if u < 10000 then 4 else 5 := by
  by_cases h1 : u < 10
  · rw [if_pos h1, Lib.nDigits_small h1]
  · rw [if_neg h1]
    by_cases h2 : u < 100
    · rw [if_pos h2]; exact Lib.nDigits_unique 1 u (by omega) (by omega)
    · rw [if_neg h2]
      by_cases h3 : u < 1000
      · rw [if_pos h3]; exact Lib.nDigits_unique 2 u (by omega) (by omega)
      · rw [if_neg h3]
        by_cases h4 : u < 10000
        · rw [if_pos h4]; exact Lib.nDigits_unique 3 u (by omega) (by omega)
        · rw [if_neg h4]; exact Lib.nDigits_unique 4 u (by omega) (by omega)
theorem itoa_f (u : Nat) (h : u < 9223372036854775808) : strconv_Itoa_26.f (u : Int) = some (itoaB u) := by
  unfold strconv_Itoa_26.f; rw [if_pos (by omega)]
theorem nd_le (u : Nat) (h : u < 100000) : Lib.nDigits u ≤ 5 := by
  have := nd u h
  by_cases h1 : u < 10
  · rw [if_pos h1] at this; omega
  · rw [if_neg h1] at this
    by_cases h2 : u < 100
    · rw [if_pos h2] at this; omega
    · rw [if_neg h2] at this
      by_cases h3 : u < 1000
      · rw [if_pos h3] at this; omega
      · rw [if_neg h3] at this
        by_cases h4 : u < 10000
        · rw [if_pos h4] at this; omega
        · rw [if_neg h4] at this; omega
theorem len_e (x n : Nat) (hx : x ≤ 65700) (hn : n ≤ 65800) : wrap64 ((x : Int) + ((itoaB (n : Int)).size : Int)) = ((x + Lib.nDigits n : Nat) : Int) := by
  have hd : Lib.nDigits n ≤ 5 := nd_le n (by omega)
  rw [itoaB_size, w64 (by omega) (by omega)]; omega
theorem len_one (x n : Int) (k : Nat) (v : ByteArray) (h : strconv_Itoa_26.f n = some v) : pax_length.l0 (k + 1) x n = if n = (wrap64 (x + (v.size : Int))) then some n else pax_length.l0 k x (wrap64 (x + (v.size : Int))) := by
  rw [pax_length.l0, h]; rfl
theorem len_stop (x n : Nat) (hx : x ≤ 65700) (hn : n ≤ 65800) (k : Nat) (h : x + Lib.nDigits n = n) : pax_length.l0 (k + 1) (x : Int) (n : Int) = some (n : Int) := by
  rw [len_one _ _ k _ (itoa_f n (by omega)), len_e x n hx hn]
  rw [if_pos (by omega)]
theorem len_go (x n : Nat) (hx : x ≤ 65700) (hn : n ≤ 65800) (k : Nat) (h : x + Lib.nDigits n ≠ n) : pax_length.l0 (k + 1) (x : Int) (n : Int) = pax_length.l0 k (x : Int) ((x + Lib.nDigits n : Nat) : Int) := by
  rw [len_one _ _ k _ (itoa_f n (by omega)), len_e x n hx hn]
  rw [if_neg (by omega)]
theorem len_f (x : Nat) (hx : x ≤ 65700) (k : Nat) (hk : 8 ≤ k) : pax_length.f k (x : Int) = some ((x + dgs x : Nat) : Int) := by
  obtain ⟨k, rfl⟩ : ∃ j, k = j + 8 := ⟨k - 8, by omega⟩
  unfold pax_length.f
  rw [w64 (by omega) (by omega), show (x : Int) + 1 = ((x + 1 : Nat) : Int) by omega]
  have hb : ∀ n, n ≤ 65800 → Lib.nDigits n = if n < 10 then 1 else if n < 100 then 2 else if n < 1000 then 3 else if n < 10000 then 4 else 5 := fun n hn => nd n (by omega)
  have hs : ∀ (n d : Nat) (k : Nat), n ≤ x + 5 → Lib.nDigits n = d → x + d ≠ n → pax_length.l0 k (x : Int) ((x + d : Nat) : Int) = some ((x + dgs x : Nat) : Int) → pax_length.l0 (k + 1) (x : Int) (n : Int) = some ((x + dgs x : Nat) : Int) := fun n d k hn hd hne h => by rw [len_go x n hx (by omega) k (by rw [hd]; exact hne), hd]; exact h
  have hf : ∀ (d : Nat) (k : Nat), d ≤ 5 → Lib.nDigits (x + d) = d → dgs x = d → pax_length.l0 (k + 1) (x : Int) ((x + d : Nat) : Int) = some ((x + dgs x : Nat) : Int) := fun d k hn hd he => by rw [len_stop x (x + d) hx (by omega) k (by rw [hd]), he]
  have d1 := hb (x + 1) (by omega)
  have d2 := hb (x + 2) (by omega)
  have d3 := hb (x + 3) (by omega)
  have d4 := hb (x + 4) (by omega)
  have d5 := hb (x + 5) (by omega)
  have hx' : dgs x = if x ≤ 8 then 1 else if x ≤ 97 then 2 else if x ≤ 996 then 3 else if x ≤ 9995 then 4 else 5 := rfl
  by_cases c1 : x ≤ 8
  · exact hf 1 _ (by omega) (by rw [d1, if_pos (by omega)]) (by rw [hx', if_pos c1])
  rw [if_neg c1] at hx'; rw [if_neg (by omega)] at d1 d2 d3 d4 d5
  by_cases c2 : x ≤ 97
  · have g2 : Lib.nDigits (x + 2) = 2 := by rw [d2, if_pos (by omega)]
    refine hs (x + 1) 2 _ (by omega) (by rw [d1, if_pos (by omega)]) (by omega) ?_
    exact hf 2 _ (by omega) g2 (by rw [hx', if_pos c2])
  rw [if_neg c2] at hx'; rw [if_neg (by omega)] at d2 d3 d4 d5
  by_cases c3 : x ≤ 996
  · have g3 : Lib.nDigits (x + 3) = 3 := by rw [d3, if_pos (by omega)]
    by_cases c : x + 1 < 100
    · refine hs (x + 1) 2 _ (by omega) (by rw [d1, if_pos c]) (by omega) ?_
      refine hs (x + 2) 3 _ (by omega) (by rw [d2, if_pos (by omega)]) (by omega) ?_
      exact hf 3 _ (by omega) g3 (by rw [hx', if_pos c3])
    · refine hs (x + 1) 3 _ (by omega) (by rw [d1, if_neg c, if_pos (by omega)]) (by omega) ?_
      exact hf 3 _ (by omega) g3 (by rw [hx', if_pos c3])
  rw [if_neg c3] at hx'; rw [if_neg (by omega)] at d1; rw [if_neg (by omega)] at d3 d4 d5
  by_cases c4 : x ≤ 9995
  · have g4 : Lib.nDigits (x + 4) = 4 := by rw [d4, if_pos (by omega)]
    by_cases c : x + 1 < 1000
    · refine hs (x + 1) 3 _ (by omega) (by rw [d1, if_pos c]) (by omega) ?_
      refine hs (x + 3) 4 _ (by omega) (by rw [d3, if_pos (by omega)]) (by omega) ?_
      exact hf 4 _ (by omega) g4 (by rw [hx', if_pos c4])
    · refine hs (x + 1) 4 _ (by omega) (by rw [d1, if_neg c, if_pos (by omega)]) (by omega) ?_
      exact hf 4 _ (by omega) g4 (by rw [hx', if_pos c4])
  rw [if_neg c4] at hx'; rw [if_neg (by omega)] at d1; rw [if_neg (by omega)] at d4 d5
  have g5 : Lib.nDigits (x + 5) = 5 := d5
  by_cases c : x + 1 < 10000
  · refine hs (x + 1) 4 _ (by omega) (by rw [d1, if_pos c]) (by omega) ?_
    refine hs (x + 4) 5 _ (by omega) d4 (by omega) ?_
    exact hf 5 _ (by omega) g5 hx'
  · refine hs (x + 1) 5 _ (by omega) (by rw [d1, if_neg c]) (by omega) ?_
    exact hf 5 _ (by omega) g5 hx'
theorem dgs_nd (x : Nat) (hx : x ≤ 65700) : Lib.nDigits (x + dgs x) = dgs x := by
  unfold dgs
  split
  · exact Lib.nDigits_small (by omega)
  · split
    · exact Lib.nDigits_unique 1 _ (by omega) (by omega)
    · split
      · exact Lib.nDigits_unique 2 _ (by omega) (by omega)
      · split
        · exact Lib.nDigits_unique 3 _ (by omega) (by omega)
        · exact Lib.nDigits_unique 4 _ (by omega) (by omega)
theorem dgs_le (x : Nat) : dgs x ≤ 5 ∧ 1 ≤ dgs x := by unfold dgs; by_cases h1 : x ≤ 8 <;> by_cases h2 : x ≤ 97 <;> by_cases h3 : x ≤ 996 <;> by_cases h4 : x ≤ 9995 <;> simp [h1, h2, h3, h4]
theorem dgs_least (x : Nat) (hx : x ≤ 65700) (d : Nat) (h1 : 1 ≤ d) (h2 : d < dgs x) : Lib.nDigits (x + d) ≠ d := by
  have h5 := (dgs_le x).1
  rw [nd (x + d) (by omega)]
  unfold dgs at h2
  repeat' split at h2
  all_goals (repeat' split) <;> omega
end PX
end Go.Proofs.YtcengaholljddaaDoor
