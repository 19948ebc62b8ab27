import Derived.Test.YtcengaholljddaaDoorPX2
namespace Go.Proofs.YtcengaholljddaaDoor
open Go.RowKit Go.Proofs.YtcengaholljddaaDoor.PPax Go.Proofs.YtcengaholljddaaDoorW.PrintWords Go.Proofs.YtcengaholljddaaDoorW.PrintLast
namespace PX
def restB (key val : ByteArray) : ByteArray := ((((⟨#[32]⟩ : ByteArray) ++ key) ++ (⟨#[61]⟩ : ByteArray)) ++ val) ++ (⟨#[10]⟩ : ByteArray)
theorem restB_size (key val : ByteArray) : (restB key val).size = key.size + val.size + 3 := by
  unfold restB; simp only [ByteArray.size_append]; show 1 + key.size + 1 + val.size + 1 = _; omega
def lineB (key val : ByteArray) : Option ByteArray :=
  if kwB key = true ∧ val.size ≤ 65536 ∧ (restB key val).size + dgs (restB key val).size ≤ 65536 then some (itoaB (((restB key val).size + dgs (restB key val).size : Nat) : Int) ++ restB key val) else none
def out1 : Option ByteArray → ByteArray × Option Int
  | some s => (s, none)
  | none => ((⟨#[]⟩ : ByteArray), some 15)
theorem kwB_size {s : ByteArray} (h : kwB s = true) : 1 ≤ s.size ∧ s.size ≤ 100 := by
  unfold kwB at h; simp only [Bool.and_eq_true, decide_eq_true_eq] at h; exact ⟨h.1, h.2.1⟩
theorem line_f (key val : ByteArray) (k : Nat) (hk : key.size + 120 ≤ k) : pax_Line.f k key val = some (out1 (lineB key val)) := by
  obtain ⟨k, rfl⟩ : ∃ j, k = j + 1 := ⟨k - 1, by omega⟩
  unfold pax_Line.f lineB
  rw [kw_f key _ (by omega), Option.bind_some]
  cases hkw : kwB key with
  | false => rw [if_neg (by simp), if_neg (fun h => by cases h.1)]; simp only [pax_Line.j0, if_true]; rfl
  | true =>
    have hs := kwB_size hkw
    rw [if_pos rfl]
    by_cases hv : val.size ≤ 65536
    · have hd := dgs_le (restB key val).size
      have hz := restB_size key val
      have e3 : ((⟨#[32]⟩ : ByteArray) ++ key).size = 1 + key.size := by simp only [ByteArray.size_append]; rfl
      have e4 : (((⟨#[32]⟩ : ByteArray) ++ key) ++ (⟨#[61]⟩ : ByteArray)).size = 1 + key.size + 1 := by simp only [ByteArray.size_append]; rfl
      have e5 : ((((⟨#[32]⟩ : ByteArray) ++ key) ++ (⟨#[61]⟩ : ByteArray)) ++ val).size = 1 + key.size + 1 + val.size := by simp only [ByteArray.size_append]; rfl
      simp only [pax_Line.j0]
      rw [if_neg (by rw [decide_eq_true_eq]; omega), if_pos (by omega), if_pos (by omega), if_pos (by omega), if_pos (by omega)]
      show ((pax_length.f k ((restB key val).size : Int)).bind fun t120 => (if t120 > 65536 then (some ((⟨#[]⟩ : ByteArray), some 15)) else ((strconv_Itoa_26.f t120).bind fun t121 => (if t121.size + (restB key val).size ≤ 9223372036854775807 then (some (t121 ++ restB key val, none)) else (none))))) = _
      rw [len_f _ (by omega) k (by omega), Option.bind_some]
      by_cases hL : (restB key val).size + dgs (restB key val).size ≤ 65536
      · rw [if_neg (by omega), itoa_f _ (by omega), Option.bind_some, if_pos (by rw [itoaB_size, dgs_nd _ (by omega)]; omega), if_pos ⟨trivial, hv, hL⟩]; rfl
      · rw [if_pos (by omega), if_neg (fun h => hL h.2.2)]; rfl
    · simp only [pax_Line.j0]
      rw [if_pos (by rw [decide_eq_true_eq]; omega), if_neg (fun h => hv h.2.1)]; rfl
/-! ### the reference's -/
theorem str_cons (d : Nat) (hd : d < 10) (s : ByteArray) : strOfNums [wrap64 (48 + (d : Int)) % 256] ++ s = (⟨#[UInt8.ofNat (48 + d)]⟩ : ByteArray) ++ s := by
  congr 1
  rw [w64 (by omega) (by omega)]
  unfold strOfNums
  apply ByteArray.ext; apply Array.ext'
  show [(((48 + (d : Int)) % 256).toNat).toUInt8] = [UInt8.ofNat (48 + d)]
  rw [show ((48 + (d : Int)) % 256).toNat = 48 + d by omega]
theorem ba_append_assoc (a b c : ByteArray) : a ++ b ++ c = a ++ (b ++ c) := by
  apply ByteArray.ext; simp [Array.append_assoc]
theorem dec_l : ∀ (m u : Nat) (s : ByteArray) (k : Nat), u < 9223372036854775808 → u ≤ m → (1 ≤ u ∨ s.size = 0) → s.size + Lib.nDigits u ≤ 1000 → m + 2 ≤ k → amphoranum_Decimal.l0 k (u : Int) s false = some ((⟨(Lib.decDigits u).toArray⟩ : ByteArray) ++ s) := by
  intro m
  induction m using Nat.strongRecOn with
  | _ m ih =>
  intro u s k h1 h2 h3 h4 hk
  obtain ⟨k, rfl⟩ : ∃ j, k = j + 2 := ⟨k - 2, by omega⟩
  have hnd := Lib.nDigits_pos u
  have e1 : Int.tmod (u : Int) 10 = ((u % 10 : Nat) : Int) := rfl
  have e2 : wrap64 (Int.tdiv (u : Int) 10) = ((u / 10 : Nat) : Int) := by
    rw [show Int.tdiv (u : Int) 10 = ((u / 10 : Nat) : Int) from rfl, w64 (by omega) (by omega)]
  have key : (if (strOfNums [wrap64 (48 + ((u % 10 : Nat) : Int)) % 256]).size + s.size ≤ 9223372036854775807 then (amphoranum_Decimal.l0 (k + 1) ((u / 10 : Nat) : Int) ((strOfNums [wrap64 (48 + ((u % 10 : Nat) : Int)) % 256]) ++ s) false) else none) = some ((⟨(Lib.decDigits u).toArray⟩ : ByteArray) ++ s) := by
    have e3 : (strOfNums [wrap64 (48 + ((u % 10 : Nat) : Int)) % 256]).size = 1 := by rw [strOfNums_size]; rfl
    rw [if_pos (by omega), str_cons _ (Nat.mod_lt _ (by omega))]
    by_cases hu : u < 10
    · rw [show u / 10 = 0 by omega]
      simp only [amphoranum_Decimal.l0]
      rw [if_neg (fun h => by have := size_nil.1 h; rw [ByteArray.size_append] at this; change 1 + _ = 0 at this; omega), if_neg (by omega), if_neg (by simp)]
      rw [Lib.decDigits, dif_pos hu, Nat.mod_eq_of_lt hu]
    · rw [Lib.nDigits_big hu] at h4
      rw [ih (u / 10) (by omega) (u / 10) _ (k + 1) (by omega) (Nat.le_refl _) (.inl (by omega)) (by rw [ByteArray.size_append]; show 1 + s.size + _ ≤ _; omega) (by omega)]
      rw [Lib.decDigits.eq_1 u, dif_neg hu]
      congr 1
      rw [← ba_append_assoc]
      congr 1
  show (if s.toList = ([] : List UInt8) then _ else _) = _
  by_cases hs : s.size = 0
  · rw [if_pos (size_nil.2 hs), Option.bind_some, e1, e2]; exact key
  · rw [if_neg (fun h => hs (size_nil.1 h)), if_pos (by omega), Option.bind_some, e1, e2]; exact key
theorem ba_append_empty (a : ByteArray) : a ++ (⟨#[]⟩ : ByteArray) = a := by apply ByteArray.ext; simp
theorem dec_f (u : Nat) (h : u < 100000) (k : Nat) (hk : u + 5 ≤ k) : amphoranum_Decimal.f k (u : Int) = some (itoaB (u : Int)) := by
  obtain ⟨k, rfl⟩ : ∃ j, k = j + 1 := ⟨k - 1, by omega⟩
  have := nd_le u h
  unfold amphoranum_Decimal.f
  rw [if_neg (by omega), if_neg (by omega), decide_eq_false (by omega)]
  simp only [amphoranum_Decimal.j0]
  rw [dec_l u u _ k (by omega) (Nat.le_refl _) (.inr rfl) (by show 0 + _ ≤ _; omega) (by omega), ba_append_empty]
  unfold itoaB; rw [Lib.itoa_nonneg]
def out2 : Option ByteArray → ByteArray × Int
  | some s => (s, 0)
  | none => ((⟨#[]⟩ : ByteArray), 15)
theorem rline_l (r : ByteArray) (hr : r.size ≤ 65700) : ∀ (m d k : Nat), d + m = 6 → 1 ≤ d → d ≤ dgs r.size ∨ (65536 < r.size + dgs r.size) → r.size + 20 + m ≤ k → amphoraref11_Line.l0 k r (d : Int) = some (if r.size + dgs r.size ≤ 65536 then (itoaB ((r.size + dgs r.size : Nat) : Int) ++ r, 0) else ((⟨#[]⟩ : ByteArray), 15)) := by
  intro m
  have hg := dgs_le r.size
  induction m with
  | zero =>
    intro d k hd h1 h2 hk
    obtain ⟨k, rfl⟩ : ∃ j, k = j + 1 := ⟨k - 1, by omega⟩
    simp only [amphoraref11_Line.l0]
    rw [if_neg (by omega), if_neg (by omega)]
  | succ m ih =>
    intro d k hd h1 h2 hk
    obtain ⟨k, rfl⟩ : ∃ j, k = j + 1 := ⟨k - 1, by omega⟩
    have e1 : wrap64 ((d : Int) + 1) = ((d + 1 : Nat) : Int) := by rw [w64 (by omega) (by omega)]; omega
    have e2 : wrap64 ((r.size : Int) + (d : Int)) = ((r.size + d : Nat) : Int) := by rw [w64 (by omega) (by omega)]; omega
    simp only [amphoraref11_Line.l0, e1, e2]
    rw [if_pos (by omega), dec_f _ (by omega) k (by omega), Option.bind_some, itoaB_size]
    by_cases hc : Lib.nDigits (r.size + d) = d
    · rw [if_pos (by omega)]
      by_cases hL : r.size + d ≤ 65536
      · have hd2 : d = dgs r.size := by
          rcases Nat.lt_trichotomy d (dgs r.size) with h | h | h
          · exact absurd hc (dgs_least _ hr d h1 h)
          · exact h
          · rcases h2 with h2 | h2 <;> omega
        rw [if_pos (by omega), if_pos (by omega), ← hd2, if_pos (by omega)]
      · rw [if_neg (by omega)]
        refine ih (d + 1) k (by omega) (by omega) (.inr ?_) (by omega)
        rcases h2 with h2 | h2
        · have := Nat.le_of_lt_succ (Nat.lt_succ_of_le h2); omega
        · exact h2
    · rw [if_neg (by omega)]
      refine ih (d + 1) k (by omega) (by omega) ?_ (by omega)
      rcases h2 with h2 | h2
      · left
        rcases Nat.lt_or_eq_of_le h2 with h | h
        · omega
        · exact absurd (h ▸ dgs_nd r.size hr) hc
      · exact .inr h2
theorem rline_f (key val : ByteArray) (hks : key.size ≤ 140737488351232) (k : Nat) (hk : key.size + 70000 ≤ k) : amphoraref11_Line.f k key val = some (out2 (lineB key val)) := by
  obtain ⟨k, rfl⟩ : ∃ j, k = j + 1 := ⟨k - 1, by omega⟩
  unfold amphoraref11_Line.f lineB
  rw [rkw_f key hks _ (by omega), Option.bind_some]
  cases hkw : kwB key with
  | false => rw [if_neg (by simp), if_neg (fun h => by cases h.1)]; simp only [amphoraref11_Line.j0, if_true]; rfl
  | true =>
    have hs := kwB_size hkw
    rw [if_pos rfl]
    by_cases hv : val.size ≤ 65536
    · have hz := restB_size key val
      have e3 : ((⟨#[32]⟩ : ByteArray) ++ key).size = 1 + key.size := by simp only [ByteArray.size_append]; rfl
      have e4 : (((⟨#[32]⟩ : ByteArray) ++ key) ++ (⟨#[61]⟩ : ByteArray)).size = 1 + key.size + 1 := by simp only [ByteArray.size_append]; rfl
      have e5 : ((((⟨#[32]⟩ : ByteArray) ++ key) ++ (⟨#[61]⟩ : ByteArray)) ++ val).size = 1 + key.size + 1 + val.size := by simp only [ByteArray.size_append]; rfl
      simp only [amphoraref11_Line.j0]
      rw [if_neg (by rw [decide_eq_true_eq]; omega), if_pos (by omega), if_pos (by omega), if_pos (by omega), if_pos (by omega)]
      show amphoraref11_Line.l0 k (restB key val) ((1 : Nat) : Int) = _
      rw [rline_l _ (by omega) 5 1 k (by omega) (by omega) (.inl (dgs_le _).2) (by omega)]
      by_cases hL : (restB key val).size + dgs (restB key val).size ≤ 65536
      · rw [if_pos hL, if_pos ⟨trivial, hv, hL⟩]; rfl
      · rw [if_neg hL, if_neg (fun h => hL h.2.2)]; rfl
    · simp only [amphoraref11_Line.j0]
      rw [if_pos (by rw [decide_eq_true_eq]; omega), if_neg (fun h => hv h.2.1)]; rfl
end PX
end Go.Proofs.YtcengaholljddaaDoor
