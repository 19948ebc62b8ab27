/- The statement UstarSplits over the printed functions. Conditions: a text of at most 140737488351232 bytes. -/
import Derived.Test.YtkdklgcjimnabaaUPA
import Derived.Test.YtkdklgcjimnabaaUAlive
import Derived.Test.YtkdklgcjimnabaaPUstarx11
import Derived.KernelRfl
namespace Go.Proofs.Ytkdklgcjimnabaa.PUstar
open Go.RowKit Go.Proofs.YtkdklgcjimnabaaW.PrintWords Go.Proofs.YtkdklgcjimnabaaW.PrintLast
set_option linter.unusedVariables false
set_option linter.unusedSimpArgs false
namespace UP
open UM CopyS
theorem fp_f (p : ByteArray) (hp : p.size ≤ 140737488351232) (k : Nat) (hk : p.size + 2 ≤ k) : ustar_FitsPath.f k p = some (splitS p).2.2 := by
  unfold ustar_FitsPath.f; rw [split_f p hp k hk]; rfl
/-- The bytes that aren't zero. -/
def fz (l : List Int) : List Int := l.filter (fun c => !decide (c = 0))
theorem fz_step (X : List Int) (i : Nat) (h : i < X.length) : fz (X.drop i) = (if X[i] = 0 then [] else [X[i]]) ++ fz (X.drop (i + 1)) := by
  rw [List.drop_eq_getElem_cons h]
  unfold fz
  rw [List.filter_cons]
  by_cases h0 : X[i] = 0
  · rw [if_pos h0]; simp [h0]
  · rw [if_neg h0]; simp [h0]
theorem loop0 (x0 : ByteArray) (x3 X : List Int) (t : ByteArray) (hX : X.length ≤ 1000) (k : Nat) : ∀ (m i : Nat) (s : ByteArray), i + m = X.length → s.size ≤ i →
    amphoralaw10_UstarSplits.l0 (k + 1 + m) x0 x3 s t X (X.length : Int) (i : Int) = amphoralaw10_UstarSplits.l0 (k + 1) x0 x3 (s ++ strOfNums (fz (X.drop i))) t X (X.length : Int) (X.length : Int) := by
  intro m
  induction m with
  | zero =>
    intro i s h hs
    have : i = X.length := by omega
    subst this
    rw [List.drop_length]
    have : s ++ strOfNums (fz []) = s := by apply ByteArray.ext; simp [fz, strOfNums]
    rw [this]
  | succ m ih =>
    intro i s h hs
    have hi : i < X.length := by omega
    have hr := rd_at X i hi
    have e1 : wrap64 ((i : Int) + 1) = ((i + 1 : Nat) : Int) := by rw [UP.w64 (by omega) (by omega)]; omega
    rw [show k + 1 + (m + 1) = (k + 1 + m) + 1 by omega, amphoralaw10_UstarSplits.l0.eq_2, fz_step X i hi, hr, e1]
    rw [if_pos (by omega), if_pos (by omega), if_pos (by omega)]
    by_cases h0 : X[i] = 0
    · rw [if_pos h0, if_pos h0, List.nil_append]
      exact ih (i + 1) s (by omega) (by omega)
    · rw [if_neg h0, if_neg h0, Option.bind_some, if_pos (by rw [strOfNums_size]; show s.size + 1 ≤ _; omega)]
      rw [ih (i + 1) _ (by omega) (by rw [ByteArray.size_append, strOfNums_size]; show s.size + 1 ≤ _; omega), str_append, ByteArray.append_assoc]
theorem loop1 (x0 : ByteArray) (X : List Int) (t : ByteArray) (hX : X.length ≤ 1000) (k : Nat) : ∀ (m i : Nat) (s : ByteArray), i + m = X.length → s.size ≤ i →
    amphoralaw10_UstarSplits.l1 (k + 1 + m) x0 t s X (X.length : Int) (i : Int) = amphoralaw10_UstarSplits.l1 (k + 1) x0 t (s ++ strOfNums (fz (X.drop i))) X (X.length : Int) (X.length : Int) := by
  intro m
  induction m with
  | zero =>
    intro i s h hs
    have : i = X.length := by omega
    subst this
    rw [List.drop_length]
    have : s ++ strOfNums (fz []) = s := by apply ByteArray.ext; simp [fz, strOfNums]
    rw [this]
  | succ m ih =>
    intro i s h hs
    have hi : i < X.length := by omega
    have hr := rd_at X i hi
    have e1 : wrap64 ((i : Int) + 1) = ((i + 1 : Nat) : Int) := by rw [UP.w64 (by omega) (by omega)]; omega
    rw [show k + 1 + (m + 1) = (k + 1 + m) + 1 by omega, amphoralaw10_UstarSplits.l1.eq_2, fz_step X i hi, hr, e1]
    rw [if_pos (by omega), if_pos (by omega), if_pos (by omega)]
    by_cases h0 : X[i] = 0
    · rw [if_pos h0, if_pos h0, List.nil_append]
      exact ih (i + 1) s (by omega) (by omega)
    · rw [if_neg h0, if_neg h0, Option.bind_some, if_pos (by rw [strOfNums_size]; show s.size + 1 ≤ _; omega)]
      rw [ih (i + 1) _ (by omega) (by rw [ByteArray.size_append, strOfNums_size]; show s.size + 1 ≤ _; omega), str_append, ByteArray.append_assoc]
theorem fz_pad (s : ByteArray) (hs : asciiB s = true) (n : Nat) : strOfNums (fz (padf s n)) = s := by
  have h1 : fz (padf s n) = sbytes s := by
    unfold fz padf
    rw [List.filter_append]
    have h2 : (List.replicate (n - s.size) (0 : Int)).filter (fun c => !decide (c = 0)) = [] := by
      rw [List.filter_eq_nil_iff]; intro a ha; have := List.eq_of_mem_replicate ha; simp [this]
    rw [h2, List.append_nil, List.filter_eq_self]
    intro c hc
    unfold sbytes at hc
    obtain ⟨b, hb, rfl⟩ := List.mem_map.1 hc
    have := (ascii_mem.1 hs b hb).1
    have : b.toNat ≠ 0 := fun h => this (UInt8.toNat_inj.1 h)
    simp only [Bool.not_eq_true', decide_eq_false_iff_not]; omega
  rw [h1, str_sb]
theorem splits (A : ∀ k, 600 ≤ k → amphoralaw10_alive.f k = some true) (p : ByteArray) (hp : p.size ≤ 140737488351232) : ∃ k, amphoralaw10_UstarSplits.f k p = some true := by
  refine ⟨p.size + 3000, ?_⟩
  unfold amphoralaw10_UstarSplits.f
  rw [A _ (by omega), Option.bind_some, if_pos rfl, enc_f p 0 0 0 0 0 53 ⟨#[]⟩ hp (by omega) _ (by omega), Option.bind_some]
  have hF : fitsS 0 0 0 0 0 53 ⟨#[]⟩ = true := by decide
  cases hS : (splitS p).2.2 with
  | false =>
    have hE : encV p 0 0 0 0 0 53 ⟨#[]⟩ = ([], some 14) := by unfold encV; rw [if_neg (fun h => by rw [hS] at h; cases h.1)]
    rw [hE, if_neg (by decide), fp_f p hp _ (by omega), hS]; rfl
  | true =>
    have hE : encV p 0 0 0 0 0 53 ⟨#[]⟩ = (encS (splitS p).1 (splitS p).2.1 0 0 0 0 0 53 ⟨#[]⟩, none) := by unfold encV; rw [if_pos ⟨hS, hF⟩]
    have s := split_ok hS
    rw [hE]
    generalize hx : encS (splitS p).1 (splitS p).2.1 0 0 0 0 0 53 ⟨#[]⟩ = x
    have hl : x.length = 512 := by rw [← hx]; exact blk_length s.n2 s.p1 (by decide) (by simp [sumF, od_length])
    unfold encS at hx
    obtain ⟨r1, _, _, _, _, _, _, _, r9⟩ := reads (pre := (splitS p).1) (name := (splitS p).2.1) s.n2 s.p1 (by decide) (by simp [sumF, od_length]) x hx
    have q1 : x.take 100 = padf (splitS p).2.1 100 := by rw [← r1]; rfl
    have q2 : (x.take 500).drop 345 = padf (splitS p).1 155 := by rw [← r9]; rfl
    have l1 := padf_length (splitS p).2.1 100 s.n2
    have l2 := padf_length (splitS p).1 155 s.p1
    rw [if_pos (by rfl), if_pos (by show (100 : Int) ≤ (x.length : Int); omega)]
    show (some (x.take 100)).bind _ = _
    rw [Option.bind_some, q1]
    have b1 := loop0 p x (padf (splitS p).2.1 100) ⟨#[]⟩ (by omega) (p.size + 2899) 100 0 ⟨#[]⟩ (by omega) (by decide)
    rw [List.drop_zero, fz_pad _ s.an, empty_append] at b1
    refine Eq.trans b1 ?_
    rw [amphoralaw10_UstarSplits.l0.eq_2, if_neg (by omega), if_pos (by decide), if_pos (by omega), q2, Option.bind_some]
    have b2 := loop1 p (padf (splitS p).1 155) (splitS p).2.1 (by omega) (p.size + 2743) 155 0 ⟨#[]⟩ (by omega) (by decide)
    rw [List.drop_zero, fz_pad _ s.ap, empty_append] at b2
    refine Eq.trans b2 ?_
    rw [amphoralaw10_UstarSplits.l1.eq_2, if_neg (by omega)]
    rcases s.j with ⟨j1, j2, j3⟩ | ⟨j1, j2, j3⟩
    · rw [if_pos (size_nil.2 (by rw [j1]; rfl)), if_pos (by rw [← j2])]; simp; omega
    · have zz : ((splitS p).1 ++ (⟨#[47]⟩ : ByteArray)).size = (splitS p).1.size + 1 := by rw [ByteArray.size_append]; rfl
      have hj : ((splitS p).1 ++ (⟨#[47]⟩ : ByteArray)) ++ (splitS p).2.1 = p := j2.symm
      have n1 := s.n1
      have n2 := s.n2
      have n3 := s.p1
      rw [if_neg (fun h => by have := size_nil.1 h; omega), if_pos (by omega), if_pos (by rw [zz]; omega), if_pos (by rw [hj]), if_pos (by omega), if_neg (fun h => by have := size_nil.1 h; omega), fp_f p hp _ (by omega), hS]; rfl
end UP
end Go.Proofs.Ytkdklgcjimnabaa.PUstar
namespace Go.Proofs.Ytkdklgcjimnabaa.Pure
open Go.Proofs.Ytkdklgcjimnabaa.PUstar
theorem UstarSplits : amphoralaw10_UstarSplits.Pure := fun p hp => UP.splits alive_all p hp
end Go.Proofs.Ytkdklgcjimnabaa.Pure
