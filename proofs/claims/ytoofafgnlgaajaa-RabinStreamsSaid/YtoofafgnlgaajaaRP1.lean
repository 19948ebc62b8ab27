/- The plain law of the rolling fingerprint: tables, windows, chunks. No program's step in sight. Conditions: as each theorem says. -/
import Derived.Test.YtoofafgnlgaajaaPB
import Derived.Test.YtoofafgnlgaajaaRW8
namespace Go.Proofs.Ytoofafgnlgaajaa.RW
open Go.RowKit Go.Proofs.Ytoofafgnlgaajaa.PRabin Go.Proofs.YtoofafgnlgaajaaW.PrintWords Go.Proofs.YtoofafgnlgaajaaW.PrintLast Go.Proofs.YtoofafgnlgaajaaW.PrintMore Go.Proofs.Ytoofafgnlgaajaa Go.Proofs.Ytoofafgnlgaajaa.PB
set_option linter.unusedVariables false
set_option linter.unusedSimpArgs false
theorem np_two (n : Nat) : GF.np 2 n = 2 ^ n := by
  induction n with
  | zero => rw [GF.np, Nat.pow_zero]
  | succ n ih =>
    rw [GF.np, ih, GF.mul_comm]
    have h := GF.mul_two_mul (2 ^ n) 1
    rw [GF.mul_one] at h
    rw [show (2 : Nat) ^ (n + 1) = 2 * 2 ^ n by rw [Nat.pow_succ, Nat.mul_comm]]
    exact h
/-- The remainder of a byte's multiple of a power of x. -/
def tab (p n i : Nat) : Nat := GF.md (i * 2 ^ n) p
theorem shifts_tab (p n k : Nat) (hp : p ≠ 0) (hp64 : p < 2 ^ 64) (hn : n < 2 ^ 63) (hk : 800 ≤ k) : Shifts k p (n : Int) (tab p n) := by
  refine ⟨((GF.md (GF.np 2 n) p : Nat) : Int), none, Power_f p hp hp64 n hn k (by omega), fun b hb => ⟨none, ?_⟩⟩
  have hm := md_lt (GF.np 2 n) p hp hp64
  have h := MulMod_f p hp hp64 [b, GF.md (GF.np 2 n) p] (by
    intro x hx
    simp only [List.mem_cons, List.not_mem_nil, or_false] at hx
    rcases hx with rfl | rfl
    · exact Nat.lt_of_lt_of_le hb (by decide)
    · exact hm) (by simp) k (by simp; omega)
  rw [mds_spec p hp _ _ (GF.md_L hp 1), GF.md_mul_md hp, GF.one_mul, show GF.prod [b, GF.md (GF.np 2 n) p] = GF.mul b (GF.mul (GF.md (GF.np 2 n) p) 1) from rfl, GF.mul_one, GF.md_mul_md' hp, np_two, GF.mul_pow] at h
  rw [np_two]
  exact h
theorem split_at (a d : Nat) : a = (a % 2 ^ d) ^^^ (a / 2 ^ d * 2 ^ d) := by
  apply Nat.eq_of_testBit_eq
  intro i
  rw [Nat.testBit_xor, Nat.testBit_mod_two_pow, Nat.testBit_mul_two_pow, Nat.testBit_div_two_pow]
  by_cases h : i < d
  · simp [h, Nat.not_le.2 h]
  · simp [h, Nat.le_of_not_lt h]
theorem add_xor {a b n : Nat} (hb : b < 2 ^ n) : a * 2 ^ n + b = (a * 2 ^ n) ^^^ b := by
  have h := split_at (a * 2 ^ n + b) n
  have h1 : (a * 2 ^ n + b) % 2 ^ n = b := by rw [Nat.mul_comm, Nat.mul_add_mod]; exact Nat.mod_eq_of_lt hb
  have h2 : (a * 2 ^ n + b) / 2 ^ n = a := by rw [Nat.mul_comm, Nat.mul_add_div (Nat.two_pow_pos n), Nat.div_eq_of_lt hb, Nat.add_zero]
  rw [h1, h2, Nat.xor_comm] at h
  exact h
theorem getD_range {T : Nat → Nat} {i : Nat} (h : i < 256) : ((List.range 256).map T).getD i 0 = T i := by simp [h]
theorem takeN_md {p d print b : Nat} (hp : p ≠ 0) (hL : GF.L p = d + 1) (hd : 8 ≤ d) (hpr : print < 2 ^ d) (hb : b < 256) : takeN d ((List.range 256).map (tab p d)) print b = GF.md (print * 256 + b) p := by
  have e1 : print / 2 ^ (d - 8) = (print * 256 + b) / 2 ^ d := by
    rw [show d = 8 + (d - 8) by omega, Nat.pow_add, ← Nat.div_div_eq_div_mul, show 8 + (d - 8) - 8 = d - 8 by omega]
    congr 1
    omega
  have ht : print / 2 ^ (d - 8) < 256 := by
    rw [Nat.div_lt_iff_lt_mul (Nat.two_pow_pos _)]
    have : 256 * 2 ^ (d - 8) = 2 ^ d := by rw [show (256 : Nat) = 2 ^ 8 from rfl, ← Nat.pow_add]; congr 1; omega
    omega
  unfold takeN
  rw [getD_range ht, e1]
  conv => rhs; rw [split_at (print * 256 + b) d, GF.md_xor hp]
  rw [GF.md_small (a := (print * 256 + b) % 2 ^ d) (by
    have := GF.L_le.2 (Nat.mod_lt (print * 256 + b) (Nat.two_pow_pos d))
    omega)]
  rfl
/-- Bytes as one number, the first one highest. -/
def val (l : List Nat) : Nat := l.foldl (fun v b => v * 256 + b) 0
theorem val_snoc (l : List Nat) (b : Nat) : val (l ++ [b]) = val l * 256 + b := by unfold val; rw [List.foldl_append]; rfl
theorem val_from (l : List Nat) : ∀ v, l.foldl (fun v b => v * 256 + b) v = v * 256 ^ l.length + val l := by
  induction l with
  | nil => intro v; simp [val]
  | cons x l ih =>
    intro v
    rw [List.foldl_cons, ih, show val (x :: l) = l.foldl (fun v b => v * 256 + b) (0 * 256 + x) from rfl, ih, List.length_cons, Nat.pow_succ, Nat.add_mul, Nat.add_mul, Nat.mul_assoc, Nat.mul_comm 256]
    simp only [Nat.zero_mul, Nat.zero_add, Nat.add_assoc]
theorem val_cons (x : Nat) (l : List Nat) : val (x :: l) = x * 2 ^ (8 * l.length) + val l := by
  rw [show val (x :: l) = l.foldl (fun v b => v * 256 + b) (0 * 256 + x) from rfl, val_from, Nat.zero_mul, Nat.zero_add, Nat.pow_mul]
theorem val_lt (l : List Nat) (h : ∀ x ∈ l, x < 256) : val l < 2 ^ (8 * l.length) := by
  induction l with
  | nil => simp [val]
  | cons x l ih =>
    rw [val_cons, List.length_cons, show 8 * (l.length + 1) = 8 + 8 * l.length by omega, Nat.pow_add]
    have h1 := ih (fun y hy => h y (List.mem_cons_of_mem _ hy))
    have h2 := h x List.mem_cons_self
    calc x * 2 ^ (8 * l.length) + val l < x * 2 ^ (8 * l.length) + 2 ^ (8 * l.length) := by omega
      _ = (x + 1) * 2 ^ (8 * l.length) := by rw [Nat.add_mul, Nat.one_mul]
      _ ≤ 2 ^ 8 * 2 ^ (8 * l.length) := Nat.mul_le_mul_right _ (by omega)
/-- The fingerprint of bytes. -/
def fp (p : Nat) (l : List Nat) : Nat := GF.md (val l) p
theorem fp_snoc {p : Nat} (hp : p ≠ 0) (l : List Nat) {b : Nat} (hb : b < 256) : fp p (l ++ [b]) = GF.md (fp p l * 256 + b) p := by
  unfold fp
  rw [val_snoc, show (256 : Nat) = 2 ^ 8 from rfl, add_xor hb, add_xor hb, GF.md_xor hp, GF.md_xor hp, ← GF.mul_pow, ← GF.mul_pow, GF.md_mul_md hp]
theorem fp_cons {p : Nat} (hp : p ≠ 0) (x : Nat) (l : List Nat) (hl : ∀ y ∈ l, y < 256) : fp p (x :: l) = tab p (8 * l.length) x ^^^ fp p l := by
  unfold fp tab
  rw [val_cons, add_xor (val_lt l hl), GF.md_xor hp]
/-! ### the window -/
/-- What a roller says of the bytes since it was emptied. -/
structure RSInv (s : RS) (W p : Nat) (r : List Nat) : Prop where
  p0 : p ≠ 0
  W1 : 1 ≤ W
  deg : GF.L p = s.d + 1
  d8 : 8 ≤ s.d
  over : s.over = (List.range 256).map (tab p s.d)
  out : s.out = (List.range 256).map (tab p (8 * W))
  wl : s.win.length = W
  pos : s.pos = r.length % W
  full : s.full = decide (W ≤ r.length)
  print : s.print = fp p (r.drop (r.length - W))
  win : ∀ i, i < r.length → r.length - W ≤ i → s.win.getD (i % W) 0 = r.getD i 0
  small : ∀ x ∈ r, x < 256
theorem fp_lt {p d : Nat} (hp : p ≠ 0) (hL : GF.L p = d + 1) (l : List Nat) : fp p l < 2 ^ d := by
  have h := GF.md_L hp (val l)
  exact GF.L_le.1 (by unfold fp; omega)
theorem drop_cons (r : List Nat) (k : Nat) (h : k < r.length) : r.drop k = r.getD k 0 :: r.drop (k + 1) := by
  rw [List.drop_eq_getElem_cons h]; simp [h]
theorem RSInv.reset {s : RS} {W p : Nat} {r : List Nat} (h : RSInv s W p r) : RSInv s.reset W p [] :=
  ⟨h.p0, h.W1, h.deg, h.d8, h.over, h.out, h.wl, by show 0 = 0 % W; simp, by show false = decide (W ≤ 0); rw [decide_eq_false]; have := h.W1; omega, (by rw [List.drop_nil]; show 0 = GF.md 0 p; rw [GF.md_small]; have := h.deg; rw [GF.L_zero]; omega),
    fun i hi => absurd hi (Nat.not_lt_zero _), fun x hx => by cases hx⟩
theorem RSInv.next {s : RS} {W p : Nat} {r : List Nat} (h : RSInv s W p r) {b : Nat} (hb : b < 256) : s.next b = fp p ((r ++ [b]).drop (r.length + 1 - W)) := by
  have hW := h.W1
  have htk : takeN s.d s.over s.print b = fp p (r.drop (r.length - W) ++ [b]) := by
    rw [h.over, takeN_md h.p0 h.deg h.d8 (by rw [h.print]; exact fp_lt h.p0 h.deg _) hb, fp_snoc h.p0 _ hb, h.print]
  unfold RS.next
  rw [htk, h.full]
  by_cases hf : W ≤ r.length
  · rw [decide_eq_true hf, if_pos rfl]
    have hk : r.length - W < r.length := by omega
    have hpos : s.pos = (r.length - W) % W := by
      rw [h.pos]
      conv => lhs; rw [show r.length = (r.length - W) + W by omega, Nat.add_mod_right]
    have hold : s.win.getD s.pos 0 = r.getD (r.length - W) 0 := by rw [hpos]; exact h.win _ hk (Nat.le_refl _)
    have hsm : ∀ y ∈ r.drop (r.length - W + 1) ++ [b], y < 256 := by
      intro y hy
      rcases List.mem_append.1 hy with hy | hy
      · exact h.small y (List.mem_of_mem_drop hy)
      · rw [List.mem_singleton.1 hy]; exact hb
    have hlen : (r.drop (r.length - W + 1) ++ [b]).length = W := by rw [List.length_append, List.length_drop, List.length_singleton]; omega
    have ho : r.getD (r.length - W) 0 < 256 := by
      rw [List.getD_eq_getElem?_getD, List.getElem?_eq_getElem hk]
      exact h.small _ (List.getElem_mem hk)
    rw [hold, h.out, getD_range ho, drop_cons r _ hk, List.cons_append, fp_cons h.p0 _ _ hsm, hlen, Nat.xor_comm (tab p (8 * W) _), GF.xor_cancel,
      show r.length + 1 - W = r.length - W + 1 by omega, List.drop_append_of_le_length (by omega)]
  · rw [decide_eq_false hf, if_neg (by decide), show r.length - W = 0 by omega, show r.length + 1 - W = 0 by omega, List.drop_zero, List.drop_zero]
theorem mod_ne {i n W : Nat} (h1 : i < n) (h2 : n + 1 - W ≤ i) (hW : 1 ≤ W) : i % W ≠ n % W := by
  intro e
  have h3 : (n - i) % W = 0 := by
    have := Nat.sub_mod_eq_zero_of_mod_eq e.symm
    exact this
  rw [Nat.mod_eq_of_lt (by omega)] at h3
  omega
theorem RSInv.roll {s : RS} {W p : Nat} {r : List Nat} (h : RSInv s W p r) {b : Nat} (hb : b < 256) : RSInv (s.roll b) W p (r ++ [b]) := by
  have hW := h.W1
  have hn := h.next hb
  have hpl : r.length % W < W := Nat.mod_lt _ hW
  have hlen : (r ++ [b]).length = r.length + 1 := by simp
  have hsm : ∀ x ∈ r ++ [b], x < 256 := fun x hx => by
    rcases List.mem_append.1 hx with hx | hx
    · exact h.small x hx
    · rw [List.mem_singleton.1 hx]; exact hb
  have hwin : ∀ i, i < (r ++ [b]).length → (r ++ [b]).length - W ≤ i → (s.win.set s.pos b).getD (i % W) 0 = (r ++ [b]).getD i 0 := by
    intro i hi h2
    rw [hlen] at hi h2
    by_cases e : i = r.length
    · subst e
      rw [h.pos, List.getD_eq_getElem?_getD, List.getElem?_set_self (by rw [h.wl]; exact hpl)]
      simp
    · have hne := mod_ne (i := i) (n := r.length) (W := W) (by omega) h2 hW
      rw [List.getD_eq_getElem?_getD, h.pos, List.getElem?_set_ne (Ne.symm hne), ← List.getD_eq_getElem?_getD, h.win i (by omega) (by omega)]
      simp [List.getD_eq_getElem?_getD, List.getElem?_append_left (show i < r.length by omega)]
  unfold RS.roll
  split
  · next hp =>
    rw [h.wl, h.pos] at hp
    have hm : (r.length + 1) % W = 0 := by rw [Nat.add_mod, ← Nat.add_mod_mod, Nat.mod_mod, Nat.mod_add_mod]; have : (r.length % W + 1) % W = 0 := by rw [hp, Nat.mod_self]
                                           rw [Nat.mod_add_mod] at this; simpa using this
    refine ⟨h.p0, hW, h.deg, h.d8, h.over, h.out, by simpa using h.wl, by rw [hlen, hm], ?_, by rw [hlen]; exact hn, hwin, hsm⟩
    rw [hlen]
    show true = decide (W ≤ r.length + 1)
    rw [decide_eq_true]
    have := Nat.mod_le r.length W
    omega
  · next hp =>
    rw [h.wl, h.pos] at hp
    have hm : (r.length + 1) % W = r.length % W + 1 := by
      have : (r.length % W + 1) % W = r.length % W + 1 := Nat.mod_eq_of_lt (by omega)
      rw [Nat.mod_add_mod] at this; exact this
    refine ⟨h.p0, hW, h.deg, h.d8, h.over, h.out, by simpa using h.wl, by rw [hlen, hm, ← h.pos], ?_, by rw [hlen]; exact hn, hwin, hsm⟩
    rw [hlen]
    show s.full = decide (W ≤ r.length + 1)
    rw [h.full]
    by_cases e : W ≤ r.length
    · rw [decide_eq_true e, decide_eq_true (by omega)]
    · rw [decide_eq_false e, decide_eq_false]
      intro e2
      have : r.length + 1 = W := by omega
      rw [Nat.mod_eq_of_lt (by omega)] at hp
      omega
/-! ### the chunks -/
/-- Does a chunk end behind its last byte? -/
def endsR (S : Set5) (r : List Nat) : Bool := decide (S.mn ≤ r.length) && (decide (r.length = S.mx) || decide (fp S.p (r.drop (r.length - S.W)) &&& mask S = mask S))
/-- The chunks by their definition; r: what no chunk has yet. -/
def cutL (S : Set5) : List Nat → List Nat → List (List Nat)
  | r, [] => if r.length = 0 then [] else [r]
  | r, x :: l => if endsR S (r ++ [x]) then (r ++ [x]) :: cutL S [] l else cutL S (r ++ [x]) l
theorem runW_cut (S : Set5) : ∀ (l : List Nat) (s : RS) (r : List Nat) (o : List (List Nat)), RSInv s S.W S.p r → (∀ x ∈ l, x < 256) →
    RSInv (runW S ⟨s, r, o⟩ l).s S.W S.p (runW S ⟨s, r, o⟩ l).rest ∧ (runW S ⟨s, r, o⟩ l).out ++ (endW ⟨(runW S ⟨s, r, o⟩ l).s, (runW S ⟨s, r, o⟩ l).rest, []⟩).out = o ++ cutL S r l
  | [], s, r, o, h, _ => by
    refine ⟨h, ?_⟩
    show o ++ (endW ⟨s, r, []⟩).out = o ++ cutL S r []
    unfold endW cutL
    split <;> rfl
  | x :: l, s, r, o, h, hl => by
    have hx := hl x List.mem_cons_self
    have hl2 : ∀ y ∈ l, y < 256 := fun y hy => hl y (List.mem_cons_of_mem _ hy)
    have he : endsN S (r.length + 1) (s.next x) = endsR S (r ++ [x]) := by
      unfold endsN endsR
      rw [h.next hx, List.length_append, List.length_singleton]
    have e1 : runW S ⟨s, r, o⟩ (x :: l) = runW S (stepW S ⟨s, r, o⟩ x) l := rfl
    rw [e1]
    unfold stepW
    show RSInv (runW S (if endsN S (r.length + 1) (s.next x) then _ else _) l).s _ _ _ ∧ _
    rw [he]
    unfold cutL
    by_cases hc : endsR S (r ++ [x]) = true
    · simp only [hc, if_true]
      have h2 := runW_cut S l (s.roll x).reset [] (o ++ [r ++ [x]]) (h.roll hx).reset hl2
      rw [List.append_assoc] at h2
      exact h2
    · simp only [hc]
      exact runW_cut S l (s.roll x) (r ++ [x]) o (h.roll hx) hl2
/-- A chunker's chunks. -/
theorem chunksW_cut (S : Set5) (s : RS) (l : List Nat) (h : RSInv s S.W S.p []) (hl : ∀ x ∈ l, x < 256) : chunksW S s l = cutL S [] l := (runW_cut S l s [] [] h hl).2
end Go.Proofs.Ytoofafgnlgaajaa.RW
