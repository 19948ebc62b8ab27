/- What Check answers; Cut in the printed form, by its definition. Conditions: as each theorem says. -/
import Derived.Test.YtoofafgnlgaajaaRP1
namespace Go.Proofs.Ytoofafgnlgaajaa.RW
open Go.RowKit Go.Proofs.Ytoofafgnlgaajaa.PRabin Go.Proofs.YtoofafgnlgaajaaW.PrintWords Go.Proofs.YtoofafgnlgaajaaW.PrintLast Go.Proofs.YtoofafgnlgaajaaW.PrintMore Go.Proofs.Ytoofafgnlgaajaa Go.Proofs.Ytoofafgnlgaajaa.PB
set_option linter.unusedVariables false
set_option linter.unusedSimpArgs false
/-- Good settings. -/
structure Good (p : Nat) (a1 a2 a3 a4 : Int) : Prop where
  dlo : 9 ≤ GF.L p
  dhi : GF.L p ≤ 56
  irr : GF.Irr p
  w1 : 1 ≤ a1
  w2 : a1 ≤ 64
  m1 : a1 ≤ a2
  m2 : a2 ≤ a3
  m3 : a3 ≤ 65536
  b1 : 0 ≤ a4
  b2 : a4 ≤ (GF.L p : Int) - 1
  b3 : a4 ≤ 20
theorem Check_f (p : Nat) (hp64 : p < 2 ^ 64) (a1 a2 a3 a4 : Int) (k : Nat) (hk : 1100 ≤ k) : (rabin_Check.f k (p : Int) a1 a2 a3 a4 = some none ∧ Good p a1 a2 a3 a4) ∨ (rabin_Check.f k (p : Int) a1 a2 a3 a4 = some (some 11) ∧ ¬ Good p a1 a2 a3 a4) := by
  obtain ⟨k, rfl⟩ : ∃ j, k = j + 3 := ⟨k - 3, by omega⟩
  obtain ⟨b, eb, hb⟩ := Irreducible_f p hp64 (k + 3) (by omega)
  unfold rabin_Check.f
  rw [Deg_f p hp64]
  simp only [Option.bind_some]
  by_cases c1 : (GF.L p : Int) - 1 < 8
  · rw [if_pos c1, rabin_Check.j0, if_pos rfl]
    exact .inr ⟨rfl, fun g => by have := g.dlo; omega⟩
  rw [if_neg c1]
  by_cases c2 : (GF.L p : Int) - 1 > 55
  · rw [if_pos c2, rabin_Check.j0, if_pos rfl]
    exact .inr ⟨rfl, fun g => by have := g.dhi; omega⟩
  rw [if_neg c2, eb]
  simp only [Option.bind_some]
  rw [rabin_Check.j0]
  cases b with
  | false => exact .inr ⟨by rw [if_pos (by decide)], fun g => absurd (hb.2 g.irr) (by decide)⟩
  | true =>
    have hirr := hb.1 rfl
    rw [if_neg (by decide)]
    by_cases c3 : a1 < 1
    · rw [if_pos c3, rabin_Check.j1, if_pos rfl]
      exact .inr ⟨rfl, fun g => by have := g.w1; omega⟩
    rw [if_neg c3, rabin_Check.j1]
    by_cases c4 : a1 > 64
    · rw [if_pos (decide_eq_true c4)]
      exact .inr ⟨rfl, fun g => by have := g.w2; omega⟩
    rw [if_neg (by simpa using c4)]
    by_cases c5 : a2 < a1
    · rw [if_pos c5, rabin_Check.j2, if_pos rfl]
      exact .inr ⟨rfl, fun g => by have := g.m1; omega⟩
    rw [if_neg c5]
    by_cases c6 : a3 < a2
    · rw [if_pos c6, rabin_Check.j2, if_pos rfl]
      exact .inr ⟨rfl, fun g => by have := g.m2; omega⟩
    rw [if_neg c6, rabin_Check.j2]
    by_cases c7 : a3 > 65536
    · rw [if_pos (decide_eq_true c7)]
      exact .inr ⟨rfl, fun g => by have := g.m3; omega⟩
    rw [if_neg (by simpa using c7)]
    by_cases c8 : a4 < 0
    · rw [if_pos c8]
      exact .inr ⟨rfl, fun g => by have := g.b1; omega⟩
    rw [if_neg c8]
    by_cases c9 : a4 > (GF.L p : Int) - 1
    · rw [if_pos c9]
      exact .inr ⟨rfl, fun g => by have := g.b2; omega⟩
    rw [if_neg c9]
    by_cases c10 : a4 > 20
    · rw [if_pos c10]
      exact .inr ⟨rfl, fun g => by have := g.b3; omega⟩
    rw [if_neg c10]
    exact .inl ⟨rfl, by omega, by omega, hirr, by omega, by omega, by omega, by omega, by omega, by omega, by omega, by omega⟩
theorem Check_up {a0 a1 a2 a3 a4 : Int} {r : Option Int} (k : Nat) (h : rabin_Check.f k a0 a1 a2 a3 a4 = some r) : ∀ j, rabin_Check.f (k + j) a0 a1 a2 a3 a4 = some r
  | 0 => h
  | j + 1 => rabin_Check.mono a0 a1 a2 a3 a4 (k + j) r (Check_up k h j)
theorem Check_good {p k : Nat} (hp64 : p < 2 ^ 64) {a1 a2 a3 a4 : Int} (h : rabin_Check.f k (p : Int) a1 a2 a3 a4 = some none) : Good p a1 a2 a3 a4 := by
  rcases Check_f p hp64 a1 a2 a3 a4 (k + 1100) (by omega) with h1 | h1
  · exact h1.2
  · rw [Check_up k h 1100] at h1
    exact absurd h1.1 (by simp)
theorem Check_bad {p k : Nat} {x : Int} (hp64 : p < 2 ^ 64) {a1 a2 a3 a4 : Int} (h : rabin_Check.f k (p : Int) a1 a2 a3 a4 = some (some x)) : ¬ Good p a1 a2 a3 a4 ∧ x = 11 := by
  rcases Check_f p hp64 a1 a2 a3 a4 (k + 1100) (by omega) with h1 | h1
  · rw [Check_up k h 1100] at h1
    exact absurd h1.1 (by simp)
  · rw [Check_up k h 1100] at h1
    have h2 := h1.1
    simp only [Option.some.injEq] at h2
    exact ⟨h1.2, h2⟩
/-- Settings as naturals. -/
def setN (a0 a1 a2 a3 a4 : Int) : Set5 := ⟨a0.toNat, a1.toNat, a2.toNat, a3.toNat, a4.toNat⟩
def new0 (p W : Nat) : RS := ⟨p, GF.L p - 1, (List.range 256).map (tab p (GF.L p - 1)), (List.range 256).map (tab p (8 * W)), List.replicate W 0, 0, false, 0⟩
theorem tab_lt {p n : Nat} (hp : p ≠ 0) (h : 1 ≤ GF.L p) : ∀ x ∈ (List.range 256).map (tab p n), x < 2 ^ (GF.L p - 1) := by
  intro x hx
  obtain ⟨i, _, rfl⟩ := List.mem_map.1 hx
  have := GF.md_L hp (i * 2 ^ n)
  exact GF.L_le.1 (by unfold tab; omega)
theorem new0_ok {p W : Nat} {a2 a3 a4 : Int} (g : Good p (W : Int) a2 a3 a4) : (new0 p W).Ok := by
  have h1 := g.dlo
  have h2 := g.dhi
  have h3 := g.w1
  have h4 := g.w2
  refine ⟨by unfold new0; dsimp only; omega, by unfold new0; dsimp only; omega, Nat.two_pow_pos _, tab_lt g.irr.ne (by omega), tab_lt g.irr.ne (by omega), ?_, by unfold new0; simp; omega, by unfold new0; simp; omega⟩
  intro x hx
  have := (List.mem_replicate.1 hx).2
  omega
theorem new0_inv {p W : Nat} {a2 a3 a4 : Int} (g : Good p (W : Int) a2 a3 a4) : RSInv (new0 p W) W p [] := by
  have h1 := g.dlo
  have h3 := g.w1
  have h := g.irr.ne
  refine ⟨h, by omega, by unfold new0; dsimp only; omega, by unfold new0; dsimp only; omega, rfl, rfl, by unfold new0; simp, by unfold new0; simp, ?_, ?_, fun i hi => absurd hi (Nat.not_lt_zero _), fun x hx => by cases hx⟩
  · show false = decide (W ≤ 0)
    rw [decide_eq_false]; omega
  · rw [List.drop_nil]
    show 0 = GF.md 0 p
    rw [GF.md_small]
    rw [GF.L_zero]; omega
end Go.Proofs.Ytoofafgnlgaajaa.RW
namespace Go.Proofs.Ytoofafgnlgaajaa.PRabin
open Go.RowKit Go.Proofs.YtoofafgnlgaajaaW.PrintWords Go.Proofs.YtoofafgnlgaajaaW.PrintLast Go.Proofs.YtoofafgnlgaajaaW.PrintMore Go.Proofs.Ytoofafgnlgaajaa.RW Go.Proofs.Ytoofafgnlgaajaa Go.Proofs.Ytoofafgnlgaajaa.PB
set_option linter.unusedVariables false
/-- Cut, by its definition. -/
def rabin_Cut.f (k : Nat) (a0_0 a0_1 a0_2 a0_3 a0_4 : Int) (l1 : List Int) : Option (List Int × Option Int) :=
  (rabin_Check.f k a0_0 a0_1 a0_2 a0_3 a0_4).bind fun e => match e with
    | some x => some ([], some x)
    | none => if (0 ≤ a0_0 ∧ a0_0 < 18446744073709551616) ∧ (∀ x ∈ l1, 0 ≤ x ∧ x < 256) ∧ l1.length ≤ 1000000000000 then some (I ((cutL (setN a0_0 a0_1 a0_2 a0_3 a0_4) [] (l1.map Int.toNat)).map List.length), none) else none
theorem rabin_Cut.mono : ∀ a0_0 a0_1 a0_2 a0_3 a0_4 l1 k, LeO (rabin_Cut.f k a0_0 a0_1 a0_2 a0_3 a0_4 l1) (rabin_Cut.f (k + 1) a0_0 a0_1 a0_2 a0_3 a0_4 l1) := by
  intro a0_0 a0_1 a0_2 a0_3 a0_4 l1 k
  unfold rabin_Cut.f
  exact LeO.bind (rabin_Check.mono _ _ _ _ _ _) (fun _ => LeO.refl _)
theorem I_toNat (l : List Int) (h : ∀ x ∈ l, 0 ≤ x ∧ x < 256) : I (l.map Int.toNat) = l := by
  unfold I
  rw [List.map_map]
  conv => rhs; rw [← List.map_id l]
  exact List.map_congr_left (fun x hx => by have := (h x hx).1; simp; omega)
theorem rabin_Cut.calls (k : Nat) (a0_0 : Int) (a0_1 : Int) (a0_2 : Int) (a0_3 : Int) (a0_4 : Int) (A1 : Option Addr) (c1 : Nat) (l1 : List Int) (r1 : List Int) (r2 : Option Int) (w : World) (hr1 : Kd.C (Kd.int .u8) w A1 l1.length l1) (hc1 : l1.length ≤ c1) (h : rabin_Cut.f k a0_0 a0_1 a0_2 a0_3 a0_4 l1 = some (r1, r2)) :
    Calls Try.prog 13 #[.agg #[.int .u64 a0_0, .int .i64 a0_1, .int .i64 a0_2, .int .i64 a0_3, .int .i64 a0_4], .slice A1 l1.length c1] w fun e w' => ∃ v0_ : Value, e = .returned (.tuple #[v0_, errW r2]) ∧ Kd.R (Kd.int .i64) 3 w' w.heap.size (fun _ => True) v0_ r1 ∧ Below w.heap.size w w' := by
  obtain ⟨e, he, h⟩ := Option.bind_eq_some_iff.1 h
  cases e with
  | some x =>
    simp only [Option.some.injEq, Prod.mk.injEq] at h
    obtain ⟨rfl, rfl⟩ := h
    exact (cut_bad k _ _ _ _ _ x A1 l1.length c1 w he).mono (fun e' w' ⟨h1, h2⟩ => ⟨_, h1, Kd.R_nil _ _ _ _ _, h2⟩)
  | none =>
    dsimp only at h
    split at h
    · next hq =>
      obtain ⟨⟨hp0, hp1⟩, hby, hl⟩ := hq
      simp only [Option.some.injEq, Prod.mk.injEq] at h
      obtain ⟨hh, rfl⟩ := h
      obtain ⟨p, rfl⟩ : ∃ p : Nat, a0_0 = (p : Int) := ⟨a0_0.toNat, by omega⟩
      have hp64 : p < 2 ^ 64 := by have : (2 : Nat) ^ 64 = 18446744073709551616 := rfl; omega
      have g := Check_good hp64 he
      obtain ⟨W, rfl⟩ : ∃ W : Nat, a0_1 = (W : Int) := ⟨a0_1.toNat, by have := g.w1; omega⟩
      obtain ⟨mn, rfl⟩ : ∃ mn : Nat, a0_2 = (mn : Int) := ⟨a0_2.toNat, by have := g.w1; have := g.m1; omega⟩
      obtain ⟨mx, rfl⟩ : ∃ mx : Nat, a0_3 = (mx : Int) := ⟨a0_3.toNat, by have := g.w1; have := g.m1; have := g.m2; omega⟩
      obtain ⟨bt, rfl⟩ : ∃ bt : Nat, a0_4 = (bt : Int) := ⟨a0_4.toNat, by have := g.b1; omega⟩
      have g1 := g.dlo
      have g2 := g.dhi
      have g3 := g.w2
      have g4 := g.b3
      have hI := I_toNat l1 hby
      have hll : (l1.map Int.toNat).length = l1.length := List.length_map ..
      have hsm : ∀ x ∈ l1.map Int.toNat, x < 256 := by
        intro x hx
        obtain ⟨y, hy, rfl⟩ := List.mem_map.1 hx
        have := hby y hy
        omega
      have hcut := chunksW_cut ⟨p, W, mn, mx, bt⟩ (new0 p W) (l1.map Int.toNat) (new0_inv g) hsm
      have hW63 : 8 * W < 2 ^ 63 := by have : (2 : Nat) ^ 63 = 9223372036854775808 := rfl; omega
      have hd63 : GF.L p - 1 < 2 ^ 63 := by have : (2 : Nat) ^ 63 = 9223372036854775808 := rfl; omega
      have := cut_good k 800 800 p (GF.L p - 1) W mn mx bt c1 A1 (l1.map Int.toNat) (tab p (GF.L p - 1)) (tab p (8 * W)) w he (by rw [Deg_f p hp64]; congr 1; omega) (shifts_tab p _ 800 g.irr.ne hp64 hd63 (by omega)) (shifts_tab p _ 800 g.irr.ne hp64 hW63 (by omega)) (by omega) (new0_ok g) (by omega) hsm (by rw [hll]; exact hl) (by rw [hI, hll]; exact hr1) (by rw [hll]; exact hc1)
      rw [hll] at this
      refine this.mono (fun e' w' ⟨v0, h1, h2, h3⟩ => ⟨v0, h1, ?_, h3⟩)
      rw [show (⟨p, GF.L p - 1, (List.range 256).map (tab p (GF.L p - 1)), (List.range 256).map (tab p (8 * W)), List.replicate W 0, 0, false, 0⟩ : RS) = new0 p W from rfl, hcut] at h2
      rw [← hh]
      refine Kd.R_of_own (enc := Value.int .i64) ?_ (fun _ _ => trivial)
      rw [I_len, List.length_map]
      exact h2
    · cases h
end Go.Proofs.Ytoofafgnlgaajaa.PRabin
