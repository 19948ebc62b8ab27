/- rabin's chunker: ends, Left, walked. Conditions: as each theorem says. -/
import Derived.Test.YtoofafgnlgaajaaRW3
import Derived.Test.YtoofafgnlgaajaaWAt
namespace Go.Proofs.Ytoofafgnlgaajaa.RW
open Go.RowKit Go.Proofs.Ytoofafgnlgaajaa.PRabin Go.Proofs.YtoofafgnlgaajaaW.PrintWords Go.Proofs.YtoofafgnlgaajaaW.PrintLast Go.Proofs.YtoofafgnlgaajaaW.PrintMore
set_option linter.unusedVariables false
set_option linter.unusedSimpArgs false
structure Set5 where
  p : Nat
  W : Nat
  mn : Nat
  mx : Nat
  bt : Nat
def Set5.vals (S : Set5) : Array Value := #[.int .u64 (S.p : Int), .int .i64 (S.W : Int), .int .i64 (S.mn : Int), .int .i64 (S.mx : Int), .int .i64 (S.bt : Int)]
def ckCells (S : Set5) (b : Nat) (v : Value) : Array Value := #[.int .u64 (S.p : Int), .int .i64 (S.W : Int), .int .i64 (S.mn : Int), .int .i64 (S.mx : Int), .int .i64 (S.bt : Int), .pointer (some ⟨b, 0, none⟩), v]
def mask (S : Set5) : Nat := 2 ^ S.bt - 1
def endsN (S : Set5) (n pr : Nat) : Bool := decide (S.mn ≤ n) && (decide (n = S.mx) || decide (pr &&& mask S = mask S))
theorem mask_eq (bt : Nat) (h : bt ≤ 55) : IntKind.u64.wrap (IntKind.u64.wrap ((2 : Int) ^ bt) - 1) = ((2 ^ bt - 1 : Nat) : Int) := by
  have h55 : (2 : Nat) ^ bt ≤ 2 ^ 55 := Nat.pow_le_pow_right (by omega) h
  have hpos : 0 < (2 : Nat) ^ bt := Nat.two_pow_pos bt
  have c55 : (2 : Nat) ^ 55 = 36028797018963968 := rfl
  rw [show (2 : Int) ^ bt = ((2 ^ bt : Nat) : Int) by simp, wrap_u, Nat.mod_eq_of_lt (by omega), show ((2 ^ bt : Nat) : Int) - 1 = ((2 ^ bt - 1 : Nat) : Int) by omega, wrap_u, Nat.mod_eq_of_lt (by omega)]
theorem ck_cells {W : World} {c b : Nat} {S : Set5} {v : Value} (h : W.heap[c]? = some (.cells (ckCells S b v) 72 (0, 0))) :
    W.cell? ⟨c, 2, none⟩ = some (.int .i64 (S.mn : Int)) ∧ W.cell? ⟨c, 3, none⟩ = some (.int .i64 (S.mx : Int)) ∧ W.cell? ⟨c, 4, none⟩ = some (.int .i64 (S.bt : Int)) ∧ W.cell? ⟨c, 5, none⟩ = some (.pointer (some ⟨b, 0, none⟩)) ∧ W.cell? ⟨c, 6, none⟩ = some v ∧ W.frozen? ⟨c, 6, none⟩ = false :=
  ⟨blk_cell h 2, blk_cell h 3, blk_cell h 4, blk_cell h 5, blk_cell h 6, blk_frozen h 6⟩
set_option maxHeartbeats 4000000 in
set_option maxRecDepth 100000 in
theorem ends_calls (c b n pr cap : Nat) (A : Option Addr) (S : Set5) (w : World) (h : w.heap[c]? = some (.cells (ckCells S b (.slice A n cap)) 72 (0, 0))) (hb : S.bt ≤ 55) (hp : pr < 2 ^ 55) :
    Calls Try.prog 39 #[.pointer (some ⟨c, 0, none⟩), .int .u64 (pr : Int)] w fun e w' => e = .returned (.bool (endsN S n pr)) ∧ Drawn0 w w' := by
  obtain ⟨k2, k3, k4, _, k6, _⟩ := ck_cells h
  obtain ⟨m, hm⟩ : ∃ m, m = mask S := ⟨_, rfl⟩
  have hm55 : m < 2 ^ 55 := by
    have h55 : (2 : Nat) ^ S.bt ≤ 2 ^ 55 := Nat.pow_le_pow_right (by omega) hb
    have hpos : 0 < (2 : Nat) ^ S.bt := Nat.two_pow_pos _
    rw [hm]; unfold mask; omega
  have hM := Aside0.mk (mask_eq S.bt hb)
  have ha : bits .and .u64 (pr : Int) (m : Int) = ((pr &&& m : Nat) : Int) := bits_and_u64_nat _ _ (Nat.lt_of_lt_of_le hp (by decide)) (Nat.lt_of_lt_of_le hm55 (by decide))
  obtain ⟨am, ham⟩ : ∃ am, am = pr &&& m := ⟨_, rfl⟩
  rw [← ham] at ha
  have hmk : IntKind.u64.wrap (IntKind.u64.wrap ((2 : Int) ^ S.bt) - 1) = (m : Int) := by rw [hm]; exact mask_eq S.bt hb
  have HE := Aside0.mk (show endsN S n pr = (decide (S.mn ≤ n) && (decide (n = S.mx) || decide (am = m))) by rw [ham, hm]; rfl)
  have q4 := eq_true (Int.natCast_nonneg S.bt)
  clear ham hm hm55 hp hM h
  obtain ⟨bt, hbt⟩ : ∃ bt, bt = S.bt := ⟨_, rfl⟩
  obtain ⟨mn, hmn⟩ : ∃ mn, mn = S.mn := ⟨_, rfl⟩
  obtain ⟨mx, hmx⟩ : ∃ mx, mx = S.mx := ⟨_, rfl⟩
  rw [← hbt] at k4 hmk q4 hb
  rw [← hmn] at k2 HE
  rw [← hmx] at k3 HE
  clear hbt hmn hmx
  by_cases c1 : mn ≤ n
  · have d1 : decide ((n : Int) ≥ (mn : Int)) = true := decide_eq_true (by omega)
    have d1' : decide ((mn : Int) ≤ (n : Int)) = true := decide_eq_true (by omega)
    have e1 := decide_eq_true c1
    by_cases c2 : n = mx
    · have d2 : ((n : Int) == (mx : Int)) = true := beq_iff_eq.mpr (by omega)
      have e2 := decide_eq_true c2
      have e2' := eq_true c2
      have HR := Aside0.mk (HE.out.trans (show _ = true by rw [decide_eq_true c1, decide_eq_true c2]; rfl))
      clear c1 c2 HE
      go_enter Try.func39, Try.ntmps39
      go_wp2
      go_quiet (fail)
      go_wp2
      go_ret
      exact ⟨congrArg (fun z => Ending.returned (Value.bool z)) HR.out.symm, ⟨_, rfl⟩⟩
    · have d2 : ((n : Int) == (mx : Int)) = false := beq_eq_false_iff_ne.mpr (by omega)
      have e2 := decide_eq_false c2
      have e2' := eq_false c2
      by_cases c3 : am = m
      · have d3 : ((am : Int) == (m : Int)) = true := beq_iff_eq.mpr (by omega)
        have e3 := decide_eq_true c3
        have e3' := eq_true c3
        have HR := Aside0.mk (HE.out.trans (show _ = true by rw [decide_eq_true c1, decide_eq_true c3]; simp))
        clear c1 c2 c3 HE
        go_enter Try.func39, Try.ntmps39
        go_wp2
        go_quiet (fail)
        go_wp2
        go_ret
        exact ⟨congrArg (fun z => Ending.returned (Value.bool z)) HR.out.symm, ⟨_, rfl⟩⟩
      · have d3 : ((am : Int) == (m : Int)) = false := beq_eq_false_iff_ne.mpr (by omega)
        have e3 := decide_eq_false c3
        have e3' := eq_false c3
        have HR := Aside0.mk (HE.out.trans (show _ = false by rw [decide_eq_false c2, decide_eq_false c3]; simp))
        clear c1 c2 c3 HE
        go_enter Try.func39, Try.ntmps39
        go_wp2
        go_quiet (fail)
        go_wp2
        go_ret
        exact ⟨congrArg (fun z => Ending.returned (Value.bool z)) HR.out.symm, ⟨_, rfl⟩⟩
  · have d1 : decide ((n : Int) ≥ (mn : Int)) = false := decide_eq_false (by omega)
    have d1' : decide ((mn : Int) ≤ (n : Int)) = false := decide_eq_false (by omega)
    have e1 := decide_eq_false c1
    have HR := Aside0.mk (HE.out.trans (show _ = false by rw [decide_eq_false c1]; rfl))
    clear c1 HE
    go_enter Try.func39, Try.ntmps39
    go_wp2
    go_quiet (fail)
    go_wp2
    go_ret
    exact ⟨congrArg (fun z => Ending.returned (Value.bool z)) HR.out.symm, ⟨_, rfl⟩⟩
theorem left_calls (c b n cap : Nat) (A : Option Addr) (S : Set5) (w : World) (h : w.heap[c]? = some (.cells (ckCells S b (.slice A n cap)) 72 (0, 0))) :
    Calls Try.prog 27 #[.pointer (some ⟨c, 0, none⟩)] w fun e w' => e = .returned (.int .i64 (n : Int)) ∧ Drawn0 w w' := by
  obtain ⟨_, _, _, _, k6, _⟩ := ck_cells h
  go_enter Try.func27, Try.ntmps27
  go_wp2
  go_ret
  exact ⟨rfl, ⟨0, rfl⟩⟩
end Go.Proofs.Ytoofafgnlgaajaa.RW
