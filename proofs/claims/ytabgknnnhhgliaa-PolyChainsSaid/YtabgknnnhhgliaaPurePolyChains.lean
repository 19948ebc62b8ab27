/- The statement PolyChains of layer 6: remainders of products of any factors and of powers, greatest common divisors, are the reference's. Conditions: the numbers are of their kinds, the slice is read as its cells say. -/
import Derived.Test.YtabgknnnhhgliaaOPolyChains
import Derived.Test.YtabgknnnhhgliaaPB
namespace Go.Proofs.Ytabgknnnhhgliaa.Pure
open Go.RowKit Go.Proofs.Ytabgknnnhhgliaa.OPolyChains Go.Proofs.Ytabgknnnhhgliaa.PPoly Go.Proofs.YtabgknnnhhgliaaW.PrintWords Go.Proofs.YtabgknnnhhgliaaW.PrintLast Go.Proofs.YtabgknnnhhgliaaW.PrintMore
set_option linter.unusedVariables false
set_option linter.unusedSimpArgs false

open Go.Proofs.Ytabgknnnhhgliaa.PB Go.Proofs.Ytabgknnnhhgliaa
namespace PolyChainsAid
theorem and1_i64 (a : Nat) (ha : a < 2 ^ 63) : Go.bits .and .i64 (a : Int) 1 = ((a % 2 : Nat) : Int) := by
  have p63 : (2 : Nat) ^ 63 = 9223372036854775808 := by decide
  rw [p63] at ha
  have h1 : (BitVec.ofInt 64 (a : Int)).toNat = a := by
    rw [BitVec.ofInt_natCast, BitVec.toNat_ofNat]; exact Nat.mod_eq_of_lt (by omega)
  have h2 : (BitVec.ofInt 64 (1 : Int)).toNat = 1 := by decide
  show IntKind.i64.wrap ((BitVec.ofInt 64 (a : Int) &&& BitVec.ofInt 64 (1 : Int)).toNat : Int) = _
  rw [BitVec.toNat_and, h1, h2, Nat.and_one_is_mod, i64_w, w64 (by omega) (by omega)]
theorem np_congr {m a b i : Nat} (h : GF.Cg m a b) : GF.Cg m (GF.np a i) (GF.np b i) := by
  induction i with
  | zero =>
    have e1 : GF.np a 0 = 1 := by rw [GF.np]
    have e2 : GF.np b 0 = 1 := by rw [GF.np]
    rw [e1, e2]; exact GF.Cg_refl m 1
  | succ i ih =>
    have e1 : GF.np a (i + 1) = GF.mul a (GF.np a i) := by rw [GF.np]
    have e2 : GF.np b (i + 1) = GF.mul b (GF.np b i) := by rw [GF.np]
    rw [e1, e2]; exact GF.Cg_mul h ih
theorem kk {j k : Nat} (h : j + 1 + 300 < k + 1) : 200 ≤ k ∧ 65 ≤ k ∧ j + 300 < k := by omega
theorem tmod_i (n : Nat) : Int.tmod (n : Int) 2 = ((n % 2 : Nat) : Int) := by rw [Int.tmod_eq_emod_of_nonneg (by omega)]; omega
theorem half_i (n : Nat) (h : n < 9223372036854775808) : wrap64 (Int.tdiv (n : Int) 2) = ((n / 2 : Nat) : Int) := by rw [Int.tdiv_eq_ediv_of_nonneg (by omega), w64 (by omega) (by omega)]; omega
theorem odd_i (n : Nat) (h : ¬ n % 2 = 1) : ¬ ((n % 2 : Nat) : Int) = 1 := by omega
theorem odd_p (n : Nat) (h : n % 2 = 1) : ((n % 2 : Nat) : Int) = 1 := by omega
/-! powers of x -/
/-- The program's rounds: the highest bit first. -/
theorem Power_l (m : Nat) (hm : m ≠ 0) (hm64 : m < 2 ^ 64) (n : Nat) (hn : n < 2 ^ 63) (j : Nat) : ∀ (k o : Nat), j + 300 < k → j ≤ 64 → o = GF.md (GF.np 2 (n / 2 ^ j)) m →
    poly_Power.l0 k (n : Int) (m : Int) (o : Int) ((j : Int) - 1) = some (((GF.md (GF.np 2 n) m : Nat) : Int), none) := by
  induction j with
  | zero =>
    intro k o hk _ ho
    obtain ⟨k, rfl⟩ : ∃ m, k = m + 1 := ⟨k - 1, by omega⟩
    simp only [poly_Power.l0]
    rw [if_neg (by omega), ho, Nat.pow_zero, Nat.div_one]
  | succ j ih =>
    intro k o hk hj ho
    obtain ⟨k, rfl⟩ : ∃ m, k = m + 1 := ⟨k - 1, by omega⟩
    have ej : ((j + 1 : Nat) : Int) - 1 = (j : Int) := by omega
    have o64 : o < 2 ^ 64 := by rw [ho]; exact md_lt _ m hm hm64
    have half : n / 2 ^ (j + 1) = n / 2 ^ j / 2 := by rw [Nat.div_div_eq_div_mul, Nat.pow_succ]
    have sq : GF.md (GF.mul o o) m = GF.md (GF.np 2 (2 * (n / 2 ^ (j + 1)))) m := by
      rw [ho, Nat.two_mul, GF.np_add]
      exact GF.md_congr hm (GF.Cg_mul (GF.Cg_md hm _) (GF.Cg_md hm _))
    have s64 : GF.md (GF.mul o o) m < 2 ^ 64 := md_lt _ m hm hm64
    have sh : Go.bits .and .i64 (shr .i64 (n : Int) (j : Int)) 1 = ((n / 2 ^ j % 2 : Nat) : Int) := by
      unfold shr
      have e : min ((j : Int)).toNat IntKind.i64.bits = min j 64 := by
        show min ((j : Int)).toNat 64 = _
        rw [Int.toNat_natCast]
      have ej : min j 64 = j := by omega
      rw [e, ej]
      have ed : (n : Int) / 2 ^ j = ((n / 2 ^ j : Nat) : Int) := by rw [Int.natCast_ediv, Int.natCast_pow]; rfl
      rw [ed]
      have lt : n / 2 ^ j < 2 ^ 63 := Nat.lt_of_le_of_lt (Nat.div_le_self _ _) hn
      exact and1_i64 _ lt
    have w1 : wrap64 ((j : Int) - 1) = (j : Int) - 1 := w64 (by omega) (by omega)
    simp only [poly_Power.l0]
    rw [ej, if_pos (by omega), mulMod_f m o o hm hm64 o64 o64 k (by omega)]
    simp only [Option.bind_some]
    rw [if_pos (by omega), sh, w1]
    by_cases hc : n / 2 ^ j % 2 = 1
    · have m2 := mulMod_f m (GF.md (GF.mul o o) m) 2 hm hm64 s64 (by decide) k (by omega)
      rw [if_pos (by omega), show poly_mulMod.f k (m : Int) ((GF.md (GF.mul o o) m : Nat) : Int) 2 = _ from m2]
      simp only [Option.bind_some]
      refine ih k _ (by omega) (by omega) ?_
      rw [sq, GF.md_mul_md hm, GF.mul_comm]
      have e : n / 2 ^ j = 2 * (n / 2 ^ (j + 1)) + 1 := by omega
      rw [e]; rfl
    · rw [if_neg (by omega)]
      refine ih k _ (by omega) (by omega) ?_
      rw [sq]
      have e : n / 2 ^ j = 2 * (n / 2 ^ (j + 1)) := by omega
      rw [e]
/-- The reference's rounds: the lowest bit first. -/
theorem rPower_l (m : Nat) (hm : m ≠ 0) (hm64 : m < 2 ^ 64) (j : Nat) : ∀ (k n o s : Nat), n < 2 ^ j → j ≤ 63 → j + 300 < k → o < 2 ^ 64 → s < 2 ^ 64 →
    amphoraref06_Power.l0 k (n : Int) (m : Int) ((GF.md o m : Nat) : Int) ((GF.md s m : Nat) : Int) = some (((GF.md (GF.mul (GF.md o m) (GF.np (GF.md s m) n)) m : Nat) : Int), 0) := by
  induction j with
  | zero =>
    intro k n o s hn _ hk _ _
    obtain ⟨k, rfl⟩ : ∃ m, k = m + 1 := ⟨k - 1, by omega⟩
    have : n = 0 := by simpa using hn
    subst this
    simp only [amphoraref06_Power.l0]
    rw [if_neg (by omega)]
    show _ = some (((GF.md (GF.mul (GF.md o m) 1) m : Nat) : Int), 0)
    rw [GF.mul_one, GF.md_md]
  | succ j ih =>
    intro k n o s hn hj hk ho hs
    obtain ⟨k, rfl⟩ : ∃ m, k = m + 1 := ⟨k - 1, by omega⟩
    have n63 : n < 2 ^ 63 := Nat.lt_of_lt_of_le hn (Nat.pow_le_pow_right (by decide) hj)
    have p63 : (2 : Nat) ^ 63 = 9223372036854775808 := by decide
    rw [p63] at n63
    by_cases h0 : n = 0
    · subst h0
      simp only [amphoraref06_Power.l0]
      rw [if_neg (by omega)]
      show _ = some (((GF.md (GF.mul (GF.md o m) 1) m : Nat) : Int), 0)
      rw [GF.mul_one, GF.md_md]
    · have o64 := md_lt o m hm hm64
      have s64 := md_lt s m hm hm64
      have e2 := tmod_i n
      have eh := half_i n n63
      have npos : (n : Int) > 0 := Int.natCast_pos.mpr (Nat.pos_of_ne_zero h0)
      have k200 : 200 ≤ k := (kk hk).1
      have k65 : 65 ≤ k := (kk hk).2.1
      have j63 : j ≤ 63 := Nat.le_of_succ_le hj
      have jk : j + 300 < k := (kk hk).2.2
      have hn2 : n / 2 < 2 ^ j := Nat.div_lt_of_lt_mul (by rw [Nat.mul_comm, ← Nat.pow_succ]; exact hn)
      have split : GF.np (GF.md s m) n = GF.mul (if n % 2 = 1 then GF.md s m else 1) (GF.np (GF.mul (GF.md s m) (GF.md s m)) (n / 2)) := by
        have sqp : ∀ a i, GF.np (GF.mul a a) i = GF.np a (2 * i) := by
          intro a i
          induction i with
          | zero => rfl
          | succ i ih =>
            have l1 : GF.np (GF.mul a a) (i + 1) = GF.mul (GF.mul a a) (GF.np (GF.mul a a) i) := rfl
            have l2 : GF.np a (2 * i + 1 + 1) = GF.mul a (GF.mul a (GF.np a (2 * i))) := rfl
            have l3 : 2 * (i + 1) = 2 * i + 1 + 1 := by omega
            rw [l1, l3, l2, ih, GF.mul_assoc]
        rw [sqp]
        by_cases hc : n % 2 = 1
        · rw [if_pos hc]
          have e : n = 2 * (n / 2) + 1 := by omega
          conv => lhs; rw [e]
          rfl
        · rw [if_neg hc, GF.one_mul]
          have e : n = 2 * (n / 2) := by omega
          conv => lhs; rw [e]
      simp only [amphoraref06_Power.l0]
      rw [if_pos npos, e2, eh]
      have msq : amphoraref06_Mul.f k ((GF.md s m : Nat) : Int) ((GF.md s m : Nat) : Int) = _ := rMul_f _ _ s64 s64 k k65
      have mod1 := rMod_f (GF.mul (GF.md s m) (GF.md s m)) m hm hm64 (mul_lt _ _ 64 s64 s64 (Nat.le_refl _)) k k200
      have s2 : GF.md (GF.mul (GF.md s m) (GF.md s m)) m < 2 ^ 64 := md_lt _ m hm hm64
      by_cases hc : n % 2 = 1
      · rw [if_pos (odd_p n hc), rMul_f _ _ o64 s64 k k65]
        simp only [Option.bind_some]
        rw [rMod_f _ m hm hm64 (mul_lt _ _ 64 o64 s64 (Nat.le_refl _)) k k200]
        simp only [Option.bind_some]
        rw [msq]
        simp only [Option.bind_some]
        rw [mod1]
        simp only [Option.bind_some]
        have nx := ih k (n / 2) (GF.md (GF.mul (GF.md o m) (GF.md s m)) m) (GF.md (GF.mul (GF.md s m) (GF.md s m)) m) hn2 j63 jk (md_lt _ m hm hm64) s2
        rw [GF.md_md, GF.md_md] at nx
        rw [nx, split, if_pos hc, ← GF.mul_assoc, GF.md_congr hm (GF.Cg_mul (GF.Cg_md hm (GF.mul (GF.md o m) (GF.md s m))) (np_congr (i := n / 2) (GF.Cg_md hm (GF.mul (GF.md s m) (GF.md s m)))))]
      · rw [if_neg (odd_i n hc), msq]
        simp only [Option.bind_some]
        rw [mod1]
        simp only [Option.bind_some]
        have nx := ih k (n / 2) o (GF.md (GF.mul (GF.md s m) (GF.md s m)) m) hn2 j63 jk ho s2
        rw [GF.md_md] at nx
        rw [nx, split, if_neg hc, GF.one_mul, GF.md_congr hm (GF.Cg_mul (GF.Cg_refl m (GF.md o m)) (np_congr (i := n / 2) (GF.Cg_md hm (GF.mul (GF.md s m) (GF.md s m)))))]
theorem Power_f (m : Nat) (hm : m ≠ 0) (hm64 : m < 2 ^ 64) (n : Nat) (hn : n < 2 ^ 63) (k : Nat) (hk : 500 ≤ k) : poly_Power.f k (n : Int) (m : Int) = some (((GF.md (GF.np 2 n) m : Nat) : Int), none) := by
  have n64 : n < 2 ^ 64 := Nat.lt_of_lt_of_le hn (by decide)
  have l := GF.L_le.2 n64
  have p64 : (2 : Nat) ^ 64 = 18446744073709551616 := by decide
  have h1 := mod_lo 1 m hm hm64 (by decide) k (by omega)
  have ew : IntKind.u64.wrap (n : Int) = (n : Int) := by rw [IntKind.wrap_u64]; rw [p64] at n64; omega
  unfold poly_Power.f
  rw [if_neg (by omega), if_neg (by omega), show poly_mod.f k 0 1 (m : Int) = _ from h1, ew]
  simp only [Option.bind_some]
  unfold bits_Len64.f
  rw [if_pos (by omega), if_pos (by rw [p64] at n64; omega), Int.toNat_natCast, bitLen_L n n64]
  simp only [Option.bind_some]
  rw [w64 (by omega) (by omega)]
  refine Power_l m hm hm64 n hn (GF.L n) k _ (by omega) (by omega) ?_
  rw [Nat.div_eq_of_lt (GF.L_bd n)]; rfl
theorem rPower_f (m : Nat) (hm : m ≠ 0) (hm64 : m < 2 ^ 64) (n : Nat) (hn : n < 2 ^ 63) (k : Nat) (hk : 500 ≤ k) : amphoraref06_Power.f k (n : Int) (m : Int) = some (((GF.md (GF.np 2 n) m : Nat) : Int), 0) := by
  have h1 := rMod_lo 1 m hm hm64 (by decide) k (by omega)
  have h2 := rMod_lo 2 m hm hm64 (by decide) k (by omega)
  unfold amphoraref06_Power.f
  rw [if_neg (by omega), if_neg (by omega), show amphoraref06_Mod.f k 0 1 (m : Int) = _ from h1]
  simp only [Option.bind_some]
  rw [show amphoraref06_Mod.f k 0 2 (m : Int) = _ from h2]
  simp only [Option.bind_some]
  rw [rPower_l m hm hm64 63 k n 1 2 hn (by omega) (by omega) (by decide) (by decide)]
  rw [GF.md_mul_md hm, GF.one_mul, GF.md_congr hm (np_congr (i := n) (GF.Cg_md hm 2))]
theorem rMulMod_l (m : Nat) (hm : m ≠ 0) (hm64 : m < 2 ^ 64) (l : List Nat) (hl : ∀ x ∈ l, x < 2 ^ 64) (hn : l.length ≤ 1000000) (j : Nat) : ∀ (k i o : Nat), j + 300 < k → i + j = l.length → o < 2 ^ 64 →
    amphoraref06_MulMod.l0 k (m : Int) (l.map Int.ofNat) (o : Int) (i : Int) = some (((mds m o (l.drop i) : Nat) : Int), 0) := by
  induction j with
  | zero =>
    intro k i o hk hi ho
    obtain ⟨k, rfl⟩ : ∃ m, k = m + 1 := ⟨k - 1, by omega⟩
    simp only [amphoraref06_MulMod.l0, List.length_map]
    rw [if_neg (by omega), List.drop_eq_nil_of_le (by omega)]
    rfl
  | succ j ih =>
    intro k i o hk hi ho
    obtain ⟨k, rfl⟩ : ∃ m, k = m + 1 := ⟨k - 1, by omega⟩
    have hlt : i < l.length := by omega
    have h64 := hl _ (List.getElem_mem hlt)
    have nx := ih k (i + 1) (GF.md (GF.mul o l[i]) m) (by omega) (by omega) (md_lt _ m hm hm64)
    simp only [amphoraref06_MulMod.l0, List.length_map]
    rw [if_pos (by omega), if_pos (by omega), rd_map l i hlt, rMul_f o l[i] ho h64 k (by omega)]
    simp only [Option.bind_some]
    rw [rMod_f _ m hm hm64 (mul_lt o l[i] 64 ho h64 (by omega)) k (by omega)]
    simp only [Option.bind_some]
    rw [w64 (x := (i : Int) + 1) (by omega) (by omega), List.drop_eq_getElem_cons hlt]
    exact nx
theorem rMulMod_f (m : Nat) (hm : m ≠ 0) (hm64 : m < 2 ^ 64) (l : List Nat) (hl : ∀ x ∈ l, x < 2 ^ 64) (hn : l.length ≤ 1000000) (k : Nat) (hk : l.length + 400 ≤ k) :
    amphoraref06_MulMod.f k (m : Int) (l.map Int.ofNat) = some (((mds m (GF.md 1 m) l : Nat) : Int), 0) := by
  unfold amphoraref06_MulMod.f
  have h1 := rMod_lo 1 m hm hm64 (by decide) k (by omega)
  rw [if_neg (by omega), show amphoraref06_Mod.f k 0 1 (m : Int) = _ from h1]
  simp only [Option.bind_some]
  exact rMulMod_l m hm hm64 l hl hn l.length k 0 (GF.md 1 m) (by omega) (by omega) (md_lt 1 m hm hm64)
theorem gcds_lt (l : List Nat) : ∀ o, o < 2 ^ 64 → (∀ x ∈ l, x < 2 ^ 64) → gcds o l < 2 ^ 64 := by
  induction l with
  | nil => intro o ho _; exact ho
  | cons a l ih =>
    intro o ho h
    exact ih (GF.gcd o a) (gcd_lt o a ho (h a List.mem_cons_self)) (fun x hx => h x (List.mem_cons_of_mem _ hx))
end PolyChainsAid
open PolyChainsAid
theorem PolyChains (m : Nat) (m64 : m < 2 ^ 64) (l : List Nat) (hl : ∀ x ∈ l, x < 2 ^ 64) (n : Int) (hn : n ≤ 9223372036854775807) (A : Option Addr) (c : Nat) (w : World)
    (hr : Kd.C (Kd.int .u64) w A (l.map Int.ofNat).length (l.map Int.ofNat)) (hc : (l.map Int.ofNat).length ≤ c) :
    Calls Try.prog 8 #[.int .u64 m, .slice A (l.map Int.ofNat).length c, .int .i64 n] w fun e w' => e = .returned (.bool true) ∧ Below w.heap.size w w' := by
  obtain ⟨K, hK⟩ : ∃ K : Nat, 20000 ≤ K := ⟨20000, Nat.le_refl _⟩
  have al := alive_f K (by omega)
  by_cases hlen : 200 < (l.map Int.ofNat).length
  · exact chains_long K m n A c _ w al hlen
  · have ln : l.length ≤ 200 := by rw [List.length_map] at hlen; omega
    have hnum : ∀ x : Int, amphoranum_Num.f (if x = 0 then none else some x) = some x := by
      intro x
      by_cases hx : x = 0
      · rw [if_pos hx, hx]; rfl
      · rw [if_neg hx]; simp [amphoranum_Num.f, hx]
    have hmm : ∃ x t, poly_MulMod.f K (m : Int) (l.map Int.ofNat) = some (x, if t = 0 then none else some t) ∧ amphoraref06_MulMod.f K (m : Int) (l.map Int.ofNat) = some (x, t) := by
      by_cases hm : m = 0
      · subst hm
        refine ⟨0, 27, ?_, ?_⟩
        · unfold poly_MulMod.f; rw [if_pos (by decide)]; rfl
        · unfold amphoraref06_MulMod.f; rw [if_pos (by decide)]
      · exact ⟨_, 0, MulMod_f m hm m64 l hl (by omega) K (by omega), rMulMod_f m hm m64 l hl (by omega) K (by omega)⟩
    have hpw : ∃ z t, poly_Power.f K n (m : Int) = some (z, if t = 0 then none else some t) ∧ amphoraref06_Power.f K n (m : Int) = some (z, t) := by
      by_cases hm : m = 0
      · subst hm
        refine ⟨0, 27, ?_, ?_⟩
        · unfold poly_Power.f; rw [if_pos (by decide)]; rfl
        · unfold amphoraref06_Power.f; rw [if_pos (by decide)]
      · by_cases h0 : n < 0
        · refine ⟨0, 7, ?_, ?_⟩
          · unfold poly_Power.f; rw [if_neg (by omega), if_pos h0]; rfl
          · unfold amphoraref06_Power.f; rw [if_neg (by omega), if_pos h0]
        · obtain ⟨n, rfl⟩ := Int.eq_ofNat_of_zero_le (by omega : 0 ≤ n)
          have p63 : (2 : Nat) ^ 63 = 9223372036854775808 := by decide
          have n63 : n < 2 ^ 63 := by rw [p63]; omega
          exact ⟨_, 0, Power_f m hm m64 n n63 K (by omega), rPower_f m hm m64 n n63 K (by omega)⟩
    obtain ⟨x, t, e1, e2⟩ := hmm
    obtain ⟨z, t2, e3, e4⟩ := hpw
    refine chains_short K m n x z _ _ t t2 (fun i => ((gcds 0 (l.take i) : Nat) : Int)) A c _ w hr hc al (by omega) e1 e2 e3 e4 (hnum t) (hnum t2) rfl (fun i hi => ?_) ?_
    · rw [List.length_map] at hi
      have h64 := hl _ (List.getElem_mem hi)
      have g64 : gcds 0 (l.take i) < 2 ^ 64 := gcds_lt _ 0 (by decide) (fun x hx => hl x (List.mem_of_mem_take hx))
      rw [rd_map l i hi, rGcd_f _ _ g64 h64 K (by omega), List.take_succ_eq_append_getElem hi]
      unfold gcds
      rw [List.foldl_append]
      rfl
    · rw [Gcd_f l hl (by omega) K (by omega), List.length_map, List.take_of_length_le (Nat.le_refl _)]

end Go.Proofs.Ytabgknnnhhgliaa.Pure
