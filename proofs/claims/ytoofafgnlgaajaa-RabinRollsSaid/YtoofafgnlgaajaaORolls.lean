/- The walk of RabinRolls. Conditions: as the theorem says. -/
import Derived.Test.YtoofafgnlgaajaaOPrints
import Derived.Test.YtoofafgnlgaajaaRP8
namespace Go.Proofs.Ytoofafgnlgaajaa.RW
open Go.RowKit Go.Proofs.Ytoofafgnlgaajaa.PRabin Go.Proofs.YtoofafgnlgaajaaW.PrintWords Go.Proofs.YtoofafgnlgaajaaW.PrintLast Go.Proofs.YtoofafgnlgaajaaW.PrintMore
attribute [local go_sem] max2_int min2_int max_two min_two max_three min_three max_four min_four   -- for this text's walks alone
set_option linter.unusedVariables false
set_option linter.unusedSimpArgs false
theorem print1n_calls (W : World) (n k : Nat) (p r1 : Int) (r2 : Option Int) (A1 : Option Addr) (c1 : Nat) (l1 : List Int) (hn : l1.length = n) (h1 : Kd.C (Kd.int .u8) W A1 l1.length l1) (hc1 : n ≤ c1) (h : rabin_Print.f k p [l1] = some (r1, r2)) :
    Calls Try.prog 19 #[.int .u64 p, .slice (some ⟨W.heap.size, 0, none⟩) 1 1] (W.alloc (.cells #[.slice A1 n c1] 25)) fun e w' => e = .returned (.tuple #[.int .u64 r1, errW r2]) ∧ Drawn0 (W.alloc (.cells #[.slice A1 n c1] 25)) w' := by
  subst hn
  exact print1_calls W k p r1 r2 A1 c1 l1 h1 hc1 h
theorem print2n_calls (W : World) (n m k : Nat) (p r1 : Int) (r2 : Option Int) (A1 A2 : Option Addr) (c1 c2 : Nat) (l1 l2 : List Int) (hn : l1.length = n) (hm : l2.length = m) (h1 : Kd.C (Kd.int .u8) W A1 l1.length l1) (hc1 : n ≤ c1) (h2 : Kd.C (Kd.int .u8) W A2 l2.length l2) (hc2 : m ≤ c2) (h : rabin_Print.f k p [l1, l2] = some (r1, r2)) :
    Calls Try.prog 19 #[.int .u64 p, .slice (some ⟨W.heap.size, 0, none⟩) 2 2] (W.alloc (.cells #[.slice A1 n c1, .slice A2 m c2] 25)) fun e w' => e = .returned (.tuple #[.int .u64 r1, errW r2]) ∧ Drawn0 (W.alloc (.cells #[.slice A1 n c1, .slice A2 m c2] 25)) w' := by
  subst hn hm
  exact print2_calls W k p r1 r2 A1 A2 c1 c2 l1 l2 h1 hc1 h2 hc2 h
theorem print2v_calls (W : World) (k : Nat) (p r1 : Int) (r2 : Option Int) (A : Option Addr) (l1 l2 : List Int) (hC : Kd.C (Kd.slice 5 (Kd.int .u8)) W A 2 [l1, l2]) (h : rabin_Print.f k p [l1, l2] = some (r1, r2)) :
    Calls Try.prog 19 #[.int .u64 p, .slice A 2 2] W fun e w' => e = .returned (.tuple #[.int .u64 r1, errW r2]) ∧ Drawn0 W w' := rabin_Print.calls k p A 2 [l1, l2] r1 r2 W hC (Nat.le_refl _) h
theorem C_zeros (W : World) : Kd.C (Kd.int .u8) (W.alloc (.cells (bytesV (List.replicate 5 0)) 5)) (some ⟨W.heap.size, 0, none⟩) (I (List.replicate 5 0)).length (I (List.replicate 5 0)) := by
  have h : (W.alloc (.cells (bytesV (List.replicate 5 0)) 5)).ownsRow W.heap.size 5 1 (.slice (some ⟨W.heap.size, 0, none⟩) 5 5) 5 (nums .u8 (I (List.replicate 5 0))) :=
    ⟨rfl, .inr ⟨W.heap.size, 5, bytesV (List.replicate 5 0), rfl, Nat.le_refl _, heap_alloc_new W _, Nat.le_refl _, by simp [maxLen], rfl, rfl⟩⟩
  exact (own_C h rfl).2
theorem made5 : ∀ w : World, (Instr.makeSlice 25 (.int .i64 5) (.int .i64 5)).run Try.prog w = .ok (.slice (some ⟨w.heap.size, 0, none⟩) 5 5) (w.alloc (.cells (bytesV (List.replicate 5 0)) 5)) := made_run 5 (by omega)
set_option maxHeartbeats 4000000 in
set_option maxRecDepth 100000 in
theorem rolls_zero (A1 A2 : Option Addr) (n1 c1 n2 c2 : Nat) (w : World) :
    Calls Try.prog 7 #[.int .u64 0, .slice A1 n1 c1, .slice A2 n2 c2] w fun e w' => e = .returned (.bool true) ∧ Below w.heap.size w w' := by
  have HA := Aside0.mk (fun W : World => amphoralaw07_alive.calls 2000 true W alive_f)
  have HB0 := Aside0.mk (Below.refl w.heap.size w)
  go_enter Try.func7, Try.ntmps7
  go_wp2_with (first
    | (go_at_call 10; (with_reducible refine (HA.out _).mono ?_); rintro e1 w2 ⟨rfl, hb⟩; have HB0 := Aside0.mk (below_step HB0.out hb); clear hb))
  go_ret
  exact ⟨rfl, HB0.out⟩
/-- append(v, u) in a region that draws. -/
theorem step_append_u8 {ops : Array Oper} {o : Oper} {a : Act} {Q : Exit → Act → World → Prop} {Kc : Act → World → Prop} {w : World} (hw : Region.wanted o (yielded ops a.tmps) = true) (s x : Operand)
    (ho : o.op = .call { callee := .builtin .append, args := #[s, x], argTypes := #[25, 25] })
    (base : Nat) (v : Value) (n : Nat) (xs : List Value) (hs : a.eval s = v) (hown : w.ownsRow base 5 1 v n xs)
    (ad : Addr) (u : Value) (hx : a.eval x = .slice (some ad) 1 1) (hu : w.cell? (ad.add 0) = some u) (h1 : u.oneCell' = true)
    (h63 : n + 1 ≤ 140737488355328) (hbase : base ≤ w.heap.size)
    (h : ∀ v' w', w'.ownsRow base 5 1 v' (n + 1) (xs ++ [u]) → w.grownBy w' v.ownBlock → (v'.ownBlock = v.ownBlock ∨ ∃ b, v'.ownBlock = some b ∧ w.heap.size ≤ b) → Kc (a.put o.dst v') w') :
    if Region.wanted o (yielded ops a.tmps) = true then Oper.wp Try.prog o a w Kc Q else Kc (a.put o.dst undef) w := by
  obtain ⟨i0, hi, hzz⟩ := Option.map_eq_some_iff.1 infoU8
  simp only [Prod.mk.injEq] at hzz
  obtain ⟨hz0, hz1, hz2⟩ := hzz
  rw [if_pos hw]
  obtain ⟨v', w', hr, h2, h3, h4, h5⟩ := Apart.run_append_keep (P := Try.prog) w base 25 o.type 5 i0 (.int .u8 0) 1 1 Try.underlying25 hi hz0 hz1 hz2 rfl (by omega) v n xs hown ad 1 1 [u] rfl (fun j q hq => by
    match j, hq with
    | 0, hq => obtain rfl := Option.some.inj hq; exact hu
    | j + 1, hq => simp at hq) (fun q hq => by rw [List.mem_singleton.1 hq]; exact h1) (by simp only [maxLen]; omega) (by omega) hbase
  have hw := h v' w' h2 h4 h5
  unfold Oper.wp execOp
  simp only [ho, resolve, invoke, builtin, Sem.run_bind, Sem.run_pure, Result.andThen_ok, List.map_toArray, List.map_cons, List.map_nil, hs, hx, hr]
  exact hw
theorem xor_u8 (x y : Nat) (hx : x < 256) (hy : y < 256) : Go.bits .xor .u8 (x : Int) (y : Int) = ((x ^^^ y : Nat) : Int) := by
  have h1 : (BitVec.ofInt 8 (x : Int)).toNat = x := by rw [BitVec.ofInt_natCast, BitVec.toNat_ofNat]; exact Nat.mod_eq_of_lt hx
  have h2 : (BitVec.ofInt 8 (y : Int)).toNat = y := by rw [BitVec.ofInt_natCast, BitVec.toNat_ofNat]; exact Nat.mod_eq_of_lt hy
  have h3 : x ^^^ y < 256 := Nat.xor_lt_two_pow (n := 8) hx hy
  show IntKind.u8.wrap ((BitVec.ofInt 8 (x : Int) ^^^ BitVec.ofInt 8 (y : Int)).toNat : Int) = _
  rw [BitVec.toNat_xor, h1, h2]
  simp [IntKind.wrap, IntKind.signed, IntKind.bits]
  omega
set_option maxHeartbeats 4000000 in
set_option maxRecDepth 100000 in
theorem rolls_main (k p : Nat) (A1 A2 : Option Addr) (cc1 cc2 : Nat) (a b : List Nat) (ha : ∀ x ∈ a, x < 256) (hb : ∀ x ∈ b, x < 256) (l1 l2 : List Int) (e1 : l1 = I a) (e2 : l2 = I b) (w : World) (h1 : Kd.C (Kd.int .u8) w A1 l1.length l1) (hc1 : l1.length ≤ cc1) (h2 : Kd.C (Kd.int .u8) w A2 l2.length l2) (hc2 : l2.length ≤ cc2) (hp : (p : Int) ≠ 0)
    (hlaw : ∀ n, n ≤ 400 → n ≤ a.length → n ≤ b.length → ∃ x y : Nat, x < 2 ^ 64 ∧ y < 2 ^ 64 ∧ rabin_Print.f k (p : Int) [l1.take n] = some ((x : Int), none) ∧ rabin_Print.f k (p : Int) [l2.take n] = some ((y : Int), none) ∧ rabin_Print.f k (p : Int) [I (sumB (a.take n) (b.take n))] = some (((x ^^^ y : Nat) : Int), none) ∧ rabin_Print.f k (p : Int) [I (List.replicate 5 0), l1.take n] = some ((x : Int), none)) :
    Calls Try.prog 7 #[.int .u64 (p : Int), .slice A1 l1.length cc1, .slice A2 l2.length cc2] w fun e w' => e = .returned (.bool true) ∧ Below w.heap.size w w' := by
  have hu31 := Try.underlying31
  have hu43 := Try.underlying43
  have HA := Aside0.mk (fun W : World => amphoralaw07_alive.calls 2000 true W alive_f)
  have H1 := Aside0.mk h1
  have HC1 := Aside0.mk hc1
  have H2 := Aside0.mk h2
  have HC2 := Aside0.mk hc2
  have HLAW := Aside0.mk hlaw
  clear hlaw
  have E1 := Aside0.mk e1
  have E2 := Aside0.mk e2
  have HAB := Aside0.mk (And.intro ha hb)
  have cp := beq_eq_false_iff_ne.mpr hp
  clear e1 e2 ha hb h1 hc1 h2 hc2 hp
  go_enter Try.func7, Try.ntmps7
  go_upto_region 3 with (first
    | (go_at_call 10; (with_reducible refine (HA.out _).mono ?_); rintro e1 w2 ⟨rfl, hb⟩; have HB := Aside0.mk hb; clear hb))
  (try simp only [Act.put, List.setIfInBounds_toArray, List.set_cons_zero, List.set_cons_succ])
  go_cut [7, 25, 26, 27, 28, 29] (fun v7 v25 v26 v27 v28 v29 wc => ∃ n : Nat, v7 = .int .i64 (n : Int) ∧ Aside0 (n = min (min l1.length l2.length) 400) ∧ Aside0 (Below w.heap.size w wc))
  case first =>
    go_wp2
    all_goals (
      go_meet
      case rel =>
        first
          | exact ⟨400, rfl, ⟨by split at h <;> omega⟩, HB⟩
          | exact ⟨400, rfl, ⟨by omega⟩, HB⟩
          | exact ⟨l2.length, rfl, ⟨by rename_i h0_; rw [if_pos h] at h0_; omega⟩, HB⟩
          | exact ⟨l1.length, rfl, ⟨by rename_i h0_; rw [if_neg h] at h0_; omega⟩, HB⟩
          | exact ⟨l2.length, rfl, ⟨by omega⟩, HB⟩
          | exact ⟨l1.length, rfl, ⟨by omega⟩, HB⟩)
  case rest =>
    clear HB
    obtain ⟨n, rfl, HN, HB⟩ := hcut
    have HN1 := Aside0.mk (show n ≤ l1.length ∧ n ≤ l2.length ∧ n ≤ 400 by have := HN.out; omega)
    have HS0 := Aside0.mk (show (wc.alloc (.cells #[] 5)).ownsRow w.heap.size 5 1 (.slice (some ⟨wc.heap.size, 0, none⟩) 0 0) 0 (nums .u8 (I (sumB (a.take 0) (b.take 0)))) from ⟨rfl, .inr ⟨wc.heap.size, 0, #[], rfl, HB.out.size, heap_alloc_new wc _, Nat.le_refl _, by simp [maxLen], rfl, rfl⟩⟩)
    have HB0 := Aside0.mk (below_alloc HB.out (.cells #[] 5))
    clear HN
    go_wp2
    go_loopg [8, 9] (n + 1) (fun kq v8 v9 wr => ∃ i : Nat, v9 = .int .i64 (i : Int) ∧ Aside0 (i + kq = n + 1) ∧ Aside0 (i ≤ n) ∧ Aside0 (wr.ownsRow w.heap.size 5 1 v8 i (nums .u8 (I (sumB (a.take i) (b.take i))))) ∧ Aside0 (Below w.heap.size w wr))
    case atStart => exact ⟨0, rfl, ⟨by omega⟩, ⟨by omega⟩, HS0, HB0⟩
    case round =>
      clear HS0 HB0 HB
      obtain ⟨i, rfl, HI, HJ, HS, HB⟩ := hrel
      cases gk with
      | zero => exact absurd HI.out (by have := HJ.out; omega)
      | succ k1 =>
        by_cases c1 : (i : Int) < (n : Int)
        · have hi1 : (i : Int) < (l1.length : Int) := by have := HN1.out; omega
          have hi2 : (i : Int) < (l2.length : Int) := by have := HN1.out; omega
          obtain ⟨ad1, rfl, hcx⟩ := Kd.at_int (Kd.C_below H1.out HB.out) (i : Int) (by omega) hi1
          obtain ⟨ad2, rfl, hcy⟩ := Kd.at_int (Kd.C_below H2.out HB.out) (i : Int) (by omega) hi2
          rw [show ((i : Int)).toNat = i from rfl] at hcx hcy
          have hia : i < a.length := by have := E1.out; rw [this, I_len] at hi1; omega
          have hib : i < b.length := by have := E2.out; rw [this, I_len] at hi2; omega
          have rx : rd l1 (i : Int) = ((a.getD i 0 : Nat) : Int) := by rw [E1.out]; unfold rd I; simp [hia]
          have ry : rd l2 (i : Int) = ((b.getD i 0 : Nat) : Int) := by rw [E2.out]; unfold rd I; simp [hib]
          rw [rx] at hcx
          rw [ry] at hcy
          have HXL := Aside0.mk (show a.getD i 0 < 256 by rw [List.getD_eq_getElem?_getD, List.getElem?_eq_getElem hia]; exact HAB.out.1 _ (List.getElem_mem hia))
          have HYL := Aside0.mk (show b.getD i 0 < 256 by rw [List.getD_eq_getElem?_getD, List.getElem?_eq_getElem hib]; exact HAB.out.2 _ (List.getElem_mem hib))
          have HSN := Aside0.mk (show nums .u8 (I (sumB (a.take (i + 1)) (b.take (i + 1)))) = nums .u8 (I (sumB (a.take i) (b.take i))) ++ [.int .u8 ((a.getD i 0 ^^^ b.getD i 0 : Nat) : Int)] by
            have e : sumB (a.take (i + 1)) (b.take (i + 1)) = sumB (a.take i) (b.take i) ++ [a.getD i 0 ^^^ b.getD i 0] := by
              unfold sumB
              rw [take_snoc a i hia, take_snoc b i hib, List.zipWith_append (by rw [List.length_take, List.length_take]; omega)]
              rfl
            rw [e, I_app]; unfold nums I; simp)
          obtain ⟨x, hx⟩ : ∃ x, x = a.getD i 0 := ⟨_, rfl⟩
          obtain ⟨y, hy⟩ : ∃ y, y = b.getD i 0 := ⟨_, rfl⟩
          rw [← hx, ← hy] at HSN
          rw [← hx] at hcx HXL
          rw [← hy] at hcy HYL
          have hxor := xor_u8 x y HXL.out HYL.out
          obtain ⟨z, hz⟩ : ∃ z, z = x ^^^ y := ⟨_, rfl⟩
          rw [← hz] at hxor HSN
          have HO := Aside0.mk (pw_own_below HS.out (below_alloc (pw_below_drewN (Below.refl _ _) 1) (.cells #[.int .u8 (z : Int)] 5)))
          have HSZ := Aside0.mk (show w.heap.size ≤ ((wr.alloc (.cells #[.int .u8 (z : Int)] 5)).drewN 1).heap.size by show w.heap.size ≤ (wr.alloc (.cells #[.int .u8 (z : Int)] 5)).heap.size; rw [World.size_alloc]; exact Nat.le_succ_of_le HB.out.size)
          have c1b := decide_eq_true c1
          have p0 := eq_true (Int.natCast_nonneg i)
          have p1 := eq_true hi1
          have p2 := eq_true hi2
          have w1 : wrap64 ((i : Int) + 1) = ((i + 1 : Nat) : Int) := by have := HN1.out; unfold wrap64; omega
          clear hx hy hz rx ry hia hib hi1 hi2
          go_wp2
          go_region_law (first | (refine step_append_u8 rfl (.tmp 36) (.tmp 46) rfl w.heap.size u8 i _ rfl HO.out ⟨wr.heap.size, 0, none⟩ (.int .u8 (z : Int)) rfl (blk_cell (heap_alloc_new _ _) 0) rfl (by have := HN1.out; have := HJ.out; omega) HSZ.out ?_; intro v4 w4 o4 g4 a4; have O4 := Aside0.mk o4; have B4 := Aside0.mk (pw_below_grown (pw_below_drewN (below_alloc HB.out (.cells #[.int .u8 (z : Int)] 5)) 1) _ HSZ.out g4 (fun q hq => own_base HO.out q hq)); clear o4 g4 a4))
          all_goals (
            go_wp2
            go_roundg k1
            case measure => omega
            case rel =>
              refine ⟨i + 1, (by first | rfl | (simp; done) | (simp [w1]; done)), ⟨by have := HI.out; omega⟩, ⟨by omega⟩, ⟨?_⟩, B4⟩
              rw [HSN.out]; exact O4.out)
        · have hi : i = n := by have := HJ.out; omega
          subst hi
          obtain ⟨A8, c8, rfl, _⟩ := Apart.form HS.out
          have hn1 : i ≤ l1.length := HN1.out.1
          have hn2 : i ≤ l2.length := HN1.out.2.1
          obtain ⟨x, y, hx64, hy64, P1, P2, P3, P4⟩ := HLAW.out i HN1.out.2.2 (by have := E1.out; rw [this, I_len] at hn1; exact hn1) (by have := E2.out; rw [this, I_len] at hn2; exact hn2)
          have Q1 := Aside0.mk P1
          have Q2 := Aside0.mk P2
          have Q3 := Aside0.mk P3
          have Q4 := Aside0.mk P4
          have T1 := Aside0.mk (show (l1.take i).length = i by rw [List.length_take]; omega)
          have T2 := Aside0.mk (show (l2.take i).length = i by rw [List.length_take]; omega)
          have HI1 := Aside0.mk hn1
          have HI2 := Aside0.mk hn2
          have c1b := decide_eq_false c1
          have p0 := eq_true (Int.natCast_nonneg i)
          have p1 := eq_true (show (i : Int) ≤ (cc1 : Int) by have := HC1.out; omega)
          have p2 := eq_true (show (i : Int) ≤ (cc2 : Int) by have := HC2.out; omega)
          clear P1 P2 P3 P4 hn1 hn2
          have HO := Aside0.mk HS.out
          have TS := Aside0.mk (show (I (sumB (a.take i) (b.take i))).length = i by
            have h1_ : i ≤ a.length := by have h_ := HI1.out; rw [E1.out, I_len] at h_; exact h_
            have h2_ : i ≤ b.length := by have h_ := HI2.out; rw [E2.out, I_len] at h_; exact h_
            rw [I_len, sumB_len _ _ (by rw [List.length_take, List.length_take]; omega), List.length_take]; omega)
          go_upto_region 10 with (first | (go_at_call 19; refine (print1n_calls wr i k (p : Int) (x : Int) none A1 cc1 (l1.take i) T1.out (Kd.C_take (Kd.C_below H1.out HB.out) HI1.out) (Nat.le_trans HI1.out HC1.out) Q1.out).mono ?_; rintro e1 w5 ⟨rfl, ⟨d1, rfl⟩⟩; rw [errW_none]; obtain ⟨W5, hW5⟩ : ∃ W5, W5 = (wr.alloc (.cells #[.slice A1 i cc1] 25)).drewN d1 := ⟨_, rfl⟩; have HB5 := Aside0.mk (show Below w.heap.size w W5 by rw [hW5]; exact pw_below_drewN (below_alloc HB.out _) _); have HO5 := Aside0.mk (show W5.ownsRow w.heap.size 5 1 (.slice A8 i c8) i (nums .u8 (I (sumB (a.take i) (b.take i)))) by rw [hW5]; exact pw_own_below HO.out (pw_below_drewN (below_alloc (Below.refl _ _) _) _)); rw [← hW5]; clear hW5))
          (try simp only [Act.put, List.setIfInBounds_toArray, List.set_cons_zero, List.set_cons_succ])
          go_upto_region 11 with (first | (go_at_call 19; refine (print1n_calls W5 i k (p : Int) (y : Int) none A2 cc2 (l2.take i) T2.out (Kd.C_take (Kd.C_below H2.out HB5.out) HI2.out) (Nat.le_trans HI2.out HC2.out) Q2.out).mono ?_; rintro e1 w6 ⟨rfl, ⟨d2, rfl⟩⟩; rw [errW_none]; obtain ⟨W6, hW6⟩ : ∃ W6, W6 = (W5.alloc (.cells #[.slice A2 i cc2] 25)).drewN d2 := ⟨_, rfl⟩; have HB6 := Aside0.mk (show Below w.heap.size w W6 by rw [hW6]; exact pw_below_drewN (below_alloc HB5.out _) _); have HO6 := Aside0.mk (show W6.ownsRow w.heap.size 5 1 (.slice A8 i c8) i (nums .u8 (I (sumB (a.take i) (b.take i)))) by rw [hW6]; exact pw_own_below HO5.out (pw_below_drewN (below_alloc (Below.refl _ _) _) _)); rw [← hW6]; clear hW6))
          (try simp only [Act.put, List.setIfInBounds_toArray, List.set_cons_zero, List.set_cons_succ])
          go_upto_region 12 with (first | (go_at_call 19; refine (print1n_calls W6 i k (p : Int) ((x ^^^ y : Nat) : Int) none A8 c8 (I (sumB (a.take i) (b.take i))) TS.out (by have h_ := (own_C HO6.out TS.out).2; rw [TS.out]; exact h_) (own_C HO6.out TS.out).1 Q3.out).mono ?_; rintro e1 w7 ⟨rfl, ⟨d3, rfl⟩⟩; rw [errW_none]))
          (try simp only [Act.put, List.setIfInBounds_toArray, List.set_cons_zero, List.set_cons_succ])
          have hmk := made5
          obtain ⟨W7, hW7⟩ : ∃ W7, W7 = (W6.alloc (.cells #[.slice A8 i c8] 25)).drewN d3 := ⟨_, rfl⟩
          have HB7 := Aside0.mk (show Below w.heap.size w W7 by rw [hW7]; exact pw_below_drewN (below_alloc HB6.out _) _)
          rw [← hW7]
          clear hW7
          have HX := Aside0.mk (show Go.bits .xor .u64 (x : Int) (y : Int) = ((x ^^^ y : Nat) : Int) from bits_xor_u64_nat x y (by rw [show (18446744073709551616 : Nat) = 2 ^ 64 from rfl]; exact hx64) (by rw [show (18446744073709551616 : Nat) = 2 ^ 64 from rfl]; exact hy64))
          clear hx64 hy64
          have HPP := Aside0.mk (show Kd.C (Kd.slice 5 (Kd.int .u8)) (((W7.alloc (.cells (bytesV [0, 0, 0, 0, 0]) 5)).alloc (.cells #[.slice (some ⟨W7.heap.size, 0, none⟩) 5 5, .slice A1 i cc1] 25)).drew) (some ⟨W7.heap.size + 1, 0, none⟩) 2 [I (List.replicate 5 0), l1.take i] from by
            have h := C_parts2 (w := W7.alloc (.cells (bytesV [0, 0, 0, 0, 0]) 5)) (c1 := 5) (c2 := cc1) (l2 := l1.take i) (C_zeros W7) (Nat.le_refl 5) (Kd.C_take (Kd.C_below H1.out (below_alloc HB7.out _)) HI1.out) (by rw [T1.out]; exact Nat.le_trans HI1.out HC1.out)
            rw [T1.out, World.size_alloc] at h
            exact Kd.C_drew h)
          obtain ⟨z, hz⟩ : ∃ z, z = x ^^^ y := ⟨_, rfl⟩
          rw [← hz] at HX ⊢
          clear hz
          have hxx := HX.out
          have HBF := Aside0.mk (show Below w.heap.size w (((W7.alloc (.cells (bytesV [0, 0, 0, 0, 0]) 5)).alloc (.cells #[.slice (some ⟨W7.heap.size, 0, none⟩) 5 5, .slice A1 i cc1] 25)).drew) from pw_below_drewN (below_alloc (below_alloc HB7.out _) _) 1)
          go_region_with (first | (go_at_call 19; refine (print2v_calls _ k (p : Int) (x : Int) none _ (I (List.replicate 5 0)) (l1.take i) HPP.out Q4.out).mono ?_; rintro e1 w8 ⟨rfl, hd⟩; rw [errW_none]; have HB8 := Aside0.mk (below_step HBF.out hd.below); clear hd))
          all_goals (
            go_wp2
            go_ret
            exact ⟨by first | rfl | (simp; done), HB8.out⟩)
/-- RabinRolls at a polynomial that is not 0. -/
theorem rolls_at (p : Nat) (hp : p ≠ 0) (hp64 : p < 2 ^ 64) (A1 A2 : Option Addr) (cc1 cc2 : Nat) (l1 l2 : List Int) (h1 : ∀ x ∈ l1, 0 ≤ x ∧ x < 256) (h2 : ∀ x ∈ l2, 0 ≤ x ∧ x < 256) (w : World) (r1 : Kd.C (Kd.int .u8) w A1 l1.length l1) (hc1 : l1.length ≤ cc1) (r2 : Kd.C (Kd.int .u8) w A2 l2.length l2) (hc2 : l2.length ≤ cc2) :
    Calls Try.prog 7 #[.int .u64 (p : Int), .slice A1 l1.length cc1, .slice A2 l2.length cc2] w fun e w' => e = .returned (.bool true) ∧ Below w.heap.size w w' := by
  have hs : ∀ (l : List Int), (∀ x ∈ l, 0 ≤ x ∧ x < 256) → ∀ x ∈ l.map Int.toNat, x < 256 := by
    intro l h x hx
    obtain ⟨y, hy, rfl⟩ := List.mem_map.1 hx
    have := h y hy
    omega
  have e1 := I_toNat l1 h1
  have e2 := I_toNat l2 h2
  refine rolls_main 20301 p A1 A2 cc1 cc2 (l1.map Int.toNat) (l2.map Int.toNat) (hs l1 h1) (hs l2 h2) l1 l2 e1.symm e2.symm w r1 hc1 r2 hc2 (fun e => hp (Int.ofNat_inj.1 e)) (fun n hn ha hb => ?_)
  have ta : ∀ x ∈ (l1.map Int.toNat).take n, x < 256 := fun x hx => hs l1 h1 x (List.mem_of_mem_take hx)
  have tb : ∀ x ∈ (l2.map Int.toNat).take n, x < 256 := fun x hx => hs l2 h2 x (List.mem_of_mem_take hx)
  have la : ((l1.map Int.toNat).take n).length = n := by rw [List.length_take]; exact Nat.min_eq_left ha
  have lb : ((l2.map Int.toNat).take n).length = n := by rw [List.length_take]; exact Nat.min_eq_left hb
  obtain ⟨q1, q2, q3, q4⟩ := rolls_law p hp hp64 ((l1.map Int.toNat).take n) ((l2.map Int.toNat).take n) (la.trans lb.symm) (by rw [la]; exact hn) ta tb
  have i1 : I ((l1.map Int.toNat).take n) = l1.take n := by conv => rhs; rw [← e1]
                                                            unfold I; rw [List.map_take]
  have i2 : I ((l2.map Int.toNat).take n) = l2.take n := by conv => rhs; rw [← e2]
                                                            unfold I; rw [List.map_take]
  rw [i1] at q1 q4
  rw [i2] at q2
  have hlt : ∀ q : List Nat, fp p q < 2 ^ 64 := fun q => GF.L_le.1 (Nat.le_of_lt (Nat.lt_of_lt_of_le (GF.md_L hp (val q)) (GF.L_le.2 hp64)))
  exact ⟨_, _, hlt _, hlt _, q1, q2, q3, q4⟩
end Go.Proofs.Ytoofafgnlgaajaa.RW
