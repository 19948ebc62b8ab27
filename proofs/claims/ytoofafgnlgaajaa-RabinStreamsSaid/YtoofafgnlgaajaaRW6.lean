/- rabin's Write, walked. Conditions: as each theorem says. -/
import Derived.Test.YtoofafgnlgaajaaRW5
namespace Go.Proofs.Ytoofafgnlgaajaa.RW
open Go.RowKit Go.Proofs.Ytoofafgnlgaajaa.PRabin Go.Proofs.YtoofafgnlgaajaaW.PrintWords Go.Proofs.YtoofafgnlgaajaaW.PrintLast Go.Proofs.YtoofafgnlgaajaaW.PrintMore
set_option linter.unusedVariables false
set_option linter.unusedSimpArgs false
theorem infoSL : (Try.prog.info? 25).map (fun i => (i.zero, i.size, i.bytes)) = some (some (.slice none 0 0), 1, 24) := by kernel_rfl
theorem infoU8 : (Try.prog.info? 5).map (fun i => (i.zero, i.size, i.bytes)) = some (some (.int .u8 0), 1, 1) := by kernel_rfl
/-- Rows of bytes that read so in every world that differs from w in the blocks X alone. -/
structure Rd (X : Nat → Prop) (w : World) (A : Option Addr) (parts : List (List Nat)) : Prop where
  len : parts.length ≤ 1099511627776
  at_ : ∀ i, i < parts.length → ∃ ad A0 c0, A = some ad ∧ (∀ W, Ex X w W → W.cell? (ad.add i) = some (.slice A0 (parts.getD i []).length c0)) ∧ (parts.getD i []).length ≤ c0 ∧
    ∀ j, j < (parts.getD i []).length → ∃ ad0, A0 = some ad0 ∧ ∀ W, Ex X w W → W.cell? (ad0.add j) = some (.int .u8 (((parts.getD i []).getD j 0 : Nat) : Int))
theorem take_snoc (l : List Nat) (j : Nat) (h : j < l.length) : l.take (j + 1) = l.take j ++ [l.getD j 0] := by
  rw [List.take_succ_eq_append_getElem h]; simp [h]
theorem take_flat (l : List (List Nat)) (i : Nat) (h : i < l.length) : (l.take (i + 1)).flatten = (l.take i).flatten ++ l.getD i [] := by
  rw [List.take_succ_eq_append_getElem h, List.flatten_append]; simp [h]
theorem take_flat_le (l : List (List Nat)) (i : Nat) (h : i < l.length) : (l.take i).flatten.length + (l.getD i []).length ≤ l.flatten.length := by
  rw [← List.length_append, ← take_flat l i h]
  conv => rhs; rw [← List.take_append_drop (i + 1) l, List.flatten_append, List.length_append]
  omega
set_option maxHeartbeats 8000000 in
set_option maxRecDepth 100000 in
theorem write_calls (B c b g c1 : Nat) (A1 : Option Addr) (parts : List (List Nat)) (S : Set5) (s : RS) (v : Value) (rest : List Nat) (w : World) (hB : B ≤ w.heap.size) (h : ChAt w B c b g S s v rest) (ok : s.Ok) (hbt : S.bt ≤ 55)
    (hsm : ∀ p ∈ parts, ∀ x ∈ p, x < 256) (hlen : rest.length + parts.flatten.length ≤ 1099511627776) (hrd : Rd (fun k => k = c ∨ k = b ∨ k = g ∨ v.ownBlock = some k) w A1 parts) :
    Calls Try.prog 25 #[.pointer (some ⟨c, 0, none⟩), .slice A1 parts.length c1] w fun e w' => ∃ v' V0 V, e = .returned V0 ∧ Inv w w' B c b g S v (runW S ⟨s, rest, []⟩ parts.flatten) v' V0 V := by
  have HRD := Aside0.mk hrd
  have HSM := Aside0.mk hsm
  have HLEN := Aside0.mk hlen
  have HBT := Aside0.mk hbt
  have OK := Aside0.mk (show (⟨s, rest, []⟩ : WS).s.Ok from ok)
  obtain ⟨σ0, hσ0⟩ : ∃ σ0, σ0 = (⟨s, rest, []⟩ : WS) := ⟨_, rfl⟩
  have I0 := Aside0.mk (show Inv w w B c b g S v σ0 v (.slice none 0 0) (fun _ => .slice none 0 0) by
    rw [hσ0]
    exact ⟨hB, h, OutAt.nil _ _ _ _ _, fun j hj => absurd hj (Nat.not_lt_zero _), fun k hk => .inl hk, fun j hj => absurd hj (Nat.not_lt_zero _), Ex.refl _ w⟩)
  have HL0 := Aside0.mk (show σ0.rest.length + parts.flatten.length ≤ 1099511627776 ∧ σ0.out.length = 0 by rw [hσ0]; exact ⟨hlen, rfl⟩)
  rw [← hσ0] at OK ⊢
  obtain ⟨N, hN⟩ : ∃ N, N = parts.length := ⟨_, rfl⟩
  have HN := Aside0.mk hN
  have hN2 : N ≤ 1099511627776 := by rw [hN]; exact hrd.len
  rw [← hN]
  clear hrd hsm hlen hbt ok h hσ0 hN
  go_enter Try.func25, Try.ntmps25
  go_wp2
  go_loopg [5, 14] (N + 1) (fun kq v5 v14 wr => ∃ (i : Nat) (v' : Value) (V : Nat → Value), v14 = .int .i64 (i : Int) ∧ Aside0 (i + kq = N + 1) ∧ Aside0 (i ≤ N) ∧ Aside0 (Inv w wr B c b g S v (runW S σ0 (parts.take i).flatten) v' v5 V))
  case atStart => exact ⟨0, v, _, rfl, ⟨by omega⟩, ⟨by omega⟩, I0⟩
  case round =>
    obtain ⟨i, v', V, rfl, HI, HJ, HV⟩ := hrel
    clear I0
    cases gk with
    | zero => exact absurd HI.out (by have := HJ.out; omega)
    | succ k1 =>
      by_cases c1 : (i : Int) < (N : Int)
      · have hi : i < N := by omega
        have HHI := Aside0.mk (show i < parts.length by rw [← HN.out]; exact hi)
        obtain ⟨ad, A0, c0, rfl, hc0, hl0, hrow⟩ := HRD.out.at_ i HHI.out
        have hc1 := hc0 _ HV.out.ex
        have HROW := Aside0.mk hrow
        have HFL := Aside0.mk (take_flat_le parts i HHI.out)
        obtain ⟨p, hp⟩ : ∃ p, p = parts.getD i [] := ⟨_, rfl⟩
        rw [← hp] at hc1 hl0 HROW HFL
        have HSP := Aside0.mk (show ∀ x ∈ p, x < 256 by
          rw [hp, List.getD_eq_getElem?_getD, List.getElem?_eq_getElem HHI.out]
          exact HSM.out _ (List.getElem_mem HHI.out))
        have HP := Aside0.mk hp
        obtain ⟨n, hn⟩ : ∃ n, n = p.length := ⟨_, rfl⟩
        have HNP := Aside0.mk hn
        rw [← hn] at hc1 hl0
        have hn2 : n ≤ 1099511627776 := by have h1 := HFL.out; have h2 := HL0.out.1; omega
        have c1b := decide_eq_true c1
        have p0 := eq_true (Int.natCast_nonneg i)
        have p1 := eq_true c1
        have w1 : wrap64 ((i : Int) + 1) = ((i + 1 : Nat) : Int) := by unfold wrap64; omega
        obtain ⟨pre, hpre⟩ : ∃ pre, pre = (parts.take i).flatten := ⟨_, rfl⟩
        rw [← hpre] at HV HFL
        have HPRE := Aside0.mk hpre
        clear hc0 hrow hp hn hpre
        go_wp2
        go_loopg [5, 20] (n + 1) (fun kq v5 v20 wr => ∃ (j : Nat) (v' : Value) (V : Nat → Value), v20 = .int .i64 (j : Int) ∧ Aside0 (j + kq = n + 1) ∧ Aside0 (j ≤ n) ∧ Aside0 (Inv w wr B c b g S v (runW S σ0 (pre ++ p.take j)) v' v5 V))
        case atStart => exact ⟨0, v', V, rfl, ⟨by omega⟩, ⟨by omega⟩, by rw [List.take_zero, List.append_nil]; exact HV⟩
        case round =>
          clear HV hc1 p0 p1 c1b V v'
          obtain ⟨j, v', V, rfl, HI2, HJ2, HV⟩ := hrel
          cases gk with
          | zero => exact absurd HI2.out (by have := HJ2.out; omega)
          | succ k2 =>
            by_cases c2 : (j : Int) < (n : Int)
            · have hj : j < n := by omega
              have HHJ := Aside0.mk (show j < p.length by rw [← HNP.out]; exact hj)
              obtain ⟨ad0, rfl, hcx0⟩ := HROW.out j HHJ.out
              have hcx := hcx0 _ HV.out.ex
              obtain ⟨x, hx⟩ : ∃ x, x = p.getD j 0 := ⟨_, rfl⟩
              rw [← hx] at hcx
              have HX := Aside0.mk (show x < 256 by
                rw [hx, List.getD_eq_getElem?_getD, List.getElem?_eq_getElem HHJ.out]
                exact HSP.out _ (List.getElem_mem HHJ.out))
              have HXE := Aside0.mk hx
              have HLR := Aside0.mk (runW_len S (pre ++ p.take j) σ0)
              have HOKR := Aside0.mk (show (runW S σ0 (pre ++ p.take j)).s.Ok from runW_ok _ _ OK.out (by
                intro y hy
                rcases List.mem_append.1 hy with hy | hy
                · rw [HPRE.out] at hy
                  obtain ⟨q, hq, hyq⟩ := List.mem_flatten.1 hy
                  exact HSM.out q (List.mem_of_mem_take hq) y hyq
                · exact HSP.out y (List.mem_of_mem_take hy)))
              have HST := Aside0.mk (show runW S σ0 (pre ++ p.take (j + 1)) = stepW S (runW S σ0 (pre ++ p.take j)) x by
                rw [take_snoc p j HHJ.out, ← List.append_assoc, runW_snoc, hx])
              have HLR2 := Aside0.mk (show (runW S σ0 (pre ++ p.take j)).rest.length + 1 ≤ 1099511627776 ∧ (runW S σ0 (pre ++ p.take j)).out.length + 1 ≤ 1099511627776 by
                have h1 := HLR.out
                have h2 := HFL.out
                have h3 := HL0.out
                rw [List.length_append, List.length_take] at h1
                have h4 := HHJ.out
                omega)
              clear HLR
              obtain ⟨σ, hσ⟩ : ∃ σ, σ = runW S σ0 (pre ++ p.take j) := ⟨_, rfl⟩
              rw [← hσ] at HV HOKR HST HLR2
              obtain ⟨A8, c8, rfl, _⟩ := Apart.form HV.out.ch.own
              obtain ⟨AV, cV, rfl, _⟩ := Apart.form HV.out.out.row
              obtain ⟨r, hr⟩ : ∃ r, r = σ.rest.length := ⟨_, rfl⟩
              obtain ⟨_, _, _, k5, k6, f6⟩ := ck_cells HV.out.ch.ck
              rw [← hr] at HV HLR2 k6
              have HR := Aside0.mk hr
              have c2b := decide_eq_true c2
              have p2 := eq_true (Int.natCast_nonneg j)
              have p3 := eq_true c2
              have w2 : wrap64 ((j : Int) + 1) = ((j + 1 : Nat) : Int) := by unfold wrap64; omega
              have HAL := Aside0.mk (HV.out.alloc (.cells #[.int .u8 (x : Int)] 5))
              have HU := Aside0.mk (show (wr.alloc (.cells #[.int .u8 (x : Int)] 5)).cell? ((⟨wr.heap.size, 0, none⟩ : Addr).add 0) = some (.int .u8 (x : Int)) from blk_cell (heap_alloc_new wr _) 0)
              have HOWN := Aside0.mk (show (wr.alloc (.cells #[.int .u8 (x : Int)] 5)).ownsRow B 5 1 (.slice A8 r c8) r (nums .u8 (I σ.rest)) by
                have h1 := HAL.out.ch.own
                rw [← hr] at h1
                exact h1)
              clear hcx0 hr hσ hx
              have HPR := Aside0.mk (show σ.s.next x < 2 ^ 55 from Nat.lt_of_lt_of_le (HOKR.out.next x) (Nat.pow_le_pow_right (by omega) HOKR.out.d55))
              cases hend : endsN S (r + 1) (σ.s.next x) with
              | false =>
                have HEND := Aside0.mk hend
                clear hend
                go_wp2_with (first
                  | (at_builtin; refine Apart.ev_append rfl (.tmp 28) (.tmp 30) 25 rfl B 5 (.int .u8 0) 1 Try.underlying25 infoU8 rfl (.slice A8 r c8) r (nums .u8 (I σ.rest)) rfl HOWN.out ⟨wr.heap.size, 0, none⟩ 1 (.int .u8 (x : Int)) rfl HU.out rfl ?h63 ?hby ?hbase ?_; (case h63 => have := HLR2.out; simp only [maxLen]; omega); (case hby => have := HLR2.out; omega); (case hbase => exact Nat.le_trans HAL.out.hB HAL.out.ex.size); intro v1 w4 h1 h2 hg hat; obtain ⟨A9, c9, rfl, _⟩ := Apart.form h1; obtain ⟨_, _, _, j5, j6, g6⟩ := ck_cells (HAL.out.ck1 hg); have H5 := Aside0.mk (HAL.out.added (x := x) (HR.out ▸ h1) hg hat); clear h1 h2 hg hat HOWN HU HAL)
                  | (go_at_call 40; refine (roll_calls b g σ.s x _ H5.out.ch.ro HOKR.out HX.out).mono ?_; rintro e1 w5 ⟨rfl, hR, hE⟩; have H6 := Aside0.mk (H5.out.rolled hR hE); clear hR hE H5; obtain ⟨_, _, _, i5, i6, e6⟩ := ck_cells H6.out.ch.ck)
                  | (go_at_call 39; refine (ends_calls c b (r + 1) (σ.s.next x) c9 A9 S _ H6.out.ch.ck HBT.out (HPR.out)).mono ?_; rintro e1 w6 ⟨he, ⟨nd, rfl⟩⟩; rw [HEND.out] at he; subst he))
                go_roundg k2
                case measure => omega
                case rel =>
                  refine ⟨j + 1, .slice A9 (r + 1) c9, V, (by first | rfl | (simp; done)), ⟨by have := HI2.out; omega⟩, ⟨by omega⟩, ⟨?_⟩⟩
                  rw [HST.out]
                  have e : stepW S σ x = ⟨σ.s.roll x, σ.rest ++ [x], σ.out⟩ := by unfold stepW; rw [← HR.out, HEND.out]; rfl
                  rw [e]
                  exact H6.out.drewN nd
              | true =>
                have HEND := Aside0.mk hend
                clear hend
                go_wp2_with (first
                  | (at_builtin; refine Apart.ev_append rfl (.tmp 28) (.tmp 30) 25 rfl B 5 (.int .u8 0) 1 Try.underlying25 infoU8 rfl (.slice A8 r c8) r (nums .u8 (I σ.rest)) rfl HOWN.out ⟨wr.heap.size, 0, none⟩ 1 (.int .u8 (x : Int)) rfl HU.out rfl ?h63 ?hby ?hbase ?_; (case h63 => have := HLR2.out; simp only [maxLen]; omega); (case hby => have := HLR2.out; omega); (case hbase => exact Nat.le_trans HAL.out.hB HAL.out.ex.size); intro v1 w4 h1 h2 hg hat; obtain ⟨A9, c9, rfl, _⟩ := Apart.form h1; obtain ⟨_, _, _, j5, j6, g6⟩ := ck_cells (HAL.out.ck1 hg); have H5 := Aside0.mk (HAL.out.added (x := x) (HR.out ▸ h1) hg hat); clear h1 h2 hg hat HOWN HU HAL)
                  | (go_at_call 40; refine (roll_calls b g σ.s x _ H5.out.ch.ro HOKR.out HX.out).mono ?_; rintro e1 w5 ⟨rfl, hR, hE⟩; have H6 := Aside0.mk (H5.out.rolled hR hE); clear hR hE H5; obtain ⟨_, _, _, i5, i6, e6⟩ := ck_cells H6.out.ch.ck)
                  | (go_at_call 39; refine (ends_calls c b (r + 1) (σ.s.next x) c9 A9 S _ H6.out.ch.ck HBT.out (HPR.out)).mono ?_; rintro e1 w6 ⟨he, ⟨nd, rfl⟩⟩; rw [HEND.out] at he; subst he)
                  | (at_builtin; have H7 := Aside0.mk ((H6.out.drewN nd).alloc (.cells #[.slice A9 (r + 1) c9] 25)); refine Apart.ev_append rfl (.tmp 42) (.tmp 47) 50 rfl w.heap.size 25 (.slice none 0 0) 24 Try.underlying50 infoSL rfl (.slice AV σ.out.length cV) σ.out.length ((List.range σ.out.length).map V) rfl H7.out.out.row ⟨w5.heap.size, 0, none⟩ 1 (.slice A9 (r + 1) c9) rfl (blk_cell (heap_alloc_new _ _) 0) rfl ?h63 ?hby ?hbase ?_; (case h63 => have := HLR2.out; simp only [maxLen]; omega); (case hby => have := HLR2.out; omega); (case hbase => exact H7.out.ex.size); intro V1 w7 h1 h2 hg hat; obtain ⟨A10, c10, rfl, _⟩ := Apart.form h1; obtain ⟨_, _, _, l5, l6, m6⟩ := ck_cells (H7.out.ck2 hg); have H8 := Aside0.mk (H7.out.flushed h1 hg hat); clear h1 h2 hg hat H6 H7)
                  | (go_at_call 41; refine (reset_calls b g _ _ H8.out.ch.ro).mono ?_; rintro e1 w8 ⟨⟨vv, rfl⟩, hR, hE⟩; have H9 := Aside0.mk (H8.out.rolled hR (hE.imp (fun k hk => .inl hk))); clear hR hE H8))
                go_roundg k2
                case measure => omega
                case rel =>
                  refine ⟨j + 1, .slice none 0 0, fun q => if q = σ.out.length then .slice A9 (r + 1) c9 else V q, (by first | rfl | (simp; done)), ⟨by have := HI2.out; omega⟩, ⟨by omega⟩, ⟨?_⟩⟩
                  rw [HST.out]
                  have e : stepW S σ x = ⟨(σ.s.roll x).reset, [], σ.out ++ [σ.rest ++ [x]]⟩ := by unfold stepW; rw [← HR.out, HEND.out]; rfl
                  rw [e]
                  exact H9.out
            · have hj : j = n := by have := HJ2.out; omega
              have c2b := decide_eq_false c2
              have HV2 := Aside0.mk (show Inv w wr B c b g S v (runW S σ0 (parts.take (i + 1)).flatten) v' u5 V by
                rw [take_flat parts i HHI.out, ← HPRE.out, ← HP.out]
                have h1 := HV.out
                rw [hj, HNP.out, List.take_length] at h1
                exact h1)
              clear HV
              go_wp2
              go_roundg k1
              case measure => omega
              case rel => exact ⟨i + 1, v', V, (by first | rfl | (simp; done)), ⟨by have := HI.out; omega⟩, ⟨by omega⟩, HV2⟩
      · have hi : i = N := by have := HJ.out; omega
        have c1b := decide_eq_false c1
        have HV2 := Aside0.mk (show Inv w wr B c b g S v (runW S σ0 parts.flatten) v' u5 V by
          have h1 := HV.out
          rw [hi, HN.out, List.take_length] at h1
          exact h1)
        clear HV
        go_wp2
        go_ret
        first | exact ⟨v', _, V, rfl, HV2.out⟩ | exact ⟨v', _, rfl, V, HV2.out⟩
end Go.Proofs.Ytoofafgnlgaajaa.RW
