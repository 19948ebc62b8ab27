/- rabin's Cut, walked. Conditions: as each theorem says. -/
import Derived.Test.YtoofafgnlgaajaaRW7
namespace Go.Proofs.Ytoofafgnlgaajaa.RW
open Go.RowKit Go.Proofs.Ytoofafgnlgaajaa.PRabin Go.Proofs.YtoofafgnlgaajaaW.PrintWords Go.Proofs.YtoofafgnlgaajaaW.PrintLast Go.Proofs.YtoofafgnlgaajaaW.PrintMore
set_option linter.unusedVariables false
set_option linter.unusedSimpArgs false
theorem infoInt : (Try.prog.info? 3).map (fun i => (i.zero, i.size, i.bytes)) = some (some (.int .i64 0), 1, 8) := by kernel_rfl
/-- The lengths of the chunks of a row of bytes. -/
def chunksW (S : Set5) (s : RS) (l : List Nat) : List (List Nat) := (runW S ⟨s, [], []⟩ l).out ++ (endW ⟨(runW S ⟨s, [], []⟩ l).s, (runW S ⟨s, [], []⟩ l).rest, []⟩).out
theorem rd_one {X : Nat → Prop} {w wn : World} {A1 : Option Addr} {c1 g : Nat} {l : List Nat} (hC : Kd.C (Kd.int .u8) w A1 l.length (I l)) (hc : l.length ≤ c1) (hl : l.length ≤ 1099511627776) (hB : Below w.heap.size w wn) (hX : ∀ k, X k → w.heap.size ≤ k) (hg : wn.heap[g]? = some (.cells #[.slice A1 l.length c1] 25 (0, 0))) (hgX : ¬ X g) :
    Rd X wn (some ⟨g, 0, none⟩) [l] := by
  refine ⟨by simp, fun i hi => ?_⟩
  have hi0 : i = 0 := by simpa using hi
  subst hi0
  refine ⟨⟨g, 0, none⟩, A1, c1, rfl, fun W hW => ?_, hc, fun j hj => ?_⟩
  · have := (hW.block g (blk_lt hg) hgX).trans hg
    exact blk_cell this 0
  · have hj' : j < l.length := hj
    obtain ⟨ad, e, _⟩ := Kd.at_int hC (j : Int) (by omega) (by omega)
    refine ⟨ad, e, fun W hW => ?_⟩
    have hb : Below w.heap.size w W := by
      have h1 := hW.below (B := w.heap.size) hB.size hX
      exact hB.trans h1
    obtain ⟨ad', e', h⟩ := Kd.at_int (Kd.C_below hC hb) (j : Int) (by omega) (by omega)
    rw [e] at e'
    cases e'
    rw [show (j : Int).toNat = j from rfl] at h
    rw [h]
    unfold rd I
    simp [hj']
/-- append(v, y...), y a row of one's own, or nil. -/
theorem ev_append_own {P : Program} {ops : Array Oper} {rest : List Oper} {o : Oper} {a : Act} {Q : Exit → Act → World → Prop} {w : World} (hgd : o.guard = none) (s x : Operand) (t : TypeId)
    (ho : o.op = .call { callee := .builtin .append, args := #[s, x], argTypes := #[t, t] })
    (base : Nat) (e : TypeId) (z : Value) (bytes : Nat) (ht : P.underlying t = some (.slice e)) (hinfo : (P.info? e).map (fun i => (i.zero, i.size, i.bytes)) = some (some z, 1, bytes)) (hzs : z.cells.size = 1)
    (v : Value) (n : Nat) (xs : List Value) (hs : a.eval s = v) (hown : w.ownsRow base e 1 v n xs)
    (y : Value) (b2 m : Nat) (news : List Value) (hx : a.eval x = y) (hy : w.ownsRow b2 e 1 y m news) (h1 : ∀ u ∈ news, u.oneCell' = true)
    (h63 : n + m ≤ maxLen) (hbytes : (n + m) * bytes ≤ 140737488355328) (hbase : base ≤ w.heap.size)
    (h : ∀ v' w', w'.ownsRow base e 1 v' (n + m) (xs ++ news) → w.grownBy w' v.ownBlock → (v'.ownBlock = v.ownBlock ∨ ∃ b, v'.ownBlock = some b ∧ w.heap.size ≤ b) → wpList P ops Q rest (a.put o.dst v') w') :
    wpList P ops Q (o :: rest) a w := by
  obtain ⟨i0, hi, hzz⟩ := Option.map_eq_some_iff.1 hinfo
  simp only [Prod.mk.injEq] at hzz
  obtain ⟨hz0, hz1, hz2⟩ := hzz
  have hrun : ∃ v' w', (Builtin.append_ #[t, t] o.type #[v, y]).run P w = .ok v' w' ∧ w'.ownsRow base e 1 v' (n + m) (xs ++ news) ∧ w.grownBy w' v.ownBlock ∧ (v'.ownBlock = v.ownBlock ∨ ∃ b, v'.ownBlock = some b ∧ w.heap.size ≤ b) := by
    rcases hy.2 with ⟨rfl, rfl⟩ | ⟨g, cap, cur, rfl, _, hg, hmc, _⟩
    · obtain rfl : news = [] := List.eq_nil_of_length_eq_zero (by simpa using hy.1)
      refine ⟨v, w, ?_, by rw [List.append_nil]; exact hown, World.grownBy.refl w _, .inl rfl⟩
      rcases hown.2 with ⟨rfl, hn⟩ | ⟨g, cap, cur, rfl, _, _, hnc, _⟩
      · simp [Builtin.append_, run_underlying ht, sizeOf, typeInfo, hi, Builtin.lenOf, Builtin.firstCells]
      · simp [Builtin.append_, run_underlying ht, sizeOf, typeInfo, hi, Builtin.lenOf, Builtin.firstCells, hnc, storeCells]
    · obtain ⟨v', w', hr, h2, _, h4, h5⟩ := Apart.run_append_keep (P := P) w base t o.type e i0 z 1 bytes ht hi hz0 hz1 hz2 hzs (by omega) v n xs hown ⟨g, 0, none⟩ m cap news (by simpa using hy.1) (hy.cells (g := g) rfl) h1 h63 hbytes hbase
      exact ⟨v', w', hr, h2, h4, h5⟩
  obtain ⟨v', w', hr, h2, h4, h5⟩ := hrun
  have hw := h v' w' h2 h4 h5
  refine wpList_plain hgd fun K hK => ?_
  unfold Oper.wp execOp
  simp only [ho, resolve, invoke, builtin, Sem.run_bind, Sem.run_pure, Result.andThen_ok, List.map_toArray, List.map_cons, List.map_nil, hs, hx, hr]
  exact hK _ _ hw
theorem vals_at {out1 out2 : List (List Nat)} {V V' : Nat → Value} (h1 : ∀ j, j < out1.length → ∃ A c, V j = .slice A (out1.getD j []).length c) (h2 : ∀ j, j < out2.length → ∃ A c, V' j = .slice A (out2.getD j []).length c) :
    ∀ j, j < ((out1 ++ out2).map List.length).length → ∃ A c, ((List.range out1.length).map V ++ (List.range out2.length).map V')[j]? = some (.slice A (((out1 ++ out2).map List.length).getD j 0) c) := by
  intro j hj
  have hj2 : j < out1.length + out2.length := by simpa using hj
  by_cases hlt : j < out1.length
  · obtain ⟨A, c, e⟩ := h1 j hlt
    refine ⟨A, c, ?_⟩
    rw [List.getElem?_append_left (by simpa using hlt), List.getElem?_map, List.getElem?_range hlt, Option.map_some, e]
    have e2 : ((out1 ++ out2).map List.length).getD j 0 = (out1.getD j []).length := by
      rw [List.getD_eq_getElem?_getD, List.getElem?_map, List.getElem?_append_left hlt]; simp [hlt]
    rw [e2]
  · obtain ⟨A, c, e⟩ := h2 (j - out1.length) (by omega)
    refine ⟨A, c, ?_⟩
    rw [List.getElem?_append_right (by simpa using Nat.le_of_not_lt hlt), List.length_map, List.length_range, List.getElem?_map, List.getElem?_range (by omega), Option.map_some, e]
    have e2 : ((out1 ++ out2).map List.length).getD j 0 = (out2.getD (j - out1.length) []).length := by
      rw [List.getD_eq_getElem?_getD, List.getElem?_map, List.getElem?_append_right (Nat.le_of_not_lt hlt)]; simp [show j - out1.length < out2.length by omega]
    rw [e2]
theorem OutAt.forms {W : World} {n0 B g : Nat} {V0 : Value} {out : List (List Nat)} {V : Nat → Value} (h : OutAt W n0 B g V0 out V) : ∀ j, j < out.length → ∃ A c, V j = .slice A (out.getD j []).length c := fun j hj => by
  obtain ⟨A, c, e, _⟩ := Apart.form (h.own j hj)
  exact ⟨A, c, e⟩
theorem OutAt.one {W : World} {n0 B g : Nat} {V0 : Value} {out : List (List Nat)} {V : Nat → Value} (h : OutAt W n0 B g V0 out V) : ∀ u ∈ (List.range out.length).map V, u.oneCell' = true := by
  intro u hu
  obtain ⟨j, hj, rfl⟩ := List.mem_map.1 hu
  obtain ⟨A, c, e⟩ := h.forms j (List.mem_range.1 hj)
  rw [e]; rfl
/-- A row of rows stands while the chunker moves. -/
theorem row_past {w3 w4 : World} {B c b g n0 : Nat} {S : Set5} {s : RS} {v' V0 : Value} {rest : List Nat} {n : Nat} {xs : List Value} (hch : ChAt w3 B c b g S s v' rest) (h : w3.ownsRow n0 25 1 V0 n xs) (he : Ex (fun k => k = c ∨ k = b ∨ k = g ∨ v'.ownBlock = some k) w3 w4) : w4.ownsRow n0 25 1 V0 n xs := by
  obtain ⟨_, hb0⟩ := hch.roblk
  refine own_move h (fun k hk => he.block k (own_lt h k hk) ?_)
  rintro (e | e | e | e)
  · exact own_ne h hch.ck (by decide) (e ▸ hk).symm
  · exact own_ne h hb0 (by decide) (e ▸ hk).symm
  · exact own_ne h hch.ro.win (by decide) (e ▸ hk).symm
  · exact Apart.Ne.types h hch.own (by decide) k hk e
theorem endW_len (σ : WS) : (endW σ).out.length ≤ 1 := by unfold endW; split <;> simp
theorem nums64_snoc (l : List Nat) (i : Nat) (h : i < l.length) : nums .i64 (I (l.take (i + 1))) = nums .i64 (I (l.take i)) ++ [.int .i64 ((l.getD i 0 : Nat) : Int)] := by
  rw [take_snoc l i h, I_app]; unfold nums I; simp
set_option maxHeartbeats 8000000 in
set_option maxRecDepth 100000 in
theorem cut_good (k k1 k2 p d W mn mx bt c1 : Nat) (A1 : Option Addr) (l : List Nat) (T T2 : Nat → Nat) (w : World) (h : rabin_Check.f k (p : Int) (W : Int) (mn : Int) (mx : Int) (bt : Int) = some none) (hD : poly_Deg.f (p : Int) = some (d : Int)) (hT : Shifts k1 p d T) (hT2 : Shifts k2 p ((8 * W : Nat) : Int) T2) (hW : W ≤ 64)
    (ok : (⟨p, d, (List.range 256).map T, (List.range 256).map T2, List.replicate W 0, 0, false, 0⟩ : RS).Ok) (hbt : bt ≤ 55) (hsm : ∀ x ∈ l, x < 256) (hlen : l.length ≤ 1000000000000) (hC : Kd.C (Kd.int .u8) w A1 l.length (I l)) (hc : l.length ≤ c1) :
    Calls Try.prog 13 #[.agg #[.int .u64 (p : Int), .int .i64 (W : Int), .int .i64 (mn : Int), .int .i64 (mx : Int), .int .i64 (bt : Int)], .slice A1 l.length c1] w fun e w' => ∃ v0, e = .returned (.tuple #[v0, errW none]) ∧
      w'.ownsRow w.heap.size 3 1 v0 (chunksW ⟨p, W, mn, mx, bt⟩ ⟨p, d, (List.range 256).map T, (List.range 256).map T2, List.replicate W 0, 0, false, 0⟩ l).length (nums .i64 (I ((chunksW ⟨p, W, mn, mx, bt⟩ ⟨p, d, (List.range 256).map T, (List.range 256).map T2, List.replicate W 0, 0, false, 0⟩ l).map List.length))) ∧ Below w.heap.size w w' := by
  have hu31 := Try.underlying31
  have hu43 := Try.underlying43
  have HNEW := Aside0.mk (fun W' : World => new_good k k1 k2 p d W mn mx bt T T2 W' h hD hT hT2 hW)
  rw [errW_none] at HNEW ⊢
  obtain ⟨S, hS⟩ : ∃ S : Set5, S = ⟨p, W, mn, mx, bt⟩ := ⟨_, rfl⟩
  obtain ⟨s, hs⟩ : ∃ s : RS, s = ⟨p, d, (List.range 256).map T, (List.range 256).map T2, List.replicate W 0, 0, false, 0⟩ := ⟨_, rfl⟩
  rw [← hS, ← hs] at HNEW
  rw [← hS, ← hs]
  rw [← hs] at ok
  have HBT := Aside0.mk (show S.bt ≤ 55 by rw [hS]; exact hbt)
  have OK := Aside0.mk ok
  have HSM := Aside0.mk hsm
  have HLEN := Aside0.mk hlen
  have HC := Aside0.mk hC
  have HCC := Aside0.mk hc
  obtain ⟨lens, hlens⟩ : ∃ lens, lens = (chunksW S s l).map List.length := ⟨_, rfl⟩
  obtain ⟨M, hM⟩ : ∃ M, M = (chunksW S s l).length := ⟨_, rfl⟩
  have HLS := Aside0.mk hlens
  have HM := Aside0.mk (show M = lens.length by rw [hM, hlens, List.length_map])
  have HM0 := Aside0.mk hM
  rw [← hlens, ← hM]
  obtain ⟨vals0, hvals0⟩ : ∃ v0 : Value, v0 = .agg #[.int .u64 (p : Int), .int .i64 (W : Int), .int .i64 (mn : Int), .int .i64 (mx : Int), .int .i64 (bt : Int)] := ⟨_, rfl⟩
  clear h hD hT hT2 hS hs ok hsm hlen hC hc hlens hM hbt hvals0
  go_enter Try.func13, Try.ntmps13
  have HLW := Aside0.mk (runW_len S l ⟨s, [], []⟩)
  obtain ⟨σ1, hσ1⟩ : ∃ σ1, σ1 = runW S ⟨s, [], []⟩ l := ⟨_, rfl⟩
  rw [← hσ1] at HLW
  obtain ⟨σ2, hσ2⟩ : ∃ σ2, σ2 = endW ⟨σ1.s, σ1.rest, []⟩ := ⟨_, rfl⟩
  have HLE := Aside0.mk (show σ2.out.length ≤ 1 by rw [hσ2]; exact endW_len _)
  have HS1 := Aside0.mk hσ1
  have HS2 := Aside0.mk hσ2
  have HMM := Aside0.mk (show σ1.out.length + σ2.out.length = M by rw [HM0.out, hσ2, hσ1]; unfold chunksW; rw [List.length_append])
  have HLL := Aside0.mk (show lens = (σ1.out ++ σ2.out).map List.length by rw [HLS.out, hσ2, hσ1]; rfl)
  clear hσ1 hσ2
  go_wp2_with (first
    | (go_at_call 23; refine (HNEW.out _).mono ?_; rintro e1 w2 ⟨c, b, g, hc0, hb0, hg0, rfl, hbl, hch⟩; rw [World.size_alloc] at hc0 hb0 hg0 hch; have HCH := Aside0.mk hch; have HBL := Aside0.mk (below_then (below_alloc (Below.refl w.heap.size w) _) (by rw [World.size_alloc]; omega) hbl); have HX0 := Aside0.mk (And.intro hc0 (And.intro hb0 hg0)); clear hch hbl hc0 hb0 hg0)
    | (go_at_call 25; refine (write_calls (w.heap.size + 1) c b g 1 (some ⟨w2.heap.size, 0, none⟩) [l] S s (.slice none 0 0) [] _ ?hB (HCH.out.below (below_alloc (Below.refl _ _) _)) OK.out HBT.out ?hsm ?hlen ?hrd).mono ?_;
        (case hB => have h1_ := HCH.out.lt.1; have h2_ := HX0.out.1; rw [World.size_alloc]; omega);
        (case hsm => exact fun q hq => by rw [List.mem_singleton.1 hq]; exact HSM.out);
        (case hlen => have h1_ := HLEN.out; simp; omega);
        (case hrd => exact rd_one HC.out HCC.out (by have := HLEN.out; omega) (below_alloc HBL.out _) (fun q hq => by obtain ⟨y1, y2, y3⟩ := HX0.out; rcases hq with e | e | e | e; (· omega); (· omega); (· omega); (· simp [Value.ownBlock] at e)) (heap_alloc_new _ _) (fun hq => by obtain ⟨y1, y2, y3, _⟩ := HCH.out.lt; rcases hq with e | e | e | e; (· omega); (· omega); (· omega); (· simp [Value.ownBlock] at e)));
        rintro e1 w3 ⟨v', V0, V, rfl, hI⟩; rw [show [l].flatten = l by simp, ← HS1.out] at hI; have HI := Aside0.mk hI; clear hI)
    | (go_at_call 28; refine (end_calls (w.heap.size + 1) c b g S σ1.s v' σ1.rest _ ?hB HI.out.ch).mono ?_; (case hB => exact Nat.le_trans HI.out.hB HI.out.ex.size);
        rintro e1 w4 ⟨v2, V2, V', rfl, hcase, hI2⟩; rw [← HS2.out] at hI2; have HI2 := Aside0.mk hI2; have HROW1 := Aside0.mk (row_past HI.out.ch HI.out.out.row hI2.ex); clear hI2 hcase)
    | (at_builtin; refine ev_append_own rfl (.tmp 22) (.tmp 24) 50 rfl _ 25 (.slice none 0 0) 24 Try.underlying50 infoSL rfl V0 _ _ rfl HROW1.out V2 _ _ _ rfl HI2.out.out.row HI2.out.out.one ?h63 ?hby ?hbase ?_;
        (case h63 => have h1_ := HLW.out.2; have h2_ := HLE.out; have h3_ := HLEN.out; simp only [maxLen, List.length_nil] at h1_ ⊢; omega);
        (case hby => have h1_ := HLW.out.2; have h2_ := HLE.out; have h3_ := HLEN.out; simp only [List.length_nil] at h1_; omega);
        (case hbase => exact Nat.le_trans HI.out.ex.size HI2.out.ex.size);
        intro VV w5 h1 hg hat; rw [HMM.out] at h1; obtain ⟨AV, cV, rfl, _⟩ := Apart.form h1; have HVV := Aside0.mk h1;
        have HB5 := Aside0.mk (show Below w.heap.size w w5 from pw_below_grown (((below_alloc HBL.out _).trans (HI.out.ex.below (by have := HBL.out.size; rw [World.size_alloc]; omega) (fun q hq => by obtain ⟨y1, y2, y3⟩ := HX0.out; rcases hq with e | e | e | e; (· omega); (· omega); (· omega); (· simp [Value.ownBlock] at e)))).trans (HI2.out.ex.below (by have h1_ := HBL.out.size; have h2_ := HI.out.ex.size; rw [World.size_alloc] at h2_; omega) (fun q hq => by obtain ⟨y1, y2, y3⟩ := HX0.out; rcases hq with e | e | e | e; (· omega); (· omega); (· omega); (· have := own_base HI.out.ch.own q e; omega)))) _ (by have h1_ := HBL.out.size; have h2_ := HI.out.ex.size; have h3_ := HI2.out.ex.size; rw [World.size_alloc] at h2_; omega) hg (fun q hq => by have h0_ := own_base HROW1.out q hq; have h1_ := HBL.out.size; rw [World.size_alloc] at h0_; omega));
        clear h1 hg hat))
  obtain ⟨vals, hvals⟩ : ∃ vals, vals = (List.range σ1.out.length).map V ++ (List.range σ2.out.length).map V' := ⟨_, rfl⟩
  have HVA := Aside0.mk (show ∀ j, j < lens.length → ∃ A c, vals[j]? = some (.slice A (lens.getD j 0) c) by
    rw [hvals, HLL.out]
    exact vals_at HI.out.out.forms HI2.out.out.forms)
  have HV0 := Aside0.mk (show w5.ownsRow w.heap.size 25 1 (.slice AV M cV) M vals by
    rw [hvals]
    exact own_weaken HVV.out (by have h1_ := HBL.out.size; rw [World.size_alloc]; omega))
  have HI0 := Aside0.mk (show w5.ownsRow w.heap.size 3 1 (.slice none 0 0) 0 (nums .i64 (I (lens.take 0))) from World.ownsRow_nil _ _ _ _)
  have HML := Aside0.mk (show M ≤ 1000000000001 by have h1_ := HLW.out.2; have h2_ := HLE.out; have h3_ := HLEN.out; have h4_ := HMM.out; simp only [List.length_nil] at h1_; omega)
  clear hvals HVV HROW1 HI HI2 HCH HBL HX0 HNEW
  go_loopg [8, 27] (M + 1) (fun kq v8 v27 wr => ∃ i : Nat, v27 = .int .i64 (i : Int) ∧ Aside0 (i + kq = M + 1) ∧ Aside0 (i ≤ M) ∧ Aside0 (wr.ownsRow w.heap.size 3 1 v8 i (nums .i64 (I (lens.take i)))) ∧ Aside0 (wr.ownsRow w.heap.size 25 1 (.slice AV M cV) M vals) ∧ Aside0 (Below w.heap.size w wr))
  case atStart => exact ⟨0, rfl, ⟨by omega⟩, ⟨by omega⟩, HI0, HV0, HB5⟩
  case round =>
    obtain ⟨i, rfl, HI, HJ, HR, HV, HB⟩ := hrel
    clear HI0 HV0 HB5
    cases gk with
    | zero => exact absurd HI.out (by have := HJ.out; omega)
    | succ k1 =>
      by_cases c1 : (i : Int) < (M : Int)
      · have hi : i < M := by omega
        have hil : i < lens.length := by rw [← HM.out]; exact hi
        obtain ⟨A9, c9, hva⟩ := HVA.out i hil
        obtain ⟨A0, c0, e0, hf⟩ := Apart.form HV.out
        cases e0
        obtain ⟨gV, rfl, hcells, hfz⟩ := hf (by omega)
        have hci := hcells i _ hva
        obtain ⟨u8, u8c, rfl, _⟩ := Apart.form HR.out
        have HIL := Aside0.mk hil
        have c1b := decide_eq_true c1
        have p0 := eq_true (Int.natCast_nonneg i)
        have p1 := eq_true c1
        have w1 : wrap64 ((i : Int) + 1) = ((i + 1 : Nat) : Int) := by have := HML.out; unfold wrap64; omega
        have HRA := Aside0.mk (pw_own_below HR.out (below_alloc (Below.refl _ _) (.cells #[.int .i64 ((lens.getD i 0 : Nat) : Int)] 3)))
        obtain ⟨li, hli⟩ : ∃ li, li = lens.getD i 0 := ⟨_, rfl⟩
        rw [← hli] at hci HRA
        have HLI := Aside0.mk hli
        clear hva hcells hfz hf hil hli
        go_wp2_with (first
          | (at_builtin; refine Apart.ev_append rfl (.tmp 31) (.tmp 34) 29 rfl w.heap.size 3 (.int .i64 0) 8 Try.underlying29 infoInt rfl (.slice u8 i u8c) i (nums .i64 (I (lens.take i))) rfl HRA.out ⟨wr.heap.size, 0, none⟩ 1 (.int .i64 (li : Int)) rfl (blk_cell (heap_alloc_new _ _) 0) rfl ?h63 ?hby ?hbase ?_;
              (case h63 => have := HML.out; simp only [maxLen]; omega); (case hby => have := HML.out; omega); (case hbase => have h1_ := HB.out.size; rw [World.size_alloc]; omega);
              intro v1 w4 h1 h2 hg hat; have HN1 := Aside0.mk h1; have HG1 := Aside0.mk hg; clear h1 h2 hg hat))
        go_roundg k1
        case measure => omega
        case rel =>
          refine ⟨i + 1, (by first | rfl | (simp; done) | (simp [w1]; done)), ⟨by have := HI.out; omega⟩, ⟨by omega⟩, ⟨?_⟩, ⟨?_⟩, ⟨?_⟩⟩
          · rw [nums64_snoc lens i HIL.out, ← HLI.out]; exact HN1.out
          · have hva := pw_own_below HV.out (below_alloc (Below.refl _ _) (.cells #[.int .i64 (li : Int)] 3))
            exact hva.kept HG1.out (Apart.Ne.types HRA.out hva (by decide)).other
          · exact pw_below_grown (below_alloc HB.out _) _ (by have h1_ := HB.out.size; rw [World.size_alloc]; omega) HG1.out (fun q hq => own_base HRA.out q hq)
      · have hi : i = M := by have := HJ.out; omega
        have c1b := decide_eq_false c1
        have HF := Aside0.mk (show wr.ownsRow w.heap.size 3 1 u8 M (nums .i64 (I lens)) by
          have h1 := HR.out
          rw [hi, HM.out, List.take_length, ← HM.out] at h1
          exact h1)
        go_wp2
        go_ret2
        exact ⟨_, rfl, HF.out, HB.out⟩
set_option maxHeartbeats 4000000 in
set_option maxRecDepth 100000 in
theorem cut_bad (k : Nat) (a0 a1 a2 a3 a4 x : Int) (A1 : Option Addr) (n c1 : Nat) (w : World) (h : rabin_Check.f k a0 a1 a2 a3 a4 = some (some x)) :
    Calls Try.prog 13 #[.agg #[.int .u64 a0, .int .i64 a1, .int .i64 a2, .int .i64 a3, .int .i64 a4], .slice A1 n c1] w fun e w' => e = .returned (.tuple #[.slice none 0 0, errW (some x)]) ∧ Below w.heap.size w w' := by
  have hu31 := Try.underlying31
  have hu43 := Try.underlying43
  have HC := Aside0.mk (fun W : World => new_bad k a0 a1 a2 a3 a4 x W h)
  rw [errW_some] at HC ⊢
  clear h
  go_enter Try.func13, Try.ntmps13
  go_wp2_with (first | (go_at_call 23; (with_reducible refine (HC.out _).mono ?_); rintro e1 w2 ⟨rfl, hb⟩; have HB := Aside0.mk (below_step (below_alloc (Below.refl w.heap.size w) _) hb); clear hb))
  go_ret2
  exact ⟨rfl, HB.out⟩
end Go.Proofs.Ytoofafgnlgaajaa.RW
