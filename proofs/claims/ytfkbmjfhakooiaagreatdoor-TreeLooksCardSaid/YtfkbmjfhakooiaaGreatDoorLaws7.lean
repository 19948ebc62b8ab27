/- TreeLooks, walked; of any arguments. Conditions: as each theorem says. -/
import Derived.Test.YtfkbmjfhakooiaaGreatDoorLRound0
import Derived.Test.YtfkbmjfhakooiaaGreatDoorLRound1
import Derived.Test.YtfkbmjfhakooiaaGreatDoorLaw6
/- TreeLooks, walked. Conditions: as each theorem says. -/
namespace Go.Proofs.YtfkbmjfhakooiaaGreatDoor.TR
open Go.RowKit Go.Shelf Go.Proofs.YtfkbmjfhakooiaaGreatDoor.PTree Go.Proofs.YtfkbmjfhakooiaaGreatDoorW.PrintWords Go.Proofs.YtfkbmjfhakooiaaGreatDoorW.PrintLast Go.Proofs.YtfkbmjfhakooiaaGreatDoorW.PrintMore
attribute [local go_sem] Oper.semAt_some max2_int min2_int max_two min_two
set_option linter.unusedVariables false
set_option linter.unusedSimpArgs false
theorem below_drawn {w w1 w2 : World} (h : Below w.heap.size w w1) (hd : Drawn0 w1 w2) : Below w.heap.size w w2 := by
  obtain ⟨n, e⟩ := hd.out
  subst e
  exact below_step h (pw_below_drewN (Below.refl _ _) n)
theorem resultsL (tmps : Array Value) {v : Value} (W : World) (e4 : tmps.getD 4 undef = v) : (results Tryz.f3 tmps).run Tryz.prog W = .ok v W := by
  have hres : Tryz.f3.results = #[.tmp 4] := by kernel_rfl
  have e4' : tmps[4]?.getD undef = v := by simpa using e4
  simp [results, hres, e4', go_sem]
theorem leaveL {W w : World} {tmps : Array Value} (e4 : tmps.getD 4 undef = .bool true) (hB : Below w.heap.size w W) :
    LeavesInM Fence.wide 6 Tryz.prog Tryz.f3 tmps (fun e w' => e = .returned (.bool true) ∧ Below w.heap.size w w') [] .returning W :=
  ⟨_, resultsL tmps W e4, rfl, hB⟩
theorem leaveLD {W w : World} {D2 D1 : Nat} {tmps : Array Value} (e4 : tmps.getD 4 undef = .bool true) (hB : Below w.heap.size w W) (h2 : W.heap[D2]? = some (.deferred (some []))) (h1 : W.heap[D1]? = some (.deferred (some []))) (hne : D1 < D2) (l2 : w.heap.size ≤ D2) (l1 : w.heap.size ≤ D1) :
    LeavesInM Fence.wide 6 Tryz.prog Tryz.f3 tmps (fun e w' => e = .returned (.bool true) ∧ Below w.heap.size w w') [{ target := .collected D2, args := #[] }, { target := .collected D1, args := #[] }] .returning W := by
  have h3 : (W.putObj D2 (.deferred none)).heap[D1]? = some (.deferred (some [])) := (World.putObj_heap_other (by omega)).trans h1
  refine ⟨by simp, .inl ⟨_, _, rfl, run_takeDeferred h2, by simp, .inl ⟨_, _, rfl, run_takeDeferred h3, ?_⟩⟩⟩
  have g2 : Below w.heap.size w (W.putObj D2 (.deferred none)) := hB.grown (grownBy_putObj' W D2 _) (by have := (Array.getElem?_eq_some_iff.1 h2).1; omega) (fun k e => by cases e; exact l2)
  exact ⟨_, resultsL _ _ e4, rfl, g2.grown (grownBy_putObj' _ D1 _) (by have := (Array.getElem?_eq_some_iff.1 h3).1; omega) (fun k e => by cases e; exact l1)⟩
set_option maxHeartbeats 16000000 in
set_option maxRecDepth 100000 in
theorem Looks_calls (K : Nat) (hK : 10000 ≤ K) (l0 : List S28) (p : ByteArray) (A0 : Option Addr) (k0 : Nat) (bl : Bool) (w : World) (hGl : Gl w) (h0 : Kd.C k28 w A0 l0.length l0) (hc0 : l0.length ≤ k0) (hbl : amphoralaw09_large.f K l0 = some bl)
    (hsm : bl = false → 2 * l0.length + 8000 ≤ K ∧ l0.length ≤ 400 ∧ ∀ x ∈ l0, x.f7.length ≤ 401000 ∧ x.f0.size ≤ 40100 ∧ x.f6.size ≤ 40100) :
    Calls Tryz.prog 3 #[.slice A0 l0.length k0, .string p] w fun e w' => e = .returned (.bool true) ∧ Below w.heap.size w w' := by
  have hu31 := Tryz.underlying28
  have hu22 := Tryz.underlying22
  have hu9 := Tryz.underlying9
  have hu4 := Tryz.underlying4
  have hu3 := Tryz.underlying3
  have hnf : ∀ (b : Nat) (W : World), (binOp BinOp.eql 37 (.func (.func 35) #[] #[.pointer (some ⟨b, 0, none⟩)]) .nilFunc).run Tryz.prog W = .ok (.bool false) W := fun b W => by rfl
  have HK := Aside0.mk hK
  have H0 := Aside0.mk h0
  have HC0 := Aside0.mk hc0
  have HBL := Aside0.mk hbl
  have HGL := Aside0.mk hGl
  clear h0 hc0 hbl hGl hK
  refine (callsIn_wide (n := 6)).1 ?_
  refine callsIn_of_wp_marks Tryz.func3 rfl trivial ?_ rfl
  simp only [Tryz.ntmps3, List.size_toArray, List.length_cons, List.length_nil, Nat.reduceAdd, Nat.reduceSub, Array.replicate_succ, Array.replicate_zero, List.push_toArray, List.append_toArray, List.nil_append, List.cons_append]
  refine wpIn_wide.2 ?_
  cases bl with
  | true =>
    clear hsm
    go_wp2_with (first | (go_at_call 5; refine (alive_calls w HGL.out).mono ?_; rintro e w1 ⟨rfl, hb⟩; have HB1 := Aside0.mk hb; clear hb) | (go_at_call 6; refine (amphoralaw09_large.calls K A0 k0 l0 true _ (Kd.C_below H0.out HB1.out) HC0.out (HGL.out.of HB1.out) HBL.out).mono ?_; rintro e w2 ⟨rfl, hb⟩; have HB2 := Aside0.mk (below_step HB1.out hb); clear hb))
    exact leaveL rfl HB2.out
  | false =>
    obtain ⟨hk2, hn, hs⟩ := hsm rfl
    have HK2 := Aside0.mk hk2
    have HN4 := Aside0.mk hn
    have HSM := Aside0.mk hs
    have HN := Aside0.mk (show l0.length * 96 ≤ 140737488355000 by omega)
    have HDD := Aside0.mk (fun x (hx : x ∈ l0) => show (x : S28).f7.length ≤ 140737488355000 by have := hs x hx; omega)
    have HD9 := Aside0.mk (fun x (hx : x ∈ l0) => show (x : S28).f7.length ≤ 9223372036854775807 by have := hs x hx; omega)
    have HD12 := Aside0.mk (fun x (hx : x ∈ l0) => show (x : S28).f7.length ≤ 1000000000000 by have := hs x hx; omega)
    clear hsm hk2 hn hs
    by_cases cp : (p.size : Int) > 2000
    · have cp1 := eq_true cp
      have cp2 := decide_eq_true cp
      clear cp
      go_wp2_with (first | (go_at_call 5; refine (alive_calls w HGL.out).mono ?_; rintro e w1 ⟨rfl, hb⟩; have HB1 := Aside0.mk hb; clear hb) | (go_at_call 6; refine (amphoralaw09_large.calls K A0 k0 l0 false _ (Kd.C_below H0.out HB1.out) HC0.out (HGL.out.of HB1.out) HBL.out).mono ?_; rintro e w2 ⟨rfl, hb⟩; have HB2 := Aside0.mk (below_step HB1.out hb); clear hb))
      exact leaveL rfl HB2.out
    · have cp1 := eq_false cp
      have cp2 := decide_eq_false cp
      clear cp
      go_upto_region 7 with (first | (go_at_call 5; refine (alive_calls w HGL.out).mono ?_; rintro e w1 ⟨rfl, hb⟩; have HB1 := Aside0.mk hb; clear hb) | (go_at_call 6; refine (amphoralaw09_large.calls K A0 k0 l0 false _ (Kd.C_below H0.out HB1.out) HC0.out (HGL.out.of HB1.out) HBL.out).mono ?_; rintro e w2 ⟨rfl, hb⟩; have HB2 := Aside0.mk (below_step HB1.out hb); clear hb) | (go_at_call 7; refine (mine_calls l0 A0 k0 _ (Kd.C_below H0.out HB2.out) HN.out HDD.out).mono ?_; rintro e w3 ⟨ga, c, rfl, hm, hb⟩; have HM3 := Aside0.mk hm; have HB3 := Aside0.mk (below_step HB2.out hb); have HM23 := Aside0.mk hb; clear hb hm) | (go_at_call 8; refine (find_goes l0 p (some ⟨ga, 0, none⟩) c _ (HGL.out.of HB3.out) (HM3.out.reads HD9.out) HD12.out).mono ?_; rintro e w4 ⟨ok, xf, Ao, co, rfl, hso, hxc, hxl, hb⟩; have HSO := Aside0.mk hso; have HXC := Aside0.mk hxc; have HXL := Aside0.mk hxl; have HB4 := Aside0.mk (below_step HB3.out hb); have HM4 := Aside0.mk (HM3.out.below hb); have HA4 := Aside0.mk hb; clear hso hxc hxl hb) | ((with_reducible refine gate_dst (N := 6) rfl ?_); refine box_event ?hg (N := 6) ?hd (cs := #[.string (⟨#[]⟩ : ByteArray), .int .i64 0, .int .i64 0, .int .i64 0, .int .i64 0, .int .i64 0, .string (⟨#[]⟩ : ByteArray), .slice none 0 0]) (t := 28) ?hr ?_; (case hd => rfl); (case hg => rfl); (case hr => first | (go_simp; done) | (go_simp; rfl)); intro g6 hg w5 hbox hb; have HB5 := Aside0.mk (below_step HB4.out hb); have HA5 := Aside0.mk (below_step HA4.out hb); have HZ5 := Aside0.mk hb; have K6 := Aside0.mk hbox; have G6 := Aside0.mk (show w4.heap.size ≤ g6 by rw [hg]; exact Nat.le_refl _); clear hb hbox hg) | ((with_reducible refine gate_store (t := 28) (p := 6) (v := .tmp 34) rfl ?_); refine ev_set31 _ rfl (.tmp 6) (.tmp 34) rfl rfl g6 _ _ _ _ _ _ _ _ xf.f0 xf.f6 xf.f1 xf.f2 xf.f3 xf.f4 xf.f5 Ao xf.f7.length co rfl rfl K6.out (fun w6 b1 b2 => ?_); have HZ6 := Aside0.mk (below_row_ HZ5.out b2 G6.out); have K6s := Aside0.mk b1; clear b1 b2))
      have HB6 := Aside0.mk (below_step HB4.out HZ6.out)
      clear K6 HB5 HZ5 HA5
      go_wp2_with (first | ((with_reducible refine gate_dst (N := 8) rfl ?_); refine box_event ?hg (N := 8) ?hd (cs := #[.string (⟨#[]⟩ : ByteArray), .int .i64 0, .int .i64 0, .int .i64 0, .int .i64 0, .int .i64 0, .string (⟨#[]⟩ : ByteArray), .slice none 0 0]) (t := 28) ?hr ?_; (case hd => rfl); (case hg => rfl); (case hr => first | (go_simp; done) | (go_simp; rfl)); intro g8 hg w7 hbox hb; have HZ7 := Aside0.mk (show Below w6.heap.size w6 w7 from hb); have K8 := Aside0.mk hbox; have G8 := Aside0.mk (show w6.heap.size ≤ g8 by rw [hg]; exact Nat.le_refl _); clear hb hbox hg) | ((with_reducible refine gate_store (t := 28) (p := 8) (v := .tmp 36) rfl ?_); refine ev_set31 _ rfl (.tmp 8) (.tmp 36) rfl rfl g8 _ _ _ _ _ _ _ _ ⟨#[]⟩ ⟨#[]⟩ 0 0 0 0 0 none 0 0 rfl rfl K8.out (fun w8 b1 b2 => ?_); have HZ8 := Aside0.mk (below_row_ HZ7.out b2 G8.out); have KW := Aside0.mk b1; clear b1 b2))
      clear K8 HZ7
      go_loopg [9, 39] (l0.length + 1) (fun kq v9 v39 w' => ∃ (i : Int) (th : Bool) (xw : S28) (Aw : Option Addr) (cw : Nat), v39 = .int .i64 i ∧ v9 = .bool th ∧ Aside0 (0 ≤ i ∧ i ≤ (l0.length : Int) ∧ (kq : Int) = (l0.length : Int) + 1 - i) ∧ Aside0 (Sought l0 p i th xw) ∧ Aside0 (Kd.C (Kd.int .u8) w Aw xw.f7.length xw.f7 ∧ xw.f7.length ≤ cw) ∧ Aside0 (w'.heap[g8]? = some (.cells #[.string xw.f0, .int .i64 xw.f1, .int .i64 xw.f2, .int .i64 xw.f3, .int .i64 xw.f4, .int .i64 xw.f5, .string xw.f6, .slice Aw xw.f7.length cw] 28 (0, 0))) ∧ Aside0 (Below w6.heap.size w6 w'))
      case atStart => exact ⟨0, false, z28, none, 0, rfl, rfl, ⟨by omega, by omega, by omega⟩, ⟨.inl ⟨rfl, rfl, fun j h1 h2 => by omega⟩⟩, ⟨⟨rfl, by simp [z28], fun h => absurd h (by simp [z28])⟩, by simp [z28]⟩, KW, HZ8⟩
      case round =>
        clear KW HZ8
        obtain ⟨i, th, xw, Aw, cw, rfl, rfl, HI, HS, HWC, KW, HZ8⟩ := hrel
        cases gk with
        | zero => exact absurd HI.out (fun h => by omega)
        | succ k1 =>
          by_cases c2 : i < (l0.length : Int)
          · have C2 := Aside0.mk c2
            obtain ⟨ad, A7, c7, eA, x0, x1, x2, x3, x4, x5, x6, x7, hl7, hi7⟩ := at_T28 H0.out i HI.out.1 c2
            subst eA
            have HL7 := Aside0.mk hl7
            have HI7 := Aside0.mk hi7
            clear hl7 hi7
            have HBr := Aside0.mk (below_step HB6.out HZ8.out)
            replace x0 := (HBr.out.cell (World.block_lt_of_cell? w _ x0)).trans x0
            replace x1 := (HBr.out.cell (World.block_lt_of_cell? w _ x1)).trans x1
            replace x2 := (HBr.out.cell (World.block_lt_of_cell? w _ x2)).trans x2
            replace x3 := (HBr.out.cell (World.block_lt_of_cell? w _ x3)).trans x3
            replace x4 := (HBr.out.cell (World.block_lt_of_cell? w _ x4)).trans x4
            replace x5 := (HBr.out.cell (World.block_lt_of_cell? w _ x5)).trans x5
            replace x6 := (HBr.out.cell (World.block_lt_of_cell? w _ x6)).trans x6
            replace x7 := (HBr.out.cell (World.block_lt_of_cell? w _ x7)).trans x7
            have hi0 := HI.out.1
            have p210 := eq_true hi0
            have q210 := eq_true c2
            clear hi0
            cases th with
            | true =>
              go_wp2_with (first | ((with_reducible refine gate_dst (N := 11) rfl ?_); refine box_event ?hg (N := 11) ?hd (cs := #[.string (⟨#[]⟩ : ByteArray), .int .i64 0, .int .i64 0, .int .i64 0, .int .i64 0, .int .i64 0, .string (⟨#[]⟩ : ByteArray), .slice none 0 0]) (t := 28) ?hr ?_; (case hd => rfl); (case hg => rfl); (case hr => first | (go_simp; done) | (go_simp; rfl)); intro g11 hg w9 hbox hb; have HZ9 := Aside0.mk (below_step HZ8.out hb); have K11 := Aside0.mk hbox; have KW9 := Aside0.mk (blk_below KW.out hb); have G11 := Aside0.mk (show w6.heap.size ≤ g11 by rw [hg]; exact below_size HZ8.out); have N11 := Aside0.mk (show g8 ≠ g11 by rw [hg]; exact Nat.ne_of_lt (Array.getElem?_eq_some_iff.1 KW.out).1); clear hb hbox hg) | ((with_reducible refine gate_store (t := 28) (p := 11) (v := .tmp 42) rfl ?_); refine ev_set31 _ rfl (.tmp 11) (.tmp 42) rfl rfl g11 _ _ _ _ _ _ _ _ (rd_T28 l0 i).f0 (rd_T28 l0 i).f6 (rd_T28 l0 i).f1 (rd_T28 l0 i).f2 (rd_T28 l0 i).f3 (rd_T28 l0 i).f4 (rd_T28 l0 i).f5 A7 (rd_T28 l0 i).f7.length c7 rfl rfl K11.out (fun w10 b1 b2 => ?_); have HZ10 := Aside0.mk (below_row_ HZ9.out b2 G11.out); have KW10 := Aside0.mk (blk_grown KW9.out b2 (fun e => N11.out (by injection e))); have y0 : w10.cell? ⟨g11, 0, none⟩ = some (.string (rd_T28 l0 i).f0) := blk_cell b1 0; have y1 : w10.cell? ⟨g11, 1, none⟩ = some (.int .i64 (rd_T28 l0 i).f1) := blk_cell b1 1; have y2 : w10.cell? ⟨g11, 2, none⟩ = some (.int .i64 (rd_T28 l0 i).f2) := blk_cell b1 2; have y3 : w10.cell? ⟨g11, 3, none⟩ = some (.int .i64 (rd_T28 l0 i).f3) := blk_cell b1 3; have y4 : w10.cell? ⟨g11, 4, none⟩ = some (.int .i64 (rd_T28 l0 i).f4) := blk_cell b1 4; have y5 : w10.cell? ⟨g11, 5, none⟩ = some (.int .i64 (rd_T28 l0 i).f5) := blk_cell b1 5; have y6 : w10.cell? ⟨g11, 6, none⟩ = some (.string (rd_T28 l0 i).f6) := blk_cell b1 6; have y7 : w10.cell? ⟨g11, 7, none⟩ = some (.slice A7 (rd_T28 l0 i).f7.length c7) := blk_cell b1 7; clear b1 b2))
              go_roundg k1
              case measure => omega
              case rel => exact ⟨i + 1, true, xw, Aw, cw, by rw [wr_in _ (by have h1 := HI.out; have h2 := HN4.out; have h3 := C2.out; omega)], rfl, ⟨by have := HI.out; have := C2.out; omega⟩, ⟨HS.out.keep⟩, HWC, KW10, HZ10⟩
            | false =>
              by_cases ce : (rd_T28 l0 i).f0.toList = p.toList
              · have SO := Aside0.mk (HS.out.found HI.out.1 ce)
                have ce1 : ((rd_T28 l0 i).f0.toList == p.toList) = true := beq_iff_eq.mpr ce
                clear ce
                go_wp2_with (first | ((with_reducible refine gate_dst (N := 11) rfl ?_); refine box_event ?hg (N := 11) ?hd (cs := #[.string (⟨#[]⟩ : ByteArray), .int .i64 0, .int .i64 0, .int .i64 0, .int .i64 0, .int .i64 0, .string (⟨#[]⟩ : ByteArray), .slice none 0 0]) (t := 28) ?hr ?_; (case hd => rfl); (case hg => rfl); (case hr => first | (go_simp; done) | (go_simp; rfl)); intro g11 hg w9 hbox hb; have HZ9 := Aside0.mk (below_step HZ8.out hb); have K11 := Aside0.mk hbox; have KW9 := Aside0.mk (blk_below KW.out hb); have G11 := Aside0.mk (show w6.heap.size ≤ g11 by rw [hg]; exact below_size HZ8.out); have N11 := Aside0.mk (show g8 ≠ g11 by rw [hg]; exact Nat.ne_of_lt (Array.getElem?_eq_some_iff.1 KW.out).1); clear hb hbox hg) | ((with_reducible refine gate_store (t := 28) (p := 11) (v := .tmp 42) rfl ?_); refine ev_set31 _ rfl (.tmp 11) (.tmp 42) rfl rfl g11 _ _ _ _ _ _ _ _ (rd_T28 l0 i).f0 (rd_T28 l0 i).f6 (rd_T28 l0 i).f1 (rd_T28 l0 i).f2 (rd_T28 l0 i).f3 (rd_T28 l0 i).f4 (rd_T28 l0 i).f5 A7 (rd_T28 l0 i).f7.length c7 rfl rfl K11.out (fun w10 b1 b2 => ?_); have HZ10 := Aside0.mk (below_row_ HZ9.out b2 G11.out); have KW10 := Aside0.mk (blk_grown KW9.out b2 (fun e => N11.out (by injection e))); have y0 : w10.cell? ⟨g11, 0, none⟩ = some (.string (rd_T28 l0 i).f0) := blk_cell b1 0; have y1 : w10.cell? ⟨g11, 1, none⟩ = some (.int .i64 (rd_T28 l0 i).f1) := blk_cell b1 1; have y2 : w10.cell? ⟨g11, 2, none⟩ = some (.int .i64 (rd_T28 l0 i).f2) := blk_cell b1 2; have y3 : w10.cell? ⟨g11, 3, none⟩ = some (.int .i64 (rd_T28 l0 i).f3) := blk_cell b1 3; have y4 : w10.cell? ⟨g11, 4, none⟩ = some (.int .i64 (rd_T28 l0 i).f4) := blk_cell b1 4; have y5 : w10.cell? ⟨g11, 5, none⟩ = some (.int .i64 (rd_T28 l0 i).f5) := blk_cell b1 5; have y6 : w10.cell? ⟨g11, 6, none⟩ = some (.string (rd_T28 l0 i).f6) := blk_cell b1 6; have y7 : w10.cell? ⟨g11, 7, none⟩ = some (.slice A7 (rd_T28 l0 i).f7.length c7) := blk_cell b1 7; clear b1 b2) | ((with_reducible refine gate_store (t := 28) (p := 8) (v := .tmp 51) rfl ?_); refine ev_set31 _ rfl (.tmp 8) (.tmp 51) rfl rfl g8 _ _ _ _ _ _ _ _ (rd_T28 l0 i).f0 (rd_T28 l0 i).f6 (rd_T28 l0 i).f1 (rd_T28 l0 i).f2 (rd_T28 l0 i).f3 (rd_T28 l0 i).f4 (rd_T28 l0 i).f5 A7 (rd_T28 l0 i).f7.length c7 rfl rfl KW10.out (fun w11 b1 b2 => ?_); have HZ11 := Aside0.mk (below_row_ HZ10.out b2 G8.out); have KW11 := Aside0.mk b1; clear b1 b2))
                go_roundg k1
                case measure => omega
                case rel => exact ⟨i + 1, true, (rd_T28 l0 i), A7, c7, by rw [wr_in _ (by have h1 := HI.out; have h2 := HN4.out; have h3 := C2.out; omega)], rfl, ⟨by have := HI.out; have := C2.out; omega⟩, ⟨SO.out⟩, ⟨HI7.out, HL7.out⟩, KW11, HZ11⟩
              · have SO := Aside0.mk (HS.out.pass ce)
                have ce1 : ((rd_T28 l0 i).f0.toList == p.toList) = false := beq_eq_false_iff_ne.mpr ce
                clear ce
                go_wp2_with (first | ((with_reducible refine gate_dst (N := 11) rfl ?_); refine box_event ?hg (N := 11) ?hd (cs := #[.string (⟨#[]⟩ : ByteArray), .int .i64 0, .int .i64 0, .int .i64 0, .int .i64 0, .int .i64 0, .string (⟨#[]⟩ : ByteArray), .slice none 0 0]) (t := 28) ?hr ?_; (case hd => rfl); (case hg => rfl); (case hr => first | (go_simp; done) | (go_simp; rfl)); intro g11 hg w9 hbox hb; have HZ9 := Aside0.mk (below_step HZ8.out hb); have K11 := Aside0.mk hbox; have KW9 := Aside0.mk (blk_below KW.out hb); have G11 := Aside0.mk (show w6.heap.size ≤ g11 by rw [hg]; exact below_size HZ8.out); have N11 := Aside0.mk (show g8 ≠ g11 by rw [hg]; exact Nat.ne_of_lt (Array.getElem?_eq_some_iff.1 KW.out).1); clear hb hbox hg) | ((with_reducible refine gate_store (t := 28) (p := 11) (v := .tmp 42) rfl ?_); refine ev_set31 _ rfl (.tmp 11) (.tmp 42) rfl rfl g11 _ _ _ _ _ _ _ _ (rd_T28 l0 i).f0 (rd_T28 l0 i).f6 (rd_T28 l0 i).f1 (rd_T28 l0 i).f2 (rd_T28 l0 i).f3 (rd_T28 l0 i).f4 (rd_T28 l0 i).f5 A7 (rd_T28 l0 i).f7.length c7 rfl rfl K11.out (fun w10 b1 b2 => ?_); have HZ10 := Aside0.mk (below_row_ HZ9.out b2 G11.out); have KW10 := Aside0.mk (blk_grown KW9.out b2 (fun e => N11.out (by injection e))); have y0 : w10.cell? ⟨g11, 0, none⟩ = some (.string (rd_T28 l0 i).f0) := blk_cell b1 0; have y1 : w10.cell? ⟨g11, 1, none⟩ = some (.int .i64 (rd_T28 l0 i).f1) := blk_cell b1 1; have y2 : w10.cell? ⟨g11, 2, none⟩ = some (.int .i64 (rd_T28 l0 i).f2) := blk_cell b1 2; have y3 : w10.cell? ⟨g11, 3, none⟩ = some (.int .i64 (rd_T28 l0 i).f3) := blk_cell b1 3; have y4 : w10.cell? ⟨g11, 4, none⟩ = some (.int .i64 (rd_T28 l0 i).f4) := blk_cell b1 4; have y5 : w10.cell? ⟨g11, 5, none⟩ = some (.int .i64 (rd_T28 l0 i).f5) := blk_cell b1 5; have y6 : w10.cell? ⟨g11, 6, none⟩ = some (.string (rd_T28 l0 i).f6) := blk_cell b1 6; have y7 : w10.cell? ⟨g11, 7, none⟩ = some (.slice A7 (rd_T28 l0 i).f7.length c7) := blk_cell b1 7; clear b1 b2))
                go_roundg k1
                case measure => omega
                case rel => exact ⟨i + 1, false, xw, Aw, cw, by rw [wr_in _ (by have h1 := HI.out; have h2 := HN4.out; have h3 := C2.out; omega)], rfl, ⟨by have := HI.out; have := C2.out; omega⟩, ⟨SO.out⟩, HWC, KW10, HZ10⟩
          · obtain ⟨o1, o2⟩ := HSO.out.one (show Sought l0 p (l0.length : Int) th xw by have e : i = (l0.length : Int) := (by have := HI.out; omega); rw [← e]; exact HS.out)
            subst o1
            subst o2
            obtain ⟨rl, hrl⟩ := looks_children K l0 p (by have := HN4.out; omega) (fun x hx => by have := HSM.out x hx; omega) (by have := HK2.out; omega)
            obtain ⟨sz, hsz⟩ := looks_size l0 (by have := HN4.out; omega) K (by have := HK2.out; omega)
            have HRL := Aside0.mk hrl
            have HSZ := Aside0.mk hsz
            have HTX := Aside0.mk (show amphoranum_Texts.f K rl rl = some true from texts_self rl (by have := hrl.2.2; have := HN4.out; omega) K (by have := hrl.2.2; have := HK2.out; omega))
            have HQ0 := HZ8
            have HM6 := Aside0.mk (HM4.out.below HZ6.out)
            have d1 : (ok != ok) = false := by cases ok <;> rfl
            have d2 : (sz != sz) = false := by rw [bne_self_eq_false]
            have KX := Aside0.mk (blk_below K6s.out HZ8.out)
            clear hrl hsz
            have x0 : wr.cell? ⟨g6, 0, none⟩ = some (.string xf.f0) := blk_cell KX.out 0; have x1 : wr.cell? ⟨g6, 1, none⟩ = some (.int .i64 xf.f1) := blk_cell KX.out 1; have x2 : wr.cell? ⟨g6, 2, none⟩ = some (.int .i64 xf.f2) := blk_cell KX.out 2; have x3 : wr.cell? ⟨g6, 3, none⟩ = some (.int .i64 xf.f3) := blk_cell KX.out 3; have x4 : wr.cell? ⟨g6, 4, none⟩ = some (.int .i64 xf.f4) := blk_cell KX.out 4; have x5 : wr.cell? ⟨g6, 5, none⟩ = some (.int .i64 xf.f5) := blk_cell KX.out 5; have x6 : wr.cell? ⟨g6, 6, none⟩ = some (.string xf.f6) := blk_cell KX.out 6; have x7 : wr.cell? ⟨g6, 7, none⟩ = some (.slice Ao xf.f7.length co) := blk_cell KX.out 7
            have y0 : wr.cell? ⟨g8, 0, none⟩ = some (.string xf.f0) := blk_cell KW.out 0; have y1 : wr.cell? ⟨g8, 1, none⟩ = some (.int .i64 xf.f1) := blk_cell KW.out 1; have y2 : wr.cell? ⟨g8, 2, none⟩ = some (.int .i64 xf.f2) := blk_cell KW.out 2; have y3 : wr.cell? ⟨g8, 3, none⟩ = some (.int .i64 xf.f3) := blk_cell KW.out 3; have y4 : wr.cell? ⟨g8, 4, none⟩ = some (.int .i64 xf.f4) := blk_cell KW.out 4; have y5 : wr.cell? ⟨g8, 5, none⟩ = some (.int .i64 xf.f5) := blk_cell KW.out 5; have y6 : wr.cell? ⟨g8, 6, none⟩ = some (.string xf.f6) := blk_cell KW.out 6; have y7 : wr.cell? ⟨g8, 7, none⟩ = some (.slice Aw xf.f7.length cw) := blk_cell KW.out 7
            go_upto_region 20 with (first | (go_at_call 9; refine (amphoraref09_SameEntry.calls xf.f0 xf.f1 xf.f2 xf.f3 xf.f4 xf.f5 xf.f6 Ao co xf.f7 xf.f0 xf.f1 xf.f2 xf.f3 xf.f4 xf.f5 xf.f6 Aw cw xf.f7 true _ (Kd.C_below HXC.out (below_step HZ6.out HQ0.out)) HXL.out (Kd.C_below HWC.out.1 (below_step HB6.out HQ0.out)) HWC.out.2 (HGL.out.of (below_step HB6.out HQ0.out)) (entry_self xf)).mono ?_; rintro e w12 ⟨rfl, hb⟩; have HQ1 := Aside0.mk (below_step HQ0.out hb); clear hb) | (go_at_call 11; refine (Children_calls K l0 p (some ⟨ga, 0, none⟩) c rl _ (HGL.out.of (below_step HB6.out HQ1.out)) ((HM6.out.below HQ1.out).reads HD9.out) (by have := HN4.out; omega) HRL.out.1).mono ?_; rintro e w13 ⟨vr, rfl, hr9, hb⟩; obtain ⟨Ar, cr, er⟩ := Kd.R_slice hr9; subst er; have HQ2 := Aside0.mk (below_step HQ1.out hb); have HR9 := Aside0.mk hr9; clear hb hr9) | (go_at_call 12; refine (amphoraref09_Children.calls K A0 k0 l0 p rl _ (Kd.C_below H0.out (below_step HB6.out HQ2.out)) HC0.out (HGL.out.of (below_step HB6.out HQ2.out)) HRL.out.2.1).mono ?_; rintro e w14 ⟨vs, rfl, hr9, hb⟩; obtain ⟨As, cs, es⟩ := Kd.R_slice hr9; subst es; have HQ3 := Aside0.mk (below_step HQ2.out hb); have HR10 := Aside0.mk hr9; have HR9b := Aside0.mk (Kd.R_below HR9.out hb); clear hb hr9) | (go_at_call 10; refine (amphoranum_Texts.calls K Ar cr rl As cs rl true _ (Kd.R_reads' HR9b.out).2.2 (Kd.R_reads' HR9b.out).2.1 (Kd.R_reads' HR10.out).2.2 (Kd.R_reads' HR10.out).2.1 (HGL.out.of (below_step HB6.out HQ3.out)) HTX.out).mono ?_; rintro e w15 ⟨rfl, hb⟩; have HQ4 := Aside0.mk (below_drawn HQ3.out hb); clear hb) | (go_at_call 13; refine (tree_Size.calls K (some ⟨ga, 0, none⟩) c l0 sz _ ((HM6.out.below HQ4.out).reads HD9.out) (by have := HM6.out.cap; omega) (HGL.out.of (below_step HB6.out HQ4.out)) HSZ.out.1).mono ?_; rintro e w16 ⟨rfl, hb⟩; have HQ5 := Aside0.mk (below_step HQ4.out hb); clear hb) | (go_at_call 14; refine (amphoraref09_Size.calls K A0 k0 l0 sz _ (Kd.C_below H0.out (below_step HB6.out HQ5.out)) HC0.out (HGL.out.of (below_step HB6.out HQ5.out)) HSZ.out.2).mono ?_; rintro e w17 ⟨rfl, hb⟩; have HQ6 := Aside0.mk (below_drawn HQ5.out hb); clear hb) | (go_at_call 15; refine (Walk_calls K (by have := HK.out; omega) l0 p (some ⟨ga, 0, none⟩) c _ (HGL.out.of (below_step HB6.out HQ6.out)) ((HM6.out.below HQ6.out).reads HD9.out) (by have := HN4.out; omega) HD12.out).mono ?_; rintro e ww ⟨bw, AL, cL, rfl, hbx, hS, hge, hb⟩; have HXW := Aside0.mk hbx; have HSW := Aside0.mk hS; have HGE := Aside0.mk hge; have HWW := Aside0.mk hb; have HQ7 := Aside0.mk (below_step HQ6.out hb); clear hbx hS hge hb))
            have HU := Aside0.mk (U8All.of HM3.out)
            have HM7 := Aside0.mk (HM6.out.below HQ7.out)
            have hcap := add_plain ga 0
            clear x0 x1 x2 x3 x4 x5 x6 x7 y0 y1 y2 y3 y4 y5 y6 y7 d1 d2 hcap
            have HUW := Aside0.mk (U8All.moved HU.out (fun k hk => (below_step HA4.out (below_step HZ6.out HQ7.out)).block k hk) HM3.out)
            have HEW := Aside0.mk (Ex.refl (fun k => w2.heap.size ≤ k ∧ k < w3.heap.size ∧ k ≠ ga) ww)
            go_wp2
            go_loopg [13, 86] (l0.length + 1) (fun kq v13 v86 w' => ∃ (q : Int), v86 = .int .i64 q ∧ Aside0 (0 ≤ q ∧ q ≤ (l0.length : Int) ∧ (kq : Int) = (l0.length : Int) + 1 - q) ∧ Aside0 (U8All w' ga w2.heap.size w3.heap.size l0) ∧ Aside0 (Ex (fun k => w2.heap.size ≤ k ∧ k < w3.heap.size ∧ k ≠ ga) ww w'))
            case atStart => exact ⟨0, rfl, ⟨by omega, by omega, by omega⟩, HUW, HEW⟩
            case round =>
              clear HUW HEW
              obtain ⟨q, rfl, HQI, HUW, HEW⟩ := hrel
              cases gk with
              | zero => exact absurd HQI.out (fun h => by omega)
              | succ k2 =>
                by_cases cq : q < (l0.length : Int)
                · have CQ := Aside0.mk cq
                  have hin : q.toNat < l0.length := by have := HQI.out.1; omega
                  obtain ⟨g, gl, gh, gn, gu, gc⟩ := HUW.out q.toNat _ (List.getElem?_eq_getElem hin)
                  have HGU := Aside0.mk gu
                  have HGN := Aside0.mk (And.intro gl (And.intro gh gn))
                  have HGS := Aside0.mk (HDD.out _ (List.getElem_mem hin))
                  have hap := add_plain ga (q.toNat * 8)
                  have hq0 := HQI.out.1
                  have p211 := eq_true hq0
                  have q211 := eq_true cq
                  clear hq0 gu gl gh gn
                  go_wp2_with (first | (go_at_call 16; refine (over_calls g _ _ _ (by have := HGS.out; omega) (by omega) HGU.out).mono ?_; rintro e wo ⟨⟨v, rfl⟩, hE, hU⟩; have HUN := Aside0.mk (HUW.out.step HGN.out.2.2 hE hU); have HEN := Aside0.mk (HEW.out.trans (hE.wide (fun k hk => by have hk : k = g := hk; rw [hk]; exact HGN.out))); clear hE hU))
                  go_roundg k2
                  case measure => omega
                  case rel => exact ⟨q + 1, by rw [wr_in _ (by have h1 := HQI.out; have h2 := HN4.out; have h3 := CQ.out; omega)], ⟨by have := HQI.out; have := CQ.out; omega⟩, HUN, HEN⟩
                · have HEB := Aside0.mk (show Below w.heap.size w wr from (below_step HB6.out HQ7.out).trans (HEW.out.below (below_size (below_step HB6.out HQ7.out)) (fun k hk => by have h1 := below_size HB2.out; omega)))
                  have HGE2 := Aside0.mk (show Gl wr from HGL.out.of HEB.out)
                  have HV0 := Aside0.mk (show Kd.V k28 28 wr wr.heap.size (fun k => k < w.heap.size) (.slice A0 l0.length k0) l0 from Kd.V_mk HC0.out (Kd.F_step (Kd.C_F heap31 H0.out) (fun k hk _ => HEB.out.block k hk)))
                  have HRW := Aside0.mk (looks_walk l0 p (by have := HN4.out; omega) K (by have := HK2.out; omega))
                  clear HUW
                  go_upto_region 26 with (first | (go_at_call 17; refine (amphoraref09_Walk.calls K (fun k => k < w.heap.size) A0 k0 l0 p (l0.filter (goneB p)) _ HV0.out HGE2.out HRW.out).mono ?_; rintro e wl ⟨v14, rfl, hv, hb⟩; obtain ⟨A14, c14, e14⟩ := Kd.V_slice (Kd.N_V (base' := 0) hv); subst e14; have HV1 := Aside0.mk (Kd.V_mono (Kd.V_bound (Kd.N_V (base' := 0) hv)) (fun k hk => hk.2)); have HWL := Aside0.mk hb; have q1 := below_size HA4.out; have q2 := below_size HZ6.out; have q3 := below_size HQ6.out; have q4 := HGE.out; have HXL := Aside0.mk (show Boxed wl bw 22 (.slice AL (l0.filter (goneB p)).length cL) from boxed_below ((HEW.out.block bw HXW.out.lt (fun e => by omega)).trans HXW.out) hb); have HSL := Aside0.mk (Kd.S_below (Kd.S_step (Kd.S_bound HSW.out) (fun k hk hlt => HEW.out.block k hlt (fun e => by have := hk.2.1; omega))) hb); clear hv hb q1 q2 q3 q4))
                  go_wp2_with (first | ((with_reducible refine gate_dst (N := 15) rfl ?_); refine box_event ?hg (N := 15) ?hd (cs := #[.int .i64 0]) (t := 3) ?hr ?_; (case hd => rfl); (case hg => rfl); (case hr => first | (go_simp; done) | (go_simp; rfl)); intro b15 hg wa hbox hb; have HBa := Aside0.mk (show Below wl.heap.size wl wa from hb); have X15 := Aside0.mk (show Boxed wa b15 3 (.int .i64 0) from hbox); have S15 := Aside0.mk (show wl.heap.size ≤ b15 by rw [hg]; exact Nat.le_refl _); have c15 := X15.out.cell; have f15 := X15.out.frozen; clear hb hbox hg))
                  have X15n := Aside0.mk (Boxed.set (.int .i64 0) X15.out)
                  have HBb := Aside0.mk (HBa.out.setCell (p := ⟨b15, 0, none⟩) S15.out (.int .i64 0))
                  clear c15 f15 X15 HBa
                  generalize wa.setCell ⟨b15, 0, none⟩ (.int .i64 0) = wb at X15n HBb ⊢
                  have HGL2 := Aside0.mk (show Gl wl from HGE2.out.of HWL.out)
                  have HLW := Aside0.mk (show Below w.heap.size w wl from HEB.out.trans (HWL.out.mono (below_size HEB.out)))
                  have HFL := Aside0.mk (show (l0.filter (goneB p)).length ≤ 400 from Nat.le_trans (List.length_filter_le _ _) HN4.out)
                  have HFD := Aside0.mk (fun x (hx : x ∈ l0.filter (goneB p)) => show (x : S28).f7.length ≤ 1000000 by have := HSM.out x (List.mem_filter.1 hx).1; omega)
                  refine wp_loop_rounds 3 ?_
                  rw [rounds_succ]
                  refine round0 K HK.out (l0.filter (goneB p)) HFL.out HFD.out bw b15 c14 cL _ AL A14 _ wl wb HGL2.out HXL.out HSL.out HV1.out HBb.out X15n.out S15.out ?_
                  rintro a1 W1 ⟨D1, q1, v16, v17, v18, v99, v100, v101, v102, v103, v104, v105, v106, v107, v108, v109, v110, v111, v112, v113, v114, v115, v116, v117, v118, v119, v120, v121, v122, v123, v124, v125, v126, v127, v128, v129, v130, v131, v132, v133, v134, v135, v136, v137, v138, v139, v140, v141, v142, v143, v144, v145, v146, v147, v148, v149, v150, v151, rfl, hD1, hlo1, hlt1, hbel1, hbox1⟩
                  have HB1w := Aside0.mk (HBb.out.trans (hbel1.mono S15.out))
                  have S16 := Aside0.mk (show wl.heap.size ≤ q1 by have := S15.out; omega)
                  have HD1 := Aside0.mk hD1
                  have HL1 := Aside0.mk (And.intro hlo1 hlt1)
                  clear hlo1 hD1 hlt1 hbel1
                  rw [rounds_succ]
                  refine round1 K HK.out (l0.filter (goneB p)) HFL.out HFD.out bw q1 c14 cL _ AL A14 _ wl W1 HGL2.out HXL.out HSL.out HV1.out HB1w.out hbox1 S16.out ?_
                  rintro a2 W2 ⟨D2, q2, u16, u17, u18, u99, u100, u101, u102, u103, u104, u105, u106, u107, u108, u109, u110, u111, u112, u113, u114, u115, u116, u117, u118, u119, u120, u121, u122, u123, u124, u125, u126, u127, u128, u129, u130, u131, u132, u133, u134, u135, u136, u137, u138, u139, u140, u141, u142, u143, u144, u145, u146, u147, u148, u149, u150, u151, rfl, hD2, hlo2, hlt2, hbel2, hbox2⟩
                  have HB2w := Aside0.mk (HB1w.out.trans (hbel2.mono S16.out))
                  have HD1b := Aside0.mk ((hbel2.block D1 HL1.out.2).trans HD1.out)
                  have HL2 := Aside0.mk hlo2
                  have HD2 := Aside0.mk hD2
                  have c15 := hbox2.cell
                  clear hbox1 hlo2 hD2 hlt2 hbel2 hbox2
                  rw [rounds_succ]
                  go_wp2
                  exact leaveLD rfl (HLW.out.trans (HB2w.out.mono (below_size HLW.out))) HD2.out HD1b.out (by have h1 := HL1.out.2; have h2 := HL2.out; omega) (by have h1 := HL2.out; have h2 := S16.out; have h3 := below_size HLW.out; omega) (by have h1 := HL1.out.1; have h2 := S15.out; have h3 := below_size HLW.out; omega)
end Go.Proofs.YtfkbmjfhakooiaaGreatDoor.TR

/- TreeLooks, of any arguments. Conditions: as the theorem says. -/
namespace Go.Proofs.YtfkbmjfhakooiaaGreatDoor.TR
open Go.RowKit Go.Proofs.YtfkbmjfhakooiaaGreatDoor.PTree Go.Proofs.YtfkbmjfhakooiaaGreatDoorW.PrintWords Go.Proofs.YtfkbmjfhakooiaaGreatDoorW.PrintLast Go.Proofs.YtfkbmjfhakooiaaGreatDoorW.PrintMore
set_option linter.unusedVariables false
set_option linter.unusedSimpArgs false
/-- The law. -/
theorem looks_holds (l0 : List S28) (p : ByteArray) (A0 : Option Addr) (k0 : Nat) (w : World) (hGl : Gl w) (h0 : Kd.C k28 w A0 l0.length l0) (hc0 : l0.length ≤ k0) (hs : ∀ x ∈ l0, x.f0.size ≤ 9223372036854775807 ∧ x.f6.size ≤ 9223372036854775807 ∧ x.f7.length ≤ 9223372036854775807 ∧ (Lit.int .i64 x.f1).wf = true) (hl : (l0.length : Int) ≤ 9223372036854775807) :
    Calls Tryz.prog 3 #[.slice A0 l0.length k0, .string p] w fun e w' => e = .returned (.bool true) ∧ Below w.heap.size w w' := by
  obtain ⟨K, hK⟩ : ∃ K, K = 2 * l0.length + 3000000 := ⟨_, rfl⟩
  obtain ⟨bl, b1, b2⟩ := large_f l0 (fun x hx => ⟨(hs x hx).1, (hs x hx).2.1, (hs x hx).2.2.1⟩) hl K (by omega)
  refine Looks_calls K (by omega) l0 p A0 k0 bl w hGl h0 hc0 b1 (fun e1 => ?_)
  obtain ⟨q1, q2⟩ := b2 e1
  exact ⟨by omega, by omega, fun x hx => by have := q2 x hx; omega⟩
end Go.Proofs.YtfkbmjfhakooiaaGreatDoor.TR
