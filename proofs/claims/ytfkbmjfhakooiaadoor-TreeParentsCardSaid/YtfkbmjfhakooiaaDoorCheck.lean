/- tree.Check, walked. Conditions: as each theorem says. -/
import Derived.Test.YtfkbmjfhakooiaaDoorEv31
import Derived.Test.YtfkbmjfhakooiaaDoorChk
namespace Go.Proofs.YtfkbmjfhakooiaaDoor.TR
open Go.RowKit Go.Proofs.YtfkbmjfhakooiaaDoor.PTree Go.Proofs.YtfkbmjfhakooiaaDoorW.PrintWords Go.Proofs.YtfkbmjfhakooiaaDoorW.PrintLast Go.Proofs.YtfkbmjfhakooiaaDoorW.PrintMore
set_option linter.unusedVariables false
set_option linter.unusedSimpArgs false
theorem wr_in (n : Int) (h : -9223372036854775808 ≤ n ∧ n ≤ 9223372036854775807) : wrap64 n = n := by unfold wrap64; omega
/-- Sizes within which an entry is walked. -/
def fits (e : S31) : Bool := decide (e.f0.size ≤ 1000000000000) && decide (e.f6.size ≤ 1000000000000) && decide (e.f7.length ≤ 1000000000000) && (Lit.int .i64 e.f1).wf
def tree_Check.l0 (K : Nat) (l : List S31) : Nat → Int → (ByteArray → Int) → ByteArray → Int → Option (Int × Option Int)
  | 0, _, _, _, _ => none
  | k + 1, i, M, last, size => if i < (l.length : Int) then
      (path_Good.f K (rd_T31 l i).f0).bind fun good => (tree_goodFields.f K (rd_T31 l i).f0 (rd_T31 l i).f1 (rd_T31 l i).f2 (rd_T31 l i).f3 (rd_T31 l i).f4 (rd_T31 l i).f5 (rd_T31 l i).f6 (rd_T31 l i).f7).bind fun gf => (path_Compare.f K last (rd_T31 l i).f0).bind fun cmp => (path_Parent.f K (rd_T31 l i).f0).bind fun pr =>
        if fits (rd_T31 l i) = true ∧ pr.1.size ≤ 1000000000000 ∧ 0 ≤ size ∧ size ≤ 1048576 then
          match entryR good gf (i.toNat != 0) cmp pr.2 (M pr.1) (rd_T31 l i).f1 (M (rd_T31 l i).f6) size ((rd_T31 l i).f7.length : Int) with
          | some c => some (i, some c)
          | none => tree_Check.l0 K l k (i + 1) (upd M (rd_T31 l i).f0 (rd_T31 l i).f1) (rd_T31 l i).f0 (size + ((rd_T31 l i).f7.length : Int))
        else none
    else some (-1, none)
def tree_Check.f (K : Nat) (l : List S31) : Option (Int × Option Int) := if (l.length : Int) > 200 then some ((l.length : Int), some 19) else tree_Check.l0 K l (l.length + 1) 0 (fun _ => 0) ⟨#[]⟩ 0
set_option maxHeartbeats 8000000 in
set_option maxRecDepth 100000 in
theorem tree_Check.calls (K : Nat) (A0 : Option Addr) (c0 : Nat) (l0 : List S31) (r : Int × Option Int) (w : World) (hr0 : Kd.C k31 w A0 l0.length l0) (hGl : Gl w) (h : tree_Check.f K l0 = some r) :
    Calls Tryd.prog 19 #[.slice A0 l0.length c0] w fun e w' => e = .returned (.tuple #[.int .i64 r.1, errW r.2]) ∧ Below w.heap.size w w' := by
  have hu31 := Tryd.underlying31
  have hu26 := Tryd.underlying26
  have hu56 := Tryd.underlying56
  have HR0 := Aside0.mk hr0
  have HGL := Aside0.mk hGl
  clear hr0 hGl
  unfold tree_Check.f at h
  by_cases c1 : (l0.length : Int) > 200
  · rw [if_pos c1] at h
    obtain rfl := Option.some.inj h
    clear h
    go_enter Tryd.func19, Tryd.ntmps19
    go_wp2
    go_ret2
    exact ⟨rfl, Below.refl _ _⟩
  · rw [if_neg c1] at h
    have H' := Aside0.mk h
    have C1 := Aside0.mk c1
    clear h
    go_enter Tryd.func19, Tryd.ntmps19
    have hmm := @run_makeMap Tryd.prog
    go_upto_region 4 with (fail)
    clear hmm
    obtain ⟨mb, hmb⟩ : ∃ mb, mb = w.heap.size := ⟨_, rfl⟩
    obtain ⟨w1, hw1⟩ : ∃ w1, w1 = w.alloc (.map #[] 0) := ⟨_, rfl⟩
    obtain ⟨q, hq⟩ : ∃ q, q = w.heap.size + 1 := ⟨_, rfl⟩
    have hq1 : q = w1.heap.size := by rw [hq, hw1]; exact (Array.size_push _).symm
    obtain ⟨w2, hw2⟩ : ∃ w2, w2 = w1.alloc (.cells #[.map (some mb), .string ⟨#[]⟩, .int .i64 0] 73) := ⟨_, rfl⟩
    have HB := Aside0.mk (show Below w.heap.size w w2 by rw [hw2, hw1]; exact below_alloc (below_alloc (Below.refl _ _) _) _)
    have hM1 : MapAt w1 mb 0 (fun _ => 0) := by rw [hmb, hw1]; exact MapAt.made w
    have hM2 : MapAt w2 mb 0 (fun _ => 0) := hM1.below (by rw [hw2]; exact below_alloc (Below.refl _ _) _)
    have HC := Aside0.mk (show CkAt w2 q mb 0 (fun _ => 0) ⟨#[]⟩ 0 from ⟨by rw [hw2, hq1]; exact heap_alloc_new w1 _, hM2⟩)
    have HQ := Aside0.mk (show w.heap.size ≤ q by omega)
    have HM := Aside0.mk (show w.heap.size ≤ mb by omega)
    rw [← hq, ← hmb, ← hw1, ← hw2]
    clear hM1 hM2 hw2 hq1 hw1 hq hmb
    go_wp2
    go_loopg [19] (l0.length + 1) (fun kq v19 w' => ∃ (i : Int) (M : ByteArray → Int) (last : ByteArray) (size : Int), v19 = .int .i64 i ∧ Aside0 (tree_Check.l0 K l0 kq i M last size = some r) ∧ Aside0 (0 ≤ i) ∧ Aside0 (CkAt w' q mb i.toNat M last size) ∧ Aside0 (Below w.heap.size w w'))
    case atStart => exact ⟨0, _, _, _, rfl, H', ⟨by omega⟩, HC, HB⟩
    case round =>
      clear H' HC HB
      obtain ⟨i, M, last, size, rfl, HA, HI, HC, HB⟩ := hrel
      cases gk with
      | zero => exact absurd HA.out (by simp [tree_Check.l0])
      | succ k1 =>
        have H := HA.out
        clear HA
        simp only [tree_Check.l0] at H
        by_cases c2 : i < (l0.length : Int)
        · rw [if_pos c2] at H
          obtain ⟨good, HG, H⟩ := Option.bind_eq_some_iff.mp H
          obtain ⟨gf, HF, H⟩ := Option.bind_eq_some_iff.mp H
          obtain ⟨cmp, HCM, H⟩ := Option.bind_eq_some_iff.mp H
          obtain ⟨⟨par, ok⟩, HP, H⟩ := Option.bind_eq_some_iff.mp H
          replace HG := Aside0.mk HG
          replace HF := Aside0.mk HF
          replace HCM := Aside0.mk HCM
          replace HP := Aside0.mk HP
          by_cases c3 : fits (rd_T31 l0 i) = true ∧ par.size ≤ 1000000000000 ∧ 0 ≤ size ∧ size ≤ 1048576
          · rw [if_pos c3] at H
            obtain ⟨h1, h2, h3, h4⟩ := c3
            simp only [fits, Bool.and_eq_true, decide_eq_true_eq] at h1
            have HFI := Aside0.mk h1
            have HPS := Aside0.mk h2
            have HS := Aside0.mk (And.intro h3 h4)
            have C2 := Aside0.mk c2
            clear h1 h2 h3 h4
            obtain ⟨ad, A7, c7, eA, x0, x1, x2, x3, x4, x5, x6, x7, _, _⟩ := at_T31 HR0.out i HI.out c2
            cases eA
            replace x0 := (HB.out.cell (World.block_lt_of_cell? w _ x0)).trans x0
            replace x1 := (HB.out.cell (World.block_lt_of_cell? w _ x1)).trans x1
            replace x2 := (HB.out.cell (World.block_lt_of_cell? w _ x2)).trans x2
            replace x3 := (HB.out.cell (World.block_lt_of_cell? w _ x3)).trans x3
            replace x4 := (HB.out.cell (World.block_lt_of_cell? w _ x4)).trans x4
            replace x5 := (HB.out.cell (World.block_lt_of_cell? w _ x5)).trans x5
            replace x6 := (HB.out.cell (World.block_lt_of_cell? w _ x6)).trans x6
            replace x7 := (HB.out.cell (World.block_lt_of_cell? w _ x7)).trans x7
            have hi0 := HI.out
            have p210 := eq_true hi0
            have q210 := eq_true c2
            clear hi0
            cases hR : entryR good gf (i.toNat != 0) cmp ok (M par) (rd_T31 l0 i).f1 (M (rd_T31 l0 i).f6) size ((rd_T31 l0 i).f7.length : Int) with
            | some c =>
              rw [hR] at H
              obtain rfl := Option.some.inj H
              replace hR := Aside0.mk hR
              clear H
              go_wp2_with (first
                | ((with_reducible refine gate_dst (N := 6) rfl ?_); refine box_event ?hg (N := 6) ?hd (cs := #[.string (⟨#[]⟩ : ByteArray), .int .i64 0, .int .i64 0, .int .i64 0, .int .i64 0, .int .i64 0, .string (⟨#[]⟩ : ByteArray), .slice none 0 0]) (t := 31) ?hr ?_; (case hd => rfl); (case hg => rfl); (case hr => first | (go_simp; done) | (go_simp; rfl)); intro gb hg w7 hbox hb; have HB7 := Aside0.mk (show Below w.heap.size w w7 from below_step HB.out hb); have HC7 := Aside0.mk (HC.out.below hb); have BK7 := Aside0.mk hbox; have GE7 := Aside0.mk (show w.heap.size ≤ gb by rw [hg]; exact below_size HB.out); have NQ7 := Aside0.mk (show gb ≠ q ∧ gb ≠ mb from ⟨by have := (Array.getElem?_eq_some_iff.1 HC.out.1).1; omega, by have := HC.out.2.lt; omega⟩); clear hb hbox hg HB HC)
                | ((with_reducible refine gate_store (t := 31) (p := 6) (v := .tmp 23) rfl ?_); refine ev_set31 _ rfl (.tmp 6) (.tmp 23) rfl rfl gb _ _ _ _ _ _ _ _ (rd_T31 l0 i).f0 (rd_T31 l0 i).f6 (rd_T31 l0 i).f1 (rd_T31 l0 i).f2 (rd_T31 l0 i).f3 (rd_T31 l0 i).f4 (rd_T31 l0 i).f5 A7 (rd_T31 l0 i).f7.length c7 rfl rfl BK7.out (fun w8 b1 b2 => ?_); have HB8 := Aside0.mk (show Below w.heap.size w w8 from HB7.out.trans ⟨b2.os, b2.tape, b2.output, b2.size, fun k hk => b2.block k (Nat.lt_of_lt_of_le hk (below_size HB7.out)) (fun e => by injection e with e; have := GE7.out; omega)⟩); have HC8 := Aside0.mk (show CkAt w8 q mb i.toNat M last size from ⟨(b2.block q (Array.getElem?_eq_some_iff.1 HC7.out.1).1 (fun e => NQ7.out.1 (by injection e with e; exact e.symm))).trans HC7.out.1, HC7.out.2.move (b2.block mb HC7.out.2.lt (fun e => NQ7.out.2 (by injection e with e; exact e.symm)))⟩); have y0 : w8.cell? ⟨gb, 0, none⟩ = some (.string (rd_T31 l0 i).f0) := blk_cell b1 0; have y1 : w8.cell? ⟨gb, 1, none⟩ = some (.int .i64 (rd_T31 l0 i).f1) := blk_cell b1 1; have y2 : w8.cell? ⟨gb, 2, none⟩ = some (.int .i64 (rd_T31 l0 i).f2) := blk_cell b1 2; have y3 : w8.cell? ⟨gb, 3, none⟩ = some (.int .i64 (rd_T31 l0 i).f3) := blk_cell b1 3; have y4 : w8.cell? ⟨gb, 4, none⟩ = some (.int .i64 (rd_T31 l0 i).f4) := blk_cell b1 4; have y5 : w8.cell? ⟨gb, 5, none⟩ = some (.int .i64 (rd_T31 l0 i).f5) := blk_cell b1 5; have y6 : w8.cell? ⟨gb, 6, none⟩ = some (.string (rd_T31 l0 i).f6) := blk_cell b1 6; have y7 : w8.cell? ⟨gb, 7, none⟩ = some (.slice A7 (rd_T31 l0 i).f7.length c7) := blk_cell b1 7; clear b1 b2 HB7 HC7 BK7 GE7 NQ7)
                | (go_at_call 37; refine (entry_calls K i.toNat q mb M last (rd_T31 l0 i).f0 (rd_T31 l0 i).f6 par size (rd_T31 l0 i).f1 (rd_T31 l0 i).f2 (rd_T31 l0 i).f3 (rd_T31 l0 i).f4 (rd_T31 l0 i).f5 A7 c7 (rd_T31 l0 i).f7 _ (HGL.out.of HB8.out) HC8.out (by have h1 := C1.out; have h2 := C2.out; omega) HFI.out.1.1.1 HFI.out.1.1.2 HPS.out HFI.out.1.2 HS.out.1 HS.out.2 HFI.out.2 good gf ok cmp HG.out HF.out HCM.out HP.out).mono ?_; rintro e w9 ⟨he, hE, hC⟩; rw [hR.out] at he hC; rw [errW_some] at he; subst he; have HB := Aside0.mk (show Below w.heap.size w w9 from HB8.out.trans (hE.below (below_size HB8.out) (fun k hk => hk.elim (fun e => e ▸ HQ.out) (fun e => e ▸ HM.out)))); clear hE hC))
              go_ret2
              exact ⟨rfl, HB.out⟩
            | none =>
              rw [hR] at H
              replace H := Aside0.mk H
              replace hR := Aside0.mk hR
              go_wp2_with (first
                | ((with_reducible refine gate_dst (N := 6) rfl ?_); refine box_event ?hg (N := 6) ?hd (cs := #[.string (⟨#[]⟩ : ByteArray), .int .i64 0, .int .i64 0, .int .i64 0, .int .i64 0, .int .i64 0, .string (⟨#[]⟩ : ByteArray), .slice none 0 0]) (t := 31) ?hr ?_; (case hd => rfl); (case hg => rfl); (case hr => first | (go_simp; done) | (go_simp; rfl)); intro gb hg w7 hbox hb; have HB7 := Aside0.mk (show Below w.heap.size w w7 from below_step HB.out hb); have HC7 := Aside0.mk (HC.out.below hb); have BK7 := Aside0.mk hbox; have GE7 := Aside0.mk (show w.heap.size ≤ gb by rw [hg]; exact below_size HB.out); have NQ7 := Aside0.mk (show gb ≠ q ∧ gb ≠ mb from ⟨by have := (Array.getElem?_eq_some_iff.1 HC.out.1).1; omega, by have := HC.out.2.lt; omega⟩); clear hb hbox hg HB HC)
                | ((with_reducible refine gate_store (t := 31) (p := 6) (v := .tmp 23) rfl ?_); refine ev_set31 _ rfl (.tmp 6) (.tmp 23) rfl rfl gb _ _ _ _ _ _ _ _ (rd_T31 l0 i).f0 (rd_T31 l0 i).f6 (rd_T31 l0 i).f1 (rd_T31 l0 i).f2 (rd_T31 l0 i).f3 (rd_T31 l0 i).f4 (rd_T31 l0 i).f5 A7 (rd_T31 l0 i).f7.length c7 rfl rfl BK7.out (fun w8 b1 b2 => ?_); have HB8 := Aside0.mk (show Below w.heap.size w w8 from HB7.out.trans ⟨b2.os, b2.tape, b2.output, b2.size, fun k hk => b2.block k (Nat.lt_of_lt_of_le hk (below_size HB7.out)) (fun e => by injection e with e; have := GE7.out; omega)⟩); have HC8 := Aside0.mk (show CkAt w8 q mb i.toNat M last size from ⟨(b2.block q (Array.getElem?_eq_some_iff.1 HC7.out.1).1 (fun e => NQ7.out.1 (by injection e with e; exact e.symm))).trans HC7.out.1, HC7.out.2.move (b2.block mb HC7.out.2.lt (fun e => NQ7.out.2 (by injection e with e; exact e.symm)))⟩); have y0 : w8.cell? ⟨gb, 0, none⟩ = some (.string (rd_T31 l0 i).f0) := blk_cell b1 0; have y1 : w8.cell? ⟨gb, 1, none⟩ = some (.int .i64 (rd_T31 l0 i).f1) := blk_cell b1 1; have y2 : w8.cell? ⟨gb, 2, none⟩ = some (.int .i64 (rd_T31 l0 i).f2) := blk_cell b1 2; have y3 : w8.cell? ⟨gb, 3, none⟩ = some (.int .i64 (rd_T31 l0 i).f3) := blk_cell b1 3; have y4 : w8.cell? ⟨gb, 4, none⟩ = some (.int .i64 (rd_T31 l0 i).f4) := blk_cell b1 4; have y5 : w8.cell? ⟨gb, 5, none⟩ = some (.int .i64 (rd_T31 l0 i).f5) := blk_cell b1 5; have y6 : w8.cell? ⟨gb, 6, none⟩ = some (.string (rd_T31 l0 i).f6) := blk_cell b1 6; have y7 : w8.cell? ⟨gb, 7, none⟩ = some (.slice A7 (rd_T31 l0 i).f7.length c7) := blk_cell b1 7; clear b1 b2 HB7 HC7 BK7 GE7 NQ7)
                | (go_at_call 37; refine (entry_calls K i.toNat q mb M last (rd_T31 l0 i).f0 (rd_T31 l0 i).f6 par size (rd_T31 l0 i).f1 (rd_T31 l0 i).f2 (rd_T31 l0 i).f3 (rd_T31 l0 i).f4 (rd_T31 l0 i).f5 A7 c7 (rd_T31 l0 i).f7 _ (HGL.out.of HB8.out) HC8.out (by have h1 := C1.out; have h2 := C2.out; omega) HFI.out.1.1.1 HFI.out.1.1.2 HPS.out HFI.out.1.2 HS.out.1 HS.out.2 HFI.out.2 good gf ok cmp HG.out HF.out HCM.out HP.out).mono ?_; rintro e w9 ⟨he, hE, hC⟩; rw [hR.out] at he hC; rw [errW_none] at he; subst he; have HB := Aside0.mk (show Below w.heap.size w w9 from HB8.out.trans (hE.below (below_size HB8.out) (fun k hk => hk.elim (fun e => e ▸ HQ.out) (fun e => e ▸ HM.out)))); have HC := Aside0.mk (hC rfl); clear hE hC))
              go_roundg k1
              case measure => omega
              case rel => exact ⟨i + 1, _, _, _, by rw [wr_in _ (by have h1 := HI.out; have h2 := C1.out; have h3 := C2.out; omega)], H, ⟨by have := HI.out; omega⟩, ⟨by rw [show (i + 1).toNat = i.toNat + 1 by have := HI.out; omega]; exact HC.out⟩, HB⟩
          · rw [if_neg c3] at H
            cases H
        · rw [if_neg c2] at H
          obtain rfl := Option.some.inj H
          go_wp2
          go_ret2
          exact ⟨rfl, HB.out⟩
end Go.Proofs.YtfkbmjfhakooiaaDoor.TR
