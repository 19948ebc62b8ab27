/- TreeParents: file, the example, entries that come in, what a tree is, Build, Find, Children, Walk, the law's walk, plain Lean. Conditions: as each theorem says. -/
import Derived.Test.YtfkbmjfhakooiaaDoorBuild
import Derived.Test.YtfkbmjfhakooiaaDoorPMP5
import Derived.Test.YtfkbmjfhakooiaaDoorEv31
import Derived.Test.YtfkbmjfhakooiaaDoorPTreex2
import Derived.Deep.Cut
import Derived.Test.YtfkbmjfhakooiaaDoorOrd
import Derived.Deep.Slices
import Derived.ChangeSlices
import Derived.KernelRfl
import Derived.Test.YtfkbmjfhakooiaaDoorCheck
import Derived.Test.YtfkbmjfhakooiaaDoorPTreex3
import Derived.Test.YtfkbmjfhakooiaaDoorPTreex5
import Derived.RangeFuncNested
import Derived.RangeFuncBound
import Derived.RangeFuncCalls
import Derived.RangeFuncLeaves
import Derived.RangeFuncBox
import Derived.Shelf.Abstract
import Derived.Shelf.RegionOpen
import Derived.WalkKit
import Derived.OwnWalkIn
import Derived.TacticsInMore
import Derived.LoopNIn
import Derived.LoopIn
import Derived.Test.YtfkbmjfhakooiaaDoorProg
/- What the chapter's example is. Conditions: none. -/
namespace Go.Proofs.YtfkbmjfhakooiaaDoor.TR
open Go.RowKit Go.Proofs.YtfkbmjfhakooiaaDoor.PTree Go.Proofs.YtfkbmjfhakooiaaDoorW.PrintWords Go.Proofs.YtfkbmjfhakooiaaDoorW.PrintLast Go.Proofs.YtfkbmjfhakooiaaDoorW.PrintMore
set_option linter.unusedVariables false
set_option linter.unusedSimpArgs false
def ps1 : ByteArray := ⟨#[97, 47, 98, 47, 99]⟩
def ps2 : ByteArray := ⟨#[97, 47, 46, 47, 120]⟩
def fileE (p : ByteArray) : S31 := ⟨p, 2, 0, 0, 0, 0, ⟨#[]⟩, bytesOf p⟩
def dirE (p : ByteArray) : S31 := ⟨p, 1, 493, 0, 0, 0, ⟨#[]⟩, []⟩
def ax : ByteArray := ⟨#[97, 47, 120]⟩
def ab : ByteArray := ⟨#[97, 47, 98]⟩
def a_ : ByteArray := ⟨#[97]⟩
def aliveX : List S31 := [fileE ps1, ⟨ax, 2, 0, 0, 0, 0, ⟨#[]⟩, bytesOf ps2⟩, dirE ab, dirE a_]
def aliveY : List S31 := [dirE a_, dirE ab, fileE ps1, ⟨ax, 2, 0, 0, 0, 0, ⟨#[]⟩, bytesOf ps2⟩]
set_option maxRecDepth 100000 in
theorem alive_buildA : buildA 600 [fileE ps1, fileE ps2] = some (aliveX, none) := by kernel_rfl
set_option maxRecDepth 100000 in
theorem alive_check : tree_Check.f 600 aliveY = some (-1, none) := by kernel_rfl
end Go.Proofs.YtfkbmjfhakooiaaDoor.TR

/- amphoralaw09.file, walked. Conditions: as each theorem says. -/
namespace Go.Proofs.YtfkbmjfhakooiaaDoor.TR
open Go.RowKit Go.Proofs.YtfkbmjfhakooiaaDoor.PTree Go.Proofs.YtfkbmjfhakooiaaDoorW.PrintWords Go.Proofs.YtfkbmjfhakooiaaDoorW.PrintLast Go.Proofs.YtfkbmjfhakooiaaDoorW.PrintMore
set_option linter.unusedVariables false
set_option linter.unusedSimpArgs false
theorem ints_C {w : World} {k : IntKind} {A : Option Addr} {n : Nat} {xs : List Int} (h : ReadsInt w k A n xs) : Kd.C (Kd.int k) w A n xs := by
  refine ⟨h.1, h.2.1, fun hp => ?_⟩
  obtain ⟨ad, e, hc⟩ := h.2.2 hp
  refine ⟨ad, e, fun j p hj => ⟨[.int k p], rfl, rfl, fun i u hu => ?_⟩⟩
  obtain ⟨hl, hv⟩ := List.getElem?_eq_some_iff.1 hj
  cases i with
  | zero =>
    simp only [List.getElem?_cons_zero, Option.some.injEq] at hu
    subst hu
    have h1 := hc j (by rw [← h.1]; exact hl)
    rw [List.getD_eq_getElem?_getD, List.getElem?_eq_getElem hl, hv] at h1
    show w.cell? (ad.add (j * 1 + 0)) = _
    rw [Nat.mul_one, Nat.add_zero]
    simpa using h1
  | succ i => simp at hu
theorem below_row_ {w W W1 : World} {g : Nat} (h : Below w.heap.size w W) (b2 : W.grownBy W1 (some g)) (hg : w.heap.size ≤ g) : Below w.heap.size w W1 :=
  h.trans ⟨b2.os, b2.tape, b2.output, b2.size, fun k hk => b2.block k (Nat.lt_of_lt_of_le hk (below_size h)) (fun e => by injection e with e; omega)⟩
set_option maxHeartbeats 8000000 in
set_option maxRecDepth 100000 in
theorem file_calls (p : ByteArray) (hp : p.size ≤ 1000) (w : World) :
    Calls Tryd.prog 22 #[.string p] w fun e w' => ∃ (A : Option Addr) (c : Nat), e = .returned (.agg #[.string p, .int .i64 2, .int .i64 0, .int .i64 0, .int .i64 0, .int .i64 0, .string ⟨#[]⟩, .slice A (bytesOf p).length c]) ∧ (bytesOf p).length ≤ c ∧ Kd.C (Kd.int .u8) w' A (bytesOf p).length (bytesOf p) ∧ Below w.heap.size w w' := by
  have hu31 := Tryd.underlying31
  have HP := Aside0.mk hp
  clear hp
  have HL := Aside0.mk (bytesOf_length p)
  rw [HL.out]
  have kb := fun W => print_bytes (P := Tryd.prog) 9 29 5 Tryd.underlying9 Tryd.underlying29 Tryd.underlying5 p W
  go_enter Tryd.func22, Tryd.ntmps22
  go_wp2_with (first
    | ((with_reducible refine gate_dst (N := 2) rfl ?_); refine box_event ?hg (N := 2) ?hd (cs := #[.string (⟨#[]⟩ : ByteArray), .int .i64 0, .int .i64 0, .int .i64 0, .int .i64 0, .int .i64 0, .string (⟨#[]⟩ : ByteArray), .slice none 0 0]) (t := 31) ?hr ?_; (case hd => rfl); (case hg => rfl); (case hr => first | (go_simp; done) | (go_simp; rfl)); intro g2 hg w2 hbox hb; have HB := Aside0.mk hb; have K2 := Aside0.mk hbox; have G2 := Aside0.mk (show w.heap.size ≤ g2 by omega); clear hb hbox hg)
    | ((with_reducible refine gate_store (t := 31) (p := 2) (v := .tmp 6) rfl ?_); refine ev_set31 _ rfl (.tmp 2) (.tmp 6) rfl rfl g2 _ _ _ _ _ _ _ _ p ⟨#[]⟩ 2 0 0 0 0 (some ⟨w2.heap.size, 0, none⟩) p.size (grownCap w2 p.size 0 5) rfl rfl (blk_below K2.out (bytes_below (Below.refl _ _) (Nat.le_refl _) 5 p)) (fun w8 b1 b2 => ?_)))
  refine bodyPost_ret (results_cell_row rfl _ _ g2 31 _ (0, 0) _ rfl b1 Tryd.underlying31 rfl (by kernel_rfl)) rfl ?_
  have hlt : w2.heap.size < (Lib.bytesWorld w2 5 p).heap.size := by rw [Lib.bytesWorld_size]; omega
  have hne : some w2.heap.size ≠ some g2 := fun e => by
    injection e with e
    have := (Array.getElem?_eq_some_iff.1 K2.out).1
    omega
  refine ⟨_, _, rfl, grownCap_ge _ _ _ _, ints_C ?_, below_row_ (bytes_below HB.out (below_size HB.out) 5 p) b2 G2.out⟩
  obtain ⟨h1, h2, h3⟩ := bytes_reads w2 5 p (by have := HP.out; omega)
  refine ⟨h1, h2, fun hp => ?_⟩
  obtain ⟨ad, e, hc⟩ := h3 hp
  cases e
  refine ⟨_, rfl, fun j hj => ?_⟩
  rw [← hc j hj, add_plain]
  exact World.cell?_of_block (b2.block _ hlt hne)
end Go.Proofs.YtfkbmjfhakooiaaDoor.TR

/- The chapter's example, walked. Conditions: as each theorem says. -/
namespace Go.Proofs.YtfkbmjfhakooiaaDoor.TR
open Go.RowKit Go.Proofs.YtfkbmjfhakooiaaDoor.PTree Go.Proofs.YtfkbmjfhakooiaaDoorW.PrintWords Go.Proofs.YtfkbmjfhakooiaaDoorW.PrintLast Go.Proofs.YtfkbmjfhakooiaaDoorW.PrintMore
set_option linter.unusedVariables false
set_option linter.unusedSimpArgs false
theorem k31_mkK (w : World) (x : S31) (A : Option Addr) (k : Nat) (l : x.f7.length ≤ k) (g : (Kd.int .u8).C w A x.f7.length x.f7) : k31.K w x [.string x.f0, .int .i64 x.f1, .int .i64 x.f2, .int .i64 x.f3, .int .i64 x.f4, .int .i64 x.f5, .string x.f6, .slice A x.f7.length k] := ⟨[.string x.f0], [.int .i64 x.f1, .int .i64 x.f2, .int .i64 x.f3, .int .i64 x.f4, .int .i64 x.f5, .string x.f6, .slice A x.f7.length k], rfl, rfl, ⟨[.int .i64 x.f1], [.int .i64 x.f2, .int .i64 x.f3, .int .i64 x.f4, .int .i64 x.f5, .string x.f6, .slice A x.f7.length k], rfl, rfl, ⟨[.int .i64 x.f2], [.int .i64 x.f3, .int .i64 x.f4, .int .i64 x.f5, .string x.f6, .slice A x.f7.length k], rfl, rfl, ⟨[.int .i64 x.f3], [.int .i64 x.f4, .int .i64 x.f5, .string x.f6, .slice A x.f7.length k], rfl, rfl, ⟨[.int .i64 x.f4], [.int .i64 x.f5, .string x.f6, .slice A x.f7.length k], rfl, rfl, ⟨[.int .i64 x.f5], [.string x.f6, .slice A x.f7.length k], rfl, rfl, ⟨[.string x.f6], [.slice A x.f7.length k], rfl, rfl, ⟨A, k, rfl, l, g⟩⟩⟩⟩⟩⟩⟩⟩
theorem lit2_C (W W1 : World) (b : Nat) (x y : S31) (A1 A2 : Option Addr) (k1 k2 : Nat) (l1 : x.f7.length ≤ k1) (h1 : Kd.C (Kd.int .u8) W1 A1 x.f7.length x.f7) (l2 : y.f7.length ≤ k2) (h2 : Kd.C (Kd.int .u8) W1 A2 y.f7.length y.f7) (hb : W1.heap[b]? = some (.cells #[.string x.f0, .int .i64 x.f1, .int .i64 x.f2, .int .i64 x.f3, .int .i64 x.f4, .int .i64 x.f5, .string x.f6, .slice A1 x.f7.length k1, .string y.f0, .int .i64 y.f1, .int .i64 y.f2, .int .i64 y.f3, .int .i64 y.f4, .int .i64 y.f5, .string y.f6, .slice A2 y.f7.length k2] 31 (0, 0))) : Kd.C k31 W1 (some ⟨b, 0, none⟩) 2 [x, y] := by
  refine ⟨rfl, by decide, fun _ => ⟨_, rfl, fun j p hj => ?_⟩⟩
  match j, hj with
  | 0, hj =>
    obtain rfl := Option.some.inj hj
    refine ⟨_, rfl, k31_mkK W1 x A1 k1 l1 h1, fun i u hu => ?_⟩
    match i, hu with
    | 0, hu => exact (blk_cell hb 0).trans hu
    | 1, hu => exact (blk_cell hb 1).trans hu
    | 2, hu => exact (blk_cell hb 2).trans hu
    | 3, hu => exact (blk_cell hb 3).trans hu
    | 4, hu => exact (blk_cell hb 4).trans hu
    | 5, hu => exact (blk_cell hb 5).trans hu
    | 6, hu => exact (blk_cell hb 6).trans hu
    | 7, hu => exact (blk_cell hb 7).trans hu
    | i + 8, hu => simp at hu
  | 1, hj =>
    obtain rfl := Option.some.inj hj
    refine ⟨_, rfl, k31_mkK W1 y A2 k2 l2 h2, fun i u hu => ?_⟩
    match i, hu with
    | 0, hu => exact (blk_cell hb 8).trans hu
    | 1, hu => exact (blk_cell hb 9).trans hu
    | 2, hu => exact (blk_cell hb 10).trans hu
    | 3, hu => exact (blk_cell hb 11).trans hu
    | 4, hu => exact (blk_cell hb 12).trans hu
    | 5, hu => exact (blk_cell hb 13).trans hu
    | 6, hu => exact (blk_cell hb 14).trans hu
    | 7, hu => exact (blk_cell hb 15).trans hu
    | i + 8, hu => simp at hu
  | j + 2, hj => simp at hj
theorem aliveX_small : ∀ x ∈ aliveX, x.f0.size ≤ 200 := by
  intro x hx
  simp only [aliveX, List.mem_cons, List.not_mem_nil, or_false] at hx
  rcases hx with rfl | rfl | rfl | rfl <;> decide
theorem aliveX_keys : ∀ p q, p ∈ aliveX → q ∈ aliveX → p.f0 = q.f0 → p = q := by
  intro p q hp hq e
  simp only [aliveX, List.mem_cons, List.not_mem_nil, or_false] at hp hq
  rcases hp with rfl | rfl | rfl | rfl <;> rcases hq with rfl | rfl | rfl | rfl <;> first | rfl | exact absurd e (by decide)
theorem alive_sort (ys : List S31) (h : SortR 600 aliveX ys) : ys = aliveY := by
  refine sortR_uniq (B := 200) (by decide) (by decide) aliveX_small h ?_ ?_ aliveX_keys
  · exact ((List.Perm.swap _ _ _).trans (List.perm_append_comm (l₁ := [dirE ab, dirE a_]) (l₂ := [fileE ps1, ⟨ax, 2, 0, 0, 0, 0, ⟨#[]⟩, bytesOf ps2⟩])))
  · refine List.Pairwise.cons ?_ (List.Pairwise.cons ?_ (List.Pairwise.cons ?_ (List.Pairwise.cons ?_ List.Pairwise.nil)))
    all_goals (
      intro q hq
      simp only [List.mem_cons, List.not_mem_nil, or_false] at hq)
    · rcases hq with rfl | rfl | rfl <;> decide +kernel
    · rcases hq with rfl | rfl <;> decide +kernel
    · rcases hq with rfl <;> decide +kernel
theorem build_alive (A : Option Addr) (c : Nat) (w : World) (hC : Kd.C k31 w A 2 [fileE ps1, fileE ps2]) (hGl : Gl w) : Calls Tryd.prog 8 #[.slice A 2 c] w fun e w' => ∃ A c, e = .returned (.tuple #[.slice A 4 c, .nilIface]) ∧ Kd.C k31 w' A 4 aliveY ∧ Below w.heap.size w w' := by
  refine (Build_calls 600 A c [fileE ps1, fileE ps2] aliveX none (SortR 600 aliveX) w hC hGl alive_buildA (fun _ v W h0 hR => sort_goes 600 200 (by decide) (by decide) w hGl aliveX aliveX_small (by decide) v W h0 hR) (fun ys hy => ⟨(-1, none), by rw [alive_sort ys hy]; exact alive_check⟩)).mono ?_
  rintro e w' ⟨A, c, ys, en, rfl, hl, hC, hb, _, h⟩
  obtain ⟨zs, r, hz, hr, rfl, rfl⟩ := h rfl
  obtain rfl := alive_sort zs hz
  rw [alive_check] at hr
  obtain rfl := Option.some.inj hr
  exact ⟨A, c, rfl, hC, hb⟩

set_option maxHeartbeats 8000000 in
set_option maxRecDepth 100000 in
theorem alive_calls (w : World) (hGl : Gl w) : Calls Tryd.prog 6 #[] w fun e w' => e = .returned (.bool true) ∧ Below w.heap.size w w' := by
  have hu31 := Tryd.underlying31
  have hu26 := Tryd.underlying26
  have hu56 := Tryd.underlying56
  have HGL := Aside0.mk hGl
  clear hGl
  go_enter Tryd.func6, Tryd.ntmps6
  go_upto_region 2 with (first
    | (go_at_call 22; refine (file_calls (⟨#[97, 47, 98, 47, 99]⟩ : ByteArray) (by decide) w).mono ?_; rintro e w1 ⟨A1, k1, rfl, hl, hc, hb⟩; have L1 := Aside0.mk hl; have D1 := Aside0.mk hc; have HB1 := Aside0.mk hb; clear hl hc hb)
    | (go_at_call 22; refine (file_calls (⟨#[97, 47, 46, 47, 120]⟩ : ByteArray) (by decide) _).mono ?_; rintro e w2 ⟨A2, k2, rfl, hl, hc, hb⟩; have L2 := Aside0.mk hl; have D2 := Aside0.mk hc; have D1b := Aside0.mk (Kd.C_below D1.out hb); have HB2 := Aside0.mk (below_step HB1.out hb); clear hl hc hb)
    | (go_at_call 8; refine (build_alive _ _ _ (lit2_C w2 _ w2.heap.size (fileE ps1) (fileE ps2) A1 A2 k1 k2 L1.out (Kd.C_alloc D1b.out _) L2.out (Kd.C_alloc D2.out _) (heap_alloc_new w2 _)) (HGL.out.of (below_alloc HB2.out _))).mono ?_; rintro e w3 ⟨A3, k3, rfl, hc, hb⟩; have D3 := Aside0.mk hc; have HB3 := Aside0.mk (below_step (below_alloc HB2.out _) hb); clear hc hb))
  obtain ⟨ad, A7, c7, eA, _⟩ := at_T31 D3.out 0 (by decide) (by decide)
  subst eA
  go_upto_region 3 with (first
    | (go_at_call 19; refine (tree_Check.calls 600 (some ad) k3 aliveY (-1, none) _ D3.out (HGL.out.of HB3.out) alive_check).mono ?_; rintro e w4 ⟨rfl, hb⟩; have D4 := Aside0.mk (Kd.C_below D3.out hb); have HB4 := Aside0.mk (below_step HB3.out hb); clear hb; try simp only [errW_none, errW_some]))
  obtain ⟨_, A8, c8, eA, x0, x1, _⟩ := at_T31 D4.out 0 (by decide) (by decide)
  cases eA
  obtain ⟨_, A9, c9, eA, y0, _⟩ := at_T31 D4.out 3 (by decide) (by decide)
  cases eA
  replace x0 : w4.cell? ad = some (.string ⟨#[97]⟩) := by
    have h : ad.add ((0 : Int).toNat * 8) = ad := by unfold Addr.add; simp
    rw [h] at x0
    exact x0
  replace x1 : w4.cell? ⟨ad.block, ad.off + 1, none⟩ = some (.int .i64 1) := by
    have h : ad.add ((0 : Int).toNat * 8) = ad := by unfold Addr.add; simp
    rw [h] at x1
    exact x1
  replace y0 : w4.cell? ⟨ad.block, ad.off + 24, none⟩ = some (.string ⟨#[97, 47, 120]⟩) := by
    have h : ad.add ((3 : Int).toNat * 8) = ⟨ad.block, ad.off + 24, none⟩ := by unfold Addr.add; simp
    rw [h] at y0
    exact y0
  go_wp2
  go_ret
  exact ⟨rfl, HB4.out⟩
end Go.Proofs.YtfkbmjfhakooiaaDoor.TR

/- A slice of entries that comes in, opened. Conditions: none. -/
namespace Go.Proofs.YtfkbmjfhakooiaaDoor.TR
open Go.RowKit Go.Proofs.YtfkbmjfhakooiaaDoor.PTree Go.Proofs.YtfkbmjfhakooiaaDoorW.PrintWords Go.Proofs.YtfkbmjfhakooiaaDoorW.PrintLast
set_option linter.unusedVariables false
set_option linter.unusedSimpArgs false
namespace Ents
open Go.ChangeShapes Go.WideShapes Go.Deep
def Fit (l : List S31) : Prop := (l.length : Int) ≤ 9223372036854775807 ∧ ∀ x ∈ l, x.f0.size ≤ 9223372036854775807 ∧ x.f6.size ≤ 9223372036854775807 ∧ x.f7.length ≤ 9223372036854775807 ∧ (Lit.int .i64 x.f1).wf = true
theorem cof31 : Tryd.prog.cellsOf 31 = 8 := by kernel_rfl
theorem cof9 : Tryd.prog.cellsOf 9 = 1 := by kernel_rfl
theorem cof3 : Tryd.prog.cellsOf 3 = 1 := by kernel_rfl
theorem cof29 : Tryd.prog.cellsOf 29 = 1 := by kernel_rfl
theorem cof5 : Tryd.prog.cellsOf 5 = 1 := by kernel_rfl
set_option maxRecDepth 100000 in
theorem entry_open {H : Type} {enc : TypeId × Value → H} {w : World} {base : Nat} {spare : Nat → Bool} {held : Bool} {n : Nat} {cs : List Value} {x : DataW H × List MemPlace} (h : DataW.trod enc Tryd.prog w base spare held n 31 cs = some x) :
    ∃ e : S31, k31.K w e cs ∧ e.f0.size ≤ 9223372036854775807 ∧ e.f6.size ≤ 9223372036854775807 ∧ e.f7.length ≤ 9223372036854775807 ∧ (Lit.int .i64 e.f1).wf = true := by
  obtain ⟨xs, m, _, _, hcl, hxl, hf⟩ := DataW.trod_struct Tryd.underlying31 h
  rw [cof31] at hcl
  have hm : maxLen = 9223372036854775807 := rfl
  match xs, hxl, cs, hcl with
  | [y0, y1, y2, y3, y4, y5, y6, y7], _, [v0, v1, v2, v3, v4, v5, v6, v7], _ =>
    have g0 : DataW.trod enc Tryd.prog w base spare held m 9 [v0] = some y0 := by have := hf 0 _ rfl; simpa [cof9] using this
    have g1 : DataW.trod enc Tryd.prog w base spare held m 3 [v1] = some y1 := by have := hf 1 _ rfl; simpa [cof3] using this
    have g2 : DataW.trod enc Tryd.prog w base spare held m 3 [v2] = some y2 := by have := hf 2 _ rfl; simpa [cof3] using this
    have g3 : DataW.trod enc Tryd.prog w base spare held m 3 [v3] = some y3 := by have := hf 3 _ rfl; simpa [cof3] using this
    have g4 : DataW.trod enc Tryd.prog w base spare held m 3 [v4] = some y4 := by have := hf 4 _ rfl; simpa [cof3] using this
    have g5 : DataW.trod enc Tryd.prog w base spare held m 3 [v5] = some y5 := by have := hf 5 _ rfl; simpa [cof3] using this
    have g6 : DataW.trod enc Tryd.prog w base spare held m 9 [v6] = some y6 := by have := hf 6 _ rfl; simpa [cof9] using this
    have g7 : DataW.trod enc Tryd.prog w base spare held m 29 [v7] = some y7 := by have := hf 7 _ rfl; simpa [cof29] using this
    obtain ⟨a0, e0, _, z0⟩ := DataW.trod_string Tryd.underlying9 g0
    obtain ⟨a1, e1, _, z1⟩ := DataW.trod_int Tryd.underlying3 g1
    obtain ⟨a2, e2, _, z2⟩ := DataW.trod_int Tryd.underlying3 g2
    obtain ⟨a3, e3, _, z3⟩ := DataW.trod_int Tryd.underlying3 g3
    obtain ⟨a4, e4, _, z4⟩ := DataW.trod_int Tryd.underlying3 g4
    obtain ⟨a5, e5, _, z5⟩ := DataW.trod_int Tryd.underlying3 g5
    obtain ⟨a6, e6, _, z6⟩ := DataW.trod_string Tryd.underlying9 g6
    obtain rfl : v0 = .string a0 := by simpa using e0
    obtain rfl : v1 = .int .i64 a1 := by simpa using e1
    obtain rfl : v2 = .int .i64 a2 := by simpa using e2
    obtain rfl : v3 = .int .i64 a3 := by simpa using e3
    obtain rfl : v4 = .int .i64 a4 := by simpa using e4
    obtain rfl : v5 = .int .i64 a5 := by simpa using e5
    obtain rfl : v6 = .string a6 := by simpa using e6
    rw [hm] at z0 z6
    rcases open_ints Tryd.underlying29 Tryd.underlying5 cof5 g7 with ⟨hcs, _⟩ | ⟨a, len, cap, zs, hcs, _, hl, hmx, hz, _, hcell, _⟩
    · obtain rfl : v7 = .slice none 0 0 := by simpa using hcs
      exact ⟨⟨a0, a1, a2, a3, a4, a5, a6, []⟩, k31_mkK w ⟨a0, a1, a2, a3, a4, a5, a6, []⟩ none 0 (Nat.le_refl _) ⟨rfl, by simp, fun h => absurd h (by simp)⟩, z0, z6, by simp, z1⟩
    · obtain rfl : v7 = .slice (some a) len cap := by simpa using hcs
      rw [hm] at hmx
      have hzl : len ≤ zs.length := by rw [hz]; split <;> omega
      have htl : (zs.take len).length = len := by rw [List.length_take]; omega
      have hC : (Kd.int .u8).C w (some a) (zs.take len).length (zs.take len) := by
        refine ⟨rfl, by rw [htl]; omega, fun _ => ⟨a, rfl, fun j p hp => ⟨[.int .u8 p], rfl, rfl, fun i u hu => ?_⟩⟩⟩
        have hj : j < (zs.take len).length := (List.getElem?_eq_some_iff.1 hp).1
        rw [htl] at hj
        cases i with
        | zero =>
          simp only [List.getElem?_cons_zero, Option.some.injEq] at hu
          subst hu
          show w.cell? (a.add (j * 1 + 0)) = _
          rw [Nat.mul_one, Nat.add_zero, hcell j (by omega)]
          rw [List.getElem?_take_of_lt hj] at hp
          rw [List.getD_eq_getElem?_getD, hp]
          rfl
        | succ i => simp at hu
      have hK := k31_mkK w ⟨a0, a1, a2, a3, a4, a5, a6, zs.take len⟩ (some a) cap (by show (zs.take len).length ≤ cap; omega) hC
      refine ⟨⟨a0, a1, a2, a3, a4, a5, a6, zs.take len⟩, ?_, z0, z6, by show (zs.take len).length ≤ _; omega, z1⟩
      have e : (zs.take len).length = len := htl
      simp only [e] at hK
      exact hK
theorem opened {H : Type} {enc : TypeId × Value → H} {w : World} {base : Nat} {spare : Nat → Bool} {held : Bool} {A : Option Addr} {len cap : Nat} {d : DataW H} {ps : List MemPlace}
    (hd : DataW.Trod enc Tryd.prog w base spare held 22 (.slice A len cap) d ps) : ∃ l : List S31, Kd.C k31 w A l.length l ∧ l.length = len ∧ len ≤ cap ∧ Fit l := by
  obtain ⟨fuel, hf⟩ := hd
  have hm : maxLen = 9223372036854775807 := rfl
  rcases open_slice Tryd.underlying22 hf with ⟨hcs, _⟩ | ⟨a, len', cap', m, n, D, Pl, hcs, _, hl, hmx, hmm, _, hx⟩
  · simp [Value.cells] at hcs
    obtain ⟨rfl, rfl, rfl⟩ := hcs
    exact ⟨[], ⟨rfl, by simp, fun h => absurd h (by simp)⟩, rfl, Nat.le_refl _, by simp, fun x hx => by cases hx⟩
  · simp [Value.cells] at hcs
    obtain ⟨rfl, rfl, rfl⟩ := hcs
    rw [hm] at hmx
    have hle : len ≤ m := by rw [hmm]; split <;> omega
    have each : ∀ i, i < len → ∃ e : S31, (∃ cs, cs.length = 8 ∧ k31.K w e cs ∧ ∀ j u, cs[j]? = some u → w.cell? (a.add (i * 8 + j)) = some u) ∧ e.f0.size ≤ 9223372036854775807 ∧ e.f6.size ≤ 9223372036854775807 ∧ e.f7.length ≤ 9223372036854775807 ∧ (Lit.int .i64 e.f1).wf = true := by
      intro i hi
      obtain ⟨cs', h1, h2⟩ := hx i (by omega)
      rw [cof31] at h1
      obtain ⟨_, hlen, hcell⟩ := World.cells?_some h1
      obtain ⟨e, hK, h3⟩ := entry_open h2
      refine ⟨e, ⟨cs', hlen, hK, fun j u hu => ?_⟩, h3⟩
      have hj : j < 8 := by rw [← hlen]; exact (List.getElem?_eq_some_iff.1 hu).1
      rw [← Go.Deep.add_add, hcell j hj, hu]
    haveI : Inhabited S31 := ⟨z31⟩
    obtain ⟨F, hF⟩ := choose_lt each
    have hg : ∀ (j : Nat) (p : S31), ((List.range len).map F)[j]? = some p → j < len ∧ p = F j := by
      intro j p hp
      rw [List.getElem?_map, Option.map_eq_some_iff] at hp
      obtain ⟨q, hq, rfl⟩ := hp
      obtain ⟨hj, rfl⟩ := List.getElem?_eq_some_iff.1 hq
      rw [List.length_range] at hj
      rw [List.getElem_range]
      exact ⟨hj, rfl⟩
    refine ⟨(List.range len).map F, ⟨rfl, by rw [List.length_map, List.length_range]; omega, fun _ => ⟨a, rfl, fun j p hp => ?_⟩⟩, by rw [List.length_map, List.length_range], hl, by rw [List.length_map, List.length_range]; omega, fun x hx => ?_⟩
    · obtain ⟨hj, rfl⟩ := hg j p hp
      exact (hF j hj).1
    · obtain ⟨j, hq⟩ := List.mem_iff_getElem?.1 hx
      obtain ⟨hj, e⟩ := hg j x hq
      rw [e]
      exact (hF j hj).2
end Ents
end Go.Proofs.YtfkbmjfhakooiaaDoor.TR

/- tree.Check answers of any entries of bounded sizes. Conditions: as each theorem says. -/
namespace Go.Proofs.YtfkbmjfhakooiaaDoor.TR
open Go.RowKit Go.Proofs.YtfkbmjfhakooiaaDoor.PTree Go.Proofs.YtfkbmjfhakooiaaDoorW.PrintWords Go.Proofs.YtfkbmjfhakooiaaDoorW.PrintLast Go.Proofs.YtfkbmjfhakooiaaDoorW.PrintMore
set_option linter.unusedVariables false
set_option linter.unusedSimpArgs false
/-- Is an entry good, its path aside? -/
def fieldsB (kd md u g t : Int) (ln : ByteArray) (d : List Int) : Bool := (if md < 0 then false else (if md > 4095 then false else (if metaB u (0) = true then (if metaB g (0) = true then (if metaB t (-1099511627776) = true then (if kd = 1 then (if ln.toList = ([] : List UInt8) then (if (d.length : Int) = 0 then true else false) else false) else (if kd = 2 then (if ln.toList = ([] : List UInt8) then (if (d.length : Int) ≤ 65536 then true else false) else false) else (if kd = 3 then (if decide (PM.TextP ln 400) = true then (if (d.length : Int) = 0 then true else false) else false) else (if kd = 4 then (if decide (PM.GoodP ln) = true then (if (d.length : Int) = 0 then (if md = 0 then (if u = 0 then (if g = 0 then (if t = 0 then true else false) else false) else false) else false) else false) else false) else false)))) else false) else false) else false)))
theorem fields_f (K : Nat) (hK : 500 ≤ K) (p : ByteArray) (kd md u g t : Int) (ln : ByteArray) (d : List Int) (hl : ln.size ≤ 9223372036854775807) : tree_goodFields.f K p kd md u g t ln d = some (fieldsB kd md u g t ln d) := by
  unfold tree_goodFields.f fieldsB
  rw [PM.text_f ln 400 hl, PM.good_f ln K hK]
  simp only [apply_ite (some : Bool → Option Bool), Option.bind_some]
theorem parentB_size (s : ByteArray) : (PM.parentB s).1.size ≤ 1000000000000 := by
  unfold PM.parentB
  split
  · rename_i h
    have hj := PM.dl_good h.1 h.2
    have h1 := PM.joinB_size hj.1
    have h2 := hj.2.2
    show (PM.joinB (pieces s).dropLast).size ≤ 1000000000000
    omega
  · decide
theorem check_l (K B : Nat) (l : List S31) (hB : B ≤ 1000000) (hK : 2 * B + 600 ≤ K) (hl : ∀ x ∈ l, x.f0.size ≤ B ∧ fits x = true) : ∀ (k : Nat) (i : Int) (M : ByteArray → Int) (last : ByteArray) (size : Int), 0 ≤ i → i ≤ (l.length : Int) → (l.length : Int) - i + 1 ≤ k → last.size ≤ B → 0 ≤ size → size ≤ 1048576 → ∃ r, tree_Check.l0 K l k i M last size = some r
  | 0, i, M, last, size, h0, hi, h1, _, _, _ => by omega
  | k + 1, i, M, last, size, h0, hi, h1, h2, h3, h4 => by
    unfold tree_Check.l0
    by_cases c1 : i < (l.length : Int)
    · have hm : rd_T31 l i ∈ l := by
        unfold rd_T31
        have h2 : i.toNat < l.length := by omega
        rw [List.getD_eq_getElem?_getD, List.getElem?_eq_getElem h2]
        exact List.getElem_mem h2
      obtain ⟨q1, q2⟩ := hl _ hm
      have q3 := q2
      simp only [fits, Bool.and_eq_true, decide_eq_true_eq] at q3
      rw [if_pos c1, PM.good_f _ K (by omega), Option.bind_some, fields_f K (by omega) _ _ _ _ _ _ _ _ (by omega), Option.bind_some, PM.cmp_f _ _ K (by omega) (by omega) (by omega), Option.bind_some, PM.parent_f _ K (by omega) (by omega), Option.bind_some, if_pos ⟨q2, parentB_size _, h3, h4⟩]
      cases hR : entryR (decide (PM.GoodP (rd_T31 l i).f0)) (fieldsB (rd_T31 l i).f1 (rd_T31 l i).f2 (rd_T31 l i).f3 (rd_T31 l i).f4 (rd_T31 l i).f5 (rd_T31 l i).f6 (rd_T31 l i).f7) (i.toNat != 0) (PM.cQ last (rd_T31 l i).f0) (PM.parentB (rd_T31 l i).f0).2 (M (PM.parentB (rd_T31 l i).f0).1) (rd_T31 l i).f1 (M (rd_T31 l i).f6) size ((rd_T31 l i).f7.length : Int) with
      | some c => exact ⟨_, rfl⟩
      | none =>
        refine check_l K B l hB hK hl k (i + 1) _ _ _ (by omega) (by omega) (by omega) q1 (by omega) ?_
        unfold entryR at hR
        repeat' (split at hR)
        all_goals first | (cases hR; done) | omega
    · rw [if_neg c1]
      exact ⟨_, rfl⟩
theorem check_total (K B : Nat) (l : List S31) (hB : B ≤ 1000000) (hK : 2 * B + 600 ≤ K) (hl : ∀ x ∈ l, x.f0.size ≤ B ∧ fits x = true) : ∃ r, tree_Check.f K l = some r := by
  unfold tree_Check.f
  by_cases c : (l.length : Int) > 200
  · rw [if_pos c]
    exact ⟨_, rfl⟩
  · rw [if_neg c]
    exact check_l K B l hB hK hl (l.length + 1) 0 _ _ 0 (by omega) (by omega) (by omega) (Nat.zero_le _) (by omega) (by omega)
end Go.Proofs.YtfkbmjfhakooiaaDoor.TR

/- What a list that passes tree.Check is. Conditions: as each theorem says. -/
namespace Go.Proofs.YtfkbmjfhakooiaaDoor.TR
open Go.RowKit Go.Proofs.YtfkbmjfhakooiaaDoor.PTree Go.Proofs.YtfkbmjfhakooiaaDoorW.PrintWords Go.Proofs.YtfkbmjfhakooiaaDoorW.PrintLast Go.Proofs.YtfkbmjfhakooiaaDoorW.PrintMore
set_option linter.unusedVariables false
set_option linter.unusedSimpArgs false
def fieldsE (e : S31) : Bool := fieldsB e.f1 e.f2 e.f3 e.f4 e.f5 e.f6 e.f7
/-- Entry j of a tree. -/
def OkAt (l : List S31) (j : Int) : Prop := PM.GoodP (rd_T31 l j).f0 ∧ fieldsE (rd_T31 l j) = true ∧ (0 < j → PM.cQ (rd_T31 l (j - 1)).f0 (rd_T31 l j).f0 < 0) ∧ ((PM.parentB (rd_T31 l j).f0).2 = true → ∃ m, 0 ≤ m ∧ m < j ∧ (rd_T31 l m).f0 = (PM.parentB (rd_T31 l j).f0).1 ∧ (rd_T31 l m).f1 = 1)
theorem ok_l (K B : Nat) (l : List S31) (hB : B ≤ 1000000) (hK : 2 * B + 600 ≤ K) (hl : ∀ x ∈ l, x.f0.size ≤ B ∧ fits x = true) : ∀ (k : Nat) (i : Int) (M : ByteArray → Int) (last : ByteArray) (size : Int), 0 ≤ i → last.size ≤ B → (0 < i → last = (rd_T31 l (i - 1)).f0) → (∀ s, M s ≠ 0 → ∃ m, 0 ≤ m ∧ m < i ∧ (rd_T31 l m).f0 = s ∧ (rd_T31 l m).f1 = M s) → tree_Check.l0 K l k i M last size = some (-1, none) → ∀ j, i ≤ j → j < (l.length : Int) → OkAt l j
  | 0, i, M, last, size, _, _, _, _, h, j, _, _ => by simp [tree_Check.l0] at h
  | k + 1, i, M, last, size, h0, h2, h5, h6, h, j, hj, hj2 => by
    unfold tree_Check.l0 at h
    have c1 : i < (l.length : Int) := by omega
    have hm : rd_T31 l i ∈ l := by
      unfold rd_T31
      have h2 : i.toNat < l.length := by omega
      rw [List.getD_eq_getElem?_getD, List.getElem?_eq_getElem h2]
      exact List.getElem_mem h2
    obtain ⟨q1, q2⟩ := hl _ hm
    have q3 := q2
    simp only [fits, Bool.and_eq_true, decide_eq_true_eq] at q3
    rw [if_pos c1, PM.good_f _ K (by omega), Option.bind_some, fields_f K (by omega) _ _ _ _ _ _ _ _ (by omega), Option.bind_some, PM.cmp_f _ _ K (by omega) (by omega) (by omega), Option.bind_some, PM.parent_f _ K (by omega) (by omega), Option.bind_some] at h
    by_cases c2 : fits (rd_T31 l i) = true ∧ (PM.parentB (rd_T31 l i).f0).1.size ≤ 1000000000000 ∧ 0 ≤ size ∧ size ≤ 1048576
    · rw [if_pos c2] at h
      cases hR : entryR (decide (PM.GoodP (rd_T31 l i).f0)) (fieldsB (rd_T31 l i).f1 (rd_T31 l i).f2 (rd_T31 l i).f3 (rd_T31 l i).f4 (rd_T31 l i).f5 (rd_T31 l i).f6 (rd_T31 l i).f7) (i.toNat != 0) (PM.cQ last (rd_T31 l i).f0) (PM.parentB (rd_T31 l i).f0).2 (M (PM.parentB (rd_T31 l i).f0).1) (rd_T31 l i).f1 (M (rd_T31 l i).f6) size ((rd_T31 l i).f7.length : Int) with
      | some c =>
        rw [hR] at h
        simp at h
      | none =>
        rw [hR] at h
        have hE := hR
        unfold entryR at hE
        have g1 : PM.GoodP (rd_T31 l i).f0 := by
          by_cases g : PM.GoodP (rd_T31 l i).f0
          · exact g
          · rw [decide_eq_false g, if_pos rfl] at hE; cases hE
        rw [if_neg (by rw [decide_eq_true g1]; simp)] at hE
        by_cases g2 : (!(fieldsB (rd_T31 l i).f1 (rd_T31 l i).f2 (rd_T31 l i).f3 (rd_T31 l i).f4 (rd_T31 l i).f5 (rd_T31 l i).f6 (rd_T31 l i).f7) || ((i.toNat != 0) && decide (PM.cQ last (rd_T31 l i).f0 ≥ 0))) = true
        · rw [if_pos g2] at hE; cases hE
        · rw [if_neg g2] at hE
          by_cases g3 : ((PM.parentB (rd_T31 l i).f0).2 && (M (PM.parentB (rd_T31 l i).f0).1 != 1)) = true
          · rw [if_pos g3] at hE; cases hE
          · have hi : OkAt l i := by
              simp only [Bool.or_eq_true, Bool.not_eq_true', Bool.and_eq_true, bne_iff_ne, decide_eq_true_eq, not_or, not_and, ne_eq] at g2 g3
              refine ⟨g1, by unfold fieldsE; simpa using g2.1, fun hp => ?_, fun hp => ?_⟩
              · rw [← h5 hp]
                have := g2.2 (by omega)
                omega
              · have h7 : M (PM.parentB (rd_T31 l i).f0).1 = 1 := by
                  by_cases e : M (PM.parentB (rd_T31 l i).f0).1 = 1
                  · exact e
                  · exact absurd e (g3 hp)
                obtain ⟨m, m0, m1, m2, m3⟩ := h6 _ (by rw [h7]; decide)
                exact ⟨m, m0, m1, m2, by rw [m3, h7]⟩
            by_cases e : j = i
            · rw [e]; exact hi
            · refine ok_l K B l hB hK hl k (i + 1) _ _ _ (by omega) q1 (fun _ => by rw [show i + 1 - 1 = i by omega]) (fun s hs => ?_) h j (by omega) hj2
              by_cases e2 : s = (rd_T31 l i).f0
              · exact ⟨i, h0, by omega, e2.symm, by unfold upd; rw [if_pos e2]⟩
              · unfold upd at hs
                rw [if_neg e2] at hs
                obtain ⟨m, m0, m1, m2, m3⟩ := h6 s hs
                exact ⟨m, m0, by omega, m2, by unfold upd; rw [if_neg e2]; exact m3⟩
    · rw [if_neg c2] at h
      cases h
theorem none_l (K : Nat) (l : List S31) : ∀ (k : Nat) (i : Int) (M : ByteArray → Int) (last : ByteArray) (size : Int) (r : Int × Option Int), tree_Check.l0 K l k i M last size = some r → r.2 = none → r = (-1, none)
  | 0, i, M, last, size, r, h, _ => by simp [tree_Check.l0] at h
  | k + 1, i, M, last, size, r, h, hr => by
    unfold tree_Check.l0 at h
    by_cases c1 : i < (l.length : Int)
    · rw [if_pos c1] at h
      obtain ⟨g, _, h⟩ := Option.bind_eq_some_iff.mp h
      obtain ⟨gf, _, h⟩ := Option.bind_eq_some_iff.mp h
      obtain ⟨c, _, h⟩ := Option.bind_eq_some_iff.mp h
      obtain ⟨pr, _, h⟩ := Option.bind_eq_some_iff.mp h
      split at h
      · split at h
        · obtain rfl := Option.some.inj h
          cases hr
        · exact none_l K l k _ _ _ _ r h hr
      · cases h
    · rw [if_neg c1] at h
      exact (Option.some.inj h).symm
theorem check_ok (K B : Nat) (l : List S31) (hB : B ≤ 1000000) (hK : 2 * B + 600 ≤ K) (hl : ∀ x ∈ l, x.f0.size ≤ B ∧ fits x = true) (r : Int × Option Int) (h : tree_Check.f K l = some r) (hr : r.2 = none) : l.length ≤ 200 ∧ ∀ j, 0 ≤ j → j < (l.length : Int) → OkAt l j := by
  unfold tree_Check.f at h
  by_cases c : (l.length : Int) > 200
  · rw [if_pos c] at h
    obtain rfl := Option.some.inj h
    cases hr
  · rw [if_neg c] at h
    obtain rfl := none_l K l _ _ _ _ _ r h hr
    exact ⟨by omega, fun j hj hj2 => ok_l K B l hB hK hl (l.length + 1) 0 _ _ 0 (by omega) (Nat.zero_le _) (fun h => by omega) (fun s hs => absurd rfl hs) h j hj hj2⟩
end Go.Proofs.YtfkbmjfhakooiaaDoor.TR

/- A tree's entries are as they are meant. Conditions: as each theorem says. -/
namespace Go.Proofs.YtfkbmjfhakooiaaDoor.TR
open Go.RowKit Go.Proofs.YtfkbmjfhakooiaaDoor.PTree Go.Proofs.YtfkbmjfhakooiaaDoorW.PrintWords Go.Proofs.YtfkbmjfhakooiaaDoorW.PrintLast Go.Proofs.YtfkbmjfhakooiaaDoorW.PrintMore
set_option linter.unusedVariables false
set_option linter.unusedSimpArgs false
theorem fields_hard {e : S31} (h : fieldsE e = true) (hk : e.f1 = 4) : PM.GoodP e.f6 := by
  unfold fieldsE fieldsB at h
  rw [hk] at h
  by_cases g : PM.GoodP e.f6
  · exact g
  · rw [decide_eq_false g] at h
    simp at h
theorem normOf_good (K : Nat) (x : S31) (hK : 1000 ≤ K) (hg : PM.GoodP x.f0) (hf : fieldsE x = true) (hd : x.f7.length ≤ 1000000000000) : normOf K x = some (x.f0, x.f1, x.f2, x.f3, x.f4, x.f5, x.f6, x.f7, none) := by
  unfold normOf tree_normal.f
  have h1 := hg.1
  rw [PM.normal_f x.f0 K (by omega) (by omega), PM.norm_good hg, Option.bind_some, if_pos (by rfl)]
  have hc : bytes_Clone.f x.f7 = some x.f7 := by unfold bytes_Clone.f; rw [if_pos hd]
  by_cases c : x.f1 = 4
  · have hl := fields_hard hf c
    have h2 := hl.1
    rw [if_pos c, PM.normal_f x.f6 K (by omega) (by omega), PM.norm_good hl, Option.bind_some, if_pos (by rfl), hc]
    rfl
  · rw [if_neg c, hc]
    rfl
end Go.Proofs.YtfkbmjfhakooiaaDoor.TR

/- What an entry is as it is meant. Conditions: as each theorem says. -/
namespace Go.Proofs.YtfkbmjfhakooiaaDoor.TR
open Go.RowKit Go.Proofs.YtfkbmjfhakooiaaDoor.PTree Go.Proofs.YtfkbmjfhakooiaaDoorW.PrintWords Go.Proofs.YtfkbmjfhakooiaaDoorW.PrintLast Go.Proofs.YtfkbmjfhakooiaaDoorW.PrintMore
set_option linter.unusedVariables false
set_option linter.unusedSimpArgs false
theorem normOf_shape (K : Nat) (x : S31) (n : NormT) (hs : x.f0.size ≤ 1000000000) (hl : x.f6.size ≤ 1000000000) (hK : x.f0.size + x.f6.size + 1000 ≤ K) (h : normOf K x = some n) (he : n.2.2.2.2.2.2.2.2 = none) :
    (PM.normB x.f0).2 = none ∧ (mk31 n).f0 = (PM.normB x.f0).1 ∧ PM.GoodP (mk31 n).f0 ∧ (mk31 n).f1 = x.f1 ∧ (mk31 n).f2 = x.f2 ∧ (mk31 n).f7 = x.f7 ∧ (mk31 n).f6.size ≤ 1000000000 := by
  unfold normOf tree_normal.f at h
  rw [PM.normal_f x.f0 K (by omega) (by omega), Option.bind_some] at h
  cases e0 : (PM.normB x.f0).2 with
  | some c =>
    rw [if_neg (by rw [e0]; simp)] at h
    obtain rfl := Option.some.inj h
    cases he
  | none =>
    rw [if_pos (by rw [e0]; rfl)] at h
    have hg := PM.norm_ok e0
    by_cases c : x.f1 = 4
    · rw [if_pos c, PM.normal_f x.f6 K (by omega) (by omega), Option.bind_some] at h
      cases e1 : (PM.normB x.f6).2 with
      | some c =>
        rw [if_neg (by rw [e1]; simp)] at h
        obtain rfl := Option.some.inj h
        cases he
      | none =>
        rw [if_pos (by rw [e1]; rfl)] at h
        obtain ⟨t, ht, h⟩ := Option.bind_eq_some_iff.mp h
        obtain rfl := Option.some.inj h
        have ht2 : t = x.f7 := by
          unfold bytes_Clone.f at ht
          split at ht
          · exact (Option.some.inj ht).symm
          · cases ht
        have h2 := (PM.norm_ok e1).1
        exact ⟨rfl, rfl, hg, rfl, rfl, ht2, by show (PM.normB x.f6).1.size ≤ _; omega⟩
    · rw [if_neg c] at h
      obtain ⟨t, ht, h⟩ := Option.bind_eq_some_iff.mp h
      obtain rfl := Option.some.inj h
      have ht2 : t = x.f7 := by
        unfold bytes_Clone.f at ht
        split at ht
        · exact (Option.some.inj ht).symm
        · cases ht
      exact ⟨rfl, rfl, hg, rfl, rfl, ht2, hl⟩
end Go.Proofs.YtfkbmjfhakooiaaDoor.TR

/- Rows of entries, one by one. Conditions: as each theorem says. -/
namespace Go.Proofs.YtfkbmjfhakooiaaDoor.TR
open Go.RowKit Go.Proofs.YtfkbmjfhakooiaaDoor.PTree Go.Proofs.YtfkbmjfhakooiaaDoorW.PrintWords Go.Proofs.YtfkbmjfhakooiaaDoorW.PrintLast Go.Proofs.YtfkbmjfhakooiaaDoorW.PrintMore
set_option linter.unusedVariables false
set_option linter.unusedSimpArgs false
theorem take_rd (l : List S31) (i : Int) (h0 : 0 ≤ i) (h1 : i < (l.length : Int)) : l.take (i + 1).toNat = l.take i.toNat ++ [rd_T31 l i] := by
  have h2 : i.toNat < l.length := by omega
  rw [show (i + 1).toNat = i.toNat + 1 by omega, List.take_succ_eq_append_getElem h2]
  unfold rd_T31
  rw [List.getD_eq_getElem?_getD, List.getElem?_eq_getElem h2]
  rfl
end Go.Proofs.YtfkbmjfhakooiaaDoor.TR

/- Build of a tree's entries in any order: ahead of the sort. Conditions: as each theorem says. -/
namespace Go.Proofs.YtfkbmjfhakooiaaDoor.TR
open Go.RowKit Go.Proofs.YtfkbmjfhakooiaaDoor.PTree Go.Proofs.YtfkbmjfhakooiaaDoorW.PrintWords Go.Proofs.YtfkbmjfhakooiaaDoorW.PrintLast Go.Proofs.YtfkbmjfhakooiaaDoorW.PrintMore
set_option linter.unusedVariables false
set_option linter.unusedSimpArgs false
theorem rd_in (l : List S31) (i : Int) (h0 : 0 ≤ i) (h1 : i < (l.length : Int)) : rd_T31 l i ∈ l := by
  unfold rd_T31
  have h2 : i.toNat < l.length := by omega
  rw [List.getD_eq_getElem?_getD, List.getElem?_eq_getElem h2]
  exact List.getElem_mem h2
theorem build1_good (K : Nat) (l : List S31) (hK : 1000 ≤ K) (hl : ∀ x ∈ l, PM.GoodP x.f0 ∧ fieldsE x = true ∧ x.f7.length ≤ 1000000000000) : ∀ (k : Nat) (i : Int), 0 ≤ i → i ≤ (l.length : Int) → (l.length : Int) - i + 1 ≤ k → build1 K l k (l.take i.toNat) i = some (l, none)
  | 0, i, h0, hi, h1 => by omega
  | k + 1, i, h0, hi, h1 => by
    unfold build1
    by_cases c1 : i < (l.length : Int)
    · obtain ⟨q1, q2, q3⟩ := hl _ (rd_in l i h0 c1)
      rw [if_pos c1, normOf_good K _ hK q1 q2 q3, Option.bind_some]
      show build1 K l k (l.take i.toNat ++ [rd_T31 l i]) (i + 1) = _
      rw [← take_rd l i h0 c1]
      exact build1_good K l hK hl k (i + 1) (by omega) (by omega) (by omega)
    · rw [if_neg c1, List.take_of_length_le (by omega)]
/-- Paths that are all unlike. -/
def Unlike (l : List S31) : Prop := ∀ i j : Int, 0 ≤ i → i < j → j < (l.length : Int) → (rd_T31 l i).f0 ≠ (rd_T31 l j).f0
theorem build2_good (l : List S31) (hu : Unlike l) (hl : ∀ x ∈ l, x.f0.size ≤ 1000000000000) : ∀ (k : Nat) (i : Int) (M : ByteArray → Int), 0 ≤ i → i ≤ (l.length : Int) → (l.length : Int) - i + 1 ≤ k → (∀ s, M s ≠ 0 → ∃ m, 0 ≤ m ∧ m < i ∧ (rd_T31 l m).f0 = s) → (∀ m, 0 ≤ m → m < i → M (rd_T31 l m).f0 = 1) →
    ∃ M', build2 l k M i = some (some M') ∧ (∀ m, 0 ≤ m → m < (l.length : Int) → M' (rd_T31 l m).f0 = 1)
  | 0, i, M, h0, hi, h1, _, _ => by omega
  | k + 1, i, M, h0, hi, h1, h2, h3 => by
    unfold build2
    by_cases c1 : i < (l.length : Int)
    · have hz : M (rd_T31 l i).f0 = 0 := by
        by_cases e : M (rd_T31 l i).f0 = 0
        · exact e
        · obtain ⟨m, m0, m1, m2⟩ := h2 _ e
          exact absurd m2 (hu m i m0 m1 c1)
      rw [if_pos c1, if_pos (hl _ (rd_in l i h0 c1)), if_neg (by omega), if_pos hz]
      refine build2_good l hu hl k (i + 1) _ (by omega) (by omega) (by omega) (fun s hs => ?_) (fun m m0 m1 => ?_)
      · by_cases e : s = (rd_T31 l i).f0
        · exact ⟨i, h0, by omega, e.symm⟩
        · unfold upd at hs
          rw [if_neg e] at hs
          obtain ⟨m, m0, m1, m2⟩ := h2 s hs
          exact ⟨m, m0, by omega, m2⟩
      · unfold upd
        by_cases e : m = i
        · rw [e, if_pos rfl]
        · rw [if_neg (hu m i m0 (by omega) c1)]
          exact h3 m m0 (by omega)
    · rw [if_neg c1]
      exact ⟨M, rfl, fun m m0 m1 => h3 m m0 (by omega)⟩
theorem build3_good (K : Nat) (l : List S31) (M : ByteArray → Int) (hK : 1000 ≤ K) (hn : l.length < 1000000) (hz : ∀ x ∈ l, x.f0.size ≤ 1000000000000) (hp : ∀ x ∈ l, (PM.parentB x.f0).2 = true → M (PM.parentB x.f0).1 = 1) : ∀ (k : Nat) (i : Int), 0 ≤ i → i ≤ (l.length : Int) → (l.length : Int) - i + 1 ≤ k → build3 K k l M i = some l
  | 0, i, h0, hi, h1 => by omega
  | k + 1, i, h0, hi, h1 => by
    unfold build3
    by_cases c1 : i < (l.length : Int)
    · have hm := rd_in l i h0 c1
      have h5 := hz _ hm
      rw [if_pos c1, PM.parent_f _ K (by omega) (by omega), Option.bind_some, if_pos ⟨parentB_size _, hn⟩, if_neg (by
        intro h
        simp only [Bool.and_eq_true, beq_iff_eq] at h
        have := hp _ hm h.1
        omega)]
      exact build3_good K l M hK hn hz hp k (i + 1) (by omega) (by omega) (by omega)
    · rw [if_neg c1]
end Go.Proofs.YtfkbmjfhakooiaaDoor.TR

/- Build of a tree's entries in any order. Conditions: as each theorem says. -/
namespace Go.Proofs.YtfkbmjfhakooiaaDoor.TR
open Go.RowKit Go.Proofs.YtfkbmjfhakooiaaDoor.PTree Go.Proofs.YtfkbmjfhakooiaaDoorW.PrintWords Go.Proofs.YtfkbmjfhakooiaaDoorW.PrintLast Go.Proofs.YtfkbmjfhakooiaaDoorW.PrintMore
set_option linter.unusedVariables false
set_option linter.unusedSimpArgs false
theorem rd_ix (l : List S31) (x : S31) (h : x ∈ l) : ∃ j : Int, 0 ≤ j ∧ j < (l.length : Int) ∧ rd_T31 l j = x := by
  obtain ⟨n, hn, rfl⟩ := List.getElem_of_mem h
  refine ⟨(n : Int), by omega, by omega, ?_⟩
  unfold rd_T31
  rw [Int.toNat_natCast, List.getD_eq_getElem?_getD, List.getElem?_eq_getElem hn]
  rfl
theorem rd_get (l : List S31) (n : Nat) (hn : n < l.length) : rd_T31 l (n : Int) = l[n] := by
  unfold rd_T31
  rw [Int.toNat_natCast, List.getD_eq_getElem?_getD, List.getElem?_eq_getElem hn]
  rfl
/-- A tree's paths ascend. -/
theorem asc (b : List S31) (ok : ∀ j, 0 ≤ j → j < (b.length : Int) → OkAt b j) : ∀ (d : Nat) (i : Int), 0 ≤ i → i + 1 + d < (b.length : Int) → PM.cQ (rd_T31 b i).f0 (rd_T31 b (i + 1 + d)).f0 < 0
  | 0, i, h0, h1 => by
    have h := (ok (i + 1) (by omega) (by omega)).2.2.1 (by omega)
    rw [show i + 1 - 1 = i by omega] at h
    rw [show i + 1 + ((0 : Nat) : Int) = i + 1 by omega]
    exact h
  | d + 1, i, h0, h1 => by
    have h := asc b ok d i h0 (by omega)
    have h2 := (ok (i + 1 + (d + 1 : Nat)) (by omega) (by omega)).2.2.1 (by omega)
    rw [show i + 1 + ((d + 1 : Nat) : Int) - 1 = i + 1 + d by omega] at h2
    have t1 := PM.cQ_isCmp.tri (rd_T31 b i).f0 (rd_T31 b (i + 1 + d)).f0
    have := PM.cQ_isCmp.lt (a := (rd_T31 b i).f0) (b := (rd_T31 b (i + 1 + d)).f0) (d := (rd_T31 b (i + 1 + (d + 1 : Nat))).f0) (by omega) (by omega)
    omega
theorem asc_pair (b : List S31) (ok : ∀ j, 0 ≤ j → j < (b.length : Int) → OkAt b j) : b.Pairwise (fun p q => PM.cQ p.f0 q.f0 < 0) := by
  rw [List.pairwise_iff_getElem]
  intro i j hi hj hij
  have h := asc b ok (j - i - 1) (i : Int) (by omega) (by omega)
  rw [show (i : Int) + 1 + ((j - i - 1 : Nat) : Int) = (j : Int) by omega, rd_get b i hi, rd_get b j hj] at h
  exact h
theorem unlike_of (b m : List S31) (ok : ∀ j, 0 ≤ j → j < (b.length : Int) → OkAt b j) (hp : m.Perm b) : Unlike m := by
  have h1 : b.Pairwise (fun p q => p.f0 ≠ q.f0) := (asc_pair b ok).imp (fun {p q} h e => by rw [e, PM.cQ_isCmp.self] at h; omega)
  have h2 : m.Pairwise (fun p q => p.f0 ≠ q.f0) := h1.perm hp.symm (fun {p q} h e => h e.symm)
  intro i j h0 hij hj
  have h3 := List.pairwise_iff_getElem.1 h2 i.toNat j.toNat (by omega) (by omega) (by omega)
  have e1 := rd_get m i.toNat (by omega)
  have e2 := rd_get m j.toNat (by omega)
  rw [show ((i.toNat : Nat) : Int) = i by omega] at e1
  rw [show ((j.toNat : Nat) : Int) = j by omega] at e2
  rw [e1, e2]
  exact h3
theorem buildA_tree (K : Nat) (b m : List S31) (hK : 1000 ≤ K) (hn : b.length ≤ 200) (ok : ∀ j, 0 ≤ j → j < (b.length : Int) → OkAt b j) (hd : ∀ x ∈ b, x.f7.length ≤ 1000000000000) (hp : m.Perm b) : buildA K m = some (m, none) := by
  have hl := hp.length_eq
  have hx : ∀ x ∈ m, PM.GoodP x.f0 ∧ fieldsE x = true ∧ x.f7.length ≤ 1000000000000 ∧ ((PM.parentB x.f0).2 = true → ∃ y ∈ m, y.f0 = (PM.parentB x.f0).1) := by
    intro x hx
    have hb := hp.mem_iff.1 hx
    obtain ⟨j, j0, j1, e⟩ := rd_ix b x hb
    have h := ok j j0 j1
    unfold OkAt at h
    rw [e] at h
    refine ⟨h.1, h.2.1, hd x hb, fun hq => ?_⟩
    obtain ⟨q, q0, q1, q2, _⟩ := h.2.2.2 hq
    exact ⟨rd_T31 b q, hp.mem_iff.2 (rd_in b q q0 (by omega)), q2⟩
  have hsz : ∀ x ∈ m, x.f0.size ≤ 1000000000000 := fun x h => by have := (hx x h).1.1; omega
  unfold buildA
  have h1 := build1_good K m hK (fun x h => ⟨(hx x h).1, (hx x h).2.1, (hx x h).2.2.1⟩) (m.length + 1) 0 (by omega) (by omega) (by omega)
  have h1' : build1 K m (m.length + 1) [] 0 = some (m, none) := h1
  obtain ⟨M', h2, h3⟩ := build2_good m (unlike_of b m ok hp) hsz (m.length + 1) 0 (fun _ => 0) (by omega) (by omega) (by omega) (fun s hs => absurd rfl hs) (fun k k0 k1 => by omega)
  have h4 := build3_good K m M' hK (by omega) hsz (fun x h hq => by
    obtain ⟨y, hy, e⟩ := (hx x h).2.2.2 hq
    obtain ⟨j, j0, j1, ej⟩ := rd_ix m y hy
    have := h3 j j0 j1
    rw [ej, e] at this
    exact this) K 0 (by omega) (by omega) (by omega)
  rw [if_neg (by omega), h1', Option.bind_some]
  simp only [h2, Option.bind_some, h4]
end Go.Proofs.YtfkbmjfhakooiaaDoor.TR

/- What is handed in is there. Conditions: as each theorem says. -/
namespace Go.Proofs.YtfkbmjfhakooiaaDoor.TR
open Go.RowKit Go.Proofs.YtfkbmjfhakooiaaDoor.PTree Go.Proofs.YtfkbmjfhakooiaaDoorW.PrintWords Go.Proofs.YtfkbmjfhakooiaaDoorW.PrintLast Go.Proofs.YtfkbmjfhakooiaaDoorW.PrintMore
set_option linter.unusedVariables false
set_option linter.unusedSimpArgs false
theorem build1_has (K : Nat) (l xs : List S31) : ∀ (k : Nat) (out : List S31) (i : Int), build1 K l k out i = some (xs, none) → (∀ x ∈ out, x ∈ xs) ∧ ∀ j, i ≤ j → j < (l.length : Int) → ∃ n, normOf K (rd_T31 l j) = some n ∧ n.2.2.2.2.2.2.2.2 = none ∧ mk31 n ∈ xs
  | 0, out, i, h => by simp [build1] at h
  | k + 1, out, i, h => by
    unfold build1 at h
    by_cases c1 : i < (l.length : Int)
    · rw [if_pos c1] at h
      obtain ⟨n, hn, h⟩ := Option.bind_eq_some_iff.mp h
      cases e : n.2.2.2.2.2.2.2.2 with
      | some c =>
        rw [e] at h
        simp at h
      | none =>
        rw [e] at h
        obtain ⟨h1, h2⟩ := build1_has K l xs k (out ++ [mk31 n]) (i + 1) h
        refine ⟨fun x hx => h1 x (List.mem_append_left _ hx), fun j hj hj2 => ?_⟩
        by_cases ej : j = i
        · rw [ej]
          exact ⟨n, hn, e, h1 _ (List.mem_append_right _ (List.mem_singleton.2 rfl))⟩
        · exact h2 j (by omega) hj2
    · rw [if_neg c1] at h
      obtain rfl : out = xs := by simpa using h
      exact ⟨fun x hx => hx, fun j hj hj2 => by omega⟩
theorem build3_has (K : Nat) (ys : List S31) : ∀ (k : Nat) (xs : List S31) (M : ByteArray → Int) (i : Int), build3 K k xs M i = some ys → ∀ x ∈ xs, x ∈ ys
  | 0, xs, M, i, h, x, hx => by simp [build3] at h
  | k + 1, xs, M, i, h, x, hx => by
    unfold build3 at h
    by_cases c1 : i < (xs.length : Int)
    · rw [if_pos c1] at h
      obtain ⟨pr, _, h⟩ := Option.bind_eq_some_iff.mp h
      split at h
      · split at h
        · exact build3_has K ys k _ _ _ h x (List.mem_append_left _ hx)
        · exact build3_has K ys k _ _ _ h x hx
      · cases h
    · rw [if_neg c1] at h
      obtain rfl := Option.some.inj h
      exact hx
end Go.Proofs.YtfkbmjfhakooiaaDoor.TR

/- Build's entries ahead of the sort: there always. Conditions: as each theorem says. -/
namespace Go.Proofs.YtfkbmjfhakooiaaDoor.TR
open Go.RowKit Go.Proofs.YtfkbmjfhakooiaaDoor.PTree Go.Proofs.YtfkbmjfhakooiaaDoorW.PrintWords Go.Proofs.YtfkbmjfhakooiaaDoorW.PrintLast Go.Proofs.YtfkbmjfhakooiaaDoorW.PrintMore
set_option linter.unusedVariables false
set_option linter.unusedSimpArgs false
/-- An entry as it is handed in: small. -/
def SmallE (x : S31) : Prop := x.f0.size ≤ 1000000 ∧ x.f6.size ≤ 1000000 ∧ x.f7.length ≤ 1000000 ∧ (Lit.int .i64 x.f1).wf = true
/-- An entry as it is meant. -/
def MeantE (x : S31) : Prop := PM.GoodP x.f0 ∧ x.f6.size ≤ 1000000000 ∧ x.f7.length ≤ 1000000 ∧ (Lit.int .i64 x.f1).wf = true
theorem normOf_total (K : Nat) (x : S31) (h : SmallE x) (hK : 3000000 ≤ K) : ∃ n, normOf K x = some n := by
  obtain ⟨h0, h1, h2, h3⟩ := h
  unfold normOf tree_normal.f
  rw [PM.normal_f x.f0 K (by omega) (by omega), Option.bind_some]
  have hc : bytes_Clone.f x.f7 = some x.f7 := by unfold bytes_Clone.f; rw [if_pos (by omega)]
  by_cases e : (PM.normB x.f0).2 = none
  · rw [if_pos (by rw [e]; rfl)]
    by_cases c : x.f1 = 4
    · rw [if_pos c, PM.normal_f x.f6 K (by omega) (by omega), Option.bind_some]
      by_cases e2 : (PM.normB x.f6).2 = none
      · rw [if_pos (by rw [e2]; rfl), hc]
        exact ⟨_, rfl⟩
      · rw [if_neg (by
          cases hh : (PM.normB x.f6).2 with
          | none => exact absurd hh e2
          | some c => simp)]
        exact ⟨_, rfl⟩
    · rw [if_neg c, hc]
      exact ⟨_, rfl⟩
  · rw [if_neg (by
      cases hh : (PM.normB x.f0).2 with
      | none => exact absurd hh e
      | some c => simp)]
    exact ⟨_, rfl⟩
theorem meant_of (K : Nat) (x : S31) (n : NormT) (h : SmallE x) (hK : 3000000 ≤ K) (hn : normOf K x = some n) (he : n.2.2.2.2.2.2.2.2 = none) : MeantE (mk31 n) := by
  obtain ⟨h0, h1, h2, h3⟩ := h
  obtain ⟨_, _, q2, q3, _, q5, q6⟩ := normOf_shape K x n (by omega) (by omega) (by omega) hn he
  exact ⟨q2, q6, by rw [q5]; exact h2, by rw [q3]; exact h3⟩
theorem build1_total (K : Nat) (l : List S31) (hK : 3000000 ≤ K) (hl : ∀ x ∈ l, SmallE x) : ∀ (k : Nat) (out : List S31) (i : Int), 0 ≤ i → i ≤ (l.length : Int) → (l.length : Int) - i + 1 ≤ k → (∀ x ∈ out, MeantE x) → (out.length : Int) = i →
    ∃ r, build1 K l k out i = some r ∧ (r.2 = none → (∀ x ∈ r.1, MeantE x) ∧ r.1.length = l.length)
  | 0, out, i, h0, hi, h1, _, _ => by omega
  | k + 1, out, i, h0, hi, h1, h2, h3 => by
    unfold build1
    by_cases c1 : i < (l.length : Int)
    · have hs := hl _ (rd_in l i h0 c1)
      obtain ⟨n, hn⟩ := normOf_total K _ hs hK
      rw [if_pos c1, hn, Option.bind_some]
      cases e : n.2.2.2.2.2.2.2.2 with
      | some c => exact ⟨_, rfl, fun h => by cases h⟩
      | none =>
        refine build1_total K l hK hl k (out ++ [mk31 n]) (i + 1) (by omega) (by omega) (by omega) (fun x hx => ?_) (by rw [List.length_append, List.length_singleton]; omega)
        rcases List.mem_append.1 hx with hx | hx
        · exact h2 x hx
        · rw [List.mem_singleton.1 hx]
          exact meant_of K _ n hs hK hn e
    · rw [if_neg c1]
      exact ⟨_, rfl, fun _ => ⟨h2, by show out.length = _; omega⟩⟩
theorem build2_total (xs : List S31) (hl : ∀ x ∈ xs, MeantE x) : ∀ (k : Nat) (M : ByteArray → Int) (i : Int), 0 ≤ i → i ≤ (xs.length : Int) → (xs.length : Int) - i + 1 ≤ k → (∀ s, 0 ≤ M s) → ∃ r, build2 xs k M i = some r
  | 0, M, i, h0, hi, h1, _ => by omega
  | k + 1, M, i, h0, hi, h1, h2 => by
    unfold build2
    by_cases c1 : i < (xs.length : Int)
    · have hs := (hl _ (rd_in xs i h0 c1)).1.1
      rw [if_pos c1, if_pos (by omega)]
      by_cases c2 : M (rd_T31 xs i).f0 > 0
      · rw [if_pos c2]
        exact ⟨_, rfl⟩
      · rw [if_neg c2, if_pos (by have := h2 (rd_T31 xs i).f0; omega)]
        refine build2_total xs hl k _ (i + 1) (by omega) (by omega) (by omega) (fun s => ?_)
        unfold upd
        split
        · omega
        · exact h2 s
    · rw [if_neg c1]
      exact ⟨_, rfl⟩
/-- How deep the entries lie, together. -/
def depths : List S31 → Nat
  | [] => 0
  | x :: r => (pieces x.f0).length + depths r
theorem depths_append : ∀ a b : List S31, depths (a ++ b) = depths a + depths b
  | [], b => by simp [depths]
  | x :: a, b => by rw [List.cons_append, depths, depths, depths_append a b]; omega
theorem depths_le (B : Nat) : ∀ l : List S31, (∀ x ∈ l, (pieces x.f0).length ≤ B) → depths l ≤ l.length * B
  | [], _ => Nat.zero_le _
  | x :: l, h => by
    have h1 := depths_le B l (fun y hy => h y (List.mem_cons_of_mem _ hy))
    have h2 := h x List.mem_cons_self
    rw [depths, List.length_cons, Nat.succ_mul]
    omega
theorem par_pieces {s : ByteArray} (h : (PM.parentB s).2 = true) : PM.GoodP (PM.parentB s).1 ∧ (pieces (PM.parentB s).1).length + 1 = (pieces s).length := by
  unfold PM.parentB at h ⊢
  split at h
  · rename_i hc
    rw [if_pos hc]
    obtain ⟨g1, g2⟩ := PM.good_join (PM.dl_good hc.1 hc.2)
    refine ⟨g1, ?_⟩
    show (pieces (PM.joinB (pieces s).dropLast)).length + 1 = _
    rw [g2, List.length_dropLast]
    omega
  · cases h
theorem build3_total (K : Nat) (hK : 1000 ≤ K) : ∀ (k : Nat) (xs : List S31) (M : ByteArray → Int) (i : Int), (∀ x ∈ xs, MeantE x) → 0 ≤ i → i ≤ (xs.length : Int) → depths (xs.drop i.toNat) + 1 ≤ k → xs.length + depths (xs.drop i.toNat) < 1000000 →
    ∃ ys, build3 K k xs M i = some ys ∧ (∀ x ∈ ys, MeantE x) ∧ ys.length < 1000000
  | 0, xs, M, i, _, h0, hi, h1, _ => by omega
  | k + 1, xs, M, i, hx, h0, hi, h1, h2 => by
    unfold build3
    by_cases c1 : i < (xs.length : Int)
    · have hm := hx _ (rd_in xs i h0 c1)
      have hg := hm.1
      have hz := hg.1
      have hdrop : xs.drop i.toNat = rd_T31 xs i :: xs.drop (i.toNat + 1) := by
        have e := rd_get xs i.toNat (by omega)
        rw [show ((i.toNat : Nat) : Int) = i by omega] at e
        rw [e]
        exact List.drop_eq_getElem_cons (by omega)
      have hpl : 0 < (pieces (rd_T31 xs i).f0).length := List.length_pos_iff.2 (PM.pieces_ne _)
      rw [hdrop, depths] at h1 h2
      have ei : (i + 1).toNat = i.toNat + 1 := by omega
      rw [if_pos c1, PM.parent_f _ K (by omega) (by omega), Option.bind_some, if_pos ⟨parentB_size _, by omega⟩]
      by_cases c2 : ((PM.parentB (rd_T31 xs i).f0).2 && (M (PM.parentB (rd_T31 xs i).f0).1 == 0)) = true
      · rw [if_pos c2]
        have c3 : (PM.parentB (rd_T31 xs i).f0).2 = true := by
          simp only [Bool.and_eq_true] at c2
          exact c2.1
        obtain ⟨p1, p2⟩ := par_pieces c3
        have hd : (xs ++ [(⟨(PM.parentB (rd_T31 xs i).f0).1, 1, 493, 0, 0, 0, ⟨#[]⟩, []⟩ : S31)]).drop (i.toNat + 1) = xs.drop (i.toNat + 1) ++ [(⟨(PM.parentB (rd_T31 xs i).f0).1, 1, 493, 0, 0, 0, ⟨#[]⟩, []⟩ : S31)] := List.drop_append_of_le_length (by omega)
        have hdd : depths ([(⟨(PM.parentB (rd_T31 xs i).f0).1, 1, 493, 0, 0, 0, ⟨#[]⟩, []⟩ : S31)]) + 1 = (pieces (rd_T31 xs i).f0).length := by
          show (pieces (PM.parentB (rd_T31 xs i).f0).1).length + 0 + 1 = _
          omega
        refine build3_total K hK k _ _ (i + 1) (fun x hx2 => ?_) (by omega) (by rw [List.length_append, List.length_singleton]; omega) ?_ ?_
        · rcases List.mem_append.1 hx2 with hx2 | hx2
          · exact hx x hx2
          · rw [List.mem_singleton.1 hx2]
            exact ⟨p1, show (⟨#[]⟩ : ByteArray).size ≤ 1000000000 by decide, Nat.zero_le _, show (Lit.int .i64 1).wf = true by decide⟩
        · rw [ei, hd, depths_append]; omega
        · rw [ei, hd, depths_append, List.length_append, List.length_singleton]; omega
      · rw [if_neg c2]
        exact build3_total K hK k xs M (i + 1) hx (by omega) (by omega) (by rw [ei]; omega) (by rw [ei]; omega)
    · rw [if_neg c1]
      exact ⟨xs, rfl, hx, by omega⟩
theorem pieces_short {s : ByteArray} (h : PM.GoodP s) : (pieces s).length ≤ 401 := by
  have h1 := PM.len_le_tot (pieces s)
  rw [PM.tot_pieces] at h1
  have := h.1
  omega
/-- Build ahead of the sort answers always. -/
theorem buildA_total (K : Nat) (l : List S31) (hK : 3000000 ≤ K) (hl : ∀ x ∈ l, SmallE x) :
    ∃ xs er, buildA K l = some (xs, er) ∧ (er = none → (∀ x ∈ xs, MeantE x) ∧ xs.length < 1000000 ∧ ∀ x ∈ l, ∃ n, normOf K x = some n ∧ n.2.2.2.2.2.2.2.2 = none ∧ mk31 n ∈ xs) := by
  unfold buildA
  by_cases c : (l.length : Int) > 200
  · rw [if_pos c]
    exact ⟨_, _, rfl, fun h => by cases h⟩
  · rw [if_neg c]
    obtain ⟨⟨x1, e1⟩, h1, q1⟩ := build1_total K l hK hl (l.length + 1) [] 0 (by omega) (by omega) (by omega) (fun x hx => by cases hx) rfl
    rw [h1, Option.bind_some]
    cases e1 with
    | some cc => exact ⟨_, _, rfl, fun h => by cases h⟩
    | none =>
      obtain ⟨q2, q3⟩ := q1 rfl
      have q3' : x1.length = l.length := q3
      obtain ⟨_, q4⟩ := build1_has K l x1 _ _ _ h1
      obtain ⟨r2, h2⟩ := build2_total x1 q2 (x1.length + 1) (fun _ => 0) 0 (by omega) (by omega) (by omega) (fun _ => by omega)
      simp only [h2, Option.bind_some]
      cases r2 with
      | none => exact ⟨_, _, rfl, fun h => by cases h⟩
      | some M =>
        have hdl := depths_le 401 x1 (fun x hx => pieces_short (q2 x hx).1)
        have hd2 : x1.length * 401 ≤ 200 * 401 := Nat.mul_le_mul_right _ (by omega)
        obtain ⟨ys, h3, q5, q6⟩ := build3_total K (by omega) K x1 M 0 q2 (by omega) (by omega) (by show depths x1 + 1 ≤ K; omega) (by show x1.length + depths x1 < _; omega)
        simp only [h3, Option.bind_some]
        refine ⟨ys, none, rfl, fun _ => ⟨q5, q6, fun x hx => ?_⟩⟩
        obtain ⟨j, j0, j1, e⟩ := rd_ix l x hx
        obtain ⟨n, n1, n2, n3⟩ := q4 j j0 j1
        rw [e] at n1
        exact ⟨n, n1, n2, build3_has K ys _ _ _ _ h3 _ n3⟩
end Go.Proofs.YtfkbmjfhakooiaaDoor.TR

/- tree.Find, slices.IndexFunc of entries, walked. Conditions: as each theorem says. -/
namespace Go.Proofs.YtfkbmjfhakooiaaDoor.TR
open Go.RowKit Go.Proofs.YtfkbmjfhakooiaaDoor.PTree Go.Proofs.YtfkbmjfhakooiaaDoorW.PrintWords Go.Proofs.YtfkbmjfhakooiaaDoorW.PrintLast Go.Proofs.YtfkbmjfhakooiaaDoorW.PrintMore
set_option linter.unusedVariables false
set_option linter.unusedSimpArgs false
set_option maxHeartbeats 4000000 in
theorem find1_calls (x : S31) (A : Option Addr) (k gp : Nat) (p : ByteArray) (w : World) (hp : w.cell? ⟨gp, 0, none⟩ = some (.string p)) :
    Calls Tryd.prog 41 #[.agg #[.string x.f0, .int .i64 x.f1, .int .i64 x.f2, .int .i64 x.f3, .int .i64 x.f4, .int .i64 x.f5, .string x.f6, .slice A x.f7.length k], .pointer (some ⟨gp, 0, none⟩)] w fun e w' => e = .returned (.bool (x.f0.toList == p.toList)) ∧ Below w.heap.size w w' := by
  have hu31 := Tryd.underlying31
  obtain ⟨x0, x1, x2, x3, x4, x5, x6, x7⟩ := x
  simp only
  have hlt := World.block_lt_of_cell? w _ hp
  have hp2 := (World.cell?_alloc_lt w (.cells #[.string x0, .int .i64 x1, .int .i64 x2, .int .i64 x3, .int .i64 x4, .int .i64 x5, .string x6, .slice A x7.length k] 31) ⟨gp, 0, none⟩ hlt).trans hp
  go_enter Tryd.func41, Tryd.ntmps41
  go_wp2
  go_ret
  exact ⟨rfl, below_alloc (Below.refl _ _) _⟩
def find0 (l : List S31) (p : ByteArray) : Nat → Int → Option Int
  | 0, _ => none
  | k + 1, i => if i < (l.length : Int) then (if ((rd_T31 l i).f0.toList == p.toList) = true then some i else find0 l p k (i + 1)) else some (-1)
set_option maxHeartbeats 8000000 in
set_option maxRecDepth 100000 in
theorem index_calls (l0 : List S31) (p : ByteArray) (A0 : Option Addr) (k0 gp : Nat) (r : Int) (w : World) (h0 : Kd.C k31 w A0 l0.length l0) (hp : w.cell? ⟨gp, 0, none⟩ = some (.string p)) (h : find0 l0 p (l0.length + 1) 0 = some r) :
    Calls Tryd.prog 40 #[.slice A0 l0.length k0, .func (.func 41) #[] #[.pointer (some ⟨gp, 0, none⟩)]] w fun e w' => e = .returned (.int .i64 r) ∧ Below w.heap.size w w' := by
  have hu31 := Tryd.underlying31
  have H0 := Aside0.mk h0
  have HLB := Aside0.mk h0.2.1
  have HPC := Aside0.mk hp
  have H := Aside0.mk h
  clear h0 hp h
  have eg : ∀ args w, (callFunc 41 args).run Tryd.prog w = .ok (.enter 41 args) w := enters_of Tryd.func41 (by kernel_rfl) rfl
  have HB := Aside0.mk (Below.refl w.heap.size w)
  go_enter Tryd.func40, Tryd.ntmps40
  go_wp2
  go_loopg [8] (l0.length + 1) (fun kq v8 w' => ∃ (i : Int), v8 = .int .i64 i ∧ Aside0 (find0 l0 p kq i = some r) ∧ Aside0 (0 ≤ i) ∧ Aside0 (Below w.heap.size w w'))
  case atStart => exact ⟨0, rfl, H, ⟨by omega⟩, HB⟩
  case round =>
    clear HB H
    obtain ⟨i, rfl, HA, HI, HB⟩ := hrel
    cases gk with
    | zero => exact absurd HA.out (by simp [find0])
    | succ k1 =>
      have H := HA.out
      clear HA
      simp only [find0] at H
      by_cases c2 : i < (l0.length : Int)
      · rw [if_pos c2] at H
        have C2 := Aside0.mk c2
        obtain ⟨ad, A7, c7, eA, x0, x1, x2, x3, x4, x5, x6, x7, _, _⟩ := at_T31 H0.out i HI.out c2
        cases eA
        replace x0 := (HB.out.cell (World.block_lt_of_cell? w _ x0)).trans x0
        replace x1 := (HB.out.cell (World.block_lt_of_cell? w _ x1)).trans x1
        replace x2 := (HB.out.cell (World.block_lt_of_cell? w _ x2)).trans x2
        replace x3 := (HB.out.cell (World.block_lt_of_cell? w _ x3)).trans x3
        replace x4 := (HB.out.cell (World.block_lt_of_cell? w _ x4)).trans x4
        replace x5 := (HB.out.cell (World.block_lt_of_cell? w _ x5)).trans x5
        replace x6 := (HB.out.cell (World.block_lt_of_cell? w _ x6)).trans x6
        replace x7 := (HB.out.cell (World.block_lt_of_cell? w _ x7)).trans x7
        have hi0 := HI.out
        have p210 := eq_true hi0
        have q210 := eq_true c2
        clear hi0
        cases hq : ((rd_T31 l0 i).f0.toList == p.toList) with
        | true =>
          rw [hq, if_pos rfl] at H
          obtain rfl := Option.some.inj H
          go_wp2_with (first | (go_at_call 41; refine (find1_calls (rd_T31 l0 i) A7 c7 gp p _ ((HB.out.cell (World.block_lt_of_cell? w _ HPC.out)).trans HPC.out)).mono ?_; rintro e w9 ⟨rfl, hb⟩; have HB9 := Aside0.mk (below_step HB.out hb); rw [hq]; clear hb))
          go_ret
          exact ⟨rfl, HB9.out⟩
        | false =>
          rw [hq, if_neg (by simp)] at H
          replace H := Aside0.mk H
          go_wp2_with (first | (go_at_call 41; refine (find1_calls (rd_T31 l0 i) A7 c7 gp p _ ((HB.out.cell (World.block_lt_of_cell? w _ HPC.out)).trans HPC.out)).mono ?_; rintro e w9 ⟨rfl, hb⟩; have HB9 := Aside0.mk (below_step HB.out hb); rw [hq]; clear hb))
          go_roundg k1
          case measure => omega
          case rel => exact ⟨i + 1, by rw [wr_in _ (by have h1 := HI.out; have h2 := HLB.out; have h3 := C2.out; omega)], H, ⟨by have := HI.out; omega⟩, HB9⟩
      · rw [if_neg c2] at H
        obtain rfl := Option.some.inj H
        go_wp2
        go_ret
        exact ⟨rfl, HB.out⟩
end Go.Proofs.YtfkbmjfhakooiaaDoor.TR

/- tree.Find, walked. Conditions: as each theorem says. -/
namespace Go.Proofs.YtfkbmjfhakooiaaDoor.TR
open Go.RowKit Go.Proofs.YtfkbmjfhakooiaaDoor.PTree Go.Proofs.YtfkbmjfhakooiaaDoorW.PrintWords Go.Proofs.YtfkbmjfhakooiaaDoorW.PrintLast Go.Proofs.YtfkbmjfhakooiaaDoorW.PrintMore
set_option linter.unusedVariables false
set_option linter.unusedSimpArgs false
theorem find0_spec (l : List S31) (p : ByteArray) : ∀ (k : Nat) (i r : Int), 0 ≤ i → find0 l p k i = some r → r = -1 ∨ (0 ≤ r ∧ r < (l.length : Int) ∧ (rd_T31 l r).f0.toList = p.toList)
  | 0, i, r, _, h => by simp [find0] at h
  | k + 1, i, r, h0, h => by
    unfold find0 at h
    by_cases c1 : i < (l.length : Int)
    · rw [if_pos c1] at h
      by_cases c2 : ((rd_T31 l i).f0.toList == p.toList) = true
      · rw [if_pos c2] at h
        obtain rfl := Option.some.inj h
        exact .inr ⟨h0, c1, beq_iff_eq.mp c2⟩
      · rw [if_neg c2] at h
        exact find0_spec l p k (i + 1) r (by omega) h
    · rw [if_neg c1] at h
      exact .inl (Option.some.inj h).symm
theorem rd_memI (l : List S31) (i : Int) (h0 : 0 ≤ i) (h1 : i < (l.length : Int)) : rd_T31 l i ∈ l := by
  unfold rd_T31
  have h2 : i.toNat < l.length := by omega
  rw [List.getD_eq_getElem?_getD, List.getElem?_eq_getElem h2]
  exact List.getElem_mem h2
set_option maxHeartbeats 8000000 in
set_option maxRecDepth 100000 in
theorem Find_calls (l0 : List S31) (p : ByteArray) (A0 : Option Addr) (k0 : Nat) (r : Int) (w : World) (hGl : Gl w) (h0 : Kd.C k31 w A0 l0.length l0) (hd : ∀ x ∈ l0, x.f7.length ≤ 1000000000000) (h : find0 l0 p (l0.length + 1) 0 = some r) :
    Calls Tryd.prog 21 #[.slice A0 l0.length k0, .string p] w fun e w' => Below w.heap.size w w' ∧ ((r = -1 ∧ e = .returned (.tuple #[.agg #[.string (⟨#[]⟩ : ByteArray), .int .i64 0, .int .i64 0, .int .i64 0, .int .i64 0, .int .i64 0, .string (⟨#[]⟩ : ByteArray), .slice none 0 0], .bool false])) ∨ (0 ≤ r ∧ r < (l0.length : Int) ∧ ∃ (Ao : Option Addr) (co : Nat), e = .returned (.tuple #[.agg #[.string (rd_T31 l0 r).f0, .int .i64 (rd_T31 l0 r).f1, .int .i64 (rd_T31 l0 r).f2, .int .i64 (rd_T31 l0 r).f3, .int .i64 (rd_T31 l0 r).f4, .int .i64 (rd_T31 l0 r).f5, .string (rd_T31 l0 r).f6, .slice Ao (rd_T31 l0 r).f7.length co], .bool true]) ∧ Kd.R (Kd.int .u8) 5 w' w.heap.size (fun _ => True) (.slice Ao (rd_T31 l0 r).f7.length co) (rd_T31 l0 r).f7)) := by
  have hu31 := Tryd.underlying31
  have hz31 := info31
  have H0 := Aside0.mk h0
  have HGL := Aside0.mk hGl
  have HF := Aside0.mk h
  rcases find0_spec l0 p _ 0 r (by omega) h with e1 | ⟨r0, r1, _⟩
  · subst e1
    clear h0 hGl h hd
    go_enter Tryd.func21, Tryd.ntmps21
    go_wp2_with (first | ((with_reducible refine gate_dst (N := 3) rfl ?_); refine box_event ?hg (N := 3) ?hd (cs := #[.string p]) (t := 9) ?hr ?_; (case hd => rfl); (case hg => rfl); (case hr => first | (go_simp; done) | (go_simp; rfl)); intro g3 hg w3 hbox hb; have HB3 := Aside0.mk hb; have K3 := Aside0.mk hbox; clear hb hbox hg) | ((with_reducible refine gate_dst (N := 4) rfl ?_); refine box_event ?hg (N := 4) ?hd (cs := #[.string (⟨#[]⟩ : ByteArray), .int .i64 0, .int .i64 0, .int .i64 0, .int .i64 0, .int .i64 0, .string (⟨#[]⟩ : ByteArray), .slice none 0 0]) (t := 31) ?hr ?_; (case hd => rfl); (case hg => rfl); (case hr => first | (go_simp; done) | (go_simp; rfl)); intro g4 hg w4 hbox hb; have HB4 := Aside0.mk (below_step HB3.out hb); have K34 := Aside0.mk (blk_below K3.out hb); have K4 := Aside0.mk hbox; have G4 := Aside0.mk (show w.heap.size ≤ g4 by rw [hg]; exact below_size HB3.out); clear hb hbox hg) | (go_at_call 40; refine (index_calls l0 p _ k0 g3 _ _ (Kd.C_below H0.out HB4.out) (blk_cell K34.out 0) HF.out).mono ?_; rintro e w5 ⟨rfl, hb⟩; have HB5 := Aside0.mk (below_step HB4.out hb); have K5 := Aside0.mk (blk_below K4.out hb); clear hb) | ((with_reducible refine gate_store (t := 31) (p := 4) (v := .tmp 12) rfl ?_); refine ev_set31 _ rfl (.tmp 4) (.tmp 12) rfl rfl g4 _ _ _ _ _ _ _ _ ⟨#[]⟩ ⟨#[]⟩ 0 0 0 0 0 none 0 0 rfl rfl K5.out (fun w8 b1 b2 => ?_)))
    refine bodyPost_ret (results_ct rfl _ _ g4 31 #[.string (⟨#[]⟩ : ByteArray), .int .i64 0, .int .i64 0, .int .i64 0, .int .i64 0, .int .i64 0, .string (⟨#[]⟩ : ByteArray), .slice none 0 0] (0, 0) _ rfl b1 Tryd.underlying31 rfl (by kernel_rfl)) rfl ?_
    exact ⟨below_row_ HB5.out b2 G4.out, .inl ⟨by simp, rfl⟩⟩
  · have HDD := Aside0.mk (hd _ (rd_memI l0 r r0 r1))
    obtain ⟨ad, A7, c7, eA, x0, x1, x2, x3, x4, x5, x6, x7, hl7, hi7⟩ := at_T31 H0.out r r0 r1
    subst eA
    have HL7 := Aside0.mk hl7
    have HI7 := Aside0.mk hi7
    have p210 := eq_true r0
    have q210 := eq_true r1
    have n210 := eq_false (show ¬ r < 0 by omega)
    have m210 : decide (r < 0) = false := decide_eq_false (by omega)
    have HR := Aside0.mk (And.intro r0 r1)
    clear h0 hGl h hd hl7 hi7 r0 r1
    have HCO := Aside0.mk (show tree_copied.f (rd_T31 l0 r).f0 (rd_T31 l0 r).f1 (rd_T31 l0 r).f2 (rd_T31 l0 r).f3 (rd_T31 l0 r).f4 (rd_T31 l0 r).f5 (rd_T31 l0 r).f6 (rd_T31 l0 r).f7 = some ((rd_T31 l0 r).f0, (rd_T31 l0 r).f1, (rd_T31 l0 r).f2, (rd_T31 l0 r).f3, (rd_T31 l0 r).f4, (rd_T31 l0 r).f5, (rd_T31 l0 r).f6, (rd_T31 l0 r).f7) from (by
      unfold tree_copied.f bytes_Clone.f
      rw [if_pos HDD.out]
      rfl))
    go_enter Tryd.func21, Tryd.ntmps21
    go_wp2_with (first | ((with_reducible refine gate_dst (N := 3) rfl ?_); refine box_event ?hg (N := 3) ?hd (cs := #[.string p]) (t := 9) ?hr ?_; (case hd => rfl); (case hg => rfl); (case hr => first | (go_simp; done) | (go_simp; rfl)); intro g3 hg w3 hbox hb; have HB3 := Aside0.mk hb; have K3 := Aside0.mk hbox; clear hb hbox hg) | ((with_reducible refine gate_dst (N := 4) rfl ?_); refine box_event ?hg (N := 4) ?hd (cs := #[.string (⟨#[]⟩ : ByteArray), .int .i64 0, .int .i64 0, .int .i64 0, .int .i64 0, .int .i64 0, .string (⟨#[]⟩ : ByteArray), .slice none 0 0]) (t := 31) ?hr ?_; (case hd => rfl); (case hg => rfl); (case hr => first | (go_simp; done) | (go_simp; rfl)); intro g4 hg w4 hbox hb; have HB4 := Aside0.mk (below_step HB3.out hb); have K34 := Aside0.mk (blk_below K3.out hb); have K4 := Aside0.mk hbox; have G4 := Aside0.mk (show w.heap.size ≤ g4 by rw [hg]; exact below_size HB3.out); clear hb hbox hg) | (go_at_call 40; refine (index_calls l0 p _ k0 g3 _ _ (Kd.C_below H0.out HB4.out) (blk_cell K34.out 0) HF.out).mono ?_; rintro e w5 ⟨rfl, hb⟩; have HB5 := Aside0.mk (below_step HB4.out hb); have K5 := Aside0.mk (blk_below K4.out hb); have z0 := (HB5.out.cell (World.block_lt_of_cell? w _ x0)).trans x0; have z1 := (HB5.out.cell (World.block_lt_of_cell? w _ x1)).trans x1; have z2 := (HB5.out.cell (World.block_lt_of_cell? w _ x2)).trans x2; have z3 := (HB5.out.cell (World.block_lt_of_cell? w _ x3)).trans x3; have z4 := (HB5.out.cell (World.block_lt_of_cell? w _ x4)).trans x4; have z5 := (HB5.out.cell (World.block_lt_of_cell? w _ x5)).trans x5; have z6 := (HB5.out.cell (World.block_lt_of_cell? w _ x6)).trans x6; have z7 := (HB5.out.cell (World.block_lt_of_cell? w _ x7)).trans x7; clear hb) | (go_at_call 30; refine (tree_copied.calls (rd_T31 l0 r).f0 (rd_T31 l0 r).f1 (rd_T31 l0 r).f2 (rd_T31 l0 r).f3 (rd_T31 l0 r).f4 (rd_T31 l0 r).f5 (rd_T31 l0 r).f6 A7 c7 (rd_T31 l0 r).f7 (rd_T31 l0 r).f0 (rd_T31 l0 r).f1 (rd_T31 l0 r).f2 (rd_T31 l0 r).f3 (rd_T31 l0 r).f4 (rd_T31 l0 r).f5 (rd_T31 l0 r).f6 (rd_T31 l0 r).f7 _ (Kd.C_below HI7.out HB5.out) HL7.out (HGL.out.of HB5.out) HCO.out).mono ?_; rintro e w7 ⟨v7, rfl, ho, hb⟩; have HB7 := Aside0.mk (below_step HB5.out hb); have K7 := Aside0.mk (blk_below K5.out hb); have HD := Aside0.mk (Kd.R_types (Kd.R_lower ho (below_size HB5.out)) (blk_below K5.out hb) (by decide)); obtain ⟨Ao, co, eo⟩ := Kd.R_slice ho; subst eo; clear ho hb) | ((with_reducible refine gate_store (t := 31) (p := 4) (v := .tmp 17) rfl ?_); refine ev_set31 _ rfl (.tmp 4) (.tmp 17) rfl rfl g4 _ _ _ _ _ _ _ _ (rd_T31 l0 r).f0 (rd_T31 l0 r).f6 (rd_T31 l0 r).f1 (rd_T31 l0 r).f2 (rd_T31 l0 r).f3 (rd_T31 l0 r).f4 (rd_T31 l0 r).f5 Ao (rd_T31 l0 r).f7.length co rfl rfl K7.out (fun w8 b1 b2 => ?_)))
    refine bodyPost_ret (results_ct rfl _ _ g4 31 #[.string (rd_T31 l0 r).f0, .int .i64 (rd_T31 l0 r).f1, .int .i64 (rd_T31 l0 r).f2, .int .i64 (rd_T31 l0 r).f3, .int .i64 (rd_T31 l0 r).f4, .int .i64 (rd_T31 l0 r).f5, .string (rd_T31 l0 r).f6, .slice Ao (rd_T31 l0 r).f7.length co] (0, 0) _ rfl b1 Tryd.underlying31 rfl (by kernel_rfl)) rfl ?_
    exact ⟨below_row_ HB7.out b2 G4.out, .inr ⟨HR.out.1, HR.out.2, Ao, co, rfl, Kd.R_mono (Kd.R_grown HD.out b2 (fun k hk e => hk.2 (by injection e))) (fun _ _ => trivial)⟩⟩
end Go.Proofs.YtfkbmjfhakooiaaDoor.TR

/- tree.Find in plain Lean. Conditions: as each theorem says. -/
namespace Go.Proofs.YtfkbmjfhakooiaaDoor.TR
open Go.RowKit Go.Proofs.YtfkbmjfhakooiaaDoor.PTree Go.Proofs.YtfkbmjfhakooiaaDoorW.PrintWords Go.Proofs.YtfkbmjfhakooiaaDoorW.PrintLast Go.Proofs.YtfkbmjfhakooiaaDoorW.PrintMore
set_option linter.unusedVariables false
set_option linter.unusedSimpArgs false
theorem find0_total (l : List S31) (p : ByteArray) : ∀ (k : Nat) (i : Int), 0 ≤ i → i ≤ (l.length : Int) → (l.length : Int) - i + 1 ≤ k → ∃ r, find0 l p k i = some r ∧ (r = -1 → ∀ j, i ≤ j → j < (l.length : Int) → (rd_T31 l j).f0.toList ≠ p.toList)
  | 0, i, h0, hi, h1 => by omega
  | k + 1, i, h0, hi, h1 => by
    unfold find0
    by_cases c1 : i < (l.length : Int)
    · rw [if_pos c1]
      by_cases c2 : ((rd_T31 l i).f0.toList == p.toList) = true
      · rw [if_pos c2]
        exact ⟨i, rfl, fun e => by omega⟩
      · rw [if_neg c2]
        obtain ⟨r, hr, hq⟩ := find0_total l p k (i + 1) (by omega) (by omega) (by omega)
        refine ⟨r, hr, fun e j hj hj2 => ?_⟩
        by_cases ej : j = i
        · rw [ej]
          exact fun e2 => c2 (beq_iff_eq.mpr e2)
        · exact hq e j (by omega) hj2
    · rw [if_neg c1]
      exact ⟨-1, rfl, fun _ j hj hj2 => by omega⟩
theorem toList_inj {a b : ByteArray} (h : a.toList = b.toList) : a = b := by
  rw [Lib.toList_data, Lib.toList_data] at h
  exact ba_ext h
/-- What is there is found. -/
theorem find0_there (l : List S31) (hu : Unlike l) (x : S31) (hx : x ∈ l) : ∃ r, find0 l x.f0 (l.length + 1) 0 = some r ∧ 0 ≤ r ∧ r < (l.length : Int) ∧ rd_T31 l r = x := by
  obtain ⟨j, j0, j1, e⟩ := rd_ix l x hx
  obtain ⟨r, hr, hq⟩ := find0_total l x.f0 (l.length + 1) 0 (by omega) (by omega) (by omega)
  rcases find0_spec l x.f0 _ 0 r (by omega) hr with h | ⟨r0, r1, h⟩
  · exact absurd (by rw [e]) (hq h j j0 j1)
  · have h2 : (rd_T31 l r).f0 = (rd_T31 l j).f0 := by rw [e]; exact toList_inj h
    have h3 : r = j := by
      rcases Int.lt_trichotomy r j with h4 | h4 | h4
      · exact absurd h2 (hu r j r0 h4 j1)
      · exact h4
      · exact absurd h2.symm (hu j r j0 h4 r1)
    exact ⟨r, hr, r0, r1, by rw [h3, e]⟩
end Go.Proofs.YtfkbmjfhakooiaaDoor.TR

/- What the law on Build asks, in plain Lean. Conditions: as each theorem says. -/
namespace Go.Proofs.YtfkbmjfhakooiaaDoor.TR
open Go.RowKit Go.Proofs.YtfkbmjfhakooiaaDoor.PTree Go.Proofs.YtfkbmjfhakooiaaDoorW.PrintWords Go.Proofs.YtfkbmjfhakooiaaDoorW.PrintLast Go.Proofs.YtfkbmjfhakooiaaDoorW.PrintMore
set_option linter.unusedVariables false
set_option linter.unusedSimpArgs false
theorem meant_fits {x : S31} (h : MeantE x) : x.f0.size ≤ 400 ∧ fits x = true := by
  obtain ⟨h0, h1, h2, h3⟩ := h
  have := h0.1
  refine ⟨this, ?_⟩
  simp only [fits, Bool.and_eq_true, decide_eq_true_eq]
  exact ⟨⟨⟨by omega, by omega⟩, by omega⟩, h3⟩
theorem sorted_meant {K : Nat} {xs zs : List S31} (hx : ∀ x ∈ xs, MeantE x) (h : SortR K xs zs) : ∀ x ∈ zs, MeantE x := fun x hz => hx x (h.1.mem_iff.1 hz)
theorem sorted_check {K : Nat} (hK : 3000000 ≤ K) {xs zs : List S31} (hx : ∀ x ∈ xs, MeantE x) (h : SortR K xs zs) : ∃ r, tree_Check.f K zs = some r :=
  check_total K 400 zs (by omega) (by omega) (fun x hz => meant_fits (sorted_meant hx h x hz))
theorem check_none {K : Nat} {l : List S31} {r : Int × Option Int} (h : tree_Check.f K l = some r) (hr : r.2 = none) : r = (-1, none) := by
  unfold tree_Check.f at h
  split at h
  · obtain rfl := Option.some.inj h
    cases hr
  · exact none_l K l _ _ _ _ _ r h hr
/-- What is known of what is built. -/
structure Built (K : Nat) (l zs : List S31) : Prop where
  len : zs.length ≤ 200
  ok : ∀ j, 0 ≤ j → j < (zs.length : Int) → OkAt zs j
  meant : ∀ x ∈ zs, MeantE x
  check : tree_Check.f K zs = some (-1, none)
  again : ∀ m : List S31, m.Perm zs → buildA K m = some (m, none)
  sorted : ∀ m qs : List S31, m.Perm zs → SortR K m qs → qs = zs
  find : ∀ x ∈ l, (PM.normB x.f0).2 = none ∧ ∃ r, find0 zs (PM.normB x.f0).1 (zs.length + 1) 0 = some r ∧ 0 ≤ r ∧ r < (zs.length : Int) ∧ (rd_T31 zs r).f1 = x.f1 ∧ (rd_T31 zs r).f2 = x.f2 ∧ (rd_T31 zs r).f7 = x.f7
theorem unlike_eq {zs : List S31} (hu : Unlike zs) {p q : S31} (hp : p ∈ zs) (hq : q ∈ zs) (e : p.f0 = q.f0) : p = q := by
  obtain ⟨i, i0, i1, ei⟩ := rd_ix zs p hp
  obtain ⟨j, j0, j1, ej⟩ := rd_ix zs q hq
  rcases Int.lt_trichotomy i j with h | h | h
  · exact absurd (by rw [ei, ej]; exact e) (hu i j i0 h j1)
  · rw [← ei, ← ej, h]
  · exact absurd (by rw [ei, ej]; exact e.symm) (hu j i j0 h i1)
theorem built (K : Nat) (hK : 3000000 ≤ K) (l xs zs : List S31) (hl : ∀ x ∈ l, SmallE x) (hx : ∀ x ∈ xs, MeantE x) (hf : ∀ x ∈ l, ∃ n, normOf K x = some n ∧ n.2.2.2.2.2.2.2.2 = none ∧ mk31 n ∈ xs) (h : SortR K xs zs) (r : Int × Option Int) (hc : tree_Check.f K zs = some r) (hr : r.2 = none) : Built K l zs := by
  have hm := sorted_meant hx h
  obtain ⟨h1, h2⟩ := check_ok K 400 zs (by omega) (by omega) (fun x hz => meant_fits (hm x hz)) r hc hr
  have hu := unlike_of zs zs h2 (List.Perm.refl _)
  have hd : ∀ x ∈ zs, x.f7.length ≤ 1000000000000 := fun x hz => by have := (hm x hz).2.2.1; omega
  refine ⟨h1, h2, hm, by rw [hc, check_none hc hr], fun m hp => buildA_tree K zs m (by omega) h1 h2 hd hp, fun m qs hp hs => ?_, fun x hxl => ?_⟩
  · refine sortR_uniq (B := 400) (by omega) (by omega) (fun x hz => (hm x (hp.mem_iff.1 hz)).1.1) hs hp.symm ((asc_pair zs h2).imp (fun {p q} h => by omega)) (fun p q hp1 hq1 e => unlike_eq hu (hp.mem_iff.1 hp1) (hp.mem_iff.1 hq1) e)
  · obtain ⟨n, n1, n2, n3⟩ := hf x hxl
    obtain ⟨s0, s1, s2, s3⟩ := hl x hxl
    obtain ⟨q1, q2, _, q3, q4, q5, _⟩ := normOf_shape K x n (by omega) (by omega) (by omega) n1 n2
    obtain ⟨r, r1, r2, r3, r4⟩ := find0_there zs hu (mk31 n) (h.1.mem_iff.2 n3)
    rw [q2] at r1
    exact ⟨q1, r, r1, r2, r3, by rw [r4]; exact q3, by rw [r4]; exact q4, by rw [r4]; exact q5⟩
end Go.Proofs.YtfkbmjfhakooiaaDoor.TR

/- The references on paths in plain Lean; the last part of a path. Conditions: as each theorem says. -/
namespace Go.Proofs.YtfkbmjfhakooiaaDoor
open Go.RowKit Go.Proofs.YtfkbmjfhakooiaaDoor.PTree Go.Proofs.YtfkbmjfhakooiaaDoorW.PrintWords Go.Proofs.YtfkbmjfhakooiaaDoorW.PrintLast
set_option linter.unusedSimpArgs false
set_option linter.unusedVariables false
namespace PM
/-! ### utf -/
theorem getD_get {l : List UInt8} {i : Nat} (h : i < l.length) : l.getD i 0 = l[i] := by rw [List.getD_eq_getElem?_getD, List.getElem?_eq_getElem h]; rfl
/-- The loop over what follows a lead byte. -/
theorem utf_l1_end (s : ByteArray) (i n k : Nat) (lo hi : Int) (hs : s.size ≤ 4611686018427387904) (hi2 : i ≤ s.size) (hn : n ≤ 4) : amphoraref08_utf.l1 (k + 1) s (i : Int) (n : Int) lo hi (n : Int) = amphoraref08_utf.l0 k s ((i + n : Nat) : Int) := by
  simp only [amphoraref08_utf.l1]
  rw [if_neg (by omega), w64 (by omega) (by omega), Int.natCast_add]
theorem utf_l1_step (s : ByteArray) (i n j k : Nat) (lo hi : Int) (hs : s.size ≤ 4611686018427387904) (hj : j < n) (hn : i + n ≤ s.size) (hn4 : n ≤ 4) :
    amphoraref08_utf.l1 (k + 1) s (i : Int) (n : Int) lo hi (j : Int) = if ((s.data.toList.drop i).getD j 0).toNat < lo then some false else if ((s.data.toList.drop i).getD j 0).toNat > hi then some false else amphoraref08_utf.l1 k s (i : Int) (n : Int) 128 191 ((j + 1 : Nat) : Int) := by
  simp only [amphoraref08_utf.l1]
  rw [if_pos (by omega), w64 (show -9223372036854775808 ≤ (i : Int) + (j : Int) by omega) (by omega), w64 (show -9223372036854775808 ≤ (j : Int) + 1 by omega) (by omega), if_pos (by omega), if_pos (by omega), ← Int.natCast_add, bt_get s (i + j) (by omega)]
  have : (s.data.toList.drop i).getD j 0 = s.data.toList[i + j]'(by rw [dl]; omega) := by
    rw [getD_get (by rw [List.length_drop, dl]; omega), List.getElem_drop]
  rw [this, Int.natCast_add]; rfl
theorem utf_j4 (s : ByteArray) (i n k : Nat) (lo hi : Int) (hs : s.size ≤ 4611686018427387904) (hi2 : i ≤ s.size) (hn : n ≤ 4) :
    amphoraref08_utf.j4 (k + 2) s (i : Int) (n : Int) lo hi = if n = 0 ∨ s.size < i + n then some false else amphoraref08_utf.l1 k s (i : Int) (n : Int) lo hi 1 := by
  simp only [amphoraref08_utf.j4, amphoraref08_utf.j5]
  by_cases h0 : n = 0
  · subst h0; rw [if_pos (by omega), if_pos trivial, if_pos (.inl rfl)]
  · rw [if_neg (by omega), w64 (by omega) (by omega)]
    by_cases h1 : s.size < i + n
    · rw [decide_eq_true (by omega), if_pos rfl, if_pos (.inr h1)]
    · rw [decide_eq_false (by omega), if_neg (by simp), if_neg (by omega)]
/-- How many bytes a lead byte asks, and the bounds of the next. -/
def leadN (b : Nat) : Nat × Nat × Nat :=
  if b < 194 then (0, 128, 191) else if b < 224 then (2, 128, 191) else if b = 224 then (3, 160, 191) else if b = 237 then (3, 128, 159) else if b < 240 then (3, 128, 191) else if b = 240 then (4, 144, 191) else if b < 244 then (4, 128, 191) else if b = 244 then (4, 128, 143) else (0, 128, 191)
theorem leadN_le (b : Nat) : (leadN b).1 ≤ 4 ∧ (leadN b).1 ≠ 1 := by
  unfold leadN
  repeat' split
  all_goals decide
theorem utf_lead (s : ByteArray) (i k : Nat) (hi : i < s.size) (h0 : 128 ≤ ((s.data.toList.drop i).getD 0 0).toNat) :
    ∃ q, k ≤ q ∧ q ≤ k + 5 ∧ amphoraref08_utf.l0 (k + 6) s (i : Int) = amphoraref08_utf.j4 q s (i : Int) ((leadN ((s.data.toList.drop i).getD 0 0).toNat).1 : Int) ((leadN ((s.data.toList.drop i).getD 0 0).toNat).2.1 : Int) ((leadN ((s.data.toList.drop i).getD 0 0).toNat).2.2 : Int) := by
  have hb : bt s (i : Int) = (((s.data.toList.drop i).getD 0 0).toNat : Int) := by
    rw [bt_get s i hi, getD_get (by rw [List.length_drop, dl]; omega), List.getElem_drop]; rfl
  obtain ⟨b, hbb⟩ : ∃ b : Nat, b = ((s.data.toList.drop i).getD 0 0).toNat := ⟨_, rfl⟩
  have hb256 : b < 256 := by rw [hbb]; exact UInt8.toNat_lt _
  rw [← hbb] at hb h0 ⊢
  simp only [amphoraref08_utf.l0]
  rw [if_pos (by omega), if_pos (by omega), hb, if_neg (by omega)]
  unfold leadN
  by_cases c0 : b < 194
  · rw [if_neg (by omega), if_pos c0]
    refine ⟨k + 2, by omega, by omega, ?_⟩
    simp only [amphoraref08_utf.j1, amphoraref08_utf.j2, amphoraref08_utf.j3]
    rw [if_neg (by simp), if_neg (by omega), if_neg (by simp), if_neg (by omega), if_neg (by simp)]; rfl
  rw [if_pos (by omega), if_neg c0]
  by_cases c1 : b < 224
  · rw [if_pos c1]
    refine ⟨k + 4, by omega, by omega, ?_⟩
    simp only [amphoraref08_utf.j1]
    rw [decide_eq_true (by omega), if_pos rfl]; rfl
  rw [if_neg c1]
  simp only [amphoraref08_utf.j1]
  rw [decide_eq_false (by omega), if_neg (by simp), if_pos (by omega)]
  simp only [amphoraref08_utf.j2]
  by_cases c2 : b < 240
  · rw [decide_eq_true (by omega), if_pos rfl]
    refine ⟨k + 3, by omega, by omega, ?_⟩
    by_cases d1 : b = 224
    · rw [if_pos (by omega), if_neg (by omega), if_pos d1]; rfl
    · rw [if_neg (by omega), if_neg d1]
      by_cases d2 : b = 237
      · rw [if_pos (by omega), if_pos d2]; rfl
      · rw [if_neg (by omega), if_neg d2, if_pos c2]; rfl
  rw [decide_eq_false (by omega), if_neg (by simp), if_pos (by omega), if_neg (by omega), if_neg (by omega), if_neg c2]
  simp only [amphoraref08_utf.j3]
  refine ⟨k + 2, by omega, by omega, ?_⟩
  by_cases c3 : b ≤ 244
  · rw [decide_eq_true (by omega), if_pos rfl]
    by_cases d1 : b = 240
    · rw [if_pos (by omega), if_neg (by omega), if_pos d1]; rfl
    · rw [if_neg (by omega), if_neg d1]
      by_cases d2 : b = 244
      · rw [if_pos (by omega), if_neg (by omega), if_pos d2]; rfl
      · rw [if_neg (by omega), if_pos (by omega)]; rfl
  · rw [decide_eq_false (by omega), if_neg (by simp), if_neg (by omega), if_neg (by omega), if_neg (by omega)]; rfl
/-- checkN at what the tables say is leadN's test. -/
theorem checkN_lead (n b b1 b2 b3 : Nat) (hb : 128 ≤ b) (hb2 : b < 256) : Lib.checkN n b1 b2 b3 (Lib.firstT b % 8) (Lib.accLo (Lib.firstT b / 16)) (Lib.accHi (Lib.firstT b / 16)) =
    if (leadN b).1 = 0 ∨ n < (leadN b).1 ∨ b1 < (leadN b).2.1 ∨ (leadN b).2.2 < b1 ∨ (3 ≤ (leadN b).1 ∧ (b2 < 128 ∨ 191 < b2)) ∨ (4 ≤ (leadN b).1 ∧ (b3 < 128 ∨ 191 < b3)) then none else some (leadN b).1 := by
  unfold leadN
  by_cases c0 : b < 194
  · simp [Lib.firstT, Lib.checkN, show ¬ b < 128 by omega, c0]
  by_cases c1 : b < 224
  · simp [Lib.firstT, Lib.checkN, Lib.accLo, Lib.accHi, or_assoc, show ¬ b < 128 by omega, c0, c1]
  by_cases c2 : b = 224
  · subst c2; simp [Lib.firstT, Lib.checkN, Lib.accLo, Lib.accHi, or_assoc]
  by_cases c4 : b = 237
  · subst c4; simp [Lib.firstT, Lib.checkN, Lib.accLo, Lib.accHi, or_assoc]
  by_cases c5 : b < 240
  · by_cases c3 : b < 237
    · simp [Lib.firstT, Lib.checkN, Lib.accLo, Lib.accHi, or_assoc, show ¬ b < 128 by omega, c0, c1, c2, c3, c4, c5]
    · simp [Lib.firstT, Lib.checkN, Lib.accLo, Lib.accHi, or_assoc, show ¬ b < 128 by omega, c0, c1, c2, c3, c4, c5]
  by_cases c6 : b = 240
  · subst c6; simp [Lib.firstT, Lib.checkN, Lib.accLo, Lib.accHi, or_assoc]
  by_cases c7 : b < 244
  · simp [Lib.firstT, Lib.checkN, Lib.accLo, Lib.accHi, or_assoc, show ¬ b < 128 by omega, show ¬ b < 237 by omega, c0, c1, c2, c4, c5, c6, c7]
  by_cases c8 : b = 244
  · subst c8; simp [Lib.firstT, Lib.checkN, Lib.accLo, Lib.accHi, or_assoc]
  · simp [Lib.firstT, Lib.checkN, Lib.accLo, Lib.accHi, or_assoc, show ¬ b < 128 by omega, show ¬ b < 237 by omega, c0, c1, c2, c4, c5, c6, c7, c8]
theorem utf_l (s : ByteArray) (hs : s.size ≤ 4611686018427387904) : ∀ (m i k : Nat), i + m = s.size → 12 * m + 12 ≤ k → amphoraref08_utf.l0 k s (i : Int) = some (Lib.validD (s.data.toList.drop i)) := by
  intro m
  induction m using Nat.strongRecOn with
  | _ m ih =>
  intro i k hi hk
  obtain ⟨k, rfl⟩ : ∃ j, k = j + 12 := ⟨k - 12, by omega⟩
  by_cases hm : m = 0
  · subst hm
    simp only [amphoraref08_utf.l0]
    rw [if_neg (by omega), List.drop_eq_nil_of_le (by rw [dl]; omega)]; rfl
  have hlt : i < s.size := by omega
  have hne : s.data.toList.drop i ≠ [] := by intro h; have := congrArg List.length h; rw [List.length_drop, dl] at this; simp at this; omega
  have hget : (s.data.toList.drop i).getD 0 0 = s.data.toList[i]'(by rw [dl]; omega) := by rw [getD_get (by rw [List.length_drop, dl]; omega), List.getElem_drop]; rfl
  by_cases hb : ((s.data.toList.drop i).getD 0 0).toNat < 128
  · simp only [amphoraref08_utf.l0]
    rw [if_pos (by omega), if_pos (by omega), bt_get s i hlt, ← hget, if_pos (by omega)]
    have e1 := utf_j4 s i 1 (k + 9) 128 191 hs (by omega) (by omega)
    rw [show ((1 : Nat) : Int) = 1 from rfl] at e1
    rw [e1, if_neg (by omega)]
    have e2 := utf_l1_end s i 1 (k + 8) 128 191 hs (by omega) (by omega)
    rw [show ((1 : Nat) : Int) = 1 from rfl] at e2
    rw [e2, ih (m - 1) (by omega) (i + 1) (k + 8) (by omega) (by omega)]
    rw [List.drop_eq_getElem_cons (i := i) (by rw [dl]; omega), Lib.validD_cons _ _ (by rw [← hget]; exact hb)]
  · obtain ⟨q, q1, q2, e⟩ := utf_lead s i (k + 6) hlt (by omega)
    rw [e, Lib.validD_lead _ hne (by omega), checkN_lead _ _ _ _ _ (by omega) (UInt8.toNat_lt _)]
    obtain ⟨n, lo, hi2, hn⟩ : ∃ n lo hi, leadN ((s.data.toList.drop i).getD 0 0).toNat = (n, lo, hi) := ⟨_, _, _, rfl⟩
    have h4 := leadN_le ((s.data.toList.drop i).getD 0 0).toNat
    rw [hn] at h4 ⊢
    dsimp only at h4 ⊢
    obtain ⟨q, rfl⟩ : ∃ j, q = j + 6 := ⟨q - 6, by omega⟩
    rw [utf_j4 s i n (q + 4) _ _ hs (by omega) h4.1]
    rw [List.length_drop, dl]
    by_cases hz : n = 0 ∨ s.size < i + n
    · rw [if_pos hz, if_pos (by omega)]
    · rw [if_neg hz]
      have hn2 : 2 ≤ n := by omega
      have hrec : ∀ k', 12 * m ≤ k' → amphoraref08_utf.l0 k' s ((i + n : Nat) : Int) = some (Lib.validD ((s.data.toList.drop i).drop n)) := by
        intro k' hk'
        rw [List.drop_drop]
        exact ih (m - n) (by omega) (i + n) k' (by omega) (by omega)
      have s1 := utf_l1_step s i n 1 (q + 3) lo hi2 hs (by omega) (by omega) h4.1
      rw [show ((1 : Nat) : Int) = 1 from rfl] at s1
      rw [s1]
      by_cases c1 : ((s.data.toList.drop i).getD 1 0).toNat < lo
      · rw [if_pos (by omega), if_pos (by omega)]
      rw [if_neg (by omega)]
      by_cases c2 : hi2 < ((s.data.toList.drop i).getD 1 0).toNat
      · rw [if_pos (by omega), if_pos (by omega)]
      rw [if_neg (by omega)]
      by_cases d2 : n = 2
      · subst d2
        rw [utf_l1_end s i 2 (q + 2) 128 191 hs (by omega) (by omega), hrec _ (by omega), if_neg (by omega)]
      rw [utf_l1_step s i n (1 + 1) (q + 2) 128 191 hs (by omega) (by omega) h4.1, show (1 + 1 : Nat) = 2 from rfl]
      by_cases c3 : ((s.data.toList.drop i).getD 2 0).toNat < 128
      · rw [if_pos (by omega), if_pos (by omega)]
      rw [if_neg (by omega)]
      by_cases c4 : 191 < ((s.data.toList.drop i).getD 2 0).toNat
      · rw [if_pos (by omega), if_pos (by omega)]
      rw [if_neg (by omega)]
      by_cases d3 : n = 3
      · subst d3
        rw [utf_l1_end s i 3 (q + 1) 128 191 hs (by omega) (by omega), hrec _ (by omega), if_neg (by omega)]
      have d4 : n = 4 := by omega
      subst d4
      rw [utf_l1_step s i 4 (2 + 1) (q + 1) 128 191 hs (by omega) (by omega) h4.1, show (2 + 1 : Nat) = 3 from rfl]
      by_cases c5 : ((s.data.toList.drop i).getD 3 0).toNat < 128
      · rw [if_pos (by omega), if_pos (by omega)]
      rw [if_neg (by omega)]
      by_cases c6 : 191 < ((s.data.toList.drop i).getD 3 0).toNat
      · rw [if_pos (by omega), if_pos (by omega)]
      rw [if_neg (by omega), utf_l1_end s i 4 q 128 191 hs (by omega) (by omega), hrec _ (by omega), if_neg (by omega)]
theorem utf_f (s : ByteArray) (k : Nat) (hs : s.size ≤ 4611686018427387904) (hk : 12 * s.size + 12 ≤ k) : amphoraref08_utf.f k s = some (Lib.validD s.data.toList) := utf_l s hs s.size 0 k (by omega) hk
/-! ### Text, Pieces, Part, Split -/
theorem rtext_l (s : ByteArray) (hs : s.size ≤ 4611686018427387904) : ∀ (m i k : Nat), i + m = s.size → m + 12 * s.size + 13 ≤ k → amphoraref08_Text.l0 k s (i : Int) = some (decide (0 ∉ s.data.toList.drop i) && Lib.validD s.data.toList)
  | 0, i, k, hi, hk => by
    obtain ⟨k, rfl⟩ : ∃ j, k = j + 1 := ⟨k - 1, by omega⟩
    simp only [amphoraref08_Text.l0]
    rw [if_neg (by omega), utf_f s k hs (by omega), Option.bind_some, List.drop_eq_nil_of_le (by rw [dl]; omega)]
    simp
  | m + 1, i, k, hi, hk => by
    obtain ⟨k, rfl⟩ : ∃ j, k = j + 1 := ⟨k - 1, by omega⟩
    simp only [amphoraref08_Text.l0]
    rw [if_pos (by omega), if_pos (by omega), bt_get s i (by omega), List.drop_eq_getElem_cons (by rw [dl]; omega)]
    by_cases h0 : s.data.toList[i]'(by rw [dl]; omega) = 0
    · rw [if_pos (by rw [h0]; rfl)]
      rw [decide_eq_false (fun h => h (by rw [h0]; exact List.mem_cons_self ..))]; rfl
    · have h0' : ¬ ((s.data.toList[i]'(by rw [dl]; omega)).toNat : Int) = 0 := by
        intro h
        apply h0
        apply UInt8.toNat_inj.1
        have : (s.data.toList[i]'(by rw [dl]; omega)).toNat = 0 := by omega
        rw [this]; rfl
      rw [if_neg h0', w64 (by omega) (by omega), show (i : Int) + 1 = ((i + 1 : Nat) : Int) by omega, rtext_l s hs m (i + 1) k (by omega) (by omega)]
      congr 2
      apply decide_eq_decide.2
      rw [List.mem_cons, not_or]
      exact ⟨fun h => ⟨fun e => h0 e.symm, h⟩, fun h => h.2⟩
theorem rtext_f (s : ByteArray) (m : Int) (k : Nat) (hs : s.size ≤ 4611686018427387904) (hk : 13 * s.size + 20 ≤ k) : amphoraref08_Text.f k s m = some (decide (TextP s m)) := by
  obtain ⟨k, rfl⟩ : ∃ j, k = j + 1 := ⟨k - 1, by omega⟩
  unfold amphoraref08_Text.f
  simp only [amphoraref08_Text.j0]
  by_cases h1 : s.size = 0
  · rw [if_pos (by omega), if_pos trivial, decide_eq_false (fun h => by have := h.1; omega)]
  · rw [if_neg (by omega)]
    by_cases h2 : (s.size : Int) > m
    · rw [decide_eq_true h2, if_pos rfl, decide_eq_false (fun h => by have := h.2.1; omega)]
    · rw [decide_eq_false h2, if_neg (by simp)]
      have := rtext_l s hs s.size 0 k (by omega) (by omega)
      rw [show ((0 : Nat) : Int) = 0 from rfl, List.drop_zero] at this
      rw [this]
      congr 1
      by_cases h3 : Lib.validD s.data.toList = true
      · rw [h3, Bool.and_true]
        apply decide_eq_decide.2
        exact ⟨fun h => ⟨by omega, by omega, h3, h⟩, fun h => h.2.2.2⟩
      · rw [Bool.eq_false_iff.2 h3, Bool.and_false, decide_eq_false (fun h => h3 h.2.2.1)]
theorem ext_size (s : ByteArray) (a b : Nat) : (s.extract a b).size = min b s.size - a := by rw [ByteArray.size_extract]
theorem pieces_cut (s : ByteArray) (from_ i : Nat) (hf : from_ ≤ i) (hi : i < s.size) (h47 : s.data.toList[i]'(by rw [dl]; omega) = 47) (hn : 47 ∉ (s.extract from_ i).data.toList) :
    pieces (s.extract from_ s.size) = s.extract from_ i :: pieces (s.extract (i + 1) s.size) := by
  have hl : ∀ a, (s.extract a s.size).data.toList = s.data.toList.drop a := fun a => by rw [ext_list, List.take_of_length_le (by rw [dl]; exact Nat.le_refl _)]
  apply map_dl_inj
  rw [pieces_lists, List.map_cons, pieces_lists, hl, hl]
  have e : s.data.toList.drop from_ = (s.extract from_ i).data.toList ++ 47 :: s.data.toList.drop (i + 1) := by
    rw [ext_list, ← h47, ← List.drop_eq_getElem_cons (by rw [dl]; omega)]
    conv => lhs; rw [← List.take_append_drop i s.data.toList]
    rw [List.drop_append_of_le_length (by rw [List.length_take, dl]; omega)]
  rw [e, splitL_cut, splitL_plain hn]; rfl
theorem rpieces_l (s : ByteArray) (hs : s.size ≤ 4611686018427387904) : ∀ (m i f k : Nat) (out : List ByteArray), i + m = s.size → f ≤ i → 47 ∉ (s.extract f i).data.toList → out.length + m < 8796093022208 → m + 2 ≤ k →
    amphoraref08_Pieces.l0 k s out (f : Int) (i : Int) = some (out ++ pieces (s.extract f s.size))
  | 0, i, f, k, out, hi, hf, hn, ho, hk => by
    obtain ⟨k, rfl⟩ : ∃ j, k = j + 2 := ⟨k - 2, by omega⟩
    simp only [amphoraref08_Pieces.l0]
    rw [if_pos (by omega), if_pos (by omega), if_pos (by omega), if_pos (by omega), if_pos (by omega), w64 (by omega) (by omega), if_neg (by omega)]
    have hi2 : i = s.size := by omega
    subst hi2
    rw [Int.toNat_natCast, Int.toNat_natCast, pieces_none (ib_neg.2 hn)]
  | m + 1, i, f, k, out, hi, hf, hn, ho, hk => by
    obtain ⟨k, rfl⟩ : ∃ j, k = j + 1 := ⟨k - 1, by omega⟩
    simp only [amphoraref08_Pieces.l0]
    rw [if_pos (by omega), if_neg (by omega), if_pos (by omega), if_pos (by omega), bt_get s i (by omega), w64 (by omega) (by omega), show (i : Int) + 1 = ((i + 1 : Nat) : Int) by omega]
    by_cases h47 : s.data.toList[i]'(by rw [dl]; omega) = 47
    · rw [if_pos (by rw [h47]; rfl), if_pos (by omega), if_pos (by omega), if_pos (by omega), Int.toNat_natCast, Int.toNat_natCast]
      rw [rpieces_l s hs m (i + 1) (i + 1) k _ (by omega) (Nat.le_refl _) (by rw [ext_list]; simp [List.drop_take]) (by rw [List.length_append]; simp only [List.length_cons, List.length_nil]; omega) (by omega)]
      rw [pieces_cut s f i hf (by omega) h47 hn, List.append_assoc]; rfl
    · have h47' : ¬ ((s.data.toList[i]'(by rw [dl]; omega)).toNat : Int) = 47 := by
        intro h
        apply h47
        apply UInt8.toNat_inj.1
        have : (s.data.toList[i]'(by rw [dl]; omega)).toNat = 47 := by omega
        rw [this]; rfl
      rw [if_neg h47', rpieces_l s hs m (i + 1) f k out (by omega) (by omega) ?_ (by omega) (by omega)]
      rw [ext_list] at hn ⊢
      rw [List.take_add_one, List.getElem?_eq_getElem (by rw [dl]; omega)]
      rw [List.drop_append_of_le_length (by rw [List.length_take, dl]; omega)]
      intro h
      rcases List.mem_append.1 h with h | h
      · exact hn h
      · simp at h; exact h47 h.symm
theorem rpieces_f (s : ByteArray) (k : Nat) (hs : s.size ≤ 1000000000000) (hk : s.size + 2 ≤ k) : amphoraref08_Pieces.f k s = some (pieces s) := by
  unfold amphoraref08_Pieces.f
  have := rpieces_l s (by omega) s.size 0 0 k [] (by omega) (Nat.le_refl _) (by rw [ext_list]; simp) (by simp; omega) hk
  rw [show ((0 : Nat) : Int) = 0 from rfl, ByteArray.extract_zero_size] at this
  exact this
theorem rpart_f (s : ByteArray) (k : Nat) (hs : s.size ≤ 4611686018427387904) (hk : 13 * s.size + 20 ≤ k) : amphoraref08_Part.f k s = some (decide (PartP s)) := by
  unfold amphoraref08_Part.f
  rw [rtext_f s 120 k (by omega) hk, Option.bind_some, ba_tl]
  by_cases h0 : TextP s 120
  · rw [decide_eq_true h0, if_pos rfl]
    by_cases h1 : s.data.toList = [46]
    · rw [if_pos h1, decide_eq_false (fun h => h.2.1 h1)]
    · rw [if_neg h1]
      by_cases h2 : s.data.toList = [46, 46]
      · rw [if_pos h2, decide_eq_false (fun h => h.2.2.1 h2)]
      · rw [if_neg h2, rpieces_f s k (by have := h0.2.1; omega) (by omega), Option.bind_some]
        congr 1
        by_cases h3 : 47 ∈ s.data.toList
        · rw [decide_eq_false (fun h => h.2.2.2 h3)]
          rw [beq_eq_false_iff_ne]
          intro h
          exact pieces_one.1 (by omega) h3
        · rw [decide_eq_true (show PartP s from ⟨h0, h1, h2, h3⟩)]
          rw [beq_iff_eq, pieces_one.2 h3]; rfl
  · rw [decide_eq_false h0, if_neg (by simp), decide_eq_false (fun h => h0 h.1)]
theorem rd_get (xs : List ByteArray) (i : Nat) (h : i < xs.length) : rdOf ByteArray.empty xs (i : Int) = xs[i] := by unfold rdOf; rw [Int.toNat_natCast, List.getD_eq_getElem?_getD, List.getElem?_eq_getElem h]; rfl
theorem rsplit_l (xs : List ByteArray) (B : Nat) (hB : B ≤ 1000000000000) (hz : ∀ x ∈ xs, x.size ≤ B) (hl : xs.length ≤ 1000000000000) : ∀ (m i k : Nat), i + m = xs.length → m + 13 * B + 21 ≤ k → amphoraref08_Split.l0 k xs (i : Int) = some (if ∀ x ∈ xs.drop i, PartP x then xs else [])
  | 0, i, k, hi, hk => by
    obtain ⟨k, rfl⟩ : ∃ j, k = j + 1 := ⟨k - 1, by omega⟩
    simp only [amphoraref08_Split.l0]
    rw [if_neg (by omega), if_pos (by rw [List.drop_eq_nil_of_le (by omega)]; simp)]
  | m + 1, i, k, hi, hk => by
    obtain ⟨k, rfl⟩ : ∃ j, k = j + 1 := ⟨k - 1, by omega⟩
    simp only [amphoraref08_Split.l0]
    have hlt : i < xs.length := by omega
    have hsz := hz _ (List.getElem_mem hlt)
    rw [if_pos (by omega), if_pos (by omega), rd_get xs i hlt, rpart_f _ k (by omega) (by omega), Option.bind_some, List.drop_eq_getElem_cons hlt]
    by_cases hp : PartP xs[i]
    · rw [decide_eq_true hp, if_pos rfl, w64 (by omega) (by omega), show (i : Int) + 1 = ((i + 1 : Nat) : Int) by omega, rsplit_l xs B hB hz hl m (i + 1) k (by omega) (by omega)]
      congr 1
      by_cases hq : ∀ x ∈ xs.drop (i + 1), PartP x
      · rw [if_pos hq, if_pos (fun x hx => by rcases List.mem_cons.1 hx with rfl | hx; exact hp; exact hq x hx)]
      · rw [if_neg hq, if_neg (fun h => hq (fun x hx => h x (List.mem_cons_of_mem _ hx)))]
    · rw [decide_eq_false hp, if_neg (by simp), if_neg (fun h => hp (h xs[i] (List.mem_cons_self ..)))]
theorem rsplit_f (s : ByteArray) (k : Nat) (hk : 6000 ≤ k) : amphoraref08_Split.f k s = some (splitB s) := by
  unfold amphoraref08_Split.f splitB
  by_cases h0 : s.size ≤ 400
  · rw [if_neg (by omega), rpieces_f s k (by omega) (by omega), Option.bind_some]
    have hl := pieces_len s
    have := rsplit_l (pieces s) 400 (by omega) (fun x hx => by have := pieces_size hx; omega) (by omega) (pieces s).length 0 k (by omega) (by omega)
    rw [show ((0 : Nat) : Int) = 0 from rfl, List.drop_zero] at this
    rw [this]
    congr 1
    by_cases h1 : ∀ x ∈ pieces s, PartP x
    · rw [if_pos h1, if_pos ⟨h0, h1⟩]
    · rw [if_neg h1, if_neg (fun h => h1 h.2)]
  · rw [if_pos (by omega), if_neg (fun h => h0 h.1)]
theorem rabove_l (p q : List ByteArray) (hp : p.length ≤ 4611686018427387904) (hpq : p.length ≤ q.length) : ∀ (m i k : Nat), i + m = p.length → m + 1 ≤ k → amphoraref08_Above.l0 k p q (i : Int) = some (decide (p.drop i <+: q.drop i))
  | 0, i, k, hi, hk => by
    obtain ⟨k, rfl⟩ : ∃ j, k = j + 1 := ⟨k - 1, by omega⟩
    simp only [amphoraref08_Above.l0]
    rw [if_neg (by omega), List.drop_eq_nil_of_le (show p.length ≤ i by omega), decide_eq_true List.nil_prefix]
  | m + 1, i, k, hi, hk => by
    obtain ⟨k, rfl⟩ : ∃ j, k = j + 1 := ⟨k - 1, by omega⟩
    have hlt : i < p.length := by omega
    have hlq : i < q.length := by omega
    simp only [amphoraref08_Above.l0]
    rw [if_pos (by omega), if_pos (by omega), if_pos (by omega), rd_get p i hlt, rd_get q i hlq, ba_tl, ba_tl]
    have e : (p.drop i <+: q.drop i) ↔ (p[i] = q[i] ∧ p.drop (i + 1) <+: q.drop (i + 1)) := by
      rw [List.drop_eq_getElem_cons hlt, List.drop_eq_getElem_cons hlq, List.cons_prefix_cons]
    by_cases h : p[i].data.toList = q[i].data.toList
    · rw [if_pos h, w64 (by omega) (by omega), show (i : Int) + 1 = ((i + 1 : Nat) : Int) by omega, rabove_l p q hp hpq m (i + 1) k (by omega) (by omega)]
      congr 1
      apply decide_eq_decide.2
      rw [e]
      exact ⟨fun q => ⟨ba_ext h, q⟩, fun q => q.2⟩
    · rw [if_neg h, decide_eq_false (fun q => h (by rw [(e.1 q).1]))]
theorem rabove_tail (a b : ByteArray) (k : Nat) (hk : 500 ≤ k) : (if ((splitB a).length : Int) = 0 then amphoraref08_Above.j0 (k + 1) (splitB a) (splitB b) true else amphoraref08_Above.j0 (k + 1) (splitB a) (splitB b) (decide (((splitB b).length : Int) ≤ ((splitB a).length : Int)))) = some (decide (AboveP a b)) := by
  simp only [amphoraref08_Above.j0]
  by_cases ha : GoodP a
  · have hal := splitB_len.2 ha
    have hall : (splitB a).length ≤ 401 := by rw [splitB_good ha]; have := pieces_len a; have := ha.1; omega
    rw [if_neg (by omega)]
    by_cases hb : (splitB b).length ≤ (splitB a).length
    · rw [decide_eq_true (by omega), if_pos rfl, decide_eq_false]
      intro h
      obtain ⟨g1, g2, r, hr, e⟩ := above_iff.1 h
      rw [splitB_good g1, splitB_good g2, e, List.length_append] at hb
      have := List.length_pos_iff.2 hr
      omega
    · rw [decide_eq_false (by omega), if_neg (by simp)]
      have hgb : GoodP b := splitB_len.1 (by omega)
      have := rabove_l (splitB a) (splitB b) (by omega) (by omega) (splitB a).length 0 k (by omega) (by omega)
      rw [show ((0 : Nat) : Int) = 0 from rfl, List.drop_zero, List.drop_zero] at this
      rw [this]
      congr 1
      apply decide_eq_decide.2
      rw [above_iff]
      rw [splitB_good ha, splitB_good hgb] at hb ⊢
      constructor
      · rintro ⟨r, hr⟩
        refine ⟨ha, hgb, r, ?_, hr.symm⟩
        rintro rfl
        rw [List.append_nil] at hr
        rw [hr] at hb; omega
      · rintro ⟨_, _, r, _, e⟩
        exact ⟨r, e.symm⟩
  · rw [splitB_bad ha, if_pos (by rfl), if_pos trivial, decide_eq_false (fun h => ha h.1)]
theorem rabove_f (a b : ByteArray) (k : Nat) (hk : 6000 ≤ k) : amphoraref08_Above.f k a b = some (decide (AboveP a b)) := by
  unfold amphoraref08_Above.f
  rw [rsplit_f a _ hk, rsplit_f b _ hk, Option.bind_some, Option.bind_some]
  obtain ⟨k, rfl⟩ : ∃ j, k = j + 1 := ⟨k - 1, by omega⟩
  exact rabove_tail a b k (by omega)
def baseB (s : ByteArray) : ByteArray := if h : GoodP s then (pieces s).getLast (pieces_ne s) else (⟨#[]⟩ : ByteArray)
theorem base_f (s : ByteArray) (k : Nat) (hk : 500 ≤ k) : path_Base.f k s = some (baseB s) := by
  unfold path_Base.f baseB
  rw [good_f s k hk, Option.bind_some]
  by_cases hg : GoodP s
  · have hs := hg.1
    rw [decide_eq_true hg, if_pos rfl, dif_pos hg]
    unfold strings_LastIndexByte.f
    rw [if_pos (by omega), Option.bind_some]
    rcases last_spec s with ⟨e, hn⟩ | ⟨i, e, hi, hp⟩
    · rw [e, show wrap64 (-1 + 1) = 0 from (w64 (n := -1 + 1) (by omega) (by omega)).trans (by omega), if_pos (by omega), if_pos (by omega)]
      congr 1
      have e1 := pieces_none (ib_neg.2 hn)
      simp only [e1, List.getLast_singleton]
      exact ByteArray.extract_zero_size
    · rw [e, w64 (by omega) (by omega), if_pos (by omega), if_pos (by omega), show ((i : Int) + 1).toNat = i + 1 by omega]
      congr 1
      simp only [hp, List.getLast_concat]
  · rw [decide_eq_false hg, if_neg (by simp), dif_neg hg]
end PM
end Go.Proofs.YtfkbmjfhakooiaaDoor

/- tree.Children, walked. Conditions: as each theorem says. -/
namespace Go.Proofs.YtfkbmjfhakooiaaDoor.TR
open Go.RowKit Go.Proofs.YtfkbmjfhakooiaaDoor.PTree Go.Proofs.YtfkbmjfhakooiaaDoorW.PrintWords Go.Proofs.YtfkbmjfhakooiaaDoorW.PrintLast Go.Proofs.YtfkbmjfhakooiaaDoorW.PrintMore
set_option linter.unusedVariables false
set_option linter.unusedSimpArgs false
theorem infoSt : (Tryd.prog.info? 9).map (fun i => (i.zero, i.size, i.bytes)) = some (some (.string ⟨#[]⟩), 1, 16) := by kernel_rfl
def children0 (K : Nat) (l : List S31) (p : ByteArray) : Nat → List ByteArray → Int → Option (List ByteArray)
  | 0, _, _ => none
  | k + 1, out, i => if i < (l.length : Int) then
      (path_Parent.f K (rd_T31 l i).f0).bind fun q => (path_Good.f K (rd_T31 l i).f0).bind fun g =>
        if g = true then (if q.1.toList = p.toList then (if q.2 = !p.toList.isEmpty then (path_Base.f K (rd_T31 l i).f0).bind fun b => children0 K l p k (out ++ [b]) (i + 1) else children0 K l p k out (i + 1)) else children0 K l p k out (i + 1)) else children0 K l p k out (i + 1)
    else some out
def childrenF (K : Nat) (l : List S31) (p : ByteArray) : Option (List ByteArray) := children0 K l p (l.length + 1) [] 0
set_option maxHeartbeats 8000000 in
set_option maxRecDepth 100000 in
theorem Children_calls (K : Nat) (l0 : List S31) (p : ByteArray) (A0 : Option Addr) (k0 : Nat) (r : List ByteArray) (w : World) (hGl : Gl w) (h0 : Kd.C k31 w A0 l0.length l0) (hn : l0.length ≤ 1000000) (h : childrenF K l0 p = some r) :
    Calls Tryd.prog 10 #[.slice A0 l0.length k0, .string p] w fun e w' => ∃ v, e = .returned v ∧ Kd.R Kd.string 9 w' w.heap.size (fun _ => True) v r ∧ Below w.heap.size w w' := by
  have hu31 := Tryd.underlying31
  have H0 := Aside0.mk h0
  have HN := Aside0.mk hn
  have HGL := Aside0.mk hGl
  have H := Aside0.mk (show children0 K l0 p (l0.length + 1) [] 0 = some r from h)
  clear h0 hn hGl h
  have HB := Aside0.mk (Below.refl w.heap.size w)
  go_enter Tryd.func10, Tryd.ntmps10
  go_wp2
  go_loopg [5, 12] (l0.length + 1) (fun kq v5 v12 w' => ∃ (out : List ByteArray) (i : Int), v12 = .int .i64 i ∧ Aside0 (children0 K l0 p kq out i = some r) ∧ Aside0 (0 ≤ i ∧ i ≤ (l0.length : Int) ∧ (out.length : Int) ≤ i) ∧ Aside0 (Kd.R Kd.string 9 w' w.heap.size (fun _ => True) v5 out) ∧ Aside0 (Below w.heap.size w w'))
  case atStart => exact ⟨[], 0, rfl, H, ⟨by omega, by omega, by simp⟩, ⟨Kd.R_nil _ _ _ _ _⟩, HB⟩
  case round =>
    clear HB H
    obtain ⟨out, i, rfl, HA, HI, HO, HB⟩ := hrel
    cases gk with
    | zero => exact absurd HA.out (by simp [children0])
    | succ k1 =>
      have H := HA.out
      clear HA
      simp only [children0] at H
      by_cases c2 : i < (l0.length : Int)
      · rw [if_pos c2] at H
        have C2 := Aside0.mk c2
        obtain ⟨⟨q, ok⟩, HP, Ha⟩ := Option.bind_eq_some_iff.mp H
        clear H
        obtain ⟨g, HG, H⟩ := Option.bind_eq_some_iff.mp Ha
        clear Ha
        replace HP := Aside0.mk HP
        replace HG := Aside0.mk HG
        obtain ⟨ad, A7, c7, eA, x0, x1, x2, x3, x4, x5, x6, x7, _, _⟩ := at_T31 H0.out i HI.out.1 c2
        cases eA
        replace x0 := (HB.out.cell (World.block_lt_of_cell? w _ x0)).trans x0
        replace x1 := (HB.out.cell (World.block_lt_of_cell? w _ x1)).trans x1
        replace x2 := (HB.out.cell (World.block_lt_of_cell? w _ x2)).trans x2
        replace x3 := (HB.out.cell (World.block_lt_of_cell? w _ x3)).trans x3
        replace x4 := (HB.out.cell (World.block_lt_of_cell? w _ x4)).trans x4
        replace x5 := (HB.out.cell (World.block_lt_of_cell? w _ x5)).trans x5
        replace x6 := (HB.out.cell (World.block_lt_of_cell? w _ x6)).trans x6
        replace x7 := (HB.out.cell (World.block_lt_of_cell? w _ x7)).trans x7
        have hi0 := HI.out.1
        have p210 := eq_true hi0
        have q210 := eq_true c2
        clear hi0
        have HZ := Aside0.mk (Below.refl wr.heap.size wr)
        cases g with
        | false =>
          replace H := Aside0.mk ((if_neg (by simp)).symm.trans H)
          go_wp2_with (first | ((with_reducible refine gate_dst (N := 7) rfl ?_); refine box_event ?hg (N := 7) ?hd (cs := #[.string (⟨#[]⟩ : ByteArray), .int .i64 0, .int .i64 0, .int .i64 0, .int .i64 0, .int .i64 0, .string (⟨#[]⟩ : ByteArray), .slice none 0 0]) (t := 31) ?hr ?_; (case hd => rfl); (case hg => rfl); (case hr => first | (go_simp; done) | (go_simp; rfl)); intro g7 hg w7 hbox hb; have HZ7 := Aside0.mk (below_step HZ.out hb); have K7 := Aside0.mk hbox; have G7 := Aside0.mk (show wr.heap.size ≤ g7 by rw [hg]; exact below_size HZ.out); clear hb hbox hg) | ((with_reducible refine gate_store (t := 31) (p := 7) (v := .tmp 15) rfl ?_); refine ev_set31 _ rfl (.tmp 7) (.tmp 15) rfl rfl g7 _ _ _ _ _ _ _ _ (rd_T31 l0 i).f0 (rd_T31 l0 i).f6 (rd_T31 l0 i).f1 (rd_T31 l0 i).f2 (rd_T31 l0 i).f3 (rd_T31 l0 i).f4 (rd_T31 l0 i).f5 A7 (rd_T31 l0 i).f7.length c7 rfl rfl K7.out (fun w8 b1 b2 => ?_); have HZ8 := Aside0.mk (below_row_ HZ7.out b2 G7.out); have K8 := Aside0.mk b1; have y0 : w8.cell? ⟨g7, 0, none⟩ = some (.string (rd_T31 l0 i).f0) := blk_cell b1 0; have y1 : w8.cell? ⟨g7, 1, none⟩ = some (.int .i64 (rd_T31 l0 i).f1) := blk_cell b1 1; have y2 : w8.cell? ⟨g7, 2, none⟩ = some (.int .i64 (rd_T31 l0 i).f2) := blk_cell b1 2; have y3 : w8.cell? ⟨g7, 3, none⟩ = some (.int .i64 (rd_T31 l0 i).f3) := blk_cell b1 3; have y4 : w8.cell? ⟨g7, 4, none⟩ = some (.int .i64 (rd_T31 l0 i).f4) := blk_cell b1 4; have y5 : w8.cell? ⟨g7, 5, none⟩ = some (.int .i64 (rd_T31 l0 i).f5) := blk_cell b1 5; have y6 : w8.cell? ⟨g7, 6, none⟩ = some (.string (rd_T31 l0 i).f6) := blk_cell b1 6; have y7 : w8.cell? ⟨g7, 7, none⟩ = some (.slice A7 (rd_T31 l0 i).f7.length c7) := blk_cell b1 7; clear b1 b2) | (go_at_call 9; refine (path_Parent.calls K (rd_T31 l0 i).f0 q ok _ (HGL.out.of (below_step HB.out HZ8.out)) HP.out).mono ?_; rintro e w9 ⟨rfl, hb⟩; have HZ9 := Aside0.mk (below_step HZ8.out hb); have K9 := Aside0.mk (blk_below K8.out hb); have v0 : w9.cell? ⟨g7, 0, none⟩ = some (.string (rd_T31 l0 i).f0) := blk_cell K9.out 0; clear hb y0 y1 y2 y3 y4 y5 y6 y7) | (go_at_call 28; refine (path_Good.calls K (rd_T31 l0 i).f0 false _ (HGL.out.of (below_step HB.out HZ9.out)) HG.out).mono ?_; rintro e w10 ⟨rfl, hb⟩; have HZ10 := Aside0.mk (below_step HZ9.out hb); have K10 := Aside0.mk (blk_below K9.out hb); have u0 : w10.cell? ⟨g7, 0, none⟩ = some (.string (rd_T31 l0 i).f0) := blk_cell K10.out 0; clear hb v0))
          go_roundg k1
          case measure => omega
          case rel => exact ⟨out, i + 1, by rw [wr_in _ (by have h1 := HI.out; have h2 := HN.out; have h3 := C2.out; omega)], H, ⟨by have := HI.out; have := C2.out; omega⟩, ⟨Kd.R_below HO.out HZ10.out⟩, ⟨below_step HB.out HZ10.out⟩⟩
        | true =>
          rw [if_pos rfl] at H
          by_cases c3 : q.toList = p.toList
          · rw [if_pos c3] at H
            have d3 : (q.toList == p.toList) = true := beq_iff_eq.mpr c3
            have e3 : (q.toList != p.toList) = false := bne_eq_false_iff_eq.mpr c3
            clear c3
            by_cases c4 : ok = !p.toList.isEmpty
            · rw [if_pos c4] at H
              obtain ⟨bs, HBS, Hb⟩ := Option.bind_eq_some_iff.mp H
              clear H
              replace HBS := Aside0.mk HBS
              have H := Aside0.mk Hb
              clear Hb
              have c4b : (ok == !p.toList.isEmpty) = true := beq_iff_eq.mpr c4
              clear c4
              go_wp2_with (first | ((with_reducible refine gate_dst (N := 7) rfl ?_); refine box_event ?hg (N := 7) ?hd (cs := #[.string (⟨#[]⟩ : ByteArray), .int .i64 0, .int .i64 0, .int .i64 0, .int .i64 0, .int .i64 0, .string (⟨#[]⟩ : ByteArray), .slice none 0 0]) (t := 31) ?hr ?_; (case hd => rfl); (case hg => rfl); (case hr => first | (go_simp; done) | (go_simp; rfl)); intro g7 hg w7 hbox hb; have HZ7 := Aside0.mk (below_step HZ.out hb); have K7 := Aside0.mk hbox; have G7 := Aside0.mk (show wr.heap.size ≤ g7 by rw [hg]; exact below_size HZ.out); clear hb hbox hg) | ((with_reducible refine gate_store (t := 31) (p := 7) (v := .tmp 15) rfl ?_); refine ev_set31 _ rfl (.tmp 7) (.tmp 15) rfl rfl g7 _ _ _ _ _ _ _ _ (rd_T31 l0 i).f0 (rd_T31 l0 i).f6 (rd_T31 l0 i).f1 (rd_T31 l0 i).f2 (rd_T31 l0 i).f3 (rd_T31 l0 i).f4 (rd_T31 l0 i).f5 A7 (rd_T31 l0 i).f7.length c7 rfl rfl K7.out (fun w8 b1 b2 => ?_); have HZ8 := Aside0.mk (below_row_ HZ7.out b2 G7.out); have K8 := Aside0.mk b1; have y0 : w8.cell? ⟨g7, 0, none⟩ = some (.string (rd_T31 l0 i).f0) := blk_cell b1 0; have y1 : w8.cell? ⟨g7, 1, none⟩ = some (.int .i64 (rd_T31 l0 i).f1) := blk_cell b1 1; have y2 : w8.cell? ⟨g7, 2, none⟩ = some (.int .i64 (rd_T31 l0 i).f2) := blk_cell b1 2; have y3 : w8.cell? ⟨g7, 3, none⟩ = some (.int .i64 (rd_T31 l0 i).f3) := blk_cell b1 3; have y4 : w8.cell? ⟨g7, 4, none⟩ = some (.int .i64 (rd_T31 l0 i).f4) := blk_cell b1 4; have y5 : w8.cell? ⟨g7, 5, none⟩ = some (.int .i64 (rd_T31 l0 i).f5) := blk_cell b1 5; have y6 : w8.cell? ⟨g7, 6, none⟩ = some (.string (rd_T31 l0 i).f6) := blk_cell b1 6; have y7 : w8.cell? ⟨g7, 7, none⟩ = some (.slice A7 (rd_T31 l0 i).f7.length c7) := blk_cell b1 7; clear b1 b2) | (go_at_call 9; refine (path_Parent.calls K (rd_T31 l0 i).f0 q ok _ (HGL.out.of (below_step HB.out HZ8.out)) HP.out).mono ?_; rintro e w9 ⟨rfl, hb⟩; have HZ9 := Aside0.mk (below_step HZ8.out hb); have K9 := Aside0.mk (blk_below K8.out hb); have v0 : w9.cell? ⟨g7, 0, none⟩ = some (.string (rd_T31 l0 i).f0) := blk_cell K9.out 0; clear hb y0 y1 y2 y3 y4 y5 y6 y7) | (go_at_call 28; refine (path_Good.calls K (rd_T31 l0 i).f0 true _ (HGL.out.of (below_step HB.out HZ9.out)) HG.out).mono ?_; rintro e w10 ⟨rfl, hb⟩; have HZ10 := Aside0.mk (below_step HZ9.out hb); have K10 := Aside0.mk (blk_below K9.out hb); have u0 : w10.cell? ⟨g7, 0, none⟩ = some (.string (rd_T31 l0 i).f0) := blk_cell K10.out 0; clear hb v0) | (go_at_call 11; refine (path_Base.calls K (rd_T31 l0 i).f0 bs _ (HGL.out.of (below_step HB.out HZ10.out)) HBS.out).mono ?_; rintro e w11 ⟨rfl, hb⟩; have HZ11 := Aside0.mk (below_step HZ10.out hb); clear hb u0) | ((with_reducible refine gate_builtin (b := .append) (xs := #[.tmp 36, .tmp 40]) rfl ?_); at_builtin; refine Kd.R_append Kd.string (w0 := w) w.heap.size rfl (.tmp 36) (.tmp 40) 34 9 (.string ⟨#[]⟩) 16 rfl Tryd.underlying34 infoSt rfl (by decide) (by omega) u5 out bs [.string bs] (fun _ => True) (fun _ => False) rfl rfl ?aP (fun k_ hk_ => hk_.elim) (fun _ _ => trivial) ?aO ?aB ?aS ?aL ?_; (case aP => exact (show [_] = [Value.string bs] from rfl)); (case aO => exact Kd.R_below HO.out HZ11.out); (case aB => exact below_step HB.out HZ11.out); (case aS => exact below_size (below_step HB.out HZ11.out)); (case aL => have h1 := HI.out; have h2 := HN.out; omega); intro v12 w12 ho hb hg hat; have HO12 := Aside0.mk ho; have HB12 := Aside0.mk hb; clear ho hb hg hat))
              go_roundg k1
              case measure => omega
              case rel => exact ⟨out ++ [bs], i + 1, by rw [wr_in _ (by have h1 := HI.out; have h2 := HN.out; have h3 := C2.out; omega)], H, ⟨by have h1 := HI.out; have := C2.out; rw [List.length_append, List.length_singleton]; omega⟩, HO12, HB12⟩
            · rw [if_neg c4] at H
              replace H := Aside0.mk H
              have c4b : (ok == !p.toList.isEmpty) = false := beq_eq_false_iff_ne.mpr c4
              clear c4
              go_wp2_with (first | ((with_reducible refine gate_dst (N := 7) rfl ?_); refine box_event ?hg (N := 7) ?hd (cs := #[.string (⟨#[]⟩ : ByteArray), .int .i64 0, .int .i64 0, .int .i64 0, .int .i64 0, .int .i64 0, .string (⟨#[]⟩ : ByteArray), .slice none 0 0]) (t := 31) ?hr ?_; (case hd => rfl); (case hg => rfl); (case hr => first | (go_simp; done) | (go_simp; rfl)); intro g7 hg w7 hbox hb; have HZ7 := Aside0.mk (below_step HZ.out hb); have K7 := Aside0.mk hbox; have G7 := Aside0.mk (show wr.heap.size ≤ g7 by rw [hg]; exact below_size HZ.out); clear hb hbox hg) | ((with_reducible refine gate_store (t := 31) (p := 7) (v := .tmp 15) rfl ?_); refine ev_set31 _ rfl (.tmp 7) (.tmp 15) rfl rfl g7 _ _ _ _ _ _ _ _ (rd_T31 l0 i).f0 (rd_T31 l0 i).f6 (rd_T31 l0 i).f1 (rd_T31 l0 i).f2 (rd_T31 l0 i).f3 (rd_T31 l0 i).f4 (rd_T31 l0 i).f5 A7 (rd_T31 l0 i).f7.length c7 rfl rfl K7.out (fun w8 b1 b2 => ?_); have HZ8 := Aside0.mk (below_row_ HZ7.out b2 G7.out); have K8 := Aside0.mk b1; have y0 : w8.cell? ⟨g7, 0, none⟩ = some (.string (rd_T31 l0 i).f0) := blk_cell b1 0; have y1 : w8.cell? ⟨g7, 1, none⟩ = some (.int .i64 (rd_T31 l0 i).f1) := blk_cell b1 1; have y2 : w8.cell? ⟨g7, 2, none⟩ = some (.int .i64 (rd_T31 l0 i).f2) := blk_cell b1 2; have y3 : w8.cell? ⟨g7, 3, none⟩ = some (.int .i64 (rd_T31 l0 i).f3) := blk_cell b1 3; have y4 : w8.cell? ⟨g7, 4, none⟩ = some (.int .i64 (rd_T31 l0 i).f4) := blk_cell b1 4; have y5 : w8.cell? ⟨g7, 5, none⟩ = some (.int .i64 (rd_T31 l0 i).f5) := blk_cell b1 5; have y6 : w8.cell? ⟨g7, 6, none⟩ = some (.string (rd_T31 l0 i).f6) := blk_cell b1 6; have y7 : w8.cell? ⟨g7, 7, none⟩ = some (.slice A7 (rd_T31 l0 i).f7.length c7) := blk_cell b1 7; clear b1 b2) | (go_at_call 9; refine (path_Parent.calls K (rd_T31 l0 i).f0 q ok _ (HGL.out.of (below_step HB.out HZ8.out)) HP.out).mono ?_; rintro e w9 ⟨rfl, hb⟩; have HZ9 := Aside0.mk (below_step HZ8.out hb); have K9 := Aside0.mk (blk_below K8.out hb); have v0 : w9.cell? ⟨g7, 0, none⟩ = some (.string (rd_T31 l0 i).f0) := blk_cell K9.out 0; clear hb y0 y1 y2 y3 y4 y5 y6 y7) | (go_at_call 28; refine (path_Good.calls K (rd_T31 l0 i).f0 true _ (HGL.out.of (below_step HB.out HZ9.out)) HG.out).mono ?_; rintro e w10 ⟨rfl, hb⟩; have HZ10 := Aside0.mk (below_step HZ9.out hb); have K10 := Aside0.mk (blk_below K9.out hb); have u0 : w10.cell? ⟨g7, 0, none⟩ = some (.string (rd_T31 l0 i).f0) := blk_cell K10.out 0; clear hb v0))
              go_roundg k1
              case measure => omega
              case rel => exact ⟨out, i + 1, by rw [wr_in _ (by have h1 := HI.out; have h2 := HN.out; have h3 := C2.out; omega)], H, ⟨by have := HI.out; have := C2.out; omega⟩, ⟨Kd.R_below HO.out HZ10.out⟩, ⟨below_step HB.out HZ10.out⟩⟩
          · rw [if_neg c3] at H
            replace H := Aside0.mk H
            have d3 : (q.toList == p.toList) = false := beq_eq_false_iff_ne.mpr c3
            have e3 : (q.toList != p.toList) = true := bne_iff_ne.mpr c3
            clear c3
            go_wp2_with (first | ((with_reducible refine gate_dst (N := 7) rfl ?_); refine box_event ?hg (N := 7) ?hd (cs := #[.string (⟨#[]⟩ : ByteArray), .int .i64 0, .int .i64 0, .int .i64 0, .int .i64 0, .int .i64 0, .string (⟨#[]⟩ : ByteArray), .slice none 0 0]) (t := 31) ?hr ?_; (case hd => rfl); (case hg => rfl); (case hr => first | (go_simp; done) | (go_simp; rfl)); intro g7 hg w7 hbox hb; have HZ7 := Aside0.mk (below_step HZ.out hb); have K7 := Aside0.mk hbox; have G7 := Aside0.mk (show wr.heap.size ≤ g7 by rw [hg]; exact below_size HZ.out); clear hb hbox hg) | ((with_reducible refine gate_store (t := 31) (p := 7) (v := .tmp 15) rfl ?_); refine ev_set31 _ rfl (.tmp 7) (.tmp 15) rfl rfl g7 _ _ _ _ _ _ _ _ (rd_T31 l0 i).f0 (rd_T31 l0 i).f6 (rd_T31 l0 i).f1 (rd_T31 l0 i).f2 (rd_T31 l0 i).f3 (rd_T31 l0 i).f4 (rd_T31 l0 i).f5 A7 (rd_T31 l0 i).f7.length c7 rfl rfl K7.out (fun w8 b1 b2 => ?_); have HZ8 := Aside0.mk (below_row_ HZ7.out b2 G7.out); have K8 := Aside0.mk b1; have y0 : w8.cell? ⟨g7, 0, none⟩ = some (.string (rd_T31 l0 i).f0) := blk_cell b1 0; have y1 : w8.cell? ⟨g7, 1, none⟩ = some (.int .i64 (rd_T31 l0 i).f1) := blk_cell b1 1; have y2 : w8.cell? ⟨g7, 2, none⟩ = some (.int .i64 (rd_T31 l0 i).f2) := blk_cell b1 2; have y3 : w8.cell? ⟨g7, 3, none⟩ = some (.int .i64 (rd_T31 l0 i).f3) := blk_cell b1 3; have y4 : w8.cell? ⟨g7, 4, none⟩ = some (.int .i64 (rd_T31 l0 i).f4) := blk_cell b1 4; have y5 : w8.cell? ⟨g7, 5, none⟩ = some (.int .i64 (rd_T31 l0 i).f5) := blk_cell b1 5; have y6 : w8.cell? ⟨g7, 6, none⟩ = some (.string (rd_T31 l0 i).f6) := blk_cell b1 6; have y7 : w8.cell? ⟨g7, 7, none⟩ = some (.slice A7 (rd_T31 l0 i).f7.length c7) := blk_cell b1 7; clear b1 b2) | (go_at_call 9; refine (path_Parent.calls K (rd_T31 l0 i).f0 q ok _ (HGL.out.of (below_step HB.out HZ8.out)) HP.out).mono ?_; rintro e w9 ⟨rfl, hb⟩; have HZ9 := Aside0.mk (below_step HZ8.out hb); have K9 := Aside0.mk (blk_below K8.out hb); have v0 : w9.cell? ⟨g7, 0, none⟩ = some (.string (rd_T31 l0 i).f0) := blk_cell K9.out 0; clear hb y0 y1 y2 y3 y4 y5 y6 y7) | (go_at_call 28; refine (path_Good.calls K (rd_T31 l0 i).f0 true _ (HGL.out.of (below_step HB.out HZ9.out)) HG.out).mono ?_; rintro e w10 ⟨rfl, hb⟩; have HZ10 := Aside0.mk (below_step HZ9.out hb); have K10 := Aside0.mk (blk_below K9.out hb); have u0 : w10.cell? ⟨g7, 0, none⟩ = some (.string (rd_T31 l0 i).f0) := blk_cell K10.out 0; clear hb v0))
            go_roundg k1
            case measure => omega
            case rel => exact ⟨out, i + 1, by rw [wr_in _ (by have h1 := HI.out; have h2 := HN.out; have h3 := C2.out; omega)], H, ⟨by have := HI.out; have := C2.out; omega⟩, ⟨Kd.R_below HO.out HZ10.out⟩, ⟨below_step HB.out HZ10.out⟩⟩
      · rw [if_neg c2] at H
        obtain rfl := Option.some.inj H
        go_wp2
        go_ret
        exact ⟨_, rfl, HO.out, HB.out⟩
end Go.Proofs.YtfkbmjfhakooiaaDoor.TR

/- What the law on parents asks, in plain Lean. Conditions: as each theorem says. -/
namespace Go.Proofs.YtfkbmjfhakooiaaDoor.TR
open Go.RowKit Go.Proofs.YtfkbmjfhakooiaaDoor.PTree Go.Proofs.YtfkbmjfhakooiaaDoorW.PrintWords Go.Proofs.YtfkbmjfhakooiaaDoorW.PrintLast Go.Proofs.YtfkbmjfhakooiaaDoorW.PrintMore
set_option linter.unusedVariables false
set_option linter.unusedSimpArgs false
theorem children_l (K : Nat) (hK : 500 ≤ K) (l : List S31) (p : ByteArray) (hl : ∀ x ∈ l, x.f0.size ≤ 1000000000000) : ∀ (k : Nat) (out : List ByteArray) (i : Int), 0 ≤ i → i ≤ (l.length : Int) → (l.length : Int) - i + 1 ≤ k →
    ∃ r, children0 K l p k out i = some r ∧ (∀ b ∈ out, b ∈ r) ∧ ∀ j, i ≤ j → j < (l.length : Int) → PM.GoodP (rd_T31 l j).f0 → (PM.parentB (rd_T31 l j).f0).1.toList = p.toList → (PM.parentB (rd_T31 l j).f0).2 = !p.toList.isEmpty → PM.baseB (rd_T31 l j).f0 ∈ r
  | 0, out, i, h0, hi, h1 => by omega
  | k + 1, out, i, h0, hi, h1 => by
    unfold children0
    by_cases c1 : i < (l.length : Int)
    · have hz := hl _ (rd_in l i h0 c1)
      rw [if_pos c1, PM.parent_f _ K (by omega) hK, Option.bind_some, PM.good_f _ K hK, Option.bind_some, PM.base_f _ K hK, Option.bind_some]
      by_cases c2 : PM.GoodP (rd_T31 l i).f0 ∧ (PM.parentB (rd_T31 l i).f0).1.toList = p.toList ∧ (PM.parentB (rd_T31 l i).f0).2 = !p.toList.isEmpty
      · obtain ⟨g1, g2, g3⟩ := c2
        rw [decide_eq_true g1, if_pos rfl, if_pos g2, if_pos g3]
        obtain ⟨r, r1, r2, r3⟩ := children_l K hK l p hl k (out ++ [PM.baseB (rd_T31 l i).f0]) (i + 1) (by omega) (by omega) (by omega)
        refine ⟨r, r1, fun b hb => r2 b (List.mem_append_left _ hb), fun j hj hj2 a1 a2 a3 => ?_⟩
        by_cases ej : j = i
        · rw [ej]
          exact r2 _ (List.mem_append_right _ (List.mem_singleton.2 rfl))
        · exact r3 j (by omega) hj2 a1 a2 a3
      · obtain ⟨r, r1, r2, r3⟩ := children_l K hK l p hl k out (i + 1) (by omega) (by omega) (by omega)
        refine ⟨r, ?_, r2, fun j hj hj2 a1 a2 a3 => ?_⟩
        · by_cases g1 : PM.GoodP (rd_T31 l i).f0
          · rw [decide_eq_true g1, if_pos rfl]
            by_cases g2 : (PM.parentB (rd_T31 l i).f0).1.toList = p.toList
            · rw [if_pos g2, if_neg (fun g3 => c2 ⟨g1, g2, g3⟩)]
              exact r1
            · rw [if_neg g2]
              exact r1
          · rw [decide_eq_false g1, if_neg (by simp)]
            exact r1
        · by_cases ej : j = i
          · rw [ej] at a1 a2 a3
            exact absurd ⟨a1, a2, a3⟩ c2
          · exact r3 j (by omega) hj2 a1 a2 a3
    · rw [if_neg c1]
      exact ⟨out, rfl, fun b hb => hb, fun j hj hj2 => by omega⟩
theorem good_ne {s : ByteArray} (h : PM.GoodP s) : s.toList ≠ [] := by
  intro e
  have e2 : s = ⟨#[]⟩ := ba_toList e
  subst e2
  have := (h.2 (⟨#[]⟩ : ByteArray) (by rw [pieces_none (show Lib.indexByte (⟨#[]⟩ : ByteArray).data.toList 47 < 0 by decide)]; exact List.mem_singleton.2 rfl)).1.1
  exact absurd this (by decide)
/-- Each entry's last part is among its parent's children. -/
theorem child_there (K : Nat) (hK : 500 ≤ K) (l : List S31) (hl : ∀ x ∈ l, PM.GoodP x.f0) (x : S31) (hx : x ∈ l) : ∃ r, childrenF K l (PM.parentB x.f0).1 = some r ∧ PM.baseB x.f0 ∈ r := by
  obtain ⟨r, r1, _, r3⟩ := children_l K hK l (PM.parentB x.f0).1 (fun y hy => by have := (hl y hy).1; omega) (l.length + 1) [] 0 (by omega) (by omega) (by omega)
  obtain ⟨j, j0, j1, e⟩ := rd_ix l x hx
  refine ⟨r, r1, ?_⟩
  have h := r3 j j0 j1
  rw [e] at h
  refine h (hl x hx) rfl ?_
  cases hp : (PM.parentB x.f0).2 with
  | true =>
    have h2 := good_ne (par_pieces hp).1
    cases e3 : (PM.parentB x.f0).1.toList with
    | nil => exact absurd e3 h2
    | cons a b => rfl
  | false =>
    unfold PM.parentB at hp ⊢
    split at hp
    · cases hp
    · rename_i hc
      rw [if_neg hc]
      show false = !(⟨#[]⟩ : ByteArray).toList.isEmpty
      rw [Lib.toList_data]
      rfl
/-! ### What lies below a path stands side by side -/
/-- Is it gone over? -/
def goneB (p : ByteArray) (x : S31) : Bool := p.toList == [] || x.f0.toList == p.toList || decide (PM.AboveP p x.f0)
theorem filter_pre {α : Type} (P : α → Bool) : ∀ (t : List α), (∀ j k (hj : j < t.length) (hk : k < t.length), j < k → P t[k] = true → P t[j] = true) → t.filter P = t.take (t.filter P).length
  | [], _ => rfl
  | y :: u, h => by
    by_cases hy : P y = true
    · have hu := filter_pre P u (fun j k hj hk hjk hp => h (j + 1) (k + 1) (by simpa using hj) (by simpa using hk) (by omega) hp)
      rw [List.filter_cons_of_pos hy, List.length_cons, List.take_succ_cons, ← hu]
    · have he : u.filter P = [] := by
        rw [List.filter_eq_nil_iff]
        intro a ha hp
        obtain ⟨k, hk, e⟩ := List.getElem_of_mem ha
        exact hy (h 0 (k + 1) (by simp) (by simpa using hk) (by omega) (by simpa [e] using hp))
      rw [List.filter_cons_of_neg hy, he]
      rfl
theorem filter_row {α : Type} (P : α → Bool) : ∀ (l : List α), (∀ i j k (hi : i < l.length) (hj : j < l.length) (hk : k < l.length), i < j → j < k → P l[i] = true → P l[k] = true → P l[j] = true) → ∃ f, l.filter P = (l.drop f).take (l.filter P).length
  | [], _ => ⟨0, rfl⟩
  | y :: u, h => by
    by_cases hy : P y = true
    · refine ⟨0, ?_⟩
      rw [List.drop_zero]
      refine filter_pre P (y :: u) (fun j k hj hk hjk hp => ?_)
      cases j with
      | zero => exact hy
      | succ j => exact h 0 (j + 1) k (by simp) hj hk (by omega) hjk hy hp
    · obtain ⟨f, hf⟩ := filter_row P u (fun i j k hi hj hk hij hjk h1 h2 => h (i + 1) (j + 1) (k + 1) (by simpa using hi) (by simpa using hj) (by simpa using hk) (by omega) (by omega) h1 h2)
      refine ⟨f + 1, ?_⟩
      rw [List.filter_cons_of_neg hy, List.drop_succ_cons]
      exact hf
theorem gone_row (b : List S31) (ok : ∀ j, 0 ≤ j → j < (b.length : Int) → OkAt b j) (p : ByteArray) : ∃ f, b.filter (goneB p) = (b.drop f).take (b.filter (goneB p)).length := by
  refine filter_row _ b (fun i j k hi hj hk hij hjk h1 h2 => ?_)
  have ha := List.pairwise_iff_getElem.1 (asc_pair b ok)
  have a1 := ha i j hi hj hij
  have a2 := ha j k hj hk hjk
  have hg : ∀ n (h : n < b.length), PM.GoodP b[n].f0 := fun n h => by
    have := (ok (n : Int) (by omega) (by omega)).1
    rwa [rd_get b n h] at this
  by_cases hp : p.toList = []
  · unfold goneB
    rw [hp]
    rfl
  · have hcase : ∀ n (h : n < b.length), goneB p b[n] = true → b[n].f0 = p ∨ PM.AboveP p b[n].f0 := fun n h hq => by
      unfold goneB at hq
      simp only [Bool.or_eq_true, beq_iff_eq, decide_eq_true_eq] at hq
      rcases hq with (hq | hq) | hq
      · exact absurd hq hp
      · exact .inl (toList_inj hq)
      · exact .inr hq
    have hcase2 : b[j].f0 = p ∨ PM.AboveP p b[j].f0 := by
      by_cases e1 : b[j].f0 = p
      · exact .inl e1
      · by_cases e2 : PM.AboveP p b[j].f0
        · exact .inr e2
        · exfalso
          have hs : ∀ n (h : n < b.length), goneB p b[n] = true → PM.cQ b[n].f0 b[j].f0 = PM.cQ p b[j].f0 := fun n h hq => by
            rcases hcase n h hq with e | e
            · rw [e]
            · exact (PM.above_nest e (hg j hj) e1 e2).symm
          have s1 := hs i hi h1
          have s2 := hs k hk h2
          have t1 := PM.cQ_isCmp.anti b[j].f0 b[k].f0
          omega
    unfold goneB
    simp only [Bool.or_eq_true, beq_iff_eq, decide_eq_true_eq]
    rcases hcase2 with e | e
    · exact .inl (.inr (by rw [e]))
    · exact .inr e
/-- The place of what is gone over. -/
theorem gone_at (b : List S31) (ok : ∀ j, 0 ≤ j → j < (b.length : Int) → OkAt b j) (p : ByteArray) : ∃ f : Nat, ∀ (n : Nat) (x : S31), (b.filter (goneB p))[n]? = some x → b[f + n]? = some x ∧ goneB p x = true := by
  obtain ⟨f, hf⟩ := gone_row b ok p
  refine ⟨f, fun n x h => ⟨?_, ?_⟩⟩
  · rw [hf, List.getElem?_take] at h
    split at h
    · rw [List.getElem?_drop] at h
      exact h
    · cases h
  · have := List.mem_of_getElem? h
    rw [List.mem_filter] at this
    exact this.2
end Go.Proofs.YtfkbmjfhakooiaaDoor.TR

/- A range over an iterator that hands on what it has made: the contract says what is known of each round's value (Xp: the world behind the round before, the world where yield is called); the law of the loop over it. Conditions: as each theorem says. -/
namespace Go.Proofs.YtfkbmjfhakooiaaDoor.TR
open Go.RowKit Go.Shelf
attribute [local go_sem] Oper.semAt_some
set_option linter.unusedVariables false
set_option linter.unusedSimpArgs false
/-- What an iterator promises that makes what it hands on. -/
def SeqX {α : Type} (F : Fence) (n : Nat) (P : Program) (g : Nat) (lb : Array Value) (encs : α → Array Value) (Kp : World → World → Prop) (Xp : List α → α → World → World → Prop) (S Sp : List α → Prop) (N : Nat) (w : World) : Prop :=
  ∀ (l : Nat) (J Jx : List α → World → Prop) (W : World), Below w.heap.size w W → J [] W →
    (∀ pre x W0 W1, J pre W0 → Below W0.heap.size W0 W1 → pre.length < N → Xp pre x W0 W1 → YieldAt F (n - 1) P l (encs x) W1 fun e W' =>
      (e = .returned (.bool true) ∧ J (pre ++ [x]) W' ∧ Kp W0 W') ∨ (e = .returned (.bool false) ∧ Jx (pre ++ [x]) W')) →
    CallsIn F n P g (#[.func (.yield l) #[] #[]] ++ lb) W fun e W' => (∃ v, e = .returned v) ∧ ((∃ xs, S xs ∧ J xs W') ∨ (∃ pre, Sp pre ∧ Jx pre W'))
theorem below_put {W0 W1 : World} {l : Nat} {o : Obj} (h : Below W0.heap.size W0 W1) (hl : l < W0.heap.size) : Below (W0.putObj l o).heap.size (W0.putObj l o) (W1.putObj l o) := by
  have g0 := grownBy_putObj' W0 l o
  have g1 := grownBy_putObj' W1 l o
  have s0 : (W0.putObj l o).heap.size = W0.heap.size := by simp [World.putObj]
  have s1 : (W1.putObj l o).heap.size = W1.heap.size := by simp [World.putObj]
  refine ⟨by rw [g1.os, h.os, g0.os], by rw [g1.tape, h.tape, g0.tape], by rw [g1.output, h.output, g0.output], by rw [s0, s1]; exact h.size, fun k hk => ?_⟩
  rw [s0] at hk
  by_cases e : k = l
  · subst e
    rw [World.putObj_heap_same hk, World.putObj_heap_same (Nat.lt_of_lt_of_le hk h.size)]
  · rw [World.putObj_heap_other e, World.putObj_heap_other e]
    exact h.block k hk
theorem below_step0 {X Y Z : World} (h : Below X.heap.size X Y) (k : Below Y.heap.size Y Z) : Below X.heap.size X Z := h.trans (k.mono h.size)
/-- The loop over such an iterator. -/
theorem wpIn_seqX {F : Fence} {n : Nat} {P : Program} {α : Type} {g : Operand} {ps : Array Tmp} {assign body : Code} {Q : Exit → Act → World → Prop} {a : Act} {w : World}
    (hro : F.round = none) (h1 : 1 ≤ n) {gf : Nat} {lb : Array Value} (hg : a.eval g = .func (.func gf) #[] lb) (hFg : F.fn gf) (eg : ∀ args w, (callFunc gf args).run P w = .ok (.enter gf args) w)
    {encs : α → Array Value} {Kp : World → World → Prop} {Xp : List α → α → World → World → Prop} {S Sp : List α → Prop} {N : Nat} (hseq : SeqX F (n - 1) P gf lb encs Kp Xp S Sp N w)
    (hKt : ∀ {A B C : World}, Kp A B → Kp B C → Kp A C) (hKb : ∀ (W : World) (l : Nat) (o' : Obj), w.heap.size ≤ l → Kp W (W.putObj l o')) (hps : ∀ x, (encs x).size = ps.size)
    (hX : ∀ (pre : List α) (x : α) (W0 W1 : World) (l : Nat) (o o' : Obj), w.heap.size ≤ l → l < W0.heap.size → W1.heap[l]? = some o → o.isCells = false → Xp pre x W0 W1 → Xp pre x (W0.putObj l o') (W1.putObj l o'))
    (hXb : ∀ (pre : List α) (x : α) (W0 W W' : World), Xp pre x W0 W → Below W0.heap.size W0 W → Below W.heap.size W W' → Xp pre x W0 W')
    (I : List α → World → Prop) (Ix : Code → List α → World → Prop) (hI : OwnFrom w.heap.size I) (hIx : ∀ c, OwnFrom w.heap.size (Ix c)) (h0 : I [] w)
    (hround : ∀ (l : Nat) (pre : List α) (x : α) (W0 W : World), I pre W0 → Below W0.heap.size W0 W → w.heap.size ≤ W0.heap.size → pre.length < N → Xp pre x W0 W →
      assign.wpIn (F.inRound l) (n - 1 - 1) P (Exit.then (fun a₁ W₁ => Below W.heap.size W W₁ ∧ ∀ Wd Wc : World, I pre Wd → Below Wd.heap.size Wd Wc → w.heap.size ≤ Wd.heap.size → Xp pre x Wd Wc → (∀ (k : Nat) (cs : Array Value) (t : TypeId) (fr : Nat × Nat), W₁.heap[k]? = some (.cells cs t fr) → Wc.heap[k]? = some (.cells cs t fr)) →
        body.wpIn (F.inRound l) (n - 1 - 1) P (fun e _ W' => match e with
          | .normal => KeepsFrom w.heap.size Wc W' ∧ Kp Wd W' ∧ I (pre ++ [x]) W'
          | .ret => KeepsFrom w.heap.size Wc W' ∧ Ix .ret (pre ++ [x]) W'
          | .exit id => KeepsFrom w.heap.size Wc W' ∧ Ix (.exit id) (pre ++ [x]) W'
          | .goto t => KeepsFrom w.heap.size Wc W' ∧ Ix (.goto t) (pre ++ [x]) W'
          | .panic _ => False
          | .outgrown => False) a₁ Wc) (fun _ _ _ => False)) { tmps := (ps.zip (encs x)).foldl (fun t (p, v) => t.setIfInBounds p v) a.tmps, defers := [] } W)
    (hdone : ∀ (D : Nat) (xs : List α) (W : World), w.heap.size ≤ D → S xs → I xs W → W.heap[D]? = some (.deferred (some [])) → Q .normal { a with defers := { target := .collected D, args := #[] } :: a.defers } W)
    (hstop : ∀ (D : Nat) (c : Code) (pre : List α) (W : World), w.heap.size ≤ D → Sp pre → Ix c pre W → W.heap[D]? = some (.deferred (some [])) → c.wpIn F n P Q { a with defers := { target := .collected D, args := #[] } :: a.defers } W) :
    (Code.rangeFunc g ps assign body).wpIn F n P Q a w := by
  refine wpIn_rangeFunc fun fn hfn => ?_
  rw [hro]
  obtain ⟨d0, hd0⟩ : ∃ d, d = w.heap.size := ⟨_, rfl⟩
  obtain ⟨rec, hrec⟩ : ∃ rec : LoopState → Option Code → Loop, rec = fun st pe => { state := st, pending := pe, fn, tmps := a.tmps, params := ps, assign, body, defers := d0 } := ⟨_, rfl⟩
  obtain ⟨Wa, hWa⟩ : ∃ W, W = w.alloc (.deferred (some [])) := ⟨_, rfl⟩
  obtain ⟨Wb, hWb⟩ : ∃ W, W = Wa.alloc (.loop (rec .ready none)) := ⟨_, rfl⟩
  have sa : Wa.heap.size = d0 + 1 := by rw [hWa, World.size_alloc, hd0]
  have la : Wa.heap[d0]? = some (.deferred (some [])) := by rw [hWa, hd0]; exact World.alloc_heap_new w _
  have lb1 : Wb.heap[d0 + 1]? = some (.loop (rec .ready none)) := by have h := World.alloc_heap_new Wa (.loop (rec .ready none)); rw [sa, ← hWb] at h; exact h
  have lb0 : Wb.heap[d0]? = some (.deferred (some [])) := by rw [hWb]; exact (Below.heap_alloc _ _ _ (by omega)).trans la
  have ib : I [] Wb := by rw [hWb, hWa]; exact hI.alloc _ (hI.alloc _ h0)
  have bb : Below w.heap.size w Wb := by rw [hWb, hWa]; exact ((Below.refl _ w).alloc (Nat.le_refl _) _).alloc (by simp) _
  have zb : Wb.heap.size = d0 + 2 := by rw [hWb, World.size_alloc, sa]
  refine ⟨d0 + 1, [{ target := .collected d0, args := #[] }], Wb, { target := .fn (.func gf) lb, args := #[.func (.yield (d0 + 1)) #[] #[]] }, Wb, gf, #[.func (.yield (d0 + 1)) #[] #[]] ++ lb, Wb, ?_, ?_, ?_, ?_, fun _ => h1, ?_⟩
  · rw [hWb, hWa, hrec, hd0]; exact run_enterLoop_outer _ _ _ _ _
  · simp only [resolve, hg]; simp [go_sem]
  · intro f' hf'; simp [Target.leads] at hf'; subst hf'; exact hFg
  · simp [invoke, go_sem, eg]
  refine (hseq (d0 + 1) (fun pre W => I pre W ∧ w.heap.size ≤ W.heap.size ∧ W.heap[d0 + 1]? = some (.loop (rec .ready none)) ∧ W.heap[d0]? = some (.deferred (some [])))
      (fun pre W => ∃ c, Ix c pre W ∧ W.heap[d0 + 1]? = some (.loop (rec .done (some c))) ∧ W.heap[d0]? = some (.deferred (some [])))
      Wb bb ⟨ib, by omega, lb1, lb0⟩ ?_).mono ?_
  · rintro pre x W0 W ⟨hi, hsz, hl0, hk0⟩ hbW hlen hx
    have hlt0 : d0 + 1 < W0.heap.size := (Array.getElem?_eq_some_iff.1 hl0).1
    have hl : W.heap[d0 + 1]? = some (.loop (rec .ready none)) := (hbW.block _ hlt0).trans hl0
    have hk : W.heap[d0]? = some (.deferred (some [])) := (hbW.block _ (by omega)).trans hk0
    have hlt : d0 + 1 < W.heap.size := (Array.getElem?_eq_some_iff.1 hl).1
    have hy := run_yield (P := P) (args := encs x) hl (by rw [hrec]; exact hps x)
    rw [hrec] at hy
    refine ⟨fn, _, assign, body, hy, roundIn_of_wpIn hfn (wpIn_mono (hround _ pre x W0 W hi hbW hsz hlen hx) ?_)⟩
    rintro e a' Wa hq
    cases e with
    | exit id => exact hq.elim
    | goto t => exact hq.elim
    | ret => exact hq.elim
    | panic ch => exact hq.elim
    | outgrown => exact hq.elim
    | normal =>
    obtain ⟨hba, hcont⟩ := hq
    have hbWa : Below W0.heap.size W0 Wa := below_step0 hbW hba
    have hxa := hXb _ _ _ _ _ hx hbW hba
    have hla : Wa.heap[d0 + 1]? = some (.loop (rec .ready none)) := (hba.block _ hlt).trans hl
    have hka : Wa.heap[d0]? = some (.deferred (some [])) := (hba.block _ (by omega)).trans hk
    have hlta : d0 + 1 < Wa.heap.size := (Array.getElem?_eq_some_iff.1 hla).1
    obtain ⟨Wc, hWc⟩ : ∃ W', W' = Wa.putObj (d0 + 1) (.loop { rec .ready none with state := .busy }) := ⟨_, rfl⟩
    obtain ⟨Wd, hWd⟩ : ∃ W', W' = W0.putObj (d0 + 1) (.loop { rec .ready none with state := .busy }) := ⟨_, rfl⟩
    have lc1 : Wc.heap[d0 + 1]? = some (.loop { rec .ready none with state := .busy }) := by rw [hWc]; exact World.putObj_heap_same hlta
    have lc0 : Wc.heap[d0]? = some (.deferred (some [])) := by rw [hWc]; exact (World.putObj_heap_other (by omega)).trans hka
    have kc : Kp W0 Wd := by rw [hWd]; exact hKb _ _ _ (by omega)
    have ic : I pre Wd := by rw [hWd]; exact hI.putObj _ hi (by omega) hl0 rfl
    have bc : Below Wd.heap.size Wd Wc := by rw [hWd, hWc]; exact below_put hbWa hlt0
    have xc : Xp pre x Wd Wc := by rw [hWd, hWc]; exact hX _ _ _ _ _ _ _ (by omega) hlt0 hla rfl hxa
    have sd : Wd.heap.size = W0.heap.size := by rw [hWd]; simp [World.putObj]
    refine ⟨Wc, by rw [hWc]; exact run_beginRound hla (by rw [hrec]), ?_⟩
    refine wpIn_mono (hcont Wd Wc ic bc (by omega) xc (fun k cs t fr hk => by rw [hWc]; exact (World.putObj_heap_other (fun e => by subst e; rw [hla] at hk; cases hk)).trans hk)) ?_
    have fin : ∀ (jump : Option Code) (W3 : World), KeepsFrom w.heap.size Wc W3 → ∃ W4, W4 = W3.putObj (d0 + 1) (.loop (rec (if jump.isNone then .ready else .done) jump)) ∧ (Instr.endRound (d0 + 1) jump).run P W3 = .ok (.bool jump.isNone) W4 ∧
        W3.heap[d0 + 1]? = some (.loop { rec .ready none with state := .busy }) ∧ W4.heap[d0 + 1]? = some (.loop (rec (if jump.isNone then .ready else .done) jump)) ∧ W4.heap[d0]? = some (.deferred (some [])) := fun jump W3 hk3 => by
      have hl3 := hk3.same _ _ (by omega) lc1 rfl
      have he := run_endRound (P := P) jump hl3
      refine ⟨_, rfl, ?_, hl3, World.putObj_heap_same (Array.getElem?_eq_some_iff.1 hl3).1, (World.putObj_heap_other (by omega)).trans (hk3.same _ _ (by omega) lc0 rfl)⟩
      rw [hrec] at he ⊢; exact he
    have out : ∀ (c : Code) (W3 : World), KeepsFrom w.heap.size Wc W3 → Ix c (pre ++ [x]) W3 → ∃ W4, (Instr.endRound (d0 + 1) (some c)).run P W3 = .ok (.bool false) W4 ∧ (∃ c, Ix c (pre ++ [x]) W4 ∧ W4.heap[d0 + 1]? = some (.loop (rec .done (some c))) ∧ W4.heap[d0]? = some (.deferred (some []))) := fun c W3 hk3 hi3 => by
      obtain ⟨W4, e4, hr, hl3, hl4, hk4⟩ := fin (some c) W3 hk3
      exact ⟨W4, hr, c, by rw [e4]; exact (hIx _).putObj _ hi3 (by omega) hl3 rfl, hl4, hk4⟩
    have szc : Wc.heap.size = Wa.heap.size := by rw [hWc]; simp [World.putObj]
    have sza := hba.size
    rintro e a3 W3 hp
    cases e with
    | normal =>
      obtain ⟨hk3, hkp3, hi3⟩ := hp
      obtain ⟨W4, e4, hr, hl3, hl4, hk4⟩ := fin none W3 hk3
      have hs4 : W4.heap.size = W3.heap.size := by rw [e4]; simp [World.putObj]
      have hs3 := hk3.size
      have hbs := hbW.size
      exact ⟨_, _, hr, .inl ⟨rfl, ⟨by rw [e4]; exact hI.putObj _ hi3 (by omega) hl3 rfl, by omega, hl4, hk4⟩, hKt (hKt kc hkp3) (by rw [e4]; exact hKb _ _ _ (by omega))⟩⟩
    | ret => obtain ⟨W4, hr, h4⟩ := out .ret W3 hp.1 hp.2; exact ⟨_, _, hr, .inr ⟨rfl, h4⟩⟩
    | exit id => obtain ⟨W4, hr, h4⟩ := out (.exit id) W3 hp.1 hp.2; exact ⟨_, _, hr, .inr ⟨rfl, h4⟩⟩
    | goto t => obtain ⟨W4, hr, h4⟩ := out (.goto t) W3 hp.1 hp.2; exact ⟨_, _, hr, .inr ⟨rfl, h4⟩⟩
    | panic ch => exact hp.elim
    | outgrown => exact hp.elim
  · rintro e W2 ⟨⟨v, rfl⟩, (⟨xs, hS, hi, _, hl, hk⟩ | ⟨pre, hSp, c, hi, hl, hk⟩)⟩
    · have he := run_endLoop (P := P) hl (by rw [hrec]; simp)
      rw [hrec] at he
      exact ⟨none, _, he, hdone d0 xs _ (by omega) hS (hI.putObj _ hi (by omega) hl rfl) ((World.putObj_heap_other (by omega)).trans hk)⟩
    · have he := run_endLoop (P := P) hl (by rw [hrec]; simp)
      rw [hrec] at he
      exact ⟨some c, _, he, hstop d0 c pre _ (by omega) hSp ((hIx c).putObj _ hi (by omega) hl rfl) ((World.putObj_heap_other (by omega)).trans hk)⟩
end Go.Proofs.YtfkbmjfhakooiaaDoor.TR

/- Boxes and stores of entries inside a fence; the iterator of tree.Walk; its contract. Conditions: as each theorem says. -/
namespace Go.Proofs.YtfkbmjfhakooiaaDoor.TR
open Go.RowKit Go.Shelf Go.Proofs.YtfkbmjfhakooiaaDoor.PTree Go.Proofs.YtfkbmjfhakooiaaDoorW.PrintWords Go.Proofs.YtfkbmjfhakooiaaDoorW.PrintLast Go.Proofs.YtfkbmjfhakooiaaDoorW.PrintMore
set_option linter.unusedVariables false
set_option linter.unusedSimpArgs false
section
variable {F : Fence} {n : Nat} {P : Program} {ops : Array Oper} {rest : List Oper} {o : Oper} {a : Act} {Q : Exit → Act → World → Prop}
theorem gatei_dst {W : World} {N : Tmp} (_hN : o.dst = some N) (h : wpListIn F n P ops Q (o :: rest) a W) : wpListIn F n P ops Q (o :: rest) a W := h
theorem gatei_store {W : World} {t : TypeId} {p : Tmp} {v : Operand} (_ho : o.op = .store t (.tmp p) v) (h : wpListIn F n P ops Q (o :: rest) a W) : wpListIn F n P ops Q (o :: rest) a W := h
theorem box_eventI {W : World} (hgd : o.guard = none) {N : Tmp} (_hd : o.dst = some N) {T : TypeId} (hop : o.op = Op.alloc T) {cs : Array Value} {t : TypeId}
    (hrun : (execOp a.eval o).run P W = .ok (.value (.pointer (some ⟨W.heap.size, 0, none⟩))) (W.alloc (.cells cs t (0, 0))))
    (h : ∀ g, g = W.heap.size → ∀ w1, w1.heap[g]? = some (.cells cs t (0, 0)) → Below W.heap.size W w1 → wpListIn F n P ops Q rest (a.put o.dst (.pointer (some ⟨g, 0, none⟩))) w1) : wpListIn F n P ops Q (o :: rest) a W := by
  refine wpListIn_plain hgd fun K hK => ?_
  unfold Oper.wpIn
  refine ⟨by simp [Oper.about, hop], ?_⟩
  rw [Oper.semAt_plain F _ _ (by rw [hop]; intro c hc; cases hc), hrun]
  exact hK _ _ (h _ rfl _ (blk_new W _) (below_alloc (Below.refl _ _) _))
end
/-- An entry is stored into a box of its own, inside a fence. -/
theorem ev_set31I {F : Fence} {n : Nat} {ops : Array Oper} {rest : List Oper} {o : Oper} {a : Act} {Q : Exit → Act → World → Prop} (w : World) (hg : o.guard = none) (p x : Operand) (hop : o.op = Op.store 31 p x) (hd : o.dst = none) (g : Nat) (z0 z1 z2 z3 z4 z5 z6 z7 : Value) (f0 f6 : ByteArray) (f1 f2 f3 f4 f5 : Int) (A7 : Option Addr) (n7 c7 : Nat)
    (hp : a.eval p = .pointer (some ⟨g, 0, none⟩)) (hx : a.eval x = .agg #[.string f0, .int .i64 f1, .int .i64 f2, .int .i64 f3, .int .i64 f4, .int .i64 f5, .string f6, .slice A7 n7 c7])
    (hb : w.heap[g]? = some (.cells #[z0, z1, z2, z3, z4, z5, z6, z7] 31 (0, 0)))
    (hK : ∀ w', w'.heap[g]? = some (.cells #[.string f0, .int .i64 f1, .int .i64 f2, .int .i64 f3, .int .i64 f4, .int .i64 f5, .string f6, .slice A7 n7 c7] 31 (0, 0)) → w.grownBy w' (some g) → wpListIn F n Tryd.prog ops Q rest a w') : wpListIn F n Tryd.prog ops Q (o :: rest) a w := by
  have hrun : (Instr.storeAt 31 (.pointer (some ⟨g, 0, none⟩)) (.agg #[.string f0, .int .i64 f1, .int .i64 f2, .int .i64 f3, .int .i64 f4, .int .i64 f5, .string f6, .slice A7 n7 c7])).run Tryd.prog w = .ok () (w.setCells g 0 [.string f0, .int .i64 f1, .int .i64 f2, .int .i64 f3, .int .i64 f4, .int .i64 f5, .string f6, .slice A7 n7 c7]) :=
    run_store_run 31 _ _ hb rfl (by
      obtain ⟨i, hi, hq⟩ := Option.map_eq_some_iff.1 info31
      rw [hi]
      simp only [Prod.mk.injEq] at hq
      show some i.size = _
      rw [hq.2.1]
      rfl) (Nat.le_refl 8) (by simp [Value.oneCell'])
  obtain ⟨cur, h1, h2, h3⟩ := setCells_row (g := g) [.string f0, .int .i64 f1, .int .i64 f2, .int .i64 f3, .int .i64 f4, .int .i64 f5, .string f6, .slice A7 n7 c7] 0 w _ hb (Nat.le_refl 8)
  obtain ⟨s1, s2, s3, s4⟩ := setCells_same g [.string f0, .int .i64 f1, .int .i64 f2, .int .i64 f3, .int .i64 f4, .int .i64 f5, .string f6, .slice A7 n7 c7] 0 w
  have hcur : cur = #[.string f0, .int .i64 f1, .int .i64 f2, .int .i64 f3, .int .i64 f4, .int .i64 f5, .string f6, .slice A7 n7 c7] := Array.ext' h3
  subst hcur
  refine wpListIn_plain hg fun K hKK => ?_
  unfold Oper.wpIn
  refine ⟨by simp [Oper.about, hop], ?_⟩
  rw [Oper.semAt_plain F _ _ (by rw [hop]; intro c hc; cases hc)]
  unfold execOp
  simp only [hop, hp, hx, Sem.run_bind, Sem.run_pure, Result.andThen_ok, hrun]
  show K (a.put o.dst undef) _
  rw [hd]
  exact hKK _ _ (hK _ h1 ⟨s1, s2, s3, Nat.le_of_eq s4.symm, fun k _ hk => setCells_far _ 0 k (fun e => hk (by rw [e]))⟩)
end Go.Proofs.YtfkbmjfhakooiaaDoor.TR

/- tree.Walk$1, the iterator, and its contract. Conditions: as each theorem says. -/
namespace Go.Proofs.YtfkbmjfhakooiaaDoor.TR
open Go.RowKit Go.Shelf Go.Proofs.YtfkbmjfhakooiaaDoor.PTree Go.Proofs.YtfkbmjfhakooiaaDoorW.PrintWords Go.Proofs.YtfkbmjfhakooiaaDoorW.PrintLast Go.Proofs.YtfkbmjfhakooiaaDoorW.PrintMore
attribute [local go_sem] Oper.semAt_some
set_option linter.unusedVariables false
set_option linter.unusedSimpArgs false
/-- An entry, and where its bytes lie. -/
abbrev EntX := S31 × Option Addr × Nat
def encX (x : EntX) : Array Value := #[.agg #[.string x.1.f0, .int .i64 x.1.f1, .int .i64 x.1.f2, .int .i64 x.1.f3, .int .i64 x.1.f4, .int .i64 x.1.f5, .string x.1.f6, .slice x.2.1 x.1.f7.length x.2.2]]
/-- What a round keeps: the blocks of KS that lay in w. -/
def KpX (w : World) (KS : Nat → Prop) (X Y : World) : Prop := ∀ k, KS k → k < w.heap.size → Y.heap[k]? = X.heap[k]?
/-- What is known of a round's entry. -/
def XpX (l : List S31) (pre : List EntX) (x : EntX) (W0 W1 : World) : Prop := l[pre.length]? = some x.1 ∧ Kd.R (Kd.int .u8) 5 W1 W0.heap.size (fun _ => True) (.slice x.2.1 x.1.f7.length x.2.2) x.1.f7
set_option maxHeartbeats 8000000 in
set_option maxRecDepth 100000 in
theorem walk1_seq (n : Nat) (hn1 : 2 ≤ n) (l : List S31) (A : Option Addr) (c b base : Nat) (ok KS : Nat → Prop) (w : World) (hb : w.heap[b]? = some (.cells #[.slice A l.length c] 22 (0, 0))) (hS : Kd.S k31 31 w base ok (.slice A l.length c) l) (hn : l.length ≤ 1000000) (hd : ∀ x ∈ l, x.f7.length ≤ 1000000000000)
    (hkb : KS b) (hko : ∀ k, ok k → KS k) (hkg : ∀ W, (∀ k, KS k → k < w.heap.size → W.heap[k]? = w.heap[k]?) → Gl W) :
    SeqX Fence.wide n Tryd.prog 31 #[.pointer (some ⟨b, 0, none⟩)] encX (KpX w KS) (XpX l) (fun xs => xs.map (·.1) = l) (fun pre => pre.map (·.1) <+: l) l.length w := by
  intro lp J Jx W hW hJ0 hY
  have hu31 := Tryd.underlying31
  have HS := Aside0.mk hS
  have HN := Aside0.mk hn
  have HDD := Aside0.mk hd
  have HKO := Aside0.mk hko
  have HKG := Aside0.mk hkg
  have hbW := (hW.block b (Array.getElem?_eq_some_iff.1 hb).1).trans hb
  have hc0 : W.cell? ⟨b, 0, none⟩ = some (.slice A l.length c) := blk_cell hbW 0
  have HJ := Aside0.mk hJ0
  have HKK := Aside0.mk (fun (k : Nat) (_ : KS k) (hk : k < w.heap.size) => hW.block k hk)
  clear hS hn hd hko hkg hJ0 hW hb hbW
  refine callsIn_wide.2 ?_
  go_enter Tryd.func31, Tryd.ntmps31
  go_wp2
  clear hc0
  go_loopg [7] (l.length + 1) (fun kq v7 w' => ∃ (i : Int) (pre : List EntX), v7 = .int .i64 i ∧ Aside0 (0 ≤ i ∧ i ≤ (l.length : Int) ∧ (kq : Int) = (l.length : Int) + 1 - i) ∧ Aside0 (pre.map (·.1) = l.take i.toNat) ∧ Aside0 (J pre w') ∧ Aside0 (∀ k, KS k → k < w.heap.size → w'.heap[k]? = w.heap[k]?))
  case atStart => exact ⟨0, [], rfl, ⟨by omega, by omega, by omega⟩, ⟨rfl⟩, HJ, HKK⟩
  case round =>
    clear HJ HKK
    obtain ⟨i, pre, rfl, HI, HP, HJ, HKK⟩ := hrel
    cases gk with
    | zero => exact absurd HI.out (fun h => by omega)
    | succ k1 =>
      by_cases c2 : i < (l.length : Int)
      · have C2 := Aside0.mk c2
        have HSr := Aside0.mk (Kd.S_step HS.out (fun k hk hlt => HKK.out k (HKO.out k hk) hlt))
        have HG := Aside0.mk (HKG.out wr HKK.out)
        obtain ⟨ad, A7, c7, eA, x0, x1, x2, x3, x4, x5, x6, x7, hl7, hi7⟩ := at_T31 (Kd.S_reads' HSr.out).2.2 i HI.out.1 c2
        cases eA
        have HL7 := Aside0.mk hl7
        have HI7 := Aside0.mk hi7
        have HX := Aside0.mk (show l[pre.length]? = some (rd_T31 l i) from (by
          have h1 := HP.out
          have h2 := congrArg List.length h1
          have h3 := C2.out
          have h4 := HI.out.1
          rw [List.length_map, List.length_take] at h2
          have h5 : pre.length = i.toNat := by omega
          have h6 : i.toNat < l.length := by omega
          rw [h5, List.getElem?_eq_getElem h6]
          unfold rd_T31
          rw [List.getD_eq_getElem?_getD, List.getElem?_eq_getElem h6]
          rfl))
        clear hl7 hi7
        have hi0 := HI.out.1
        have p210 := eq_true hi0
        have q210 := eq_true c2
        clear hi0
        have HCO := Aside0.mk (show tree_copied.f (rd_T31 l i).f0 (rd_T31 l i).f1 (rd_T31 l i).f2 (rd_T31 l i).f3 (rd_T31 l i).f4 (rd_T31 l i).f5 (rd_T31 l i).f6 (rd_T31 l i).f7 = some ((rd_T31 l i).f0, (rd_T31 l i).f1, (rd_T31 l i).f2, (rd_T31 l i).f3, (rd_T31 l i).f4, (rd_T31 l i).f5, (rd_T31 l i).f6, (rd_T31 l i).f7) from (by
          unfold tree_copied.f bytes_Clone.f
          rw [if_pos (HDD.out (rd_T31 l i) (by
            unfold rd_T31
            have h2 : i.toNat < l.length := by have := C2.out; have := HI.out.1; omega
            rw [List.getD_eq_getElem?_getD, List.getElem?_eq_getElem h2]
            exact List.getElem_mem h2))]
          rfl))
        go_upto_region 3 with (first | ((with_reducible refine gate_dst (N := 4) rfl ?_); refine box_event ?hg (N := 4) ?hd (cs := #[.string (⟨#[]⟩ : ByteArray), .int .i64 0, .int .i64 0, .int .i64 0, .int .i64 0, .int .i64 0, .string (⟨#[]⟩ : ByteArray), .slice none 0 0]) (t := 31) ?hr ?_; (case hd => rfl); (case hg => rfl); (case hr => first | (go_simp; done) | (go_simp; rfl)); intro g4 hg w5 hbox hb; have HZ5 := Aside0.mk hb; have K5 := Aside0.mk hbox; have G5 := Aside0.mk (show wr.heap.size ≤ g4 by rw [hg]; exact Nat.le_refl _); clear hb hbox hg) | ((with_reducible refine gate_store (t := 31) (p := 4) (v := .tmp 10) rfl ?_); refine ev_set31 _ rfl (.tmp 4) (.tmp 10) rfl rfl g4 _ _ _ _ _ _ _ _ (rd_T31 l i).f0 (rd_T31 l i).f6 (rd_T31 l i).f1 (rd_T31 l i).f2 (rd_T31 l i).f3 (rd_T31 l i).f4 (rd_T31 l i).f5 A7 (rd_T31 l i).f7.length c7 rfl rfl K5.out (fun w6 b1 b2 => ?_); have HZ6 := Aside0.mk (below_row_ HZ5.out b2 G5.out); have y0 : w6.cell? ⟨g4, 0, none⟩ = some (.string (rd_T31 l i).f0) := blk_cell b1 0; have y1 : w6.cell? ⟨g4, 1, none⟩ = some (.int .i64 (rd_T31 l i).f1) := blk_cell b1 1; have y2 : w6.cell? ⟨g4, 2, none⟩ = some (.int .i64 (rd_T31 l i).f2) := blk_cell b1 2; have y3 : w6.cell? ⟨g4, 3, none⟩ = some (.int .i64 (rd_T31 l i).f3) := blk_cell b1 3; have y4 : w6.cell? ⟨g4, 4, none⟩ = some (.int .i64 (rd_T31 l i).f4) := blk_cell b1 4; have y5 : w6.cell? ⟨g4, 5, none⟩ = some (.int .i64 (rd_T31 l i).f5) := blk_cell b1 5; have y6 : w6.cell? ⟨g4, 6, none⟩ = some (.string (rd_T31 l i).f6) := blk_cell b1 6; have y7 : w6.cell? ⟨g4, 7, none⟩ = some (.slice A7 (rd_T31 l i).f7.length c7) := blk_cell b1 7; clear b1 b2))
        refine (wpIn_wide (n := n)).1 ?_
        have hn2 : 1 ≤ n := by omega
        gi_wp2_with (refine ⟨trivial, ?_⟩; gi_at_call 30; refine (callsIn_wide.2 (tree_copied.calls (rd_T31 l i).f0 (rd_T31 l i).f1 (rd_T31 l i).f2 (rd_T31 l i).f3 (rd_T31 l i).f4 (rd_T31 l i).f5 (rd_T31 l i).f6 A7 c7 (rd_T31 l i).f7 (rd_T31 l i).f0 (rd_T31 l i).f1 (rd_T31 l i).f2 (rd_T31 l i).f3 (rd_T31 l i).f4 (rd_T31 l i).f5 (rd_T31 l i).f6 (rd_T31 l i).f7 _ (Kd.C_below HI7.out HZ6.out) HL7.out (HG.out.of HZ6.out) HCO.out)).mono ?_; rintro e w7 ⟨v7, rfl, ho, hb⟩; have HZ7 := Aside0.mk (below_step HZ6.out hb); have HD := Aside0.mk (Kd.R_lower ho (show wr.heap.size ≤ w6.heap.size from below_size HZ6.out)); obtain ⟨Ao, co, eo⟩ := Kd.R_slice ho; subst eo; obtain ⟨fn, tmps, assign, body, hy, hRR⟩ := hY pre ((rd_T31 l i), Ao, co) wr w7 HJ.out HZ7.out (by have h1 := HP.out; have h2 := congrArg List.length h1; rw [List.length_map, List.length_take] at h2; have := C2.out; have := HI.out.1; omega) ⟨HX.out, HD.out⟩; have HRR := Aside0.mk hRR; dsimp only [encX] at hy; clear ho hb hRR y0 y1 y2 y3 y4 y5 y6 y7)
        refine HRR.out.mono ?_
        rintro e W3 (⟨rfl, hJ3, hk3⟩ | ⟨rfl, hJx3⟩)
        · have HJ3 := Aside0.mk hJ3
          have HK3 := Aside0.mk hk3
          clear hJ3 hk3
          gi_wp2
          go_wp2
          go_roundg k1
          case measure => omega
          case rel => exact ⟨i + 1, pre ++ [((rd_T31 l i), Ao, co)], by rw [wr_in _ (by have h1 := HI.out; have h2 := HN.out; have h3 := C2.out; omega)], ⟨by have := HI.out; have := C2.out; omega⟩, ⟨by rw [take_rd l i HI.out.1 C2.out, List.map_append, HP.out]; rfl⟩, HJ3, ⟨fun k hk hlt => (HK3.out k hk hlt).trans (HKK.out k hk hlt)⟩⟩
        · have HJ3 := Aside0.mk hJx3
          clear hJx3
          gi_wp2
          go_wp2
          refine bodyPost_ret (results_none rfl _ _ _) rfl ?_
          exact ⟨⟨_, rfl⟩, .inr ⟨_, by rw [List.map_append, HP.out]; exact ⟨l.drop (i + 1).toNat, by show l.take i.toNat ++ [rd_T31 l i] ++ _ = l; rw [← take_rd l i HI.out.1 C2.out, List.take_append_drop]⟩, HJ3.out⟩⟩
      · have e1 : l.take i.toNat = l := List.take_of_length_le (by have := HI.out; omega)
        rw [e1] at HP
        clear e1
        go_wp2
        go_end0
        exact ⟨⟨_, rfl⟩, .inl ⟨pre, HP.out, HJ.out⟩⟩
end Go.Proofs.YtfkbmjfhakooiaaDoor.TR

/- tree.Walk, walked. Conditions: as each theorem says. -/
namespace Go.Proofs.YtfkbmjfhakooiaaDoor.TR
open Go.RowKit Go.Proofs.YtfkbmjfhakooiaaDoor.PTree Go.Proofs.YtfkbmjfhakooiaaDoorW.PrintWords Go.Proofs.YtfkbmjfhakooiaaDoorW.PrintLast Go.Proofs.YtfkbmjfhakooiaaDoorW.PrintMore
set_option linter.unusedVariables false
set_option linter.unusedSimpArgs false
theorem boxed_below {W W1 : World} {b t : Nat} {v : Value} (h : Boxed W b t v) (hb : Below W.heap.size W W1) : Boxed W1 b t v := (hb.block b h.lt).trans h
set_option maxHeartbeats 8000000 in
set_option maxRecDepth 100000 in
theorem Walk_calls (K : Nat) (hK : 500 ≤ K) (l0 : List S31) (p : ByteArray) (A0 : Option Addr) (k0 : Nat) (w : World) (hGl : Gl w) (h0 : Kd.C k31 w A0 l0.length l0) (hn : l0.length ≤ 1000000) (hd : ∀ x ∈ l0, x.f7.length ≤ 1000000000000) :
    Calls Tryd.prog 12 #[.slice A0 l0.length k0, .string p] w fun e w' => ∃ b A c, e = .returned (.func (.func 31) #[] #[.pointer (some ⟨b, 0, none⟩)]) ∧ Boxed w' b 22 (.slice A (l0.filter (goneB p)).length c) ∧ Kd.S k31 31 w' w.heap.size (fun k => k ≠ b) (.slice A (l0.filter (goneB p)).length c) (l0.filter (goneB p)) ∧ w.heap.size ≤ b ∧ Below w.heap.size w w' := by
  have hu31 := Tryd.underlying31
  have hu22 := Tryd.underlying22
  have HK := Aside0.mk hK
  have H0 := Aside0.mk h0
  have HN := Aside0.mk hn
  have HDD := Aside0.mk hd
  have HGL := Aside0.mk hGl
  clear h0 hn hd hGl hK
  go_enter Tryd.func12, Tryd.ntmps12
  go_upto_region 2 with ((with_reducible refine gate_dst (N := 5) rfl ?_); refine box_event ?hg (N := 5) ?hd (cs := #[.slice none 0 0]) (t := 22) ?hr ?_; (case hd => rfl); (case hg => rfl); (case hr => first | (go_simp; done) | (go_simp; rfl)); intro b hg w1 hbox hb; have HB := Aside0.mk hb; have HBX := Aside0.mk (show Boxed w1 b 22 (.slice none 0 0) from hbox); have HBS := Aside0.mk (show w.heap.size ≤ b by rw [hg]; exact Nat.le_refl _); clear hb hbox hg)
  go_wp2
  go_loopg [10] (l0.length + 1) (fun kq v10 w' => ∃ (i : Int) (v3 : Value), v10 = .int .i64 i ∧ Aside0 (0 ≤ i ∧ i ≤ (l0.length : Int) ∧ (kq : Int) = (l0.length : Int) + 1 - i) ∧ Aside0 (Boxed w' b 22 v3) ∧ Aside0 (Kd.S k31 31 w' w.heap.size (fun k => k ≠ b) v3 ((l0.take i.toNat).filter (goneB p))) ∧ Aside0 (Below w.heap.size w w'))
  case atStart => exact ⟨0, _, rfl, ⟨by omega, by omega, by omega⟩, HBX, ⟨Kd.S_nil _ _ _ _ _⟩, HB⟩
  case round =>
    clear HB HBX
    obtain ⟨i, v3, rfl, HI, HBX, HO, HB⟩ := hrel
    cases gk with
    | zero => exact absurd HI.out (fun h => by omega)
    | succ k1 =>
      by_cases c2 : i < (l0.length : Int)
      · have C2 := Aside0.mk c2
        obtain ⟨ad, A7, c7, eA, x0, x1, x2, x3, x4, x5, x6, x7, hl7, hi7⟩ := at_T31 H0.out i HI.out.1 c2
        cases eA
        have HL7 := Aside0.mk hl7
        have HI7 := Aside0.mk (Kd.C_below hi7 HB.out)
        clear hl7 hi7
        replace x0 := (HB.out.cell (World.block_lt_of_cell? w _ x0)).trans x0
        replace x1 := (HB.out.cell (World.block_lt_of_cell? w _ x1)).trans x1
        replace x2 := (HB.out.cell (World.block_lt_of_cell? w _ x2)).trans x2
        replace x3 := (HB.out.cell (World.block_lt_of_cell? w _ x3)).trans x3
        replace x4 := (HB.out.cell (World.block_lt_of_cell? w _ x4)).trans x4
        replace x5 := (HB.out.cell (World.block_lt_of_cell? w _ x5)).trans x5
        replace x6 := (HB.out.cell (World.block_lt_of_cell? w _ x6)).trans x6
        replace x7 := (HB.out.cell (World.block_lt_of_cell? w _ x7)).trans x7
        have hi0 := HI.out.1
        have p210 := eq_true hi0
        have q210 := eq_true c2
        clear hi0
        have HZ := Aside0.mk (Below.refl wr.heap.size wr)
        have HCO := Aside0.mk (show tree_copied.f (rd_T31 l0 i).f0 (rd_T31 l0 i).f1 (rd_T31 l0 i).f2 (rd_T31 l0 i).f3 (rd_T31 l0 i).f4 (rd_T31 l0 i).f5 (rd_T31 l0 i).f6 (rd_T31 l0 i).f7 = some ((rd_T31 l0 i).f0, (rd_T31 l0 i).f1, (rd_T31 l0 i).f2, (rd_T31 l0 i).f3, (rd_T31 l0 i).f4, (rd_T31 l0 i).f5, (rd_T31 l0 i).f6, (rd_T31 l0 i).f7) from (by
          unfold tree_copied.f bytes_Clone.f
          rw [if_pos (HDD.out (rd_T31 l0 i) (by
            unfold rd_T31
            have h2 : i.toNat < l0.length := by have := C2.out; have := HI.out.1; omega
            rw [List.getD_eq_getElem?_getD, List.getElem?_eq_getElem h2]
            exact List.getElem_mem h2))]
          rfl))
        have hin := HI.out
        by_cases cp : p.toList = []
        · have HGO := Aside0.mk (show goneB p (rd_T31 l0 i) = true by unfold goneB; rw [cp]; rfl)
          have d1 : p.toList.isEmpty = true := by rw [cp]; rfl
          have d2 : (p.toList == []) = true := by rw [cp]; rfl
          clear cp hin
          go_upto_region 6 with (first | ((with_reducible refine gate_dst (N := 7) rfl ?_); refine box_event ?hg (N := 7) ?hd (cs := #[.string (⟨#[]⟩ : ByteArray), .int .i64 0, .int .i64 0, .int .i64 0, .int .i64 0, .int .i64 0, .string (⟨#[]⟩ : ByteArray), .slice none 0 0]) (t := 31) ?hr ?_; (case hd => rfl); (case hg => rfl); (case hr => first | (go_simp; done) | (go_simp; rfl)); intro g7 hg w5 hbox hb; have HZ5 := Aside0.mk (below_step HZ.out hb); have K5 := Aside0.mk hbox; have G5 := Aside0.mk (show wr.heap.size ≤ g7 by rw [hg]; exact below_size HZ.out); clear hb hbox hg) | ((with_reducible refine gate_store (t := 31) (p := 7) (v := .tmp 13) rfl ?_); refine ev_set31 _ rfl (.tmp 7) (.tmp 13) rfl rfl g7 _ _ _ _ _ _ _ _ (rd_T31 l0 i).f0 (rd_T31 l0 i).f6 (rd_T31 l0 i).f1 (rd_T31 l0 i).f2 (rd_T31 l0 i).f3 (rd_T31 l0 i).f4 (rd_T31 l0 i).f5 A7 (rd_T31 l0 i).f7.length c7 rfl rfl K5.out (fun w6 b1 b2 => ?_); have HZ6 := Aside0.mk (below_row_ HZ5.out b2 G5.out); have y0 : w6.cell? ⟨g7, 0, none⟩ = some (.string (rd_T31 l0 i).f0) := blk_cell b1 0; have y1 : w6.cell? ⟨g7, 1, none⟩ = some (.int .i64 (rd_T31 l0 i).f1) := blk_cell b1 1; have y2 : w6.cell? ⟨g7, 2, none⟩ = some (.int .i64 (rd_T31 l0 i).f2) := blk_cell b1 2; have y3 : w6.cell? ⟨g7, 3, none⟩ = some (.int .i64 (rd_T31 l0 i).f3) := blk_cell b1 3; have y4 : w6.cell? ⟨g7, 4, none⟩ = some (.int .i64 (rd_T31 l0 i).f4) := blk_cell b1 4; have y5 : w6.cell? ⟨g7, 5, none⟩ = some (.int .i64 (rd_T31 l0 i).f5) := blk_cell b1 5; have y6 : w6.cell? ⟨g7, 6, none⟩ = some (.string (rd_T31 l0 i).f6) := blk_cell b1 6; have y7 : w6.cell? ⟨g7, 7, none⟩ = some (.slice A7 (rd_T31 l0 i).f7.length c7) := blk_cell b1 7; clear b1 b2))
          have HBQ := Aside0.mk (boxed_below HBX.out HZ6.out)
          have bq := HBQ.out.cell
          refine start_ (n := 6) (S := fun W' => Below w6.heap.size w6 W') (ds := [4, 5]) #[false, false, false, false, false, false] (by kernel_rfl) rfl rfl (below_drew1 (Below.refl _ _)) (fun hS0 => ?_)
          refine take_ (i := 0) (N := some 28) (v := v3) #[true, false, false, false, false, false] rfl rfl (by kernel_rfl) (fun _ _ _ h => h) (Or.inl ⟨by rfl, fun W2 h2 => ?_⟩) hS0 rfl ?_
          · have q0 := (h2.cell (World.block_lt_of_cell? _ _ bq)).trans bq
            go_simp
          simp only [Act.put, List.setIfInBounds_toArray, List.set_cons_zero, List.set_cons_succ]
          refine take_ (i := 1) (N := some 29) (v := .agg #[.string (rd_T31 l0 i).f0, .int .i64 (rd_T31 l0 i).f1, .int .i64 (rd_T31 l0 i).f2, .int .i64 (rd_T31 l0 i).f3, .int .i64 (rd_T31 l0 i).f4, .int .i64 (rd_T31 l0 i).f5, .string (rd_T31 l0 i).f6, .slice A7 (rd_T31 l0 i).f7.length c7]) #[true, true, false, false, false, false] rfl rfl (by kernel_rfl) (fun _ _ _ h => h) (Or.inl ⟨by rfl, fun W2 h2 => ?_⟩) hS0 rfl ?_
          · have z0 := (h2.cell (World.block_lt_of_cell? _ _ y0)).trans y0; have z1 := (h2.cell (World.block_lt_of_cell? _ _ y1)).trans y1; have z2 := (h2.cell (World.block_lt_of_cell? _ _ y2)).trans y2; have z3 := (h2.cell (World.block_lt_of_cell? _ _ y3)).trans y3; have z4 := (h2.cell (World.block_lt_of_cell? _ _ y4)).trans y4; have z5 := (h2.cell (World.block_lt_of_cell? _ _ y5)).trans y5; have z6 := (h2.cell (World.block_lt_of_cell? _ _ y6)).trans y6; have z7 := (h2.cell (World.block_lt_of_cell? _ _ y7)).trans y7
            go_simp
          simp only [Act.put, List.setIfInBounds_toArray, List.set_cons_zero, List.set_cons_succ]
          refine one_ (i := 2) (N := some 30) #[true, true, true, false, false, false] rfl rfl (by kernel_rfl) (by decide) (fun K_ hK_ => ?_)
          refine goes_ Tryd.func30 (by kernel_rfl) rfl #[.agg #[.string (rd_T31 l0 i).f0, .int .i64 (rd_T31 l0 i).f1, .int .i64 (rd_T31 l0 i).f2, .int .i64 (rd_T31 l0 i).f3, .int .i64 (rd_T31 l0 i).f4, .int .i64 (rd_T31 l0 i).f5, .string (rd_T31 l0 i).f6, .slice A7 (rd_T31 l0 i).f7.length c7]] (by rfl) rfl rfl (by first | rfl | (simp [Act.eval]; done)) ?_
          refine (tree_copied.calls (rd_T31 l0 i).f0 (rd_T31 l0 i).f1 (rd_T31 l0 i).f2 (rd_T31 l0 i).f3 (rd_T31 l0 i).f4 (rd_T31 l0 i).f5 (rd_T31 l0 i).f6 A7 c7 (rd_T31 l0 i).f7 (rd_T31 l0 i).f0 (rd_T31 l0 i).f1 (rd_T31 l0 i).f2 (rd_T31 l0 i).f3 (rd_T31 l0 i).f4 (rd_T31 l0 i).f5 (rd_T31 l0 i).f6 (rd_T31 l0 i).f7 _ (Kd.C_below HI7.out (below_step HZ6.out hS0)) HL7.out (HGL.out.of (below_step HB.out (below_step HZ6.out hS0))) HCO.out).mono ?_
          rintro e w7 ⟨v7, rfl, ho, hb⟩
          have hS7 := below_step hS0 hb
          have HD := Aside0.mk (Kd.R_lower ho (show wr.heap.size ≤ w6.drew.heap.size from below_size (below_step HZ6.out hS0)))
          obtain ⟨Ao, co, eo⟩ := Kd.R_slice ho
          subst eo
          clear ho
          refine ⟨_, rfl, hK_.out _ _ hS7 (fun _ => ?_)⟩
          clear hK_ K_
          simp only [Act.put, List.setIfInBounds_toArray, List.set_cons_zero, List.set_cons_succ]
          refine one_ (i := 3) (N := some 31) #[true, true, true, true, false, false] rfl rfl (by kernel_rfl) (by decide) (fun K_ hK_ => ?_)
          refine value_ (v := .slice (some ⟨w7.heap.size, 0, none⟩) 1 1) (w1 := w7.alloc (.cells #[.string (rd_T31 l0 i).f0, .int .i64 (rd_T31 l0 i).f1, .int .i64 (rd_T31 l0 i).f2, .int .i64 (rd_T31 l0 i).f3, .int .i64 (rd_T31 l0 i).f4, .int .i64 (rd_T31 l0 i).f5, .string (rd_T31 l0 i).f6, .slice Ao (rd_T31 l0 i).f7.length co] 31)) (by rfl) rfl (by first | (go_simp; done) | (go_simp; rfl)) ?_
          refine hK_.out _ _ (below_alloc hS7 _) (fun _ => ?_)
          clear hK_ K_
          simp only [Act.put, List.setIfInBounds_toArray, List.set_cons_zero, List.set_cons_succ]
          have hZ7 := below_step HZ6.out hS7
          refine last_ (i := 4) (N := some 32) #[true, true, true, true, true, false] rfl rfl (by kernel_rfl) (by decide) (fun K_ hK_ => ?_)
          refine Kd.S_append_step k31 (w0 := w) w.heap.size (by rfl) (.tmp 28) (.tmp 31) 22 31 (.agg #[.string (⟨#[]⟩ : ByteArray), .int .i64 0, .int .i64 0, .int .i64 0, .int .i64 0, .int .i64 0, .string (⟨#[]⟩ : ByteArray), .slice none 0 0]) 96 rfl Tryd.underlying22 info31 rfl (by decide) (by omega) v3 ((l0.take i.toNat).filter (goneB p)) (rd_T31 l0 i) [.string (rd_T31 l0 i).f0, .int .i64 (rd_T31 l0 i).f1, .int .i64 (rd_T31 l0 i).f2, .int .i64 (rd_T31 l0 i).f3, .int .i64 (rd_T31 l0 i).f4, .int .i64 (rd_T31 l0 i).f5, .string (rd_T31 l0 i).f6, .slice Ao (rd_T31 l0 i).f7.length co] (fun k => k ≠ b) (fun k_ => k_ ≠ b ∧ wr.heap.size ≤ k_) rfl rfl ?aP (fun k_ hk_ => ⟨hk_.1, fun e_ => by have := Kd.S_lt HO.out k_ e_.symm; omega⟩) (fun k_ hk_ => by have h1 := HBX.out.lt; have h2 := below_size hZ7; omega) ?aO ?aB ?aS ?aL ?_
          case aP => exact k31_mkM _ _ _ (rd_T31 l0 i) (Kd.R_lower (Kd.R_mono (Kd.R_bound HD.out) (fun k_ hk_ => ⟨by have h1 := HBX.out.lt; have h2 := hk_.2.1; omega, hk_.2.1⟩)) (below_size HB.out))
          case aO => exact Kd.S_mono (Kd.S_old HO.out hZ7) (fun k_ hk_ => ⟨hk_.1, fun h_ => by have := hk_.2; omega⟩)
          case aB => exact below_step HB.out hZ7
          case aS => exact below_size (below_step HB.out hZ7)
          case aL => have h1 := HN.out; have h2 := List.length_filter_le (goneB p) (l0.take i.toNat); rw [List.length_take] at h2; omega
          intro v11 w11 ho11 hb11 hg11 hat11
          obtain ⟨A11, c11, e11⟩ := Kd.S_slice ho11
          subst e11
          refine hK_.out _ _ ?_
          clear hK_ K_
          simp only [Act.put, List.setIfInBounds_toArray, List.set_cons_zero, List.set_cons_succ]
          have hb11x := Aside0.mk (show Boxed w11 b 22 v3 from Boxed.kept (boxed_below HBX.out hZ7) hg11 (fun e_ => (Kd.S_R HO.out).1 b e_.symm rfl))
          have bc := hb11x.out.cell
          have bf := hb11x.out.frozen
          refine last_ (i := 5) (N := none) #[true, true, true, true, true, true] rfl rfl (by kernel_rfl) (by decide) (fun K_ hK_ => ?_)
          refine skip_ (w1 := w11.setCell ⟨b, 0, none⟩ (.slice A11 ((l0.take i.toNat).filter (goneB p) ++ [(rd_T31 l0 i)]).length c11)) (by rfl) rfl (by first | (go_simp; done) | (go_simp; rfl)) ?_
          refine hK_.out _ _ ?_
          clear hK_ K_ bc bf
          refine done_ (by kernel_rfl) ?_
          go_wp2
          go_roundg k1
          case measure => omega
          case rel => exact ⟨i + 1, _, by rw [wr_in _ (by have h1 := HI.out; have h2 := HN.out; have h3 := C2.out; omega)], ⟨by have := HI.out; have := C2.out; omega⟩, ⟨hb11x.out.set _⟩, ⟨Kd.S_far (by rw [take_rd l0 i HI.out.1 C2.out, List.filter_append, List.filter_cons_of_pos HGO.out, List.filter_nil]; have e_ := ho11; rw [List.length_append, List.length_singleton] at e_; exact e_) (fun k hk => hk) _⟩, ⟨Below.setCell hb11 HBS.out _⟩⟩
        · have d1 : p.toList.isEmpty = false := by cases h : p.toList with | nil => exact absurd h cp | cons a b => rfl
          have d2 : (p.toList == []) = false := by rw [beq_eq_false_iff_ne]; exact cp
          by_cases cx : (rd_T31 l0 i).f0.toList = p.toList
          · have HGO := Aside0.mk (show goneB p (rd_T31 l0 i) = true by unfold goneB; rw [beq_iff_eq.mpr cx]; simp)
            have d3 : ((rd_T31 l0 i).f0.toList == p.toList) = true := beq_iff_eq.mpr cx
            clear cx cp hin
            go_upto_region 6 with (first | ((with_reducible refine gate_dst (N := 7) rfl ?_); refine box_event ?hg (N := 7) ?hd (cs := #[.string (⟨#[]⟩ : ByteArray), .int .i64 0, .int .i64 0, .int .i64 0, .int .i64 0, .int .i64 0, .string (⟨#[]⟩ : ByteArray), .slice none 0 0]) (t := 31) ?hr ?_; (case hd => rfl); (case hg => rfl); (case hr => first | (go_simp; done) | (go_simp; rfl)); intro g7 hg w5 hbox hb; have HZ5 := Aside0.mk (below_step HZ.out hb); have K5 := Aside0.mk hbox; have G5 := Aside0.mk (show wr.heap.size ≤ g7 by rw [hg]; exact below_size HZ.out); clear hb hbox hg) | ((with_reducible refine gate_store (t := 31) (p := 7) (v := .tmp 13) rfl ?_); refine ev_set31 _ rfl (.tmp 7) (.tmp 13) rfl rfl g7 _ _ _ _ _ _ _ _ (rd_T31 l0 i).f0 (rd_T31 l0 i).f6 (rd_T31 l0 i).f1 (rd_T31 l0 i).f2 (rd_T31 l0 i).f3 (rd_T31 l0 i).f4 (rd_T31 l0 i).f5 A7 (rd_T31 l0 i).f7.length c7 rfl rfl K5.out (fun w6 b1 b2 => ?_); have HZ6 := Aside0.mk (below_row_ HZ5.out b2 G5.out); have y0 : w6.cell? ⟨g7, 0, none⟩ = some (.string (rd_T31 l0 i).f0) := blk_cell b1 0; have y1 : w6.cell? ⟨g7, 1, none⟩ = some (.int .i64 (rd_T31 l0 i).f1) := blk_cell b1 1; have y2 : w6.cell? ⟨g7, 2, none⟩ = some (.int .i64 (rd_T31 l0 i).f2) := blk_cell b1 2; have y3 : w6.cell? ⟨g7, 3, none⟩ = some (.int .i64 (rd_T31 l0 i).f3) := blk_cell b1 3; have y4 : w6.cell? ⟨g7, 4, none⟩ = some (.int .i64 (rd_T31 l0 i).f4) := blk_cell b1 4; have y5 : w6.cell? ⟨g7, 5, none⟩ = some (.int .i64 (rd_T31 l0 i).f5) := blk_cell b1 5; have y6 : w6.cell? ⟨g7, 6, none⟩ = some (.string (rd_T31 l0 i).f6) := blk_cell b1 6; have y7 : w6.cell? ⟨g7, 7, none⟩ = some (.slice A7 (rd_T31 l0 i).f7.length c7) := blk_cell b1 7; clear b1 b2))
            have HBQ := Aside0.mk (boxed_below HBX.out HZ6.out)
            have bq := HBQ.out.cell
            refine start_ (n := 6) (S := fun W' => Below w6.heap.size w6 W') (ds := [4, 5]) #[false, false, false, false, false, false] (by kernel_rfl) rfl rfl (below_drew1 (Below.refl _ _)) (fun hS0 => ?_)
            refine take_ (i := 0) (N := some 28) (v := v3) #[true, false, false, false, false, false] rfl rfl (by kernel_rfl) (fun _ _ _ h => h) (Or.inl ⟨by rfl, fun W2 h2 => ?_⟩) hS0 rfl ?_
            · have q0 := (h2.cell (World.block_lt_of_cell? _ _ bq)).trans bq
              go_simp
            simp only [Act.put, List.setIfInBounds_toArray, List.set_cons_zero, List.set_cons_succ]
            refine take_ (i := 1) (N := some 29) (v := .agg #[.string (rd_T31 l0 i).f0, .int .i64 (rd_T31 l0 i).f1, .int .i64 (rd_T31 l0 i).f2, .int .i64 (rd_T31 l0 i).f3, .int .i64 (rd_T31 l0 i).f4, .int .i64 (rd_T31 l0 i).f5, .string (rd_T31 l0 i).f6, .slice A7 (rd_T31 l0 i).f7.length c7]) #[true, true, false, false, false, false] rfl rfl (by kernel_rfl) (fun _ _ _ h => h) (Or.inl ⟨by rfl, fun W2 h2 => ?_⟩) hS0 rfl ?_
            · have z0 := (h2.cell (World.block_lt_of_cell? _ _ y0)).trans y0; have z1 := (h2.cell (World.block_lt_of_cell? _ _ y1)).trans y1; have z2 := (h2.cell (World.block_lt_of_cell? _ _ y2)).trans y2; have z3 := (h2.cell (World.block_lt_of_cell? _ _ y3)).trans y3; have z4 := (h2.cell (World.block_lt_of_cell? _ _ y4)).trans y4; have z5 := (h2.cell (World.block_lt_of_cell? _ _ y5)).trans y5; have z6 := (h2.cell (World.block_lt_of_cell? _ _ y6)).trans y6; have z7 := (h2.cell (World.block_lt_of_cell? _ _ y7)).trans y7
              go_simp
            simp only [Act.put, List.setIfInBounds_toArray, List.set_cons_zero, List.set_cons_succ]
            refine one_ (i := 2) (N := some 30) #[true, true, true, false, false, false] rfl rfl (by kernel_rfl) (by decide) (fun K_ hK_ => ?_)
            refine goes_ Tryd.func30 (by kernel_rfl) rfl #[.agg #[.string (rd_T31 l0 i).f0, .int .i64 (rd_T31 l0 i).f1, .int .i64 (rd_T31 l0 i).f2, .int .i64 (rd_T31 l0 i).f3, .int .i64 (rd_T31 l0 i).f4, .int .i64 (rd_T31 l0 i).f5, .string (rd_T31 l0 i).f6, .slice A7 (rd_T31 l0 i).f7.length c7]] (by rfl) rfl rfl (by first | rfl | (simp [Act.eval]; done)) ?_
            refine (tree_copied.calls (rd_T31 l0 i).f0 (rd_T31 l0 i).f1 (rd_T31 l0 i).f2 (rd_T31 l0 i).f3 (rd_T31 l0 i).f4 (rd_T31 l0 i).f5 (rd_T31 l0 i).f6 A7 c7 (rd_T31 l0 i).f7 (rd_T31 l0 i).f0 (rd_T31 l0 i).f1 (rd_T31 l0 i).f2 (rd_T31 l0 i).f3 (rd_T31 l0 i).f4 (rd_T31 l0 i).f5 (rd_T31 l0 i).f6 (rd_T31 l0 i).f7 _ (Kd.C_below HI7.out (below_step HZ6.out hS0)) HL7.out (HGL.out.of (below_step HB.out (below_step HZ6.out hS0))) HCO.out).mono ?_
            rintro e w7 ⟨v7, rfl, ho, hb⟩
            have hS7 := below_step hS0 hb
            have HD := Aside0.mk (Kd.R_lower ho (show wr.heap.size ≤ w6.drew.heap.size from below_size (below_step HZ6.out hS0)))
            obtain ⟨Ao, co, eo⟩ := Kd.R_slice ho
            subst eo
            clear ho
            refine ⟨_, rfl, hK_.out _ _ hS7 (fun _ => ?_)⟩
            clear hK_ K_
            simp only [Act.put, List.setIfInBounds_toArray, List.set_cons_zero, List.set_cons_succ]
            refine one_ (i := 3) (N := some 31) #[true, true, true, true, false, false] rfl rfl (by kernel_rfl) (by decide) (fun K_ hK_ => ?_)
            refine value_ (v := .slice (some ⟨w7.heap.size, 0, none⟩) 1 1) (w1 := w7.alloc (.cells #[.string (rd_T31 l0 i).f0, .int .i64 (rd_T31 l0 i).f1, .int .i64 (rd_T31 l0 i).f2, .int .i64 (rd_T31 l0 i).f3, .int .i64 (rd_T31 l0 i).f4, .int .i64 (rd_T31 l0 i).f5, .string (rd_T31 l0 i).f6, .slice Ao (rd_T31 l0 i).f7.length co] 31)) (by rfl) rfl (by first | (go_simp; done) | (go_simp; rfl)) ?_
            refine hK_.out _ _ (below_alloc hS7 _) (fun _ => ?_)
            clear hK_ K_
            simp only [Act.put, List.setIfInBounds_toArray, List.set_cons_zero, List.set_cons_succ]
            have hZ7 := below_step HZ6.out hS7
            refine last_ (i := 4) (N := some 32) #[true, true, true, true, true, false] rfl rfl (by kernel_rfl) (by decide) (fun K_ hK_ => ?_)
            refine Kd.S_append_step k31 (w0 := w) w.heap.size (by rfl) (.tmp 28) (.tmp 31) 22 31 (.agg #[.string (⟨#[]⟩ : ByteArray), .int .i64 0, .int .i64 0, .int .i64 0, .int .i64 0, .int .i64 0, .string (⟨#[]⟩ : ByteArray), .slice none 0 0]) 96 rfl Tryd.underlying22 info31 rfl (by decide) (by omega) v3 ((l0.take i.toNat).filter (goneB p)) (rd_T31 l0 i) [.string (rd_T31 l0 i).f0, .int .i64 (rd_T31 l0 i).f1, .int .i64 (rd_T31 l0 i).f2, .int .i64 (rd_T31 l0 i).f3, .int .i64 (rd_T31 l0 i).f4, .int .i64 (rd_T31 l0 i).f5, .string (rd_T31 l0 i).f6, .slice Ao (rd_T31 l0 i).f7.length co] (fun k => k ≠ b) (fun k_ => k_ ≠ b ∧ wr.heap.size ≤ k_) rfl rfl ?aP (fun k_ hk_ => ⟨hk_.1, fun e_ => by have := Kd.S_lt HO.out k_ e_.symm; omega⟩) (fun k_ hk_ => by have h1 := HBX.out.lt; have h2 := below_size hZ7; omega) ?aO ?aB ?aS ?aL ?_
            case aP => exact k31_mkM _ _ _ (rd_T31 l0 i) (Kd.R_lower (Kd.R_mono (Kd.R_bound HD.out) (fun k_ hk_ => ⟨by have h1 := HBX.out.lt; have h2 := hk_.2.1; omega, hk_.2.1⟩)) (below_size HB.out))
            case aO => exact Kd.S_mono (Kd.S_old HO.out hZ7) (fun k_ hk_ => ⟨hk_.1, fun h_ => by have := hk_.2; omega⟩)
            case aB => exact below_step HB.out hZ7
            case aS => exact below_size (below_step HB.out hZ7)
            case aL => have h1 := HN.out; have h2 := List.length_filter_le (goneB p) (l0.take i.toNat); rw [List.length_take] at h2; omega
            intro v11 w11 ho11 hb11 hg11 hat11
            obtain ⟨A11, c11, e11⟩ := Kd.S_slice ho11
            subst e11
            refine hK_.out _ _ ?_
            clear hK_ K_
            simp only [Act.put, List.setIfInBounds_toArray, List.set_cons_zero, List.set_cons_succ]
            have hb11x := Aside0.mk (show Boxed w11 b 22 v3 from Boxed.kept (boxed_below HBX.out hZ7) hg11 (fun e_ => (Kd.S_R HO.out).1 b e_.symm rfl))
            have bc := hb11x.out.cell
            have bf := hb11x.out.frozen
            refine last_ (i := 5) (N := none) #[true, true, true, true, true, true] rfl rfl (by kernel_rfl) (by decide) (fun K_ hK_ => ?_)
            refine skip_ (w1 := w11.setCell ⟨b, 0, none⟩ (.slice A11 ((l0.take i.toNat).filter (goneB p) ++ [(rd_T31 l0 i)]).length c11)) (by rfl) rfl (by first | (go_simp; done) | (go_simp; rfl)) ?_
            refine hK_.out _ _ ?_
            clear hK_ K_ bc bf
            refine done_ (by kernel_rfl) ?_
            go_wp2
            go_roundg k1
            case measure => omega
            case rel => exact ⟨i + 1, _, by rw [wr_in _ (by have h1 := HI.out; have h2 := HN.out; have h3 := C2.out; omega)], ⟨by have := HI.out; have := C2.out; omega⟩, ⟨hb11x.out.set _⟩, ⟨Kd.S_far (by rw [take_rd l0 i HI.out.1 C2.out, List.filter_append, List.filter_cons_of_pos HGO.out, List.filter_nil]; have e_ := ho11; rw [List.length_append, List.length_singleton] at e_; exact e_) (fun k hk => hk) _⟩, ⟨Below.setCell hb11 HBS.out _⟩⟩
          · have d3 : ((rd_T31 l0 i).f0.toList == p.toList) = false := beq_eq_false_iff_ne.mpr cx
            by_cases ca : PM.AboveP p (rd_T31 l0 i).f0
            · have HGO := Aside0.mk (show goneB p (rd_T31 l0 i) = true by unfold goneB; rw [decide_eq_true ca]; simp)
              have HAB := Aside0.mk (show path_Above.f K p (rd_T31 l0 i).f0 = some true by rw [PM.above_f _ _ K HK.out, decide_eq_true ca])
              clear cx cp ca hin
              go_upto_region 6 with (first | ((with_reducible refine gate_dst (N := 7) rfl ?_); refine box_event ?hg (N := 7) ?hd (cs := #[.string (⟨#[]⟩ : ByteArray), .int .i64 0, .int .i64 0, .int .i64 0, .int .i64 0, .int .i64 0, .string (⟨#[]⟩ : ByteArray), .slice none 0 0]) (t := 31) ?hr ?_; (case hd => rfl); (case hg => rfl); (case hr => first | (go_simp; done) | (go_simp; rfl)); intro g7 hg w5 hbox hb; have HZ5 := Aside0.mk (below_step HZ.out hb); have K5 := Aside0.mk hbox; have G5 := Aside0.mk (show wr.heap.size ≤ g7 by rw [hg]; exact below_size HZ.out); clear hb hbox hg) | ((with_reducible refine gate_store (t := 31) (p := 7) (v := .tmp 13) rfl ?_); refine ev_set31 _ rfl (.tmp 7) (.tmp 13) rfl rfl g7 _ _ _ _ _ _ _ _ (rd_T31 l0 i).f0 (rd_T31 l0 i).f6 (rd_T31 l0 i).f1 (rd_T31 l0 i).f2 (rd_T31 l0 i).f3 (rd_T31 l0 i).f4 (rd_T31 l0 i).f5 A7 (rd_T31 l0 i).f7.length c7 rfl rfl K5.out (fun w6 b1 b2 => ?_); have HZ6 := Aside0.mk (below_row_ HZ5.out b2 G5.out); have y0 : w6.cell? ⟨g7, 0, none⟩ = some (.string (rd_T31 l0 i).f0) := blk_cell b1 0; have y1 : w6.cell? ⟨g7, 1, none⟩ = some (.int .i64 (rd_T31 l0 i).f1) := blk_cell b1 1; have y2 : w6.cell? ⟨g7, 2, none⟩ = some (.int .i64 (rd_T31 l0 i).f2) := blk_cell b1 2; have y3 : w6.cell? ⟨g7, 3, none⟩ = some (.int .i64 (rd_T31 l0 i).f3) := blk_cell b1 3; have y4 : w6.cell? ⟨g7, 4, none⟩ = some (.int .i64 (rd_T31 l0 i).f4) := blk_cell b1 4; have y5 : w6.cell? ⟨g7, 5, none⟩ = some (.int .i64 (rd_T31 l0 i).f5) := blk_cell b1 5; have y6 : w6.cell? ⟨g7, 6, none⟩ = some (.string (rd_T31 l0 i).f6) := blk_cell b1 6; have y7 : w6.cell? ⟨g7, 7, none⟩ = some (.slice A7 (rd_T31 l0 i).f7.length c7) := blk_cell b1 7; clear b1 b2) | (go_at_call 29; refine (path_Above.calls K p (rd_T31 l0 i).f0 true _ (HGL.out.of (below_step HB.out HZ6.out)) HAB.out).mono ?_; rintro e w6b ⟨rfl, hb⟩; have HZ6b := Aside0.mk (below_step HZ6.out hb); have u0 := (hb.cell (World.block_lt_of_cell? w6 _ y0)).trans y0; have u1 := (hb.cell (World.block_lt_of_cell? w6 _ y1)).trans y1; have u2 := (hb.cell (World.block_lt_of_cell? w6 _ y2)).trans y2; have u3 := (hb.cell (World.block_lt_of_cell? w6 _ y3)).trans y3; have u4 := (hb.cell (World.block_lt_of_cell? w6 _ y4)).trans y4; have u5 := (hb.cell (World.block_lt_of_cell? w6 _ y5)).trans y5; have u6 := (hb.cell (World.block_lt_of_cell? w6 _ y6)).trans y6; have u7 := (hb.cell (World.block_lt_of_cell? w6 _ y7)).trans y7; clear hb y0 y1 y2 y3 y4 y5 y6 y7; have y0 := u0; have y1 := u1; have y2 := u2; have y3 := u3; have y4 := u4; have y5 := u5; have y6 := u6; have y7 := u7; clear u0 u1 u2 u3 u4 u5 u6 u7))
              have HBQ := Aside0.mk (boxed_below HBX.out HZ6b.out)
              have bq := HBQ.out.cell
              refine start_ (n := 6) (S := fun W' => Below w6b.heap.size w6b W') (ds := [4, 5]) #[false, false, false, false, false, false] (by kernel_rfl) rfl rfl (below_drew1 (Below.refl _ _)) (fun hS0 => ?_)
              refine take_ (i := 0) (N := some 28) (v := v3) #[true, false, false, false, false, false] rfl rfl (by kernel_rfl) (fun _ _ _ h => h) (Or.inl ⟨by rfl, fun W2 h2 => ?_⟩) hS0 rfl ?_
              · have q0 := (h2.cell (World.block_lt_of_cell? _ _ bq)).trans bq
                go_simp
              simp only [Act.put, List.setIfInBounds_toArray, List.set_cons_zero, List.set_cons_succ]
              refine take_ (i := 1) (N := some 29) (v := .agg #[.string (rd_T31 l0 i).f0, .int .i64 (rd_T31 l0 i).f1, .int .i64 (rd_T31 l0 i).f2, .int .i64 (rd_T31 l0 i).f3, .int .i64 (rd_T31 l0 i).f4, .int .i64 (rd_T31 l0 i).f5, .string (rd_T31 l0 i).f6, .slice A7 (rd_T31 l0 i).f7.length c7]) #[true, true, false, false, false, false] rfl rfl (by kernel_rfl) (fun _ _ _ h => h) (Or.inl ⟨by rfl, fun W2 h2 => ?_⟩) hS0 rfl ?_
              · have z0 := (h2.cell (World.block_lt_of_cell? _ _ y0)).trans y0; have z1 := (h2.cell (World.block_lt_of_cell? _ _ y1)).trans y1; have z2 := (h2.cell (World.block_lt_of_cell? _ _ y2)).trans y2; have z3 := (h2.cell (World.block_lt_of_cell? _ _ y3)).trans y3; have z4 := (h2.cell (World.block_lt_of_cell? _ _ y4)).trans y4; have z5 := (h2.cell (World.block_lt_of_cell? _ _ y5)).trans y5; have z6 := (h2.cell (World.block_lt_of_cell? _ _ y6)).trans y6; have z7 := (h2.cell (World.block_lt_of_cell? _ _ y7)).trans y7
                go_simp
              simp only [Act.put, List.setIfInBounds_toArray, List.set_cons_zero, List.set_cons_succ]
              refine one_ (i := 2) (N := some 30) #[true, true, true, false, false, false] rfl rfl (by kernel_rfl) (by decide) (fun K_ hK_ => ?_)
              refine goes_ Tryd.func30 (by kernel_rfl) rfl #[.agg #[.string (rd_T31 l0 i).f0, .int .i64 (rd_T31 l0 i).f1, .int .i64 (rd_T31 l0 i).f2, .int .i64 (rd_T31 l0 i).f3, .int .i64 (rd_T31 l0 i).f4, .int .i64 (rd_T31 l0 i).f5, .string (rd_T31 l0 i).f6, .slice A7 (rd_T31 l0 i).f7.length c7]] (by rfl) rfl rfl (by first | rfl | (simp [Act.eval]; done)) ?_
              refine (tree_copied.calls (rd_T31 l0 i).f0 (rd_T31 l0 i).f1 (rd_T31 l0 i).f2 (rd_T31 l0 i).f3 (rd_T31 l0 i).f4 (rd_T31 l0 i).f5 (rd_T31 l0 i).f6 A7 c7 (rd_T31 l0 i).f7 (rd_T31 l0 i).f0 (rd_T31 l0 i).f1 (rd_T31 l0 i).f2 (rd_T31 l0 i).f3 (rd_T31 l0 i).f4 (rd_T31 l0 i).f5 (rd_T31 l0 i).f6 (rd_T31 l0 i).f7 _ (Kd.C_below HI7.out (below_step HZ6b.out hS0)) HL7.out (HGL.out.of (below_step HB.out (below_step HZ6b.out hS0))) HCO.out).mono ?_
              rintro e w7 ⟨v7, rfl, ho, hb⟩
              have hS7 := below_step hS0 hb
              have HD := Aside0.mk (Kd.R_lower ho (show wr.heap.size ≤ w6b.drew.heap.size from below_size (below_step HZ6b.out hS0)))
              obtain ⟨Ao, co, eo⟩ := Kd.R_slice ho
              subst eo
              clear ho
              refine ⟨_, rfl, hK_.out _ _ hS7 (fun _ => ?_)⟩
              clear hK_ K_
              simp only [Act.put, List.setIfInBounds_toArray, List.set_cons_zero, List.set_cons_succ]
              refine one_ (i := 3) (N := some 31) #[true, true, true, true, false, false] rfl rfl (by kernel_rfl) (by decide) (fun K_ hK_ => ?_)
              refine value_ (v := .slice (some ⟨w7.heap.size, 0, none⟩) 1 1) (w1 := w7.alloc (.cells #[.string (rd_T31 l0 i).f0, .int .i64 (rd_T31 l0 i).f1, .int .i64 (rd_T31 l0 i).f2, .int .i64 (rd_T31 l0 i).f3, .int .i64 (rd_T31 l0 i).f4, .int .i64 (rd_T31 l0 i).f5, .string (rd_T31 l0 i).f6, .slice Ao (rd_T31 l0 i).f7.length co] 31)) (by rfl) rfl (by first | (go_simp; done) | (go_simp; rfl)) ?_
              refine hK_.out _ _ (below_alloc hS7 _) (fun _ => ?_)
              clear hK_ K_
              simp only [Act.put, List.setIfInBounds_toArray, List.set_cons_zero, List.set_cons_succ]
              have hZ7 := below_step HZ6b.out hS7
              refine last_ (i := 4) (N := some 32) #[true, true, true, true, true, false] rfl rfl (by kernel_rfl) (by decide) (fun K_ hK_ => ?_)
              refine Kd.S_append_step k31 (w0 := w) w.heap.size (by rfl) (.tmp 28) (.tmp 31) 22 31 (.agg #[.string (⟨#[]⟩ : ByteArray), .int .i64 0, .int .i64 0, .int .i64 0, .int .i64 0, .int .i64 0, .string (⟨#[]⟩ : ByteArray), .slice none 0 0]) 96 rfl Tryd.underlying22 info31 rfl (by decide) (by omega) v3 ((l0.take i.toNat).filter (goneB p)) (rd_T31 l0 i) [.string (rd_T31 l0 i).f0, .int .i64 (rd_T31 l0 i).f1, .int .i64 (rd_T31 l0 i).f2, .int .i64 (rd_T31 l0 i).f3, .int .i64 (rd_T31 l0 i).f4, .int .i64 (rd_T31 l0 i).f5, .string (rd_T31 l0 i).f6, .slice Ao (rd_T31 l0 i).f7.length co] (fun k => k ≠ b) (fun k_ => k_ ≠ b ∧ wr.heap.size ≤ k_) rfl rfl ?aP (fun k_ hk_ => ⟨hk_.1, fun e_ => by have := Kd.S_lt HO.out k_ e_.symm; omega⟩) (fun k_ hk_ => by have h1 := HBX.out.lt; have h2 := below_size hZ7; omega) ?aO ?aB ?aS ?aL ?_
              case aP => exact k31_mkM _ _ _ (rd_T31 l0 i) (Kd.R_lower (Kd.R_mono (Kd.R_bound HD.out) (fun k_ hk_ => ⟨by have h1 := HBX.out.lt; have h2 := hk_.2.1; omega, hk_.2.1⟩)) (below_size HB.out))
              case aO => exact Kd.S_mono (Kd.S_old HO.out hZ7) (fun k_ hk_ => ⟨hk_.1, fun h_ => by have := hk_.2; omega⟩)
              case aB => exact below_step HB.out hZ7
              case aS => exact below_size (below_step HB.out hZ7)
              case aL => have h1 := HN.out; have h2 := List.length_filter_le (goneB p) (l0.take i.toNat); rw [List.length_take] at h2; omega
              intro v11 w11 ho11 hb11 hg11 hat11
              obtain ⟨A11, c11, e11⟩ := Kd.S_slice ho11
              subst e11
              refine hK_.out _ _ ?_
              clear hK_ K_
              simp only [Act.put, List.setIfInBounds_toArray, List.set_cons_zero, List.set_cons_succ]
              have hb11x := Aside0.mk (show Boxed w11 b 22 v3 from Boxed.kept (boxed_below HBX.out hZ7) hg11 (fun e_ => (Kd.S_R HO.out).1 b e_.symm rfl))
              have bc := hb11x.out.cell
              have bf := hb11x.out.frozen
              refine last_ (i := 5) (N := none) #[true, true, true, true, true, true] rfl rfl (by kernel_rfl) (by decide) (fun K_ hK_ => ?_)
              refine skip_ (w1 := w11.setCell ⟨b, 0, none⟩ (.slice A11 ((l0.take i.toNat).filter (goneB p) ++ [(rd_T31 l0 i)]).length c11)) (by rfl) rfl (by first | (go_simp; done) | (go_simp; rfl)) ?_
              refine hK_.out _ _ ?_
              clear hK_ K_ bc bf
              refine done_ (by kernel_rfl) ?_
              go_wp2
              go_roundg k1
              case measure => omega
              case rel => exact ⟨i + 1, _, by rw [wr_in _ (by have h1 := HI.out; have h2 := HN.out; have h3 := C2.out; omega)], ⟨by have := HI.out; have := C2.out; omega⟩, ⟨hb11x.out.set _⟩, ⟨Kd.S_far (by rw [take_rd l0 i HI.out.1 C2.out, List.filter_append, List.filter_cons_of_pos HGO.out, List.filter_nil]; have e_ := ho11; rw [List.length_append, List.length_singleton] at e_; exact e_) (fun k hk => hk) _⟩, ⟨Below.setCell hb11 HBS.out _⟩⟩
            · have HGO := Aside0.mk (show ¬ goneB p (rd_T31 l0 i) = true by unfold goneB; rw [decide_eq_false ca, d2, d3]; simp)
              have HAB := Aside0.mk (show path_Above.f K p (rd_T31 l0 i).f0 = some false by rw [PM.above_f _ _ K HK.out, decide_eq_false ca])
              clear cx cp ca hin
              go_wp2_with (first | ((with_reducible refine gate_dst (N := 7) rfl ?_); refine box_event ?hg (N := 7) ?hd (cs := #[.string (⟨#[]⟩ : ByteArray), .int .i64 0, .int .i64 0, .int .i64 0, .int .i64 0, .int .i64 0, .string (⟨#[]⟩ : ByteArray), .slice none 0 0]) (t := 31) ?hr ?_; (case hd => rfl); (case hg => rfl); (case hr => first | (go_simp; done) | (go_simp; rfl)); intro g7 hg w5 hbox hb; have HZ5 := Aside0.mk (below_step HZ.out hb); have K5 := Aside0.mk hbox; have G5 := Aside0.mk (show wr.heap.size ≤ g7 by rw [hg]; exact below_size HZ.out); clear hb hbox hg) | ((with_reducible refine gate_store (t := 31) (p := 7) (v := .tmp 13) rfl ?_); refine ev_set31 _ rfl (.tmp 7) (.tmp 13) rfl rfl g7 _ _ _ _ _ _ _ _ (rd_T31 l0 i).f0 (rd_T31 l0 i).f6 (rd_T31 l0 i).f1 (rd_T31 l0 i).f2 (rd_T31 l0 i).f3 (rd_T31 l0 i).f4 (rd_T31 l0 i).f5 A7 (rd_T31 l0 i).f7.length c7 rfl rfl K5.out (fun w6 b1 b2 => ?_); have HZ6 := Aside0.mk (below_row_ HZ5.out b2 G5.out); have y0 : w6.cell? ⟨g7, 0, none⟩ = some (.string (rd_T31 l0 i).f0) := blk_cell b1 0; have y1 : w6.cell? ⟨g7, 1, none⟩ = some (.int .i64 (rd_T31 l0 i).f1) := blk_cell b1 1; have y2 : w6.cell? ⟨g7, 2, none⟩ = some (.int .i64 (rd_T31 l0 i).f2) := blk_cell b1 2; have y3 : w6.cell? ⟨g7, 3, none⟩ = some (.int .i64 (rd_T31 l0 i).f3) := blk_cell b1 3; have y4 : w6.cell? ⟨g7, 4, none⟩ = some (.int .i64 (rd_T31 l0 i).f4) := blk_cell b1 4; have y5 : w6.cell? ⟨g7, 5, none⟩ = some (.int .i64 (rd_T31 l0 i).f5) := blk_cell b1 5; have y6 : w6.cell? ⟨g7, 6, none⟩ = some (.string (rd_T31 l0 i).f6) := blk_cell b1 6; have y7 : w6.cell? ⟨g7, 7, none⟩ = some (.slice A7 (rd_T31 l0 i).f7.length c7) := blk_cell b1 7; clear b1 b2) | (go_at_call 29; refine (path_Above.calls K p (rd_T31 l0 i).f0 false _ (HGL.out.of (below_step HB.out HZ6.out)) HAB.out).mono ?_; rintro e w6b ⟨rfl, hb⟩; have HZ6b := Aside0.mk (below_step HZ6.out hb); have u0 := (hb.cell (World.block_lt_of_cell? w6 _ y0)).trans y0; have u1 := (hb.cell (World.block_lt_of_cell? w6 _ y1)).trans y1; have u2 := (hb.cell (World.block_lt_of_cell? w6 _ y2)).trans y2; have u3 := (hb.cell (World.block_lt_of_cell? w6 _ y3)).trans y3; have u4 := (hb.cell (World.block_lt_of_cell? w6 _ y4)).trans y4; have u5 := (hb.cell (World.block_lt_of_cell? w6 _ y5)).trans y5; have u6 := (hb.cell (World.block_lt_of_cell? w6 _ y6)).trans y6; have u7 := (hb.cell (World.block_lt_of_cell? w6 _ y7)).trans y7; clear hb y0 y1 y2 y3 y4 y5 y6 y7; have y0 := u0; have y1 := u1; have y2 := u2; have y3 := u3; have y4 := u4; have y5 := u5; have y6 := u6; have y7 := u7; clear u0 u1 u2 u3 u4 u5 u6 u7))
              go_roundg k1
              case measure => omega
              case rel => exact ⟨i + 1, v3, by rw [wr_in _ (by have h1 := HI.out; have h2 := HN.out; have h3 := C2.out; omega)], ⟨by have := HI.out; have := C2.out; omega⟩, ⟨boxed_below HBX.out HZ6b.out⟩, ⟨by rw [take_rd l0 i HI.out.1 C2.out, List.filter_append, List.filter_cons_of_neg HGO.out, List.filter_nil, List.append_nil]; exact Kd.S_below HO.out HZ6b.out⟩, ⟨below_step HB.out HZ6b.out⟩⟩
      · have e1 : l0.take i.toNat = l0 := List.take_of_length_le (by have := HI.out; omega)
        rw [e1] at HO
        clear e1
        obtain ⟨Ao, co, eo⟩ := Kd.S_slice HO.out
        subst eo
        go_wp2
        go_ret
        exact ⟨b, rfl, Ao, co, HBX.out, HO.out, HBS.out, HB.out⟩
end Go.Proofs.YtfkbmjfhakooiaaDoor.TR

/- tree.Build, called: what it answers of small entries; of a tree's entries in any order. Conditions: as each theorem says. -/
namespace Go.Proofs.YtfkbmjfhakooiaaDoor.TR
open Go.RowKit Go.Proofs.YtfkbmjfhakooiaaDoor.PTree Go.Proofs.YtfkbmjfhakooiaaDoorW.PrintWords Go.Proofs.YtfkbmjfhakooiaaDoorW.PrintLast Go.Proofs.YtfkbmjfhakooiaaDoorW.PrintMore
set_option linter.unusedVariables false
set_option linter.unusedSimpArgs false
theorem build_goes (K : Nat) (hK : 3000000 ≤ K) (l : List S31) (hl : ∀ x ∈ l, SmallE x) (A : Option Addr) (c : Nat) (w : World) (hC : Kd.C k31 w A l.length l) (hGl : Gl w) :
    Calls Tryd.prog 8 #[.slice A l.length c] w fun e w' => ∃ A' c' ys en, e = .returned (.tuple #[.slice A' ys.length c', errW en]) ∧ ys.length ≤ c' ∧ Kd.C k31 w' A' ys.length ys ∧ Below w.heap.size w w' ∧ (∀ q, en = some q → ys = []) ∧ (en = none → Built K l ys) := by
  obtain ⟨xs, er, h1, h2⟩ := buildA_total K l hK hl
  refine (Build_calls K A c l xs er (fun ys => er = none ∧ SortR K xs ys) w hC hGl h1 (fun e v W hb hR => (sort_goes K 400 (by omega) (by omega) w hGl xs (fun x hx => ((h2 e).1 x hx).1.1) (by have := (h2 e).2.1; omega) v W hb hR).mono fun e' w' ⟨a, ys, b, c, d⟩ => ⟨a, ys, ⟨e, b⟩, c, d⟩) (fun ys hys => sorted_check hK (h2 hys.1).1 hys.2)).mono ?_
  rintro e w' ⟨A', c', ys, en, rfl, q1, q2, q3, q4, q5⟩
  refine ⟨A', c', ys, en, rfl, q1, q2, q3, fun q hq => ?_, fun hn => ?_⟩
  · cases er with
    | some z => exact (q4 z rfl).1
    | none =>
      obtain ⟨zs, r, a1, a2, a3, a4⟩ := q5 rfl
      rw [a4, if_neg (by rw [← a3, hq]; simp)]
  · cases er with
    | some z =>
      have := (q4 z rfl).2
      rw [hn] at this
      cases this
    | none =>
      obtain ⟨zs, r, a1, a2, a3, a4⟩ := q5 rfl
      rw [hn] at a3
      rw [a4, if_pos a3.symm]
      exact built K hK l xs zs hl (h2 rfl).1 (h2 rfl).2.2 a1.2 r a2 a3.symm
theorem build_again (K : Nat) (hK : 3000000 ≤ K) (l zs m : List S31) (hB : Built K l zs) (hp : m.Perm zs) (A : Option Addr) (c : Nat) (w : World) (hC : Kd.C k31 w A m.length m) (hGl : Gl w) :
    Calls Tryd.prog 8 #[.slice A m.length c] w fun e w' => ∃ A' c', e = .returned (.tuple #[.slice A' zs.length c', .nilIface]) ∧ zs.length ≤ c' ∧ Kd.C k31 w' A' zs.length zs ∧ Below w.heap.size w w' := by
  have hx : ∀ x ∈ m, MeantE x := fun x h => hB.meant x (hp.mem_iff.1 h)
  refine (Build_calls K A c m m none (fun ys => SortR K m ys) w hC hGl (hB.again m hp) (fun e v W hb hR => sort_goes K 400 (by omega) (by omega) w hGl m (fun x h => (hx x h).1.1) (by have := hp.length_eq; have := hB.len; omega) v W hb hR) (fun ys hys => sorted_check hK hx hys)).mono ?_
  rintro e w' ⟨A', c', ys, en, rfl, q1, q2, q3, q4, q5⟩
  obtain ⟨qs, r, a1, a2, a3, a4⟩ := q5 rfl
  obtain rfl := hB.sorted m qs hp a1
  rw [hB.check] at a2
  obtain rfl := Option.some.inj a2
  subst a3
  rw [if_pos rfl] at a4
  subst a4
  exact ⟨A', c', by rw [errW_none], q1, q2, q3⟩
end Go.Proofs.YtfkbmjfhakooiaaDoor.TR

/- The loop over Walk in TreeParents: what it carries. Conditions: as each theorem says. -/
namespace Go.Proofs.YtfkbmjfhakooiaaDoor.TR
open Go.RowKit Go.Shelf Go.Proofs.YtfkbmjfhakooiaaDoor.PTree Go.Proofs.YtfkbmjfhakooiaaDoorW.PrintWords Go.Proofs.YtfkbmjfhakooiaaDoorW.PrintLast Go.Proofs.YtfkbmjfhakooiaaDoorW.PrintMore
set_option linter.unusedVariables false
set_option linter.unusedSimpArgs false
theorem Gl.kept {w W : World} (h : Gl w) (hb : ∀ k, k < w.heap.size → W.heap[k]? = w.heap[k]?) : Gl W := by
  have cell : ∀ {a : Addr} {v : Value}, w.cell? a = some v → W.cell? a = some v := fun {a v} hc => by
    have hlt := World.block_lt_of_cell? w _ hc
    rw [← hc]
    unfold World.cell?
    rw [hb _ hlt]
  exact ⟨⟨fun c hc => cell (h.tabs.1 c hc), fun i hi => ⟨cell (h.tabs.2 i hi).1, cell (h.tabs.2 i hi).2⟩⟩⟩
theorem xpx_put {wl : List S31} {pre : List EntX} {x : EntX} {W0 W1 : World} {l : Nat} {o o' : Obj} (hl : W1.heap[l]? = some o) (ho : o.isCells = false) (h : XpX wl pre x W0 W1) : XpX wl pre x (W0.putObj l o') (W1.putObj l o') := by
  refine ⟨h.1, ?_⟩
  have s0 : (W0.putObj l o').heap.size = W0.heap.size := by simp [World.putObj]
  rw [s0]
  refine Kd.R_mono (Kd.R_grown (Kd.R_bound h.2) (grownBy_putObj' W1 l o') (fun k hk e => ?_)) (fun _ _ => trivial)
  injection e with e
  subst e
  obtain ⟨_, _, _, q, _, cells, hc⟩ := hk
  rw [hl] at hc
  injection hc with hc
  subst hc
  cases ho
theorem xpx_below {wl : List S31} {pre : List EntX} {x : EntX} {W0 W W' : World} (h : XpX wl pre x W0 W) (hb : Below W.heap.size W W') : XpX wl pre x W0 W' := ⟨h.1, Kd.R_below h.2 hb⟩
theorem zip_one (T : Array Value) (v : Value) (k : Tmp) : ((#[k] : Array Tmp).zip #[v]).foldl (fun t (x : Tmp × Value) => match x with | (p, v) => t.setIfInBounds p v) T = T.setIfInBounds k v := by first | rfl | (simp; done)
def ixOf : Value → Nat
  | .int _ i => i.toNat
  | _ => 0
/-- The first place, as it is known: ahead of entry i. -/
def FI (n : Nat) (f : Nat) (i : Int) : Int := if n = 0 ∧ i ≤ (f : Int) then -1 else (f : Int)
def TwoB (b14 b15 : Nat) (k : Nat) : Prop := k = b14 ∨ k = b15
/-- What is carried from round to round. -/
def ParI (b14 b15 f : Nat) (ww : World) (pre : List EntX) (W : World) : Prop :=
  Boxed W b14 3 (.int .i64 (if pre.length = 0 then -1 else (f : Int))) ∧ Boxed W b15 3 (.int .i64 (pre.length : Int)) ∧ Ex (TwoB b14 b15) ww W
theorem ParI.own (b14 b15 f : Nat) (ww : World) : OwnFrom ww.heap.size (ParI b14 b15 f ww) := by
  intro pre W W' row h hg hr
  have ne : ∀ {b : Nat} {v : Value}, Boxed W b 3 v → some b ≠ row := fun {b v} hb e => by
    obtain ⟨_, o, ho, hc⟩ := hr b e.symm
    have h1 : W.heap[b]? = some (.cells #[v] 3 (0, 0)) := hb
    rw [h1] at ho
    injection ho with ho
    subst ho
    cases hc
  refine ⟨h.1.kept hg (ne h.1), h.2.1.kept hg (ne h.2.1), ?_⟩
  exact Ex.grown h.2.2 hg (fun k e => .inr (hr k e).1)
theorem ex_keeps {b14 b15 B : Nat} {W W' : World} (h : Ex (TwoB b14 b15) W W') (h1 : b14 < B) (h2 : b15 < B) : KeepsFrom B W W' := by
  refine ⟨h.size, fun k o hk ho _ => ?_⟩
  rw [h.block k (Array.getElem?_eq_some_iff.1 ho).1 (fun e => by rcases e with e | e <;> omega)]
  exact ho
theorem ex_cell {X : Nat → Prop} {a b : World} (h : Ex X a b) {p : Addr} (hn : ¬ X p.block) {v : Value} (hc : a.cell? p = some v) : b.cell? p = a.cell? p := by
  unfold World.cell?
  rw [h.block _ (World.block_lt_of_cell? a _ hc) hn]
/-- Entry f + n alone has the path that is gone over. -/
theorem only_ix {zs : List S31} (ok : ∀ j, 0 ≤ j → j < (zs.length : Int) → OkAt zs j) {f n : Nat} {x : S31} (hx : zs[f + n]? = some x) (i : Int) (i0 : 0 ≤ i) (i1 : i < (zs.length : Int)) (e : (rd_T31 zs i).f0.toList = x.f0.toList) : i = ((f + n : Nat) : Int) := by
  have hu := unlike_of zs zs ok (List.Perm.refl _)
  have hl := (List.getElem?_eq_some_iff.1 hx).1
  have e2 : rd_T31 zs ((f + n : Nat) : Int) = x := by
    unfold rd_T31
    rw [Int.toNat_natCast, List.getD_eq_getElem?_getD, hx]
    rfl
  have e3 : (rd_T31 zs i).f0 = (rd_T31 zs ((f + n : Nat) : Int)).f0 := by rw [e2]; exact toList_inj e
  rcases Int.lt_trichotomy i ((f + n : Nat) : Int) with h | h | h
  · exact absurd e3 (hu i _ i0 h (by omega))
  · exact h
  · exact absurd e3.symm (hu _ i (by omega) h i1)
end Go.Proofs.YtfkbmjfhakooiaaDoor.TR

/- TreeParents, walked: to the loop over Walk. Conditions: as each theorem says. -/
namespace Go.Proofs.YtfkbmjfhakooiaaDoor.TR
open Go.RowKit Go.Shelf Go.Proofs.YtfkbmjfhakooiaaDoor.PTree Go.Proofs.YtfkbmjfhakooiaaDoorW.PrintWords Go.Proofs.YtfkbmjfhakooiaaDoorW.PrintLast Go.Proofs.YtfkbmjfhakooiaaDoorW.PrintMore
attribute [local go_sem] Oper.semAt_some
set_option linter.unusedVariables false
set_option linter.unusedSimpArgs false
theorem results3 {W : World} {b : Nat} {v : Value} {tmps : Array Value} (h4 : Boxed W b 4 v) (e4 : tmps.getD 4 undef = .pointer (some ⟨b, 0, none⟩)) : (results Tryd.f3 tmps).run Tryd.prog W = .ok v W := by
  have hres : Tryd.f3.results = #[.cell 4 4] := by kernel_rfl
  have e4' : tmps[4]?.getD undef = .pointer (some ⟨b, 0, none⟩) := by simpa using e4
  have k4 := h4.cell
  simp [results, hres, e4', go_sem, Tryd.underlying4, k4]
theorem leaveP {W w : World} {b : Nat} {tmps : Array Value} (h4 : Boxed W b 4 (.bool true)) (e4 : tmps.getD 4 undef = .pointer (some ⟨b, 0, none⟩)) (hB : Below w.heap.size w W) :
    LeavesInM Fence.wide 6 Tryd.prog Tryd.f3 tmps (fun e w' => e = .returned (.bool true) ∧ Below w.heap.size w w') [] .returning W :=
  ⟨_, results3 h4 e4, rfl, hB⟩
theorem leavePD {W w : World} {b D : Nat} {tmps : Array Value} (h4 : Boxed W b 4 (.bool true)) (e4 : tmps.getD 4 undef = .pointer (some ⟨b, 0, none⟩)) (hB : Below w.heap.size w W) (hD : W.heap[D]? = some (.deferred (some []))) (hd : w.heap.size ≤ D) :
    LeavesInM Fence.wide 6 Tryd.prog Tryd.f3 tmps (fun e w' => e = .returned (.bool true) ∧ Below w.heap.size w w') [{ target := .collected D, args := #[] }] .returning W := by
  have hne : b ≠ D := fun e => by
    have h5 : W.heap[b]? = some (.cells #[.bool true] 4 (0, 0)) := h4
    rw [e, hD] at h5
    cases h5
  refine ⟨by simp, .inl ⟨_, _, rfl, run_takeDeferred hD, ?_⟩⟩
  exact ⟨_, results3 (show Boxed (W.putObj D (.deferred none)) b 4 (.bool true) from (World.putObj_heap_other hne).trans h4) e4, rfl, hB.grown (grownBy_putObj' W D _) (by have := (Array.getElem?_eq_some_iff.1 hD).1; omega) (fun k e => by cases e; exact hd)⟩
set_option maxHeartbeats 16000000 in
set_option maxRecDepth 100000 in
theorem Parents_calls (K : Nat) (hK : 3000000 ≤ K) (l0 : List S31) (p : ByteArray) (A0 : Option Addr) (k0 : Nat) (ba : Bool) (w : World) (hGl : Gl w) (h0 : Kd.C k31 w A0 l0.length l0) (hc0 : l0.length ≤ k0) (hba : amphoralaw09_large.f K l0 = some ba)
    (hsm : ba = false → l0.length ≤ 1000000 ∧ ∀ x ∈ l0, SmallE x) :
    Calls Tryd.prog 3 #[.slice A0 l0.length k0, .string p] w fun e w' => e = .returned (.bool true) ∧ Below w.heap.size w w' := by
  have hu31 := Tryd.underlying31
  have hu22 := Tryd.underlying22
  have hu9 := Tryd.underlying9
  have hu4 := Tryd.underlying4
  have hu3 := Tryd.underlying3
  have HK := Aside0.mk hK
  have H0 := Aside0.mk h0
  have HC0 := Aside0.mk hc0
  have HBA := Aside0.mk hba
  have HGL := Aside0.mk hGl
  clear h0 hc0 hba hGl hK
  refine (callsIn_wide (n := 6)).1 ?_
  refine callsIn_of_wp_marks Tryd.func3 rfl trivial ?_ rfl
  simp only [Tryd.ntmps3, List.size_toArray, List.length_cons, List.length_nil, Nat.reduceAdd, Nat.reduceSub, Array.replicate_succ, Array.replicate_zero, List.push_toArray, List.append_toArray, List.nil_append, List.cons_append]
  refine wpIn_wide.2 ?_
  cases ba with
  | true =>
    clear hsm
    go_wp2_with (first | ((with_reducible refine gate_dst (N := 3) rfl ?_); refine box_event ?hg (N := 3) ?hd (cs := #[.string p]) (t := 9) ?hr ?_; (case hd => rfl); (case hg => rfl); (case hr => first | (go_simp; done) | (go_simp; rfl)); intro b3 hg wa hbox hb; have HBa := Aside0.mk hb; have X3a := Aside0.mk (show Boxed wa b3 9 (.string p) from hbox); have S3 := Aside0.mk (show w.heap.size ≤ b3 by rw [hg]; exact Nat.le_refl _); clear hb hbox hg) | ((with_reducible refine gate_dst (N := 4) rfl ?_); refine box_event ?hg (N := 4) ?hd (cs := #[.bool false]) (t := 4) ?hr ?_; (case hd => rfl); (case hg => rfl); (case hr => first | (go_simp; done) | (go_simp; rfl)); intro b4 hg w0 hbox hb; have HB0 := Aside0.mk (below_step HBa.out hb); have X3 := Aside0.mk (boxed_below X3a.out hb); have X4 := Aside0.mk (show Boxed w0 b4 4 (.bool false) from hbox); have S4 := Aside0.mk (show w.heap.size ≤ b4 by rw [hg]; exact below_size HBa.out); have N34 := Aside0.mk (show b3 < b4 by rw [hg]; exact X3a.out.lt); clear hb hbox hg) | (go_at_call 6; refine (alive_calls w0 (HGL.out.of HB0.out)).mono ?_; rintro e w1 ⟨rfl, hb⟩; have HB1 := Aside0.mk (below_step HB0.out hb); have HA1 := Aside0.mk hb; clear hb) | (go_at_call 7; refine (amphoralaw09_large.calls K A0 k0 l0 true _ (Kd.C_below H0.out HB1.out) HC0.out (HGL.out.of HB1.out) HBA.out).mono ?_; rintro e w2 ⟨rfl, hb⟩; have HB2 := Aside0.mk (below_step HB1.out hb); have HA2 := Aside0.mk (below_step HA1.out hb); have c3 := (boxed_below X3.out HA2.out).cell; have c4 := (boxed_below X4.out HA2.out).cell; have f4 := (boxed_below X4.out HA2.out).frozen; clear hb))
    exact leaveP (Boxed.set _ (boxed_below X4.out HA2.out)) rfl (HB2.out.setCell S4.out _)
  | false =>
    obtain ⟨hn, hs⟩ := hsm rfl
    have HN := Aside0.mk hn
    have HSM := Aside0.mk hs
    clear hsm hn hs
    by_cases cp : (p.size : Int) > 1000
    · have cp1 := eq_true cp
      have cp2 := decide_eq_true cp
      clear cp
      go_wp2_with (first | ((with_reducible refine gate_dst (N := 3) rfl ?_); refine box_event ?hg (N := 3) ?hd (cs := #[.string p]) (t := 9) ?hr ?_; (case hd => rfl); (case hg => rfl); (case hr => first | (go_simp; done) | (go_simp; rfl)); intro b3 hg wa hbox hb; have HBa := Aside0.mk hb; have X3a := Aside0.mk (show Boxed wa b3 9 (.string p) from hbox); have S3 := Aside0.mk (show w.heap.size ≤ b3 by rw [hg]; exact Nat.le_refl _); clear hb hbox hg) | ((with_reducible refine gate_dst (N := 4) rfl ?_); refine box_event ?hg (N := 4) ?hd (cs := #[.bool false]) (t := 4) ?hr ?_; (case hd => rfl); (case hg => rfl); (case hr => first | (go_simp; done) | (go_simp; rfl)); intro b4 hg w0 hbox hb; have HB0 := Aside0.mk (below_step HBa.out hb); have X3 := Aside0.mk (boxed_below X3a.out hb); have X4 := Aside0.mk (show Boxed w0 b4 4 (.bool false) from hbox); have S4 := Aside0.mk (show w.heap.size ≤ b4 by rw [hg]; exact below_size HBa.out); have N34 := Aside0.mk (show b3 < b4 by rw [hg]; exact X3a.out.lt); clear hb hbox hg) | (go_at_call 6; refine (alive_calls w0 (HGL.out.of HB0.out)).mono ?_; rintro e w1 ⟨rfl, hb⟩; have HB1 := Aside0.mk (below_step HB0.out hb); have HA1 := Aside0.mk hb; clear hb) | (go_at_call 7; refine (amphoralaw09_large.calls K A0 k0 l0 false _ (Kd.C_below H0.out HB1.out) HC0.out (HGL.out.of HB1.out) HBA.out).mono ?_; rintro e w2 ⟨rfl, hb⟩; have HB2 := Aside0.mk (below_step HB1.out hb); have HA2 := Aside0.mk (below_step HA1.out hb); have c3 := (boxed_below X3.out HA2.out).cell; have c4 := (boxed_below X4.out HA2.out).cell; have f4 := (boxed_below X4.out HA2.out).frozen; clear hb))
      exact leaveP (Boxed.set _ (boxed_below X4.out HA2.out)) rfl (HB2.out.setCell S4.out _)
    · have cp1 := eq_false cp
      have cp2 := decide_eq_false cp
      clear cp
      go_upto_region 6 with (first | ((with_reducible refine gate_dst (N := 3) rfl ?_); refine box_event ?hg (N := 3) ?hd (cs := #[.string p]) (t := 9) ?hr ?_; (case hd => rfl); (case hg => rfl); (case hr => first | (go_simp; done) | (go_simp; rfl)); intro b3 hg wa hbox hb; have HBa := Aside0.mk hb; have X3a := Aside0.mk (show Boxed wa b3 9 (.string p) from hbox); have S3 := Aside0.mk (show w.heap.size ≤ b3 by rw [hg]; exact Nat.le_refl _); clear hb hbox hg) | ((with_reducible refine gate_dst (N := 4) rfl ?_); refine box_event ?hg (N := 4) ?hd (cs := #[.bool false]) (t := 4) ?hr ?_; (case hd => rfl); (case hg => rfl); (case hr => first | (go_simp; done) | (go_simp; rfl)); intro b4 hg w0 hbox hb; have HB0 := Aside0.mk (below_step HBa.out hb); have X3 := Aside0.mk (boxed_below X3a.out hb); have X4 := Aside0.mk (show Boxed w0 b4 4 (.bool false) from hbox); have S4 := Aside0.mk (show w.heap.size ≤ b4 by rw [hg]; exact below_size HBa.out); have N34 := Aside0.mk (show b3 < b4 by rw [hg]; exact X3a.out.lt); clear hb hbox hg) | (go_at_call 6; refine (alive_calls w0 (HGL.out.of HB0.out)).mono ?_; rintro e w1 ⟨rfl, hb⟩; have HB1 := Aside0.mk (below_step HB0.out hb); have HA1 := Aside0.mk hb; clear hb) | (go_at_call 7; refine (amphoralaw09_large.calls K A0 k0 l0 false _ (Kd.C_below H0.out HB1.out) HC0.out (HGL.out.of HB1.out) HBA.out).mono ?_; rintro e w2 ⟨rfl, hb⟩; have HB2 := Aside0.mk (below_step HB1.out hb); have HA2 := Aside0.mk (below_step HA1.out hb); have c3 := (boxed_below X3.out HA2.out).cell; have c4 := (boxed_below X4.out HA2.out).cell; have f4 := (boxed_below X4.out HA2.out).frozen; clear hb) | (go_at_call 8; refine (build_goes K HK.out l0 HSM.out A0 k0 _ (Kd.C_below H0.out HB2.out) (HGL.out.of HB2.out)).mono ?_; rintro e wb ⟨Ab, cb, zs, en, rfl, hle, hcb, hb, hq, hn⟩; have HLE := Aside0.mk hle; have HCB := Aside0.mk hcb; have HBB := Aside0.mk (below_step HB2.out hb); have HAB := Aside0.mk (below_step HA2.out hb); have HNN := Aside0.mk hn; clear hle hcb hb hq hn c3 c4 f4) | ((with_reducible refine gate_dst (N := 5) rfl ?_); refine box_event ?hg (N := 5) ?hd (cs := #[.slice none 0 0]) (t := 22) ?hr ?_; (case hd => rfl); (case hg => rfl); (case hr => first | (go_simp; done) | (go_simp; rfl)); intro b5 hg w5 hbox hb; have HB5 := Aside0.mk (show Below wb.heap.size wb w5 from hb); have X5 := Aside0.mk (show Boxed w5 b5 22 (.slice none 0 0) from hbox); have S5 := Aside0.mk (show wb.heap.size ≤ b5 by rw [hg]; exact Nat.le_refl _); have c5 := X5.out.cell; have f5 := X5.out.frozen; clear hb hbox hg))
      have X5n := Aside0.mk (Boxed.set (.slice Ab zs.length cb) X5.out)
      have HB5n := Aside0.mk (HB5.out.setCell (p := ⟨b5, 0, none⟩) S5.out (.slice Ab zs.length cb))
      clear c5 f5 cp1 cp2 X5 HB5
      generalize w5.setCell ⟨b5, 0, none⟩ (.slice Ab zs.length cb) = W5 at X5n HB5n ⊢
      have X5 := X5n
      have HGB := Aside0.mk (below_step HBB.out HB5n.out)
      have X3n := Aside0.mk (boxed_below X3.out (below_step HAB.out HB5n.out))
      have X4n := Aside0.mk (boxed_below X4.out (below_step HAB.out HB5n.out))
      have HC5 := Aside0.mk (Kd.C_below HCB.out HB5n.out)
      clear X5n
      cases en with
      | some q =>
        try simp only [errW_none, errW_some]
        have c4 := X4n.out.cell
        have f4 := X4n.out.frozen
        go_wp2
        exact leaveP (Boxed.set _ X4n.out) rfl (HGB.out.setCell S4.out _)
      | none =>
        have HBT := Aside0.mk (HNN.out rfl)
        clear HNN
        try simp only [errW_none, errW_some]
        have c5 := X5.out.cell
        go_upto_region 9 with (fail)
        clear c5
        have HBr := Aside0.mk (Below.refl W5.heap.size W5)
        go_wp2
        go_loopg [37] (zs.length + 1) (fun kq v37 w' => ∃ (i : Int), v37 = .int .i64 i ∧ Aside0 (0 ≤ i ∧ i ≤ (zs.length : Int) ∧ (kq : Int) = (zs.length : Int) + 1 - i) ∧ Aside0 (Below W5.heap.size W5 w'))
        case atStart => exact ⟨0, rfl, ⟨by omega, by omega, by omega⟩, HBr⟩
        case round =>
          clear HBr
          obtain ⟨i, rfl, HI, HBr⟩ := hrel
          cases gk with
          | zero => exact absurd HI.out (fun h => by omega)
          | succ k1 =>
            by_cases c2 : i < (zs.length : Int)
            · have C2 := Aside0.mk c2
              obtain ⟨ad, A7, c7, eA, x0, x1, x2, x3, x4, x5, x6, x7, hl7, hi7⟩ := at_T31 HC5.out i HI.out.1 c2
              subst eA
              have hmem := rd_in zs i HI.out.1 c2
              obtain ⟨rl, hrl, hbase⟩ := child_there K (by have := HK.out; omega) zs (fun y hy => (HBT.out.meant y hy).1) _ hmem
              have hgd := (HBT.out.meant _ hmem).1.1
              obtain ⟨up, okp, hpar⟩ : ∃ up okp, PM.parentB (rd_T31 zs i).f0 = (up, okp) := ⟨_, _, rfl⟩
              have HPF := Aside0.mk (show path_Parent.f K (rd_T31 zs i).f0 = some (up, okp) by rw [PM.parent_f _ K (by omega) (by have := HK.out; omega), hpar])
              rw [hpar] at hrl
              have HRL := Aside0.mk hrl
              have HBF := Aside0.mk (show path_Base.f K (rd_T31 zs i).f0 = some (PM.baseB (rd_T31 zs i).f0) from PM.base_f _ K (by have := HK.out; omega))
              have HBASE := Aside0.mk hbase
              clear hl7 hi7 hmem hgd hpar hrl hbase
              replace x0 := (HBr.out.cell (World.block_lt_of_cell? W5 _ x0)).trans x0
              replace x1 := (HBr.out.cell (World.block_lt_of_cell? W5 _ x1)).trans x1
              replace x2 := (HBr.out.cell (World.block_lt_of_cell? W5 _ x2)).trans x2
              replace x3 := (HBr.out.cell (World.block_lt_of_cell? W5 _ x3)).trans x3
              replace x4 := (HBr.out.cell (World.block_lt_of_cell? W5 _ x4)).trans x4
              replace x5 := (HBr.out.cell (World.block_lt_of_cell? W5 _ x5)).trans x5
              replace x6 := (HBr.out.cell (World.block_lt_of_cell? W5 _ x6)).trans x6
              replace x7 := (HBr.out.cell (World.block_lt_of_cell? W5 _ x7)).trans x7
              have hi0 := HI.out.1
              have p210 := eq_true hi0
              have q210 := eq_true c2
              clear hi0
              have HZ := Aside0.mk (Below.refl wr.heap.size wr)
              go_upto_region 14 with (first | ((with_reducible refine gate_dst (N := 8) rfl ?_); refine box_event ?hg (N := 8) ?hd (cs := #[.string (⟨#[]⟩ : ByteArray), .int .i64 0, .int .i64 0, .int .i64 0, .int .i64 0, .int .i64 0, .string (⟨#[]⟩ : ByteArray), .slice none 0 0]) (t := 31) ?hr ?_; (case hd => rfl); (case hg => rfl); (case hr => first | (go_simp; done) | (go_simp; rfl)); intro g8 hg w6 hbox hb; have HZ6 := Aside0.mk (below_step HZ.out hb); have K6 := Aside0.mk hbox; have G6 := Aside0.mk (show wr.heap.size ≤ g8 by rw [hg]; exact below_size HZ.out); clear hb hbox hg) | ((with_reducible refine gate_store (t := 31) (p := 8) (v := .tmp 40) rfl ?_); refine ev_set31 _ rfl (.tmp 8) (.tmp 40) rfl rfl g8 _ _ _ _ _ _ _ _ (rd_T31 zs i).f0 (rd_T31 zs i).f6 (rd_T31 zs i).f1 (rd_T31 zs i).f2 (rd_T31 zs i).f3 (rd_T31 zs i).f4 (rd_T31 zs i).f5 A7 (rd_T31 zs i).f7.length c7 rfl rfl K6.out (fun w7 b1 b2 => ?_); have HZ7 := Aside0.mk (below_row_ HZ6.out b2 G6.out); have y0 : w7.cell? ⟨g8, 0, none⟩ = some (.string (rd_T31 zs i).f0) := blk_cell b1 0; clear b1 b2) | (go_at_call 9; refine (path_Parent.calls K (rd_T31 zs i).f0 up okp _ (HGL.out.of (below_step HGB.out (below_step HBr.out HZ7.out))) HPF.out).mono ?_; rintro e w8 ⟨rfl, hb⟩; have HZ8 := Aside0.mk (below_step HZ7.out hb); have z0 := (hb.cell (World.block_lt_of_cell? w7 _ y0)).trans y0; have c5 := (boxed_below X5.out (below_step HBr.out HZ8.out)).cell; clear hb y0) | (go_at_call 10; refine (Children_calls K zs up (some ad) cb rl _ (HGL.out.of (below_step HGB.out (below_step HBr.out HZ8.out))) (Kd.C_below HC5.out (below_step HBr.out HZ8.out)) (by have := HBT.out.len; omega) HRL.out).mono ?_; rintro e w9 ⟨vr, rfl, hr9, hb⟩; obtain ⟨Ar, cr, er⟩ := Kd.R_slice hr9; subst er; have HZ9 := Aside0.mk (below_step HZ8.out hb); have HR9 := Aside0.mk hr9; have y0 := (hb.cell (World.block_lt_of_cell? w8 _ z0)).trans z0; clear hb hr9 z0 c5))
              have HCr := Aside0.mk (Kd.R_reads' HR9.out).2.2
              have HBq := Aside0.mk (Below.refl w9.heap.size w9)
              have HRE := Aside0.mk (below_step HBr.out HZ9.out)
              clear x0 x1 x2 x3 x4 x5 x6 x7 p210 q210
              go_wp2
              go_loopg [11, 51] (rl.length + 1) (fun kq v11 v51 w' => ∃ (q : Int) (h : Bool), v51 = .int .i64 q ∧ v11 = .bool h ∧ Aside0 (0 ≤ q ∧ q ≤ (rl.length : Int) ∧ (kq : Int) = (rl.length : Int) + 1 - q) ∧ Aside0 (h = true ∨ PM.baseB (rd_T31 zs i).f0 ∈ rl.drop q.toNat) ∧ Aside0 (Below w9.heap.size w9 w'))
              case atStart => exact ⟨0, false, rfl, rfl, ⟨by omega, by omega, by omega⟩, ⟨.inr HBASE.out⟩, HBq⟩
              case round =>
                clear HBq HBASE
                obtain ⟨q, h, rfl, rfl, HQ, HM, HBq⟩ := hrel
                cases gk with
                | zero => exact absurd HQ.out (fun h => by omega)
                | succ k2 =>
                  by_cases cq : q < (rl.length : Int)
                  · have CQ := Aside0.mk cq
                    obtain ⟨ad2, e2, hc⟩ := Kd.at_string HCr.out q HQ.out.1 cq
                    subst e2
                    replace hc := (HBq.out.cell (World.block_lt_of_cell? w9 _ hc)).trans hc
                    have z0 := (HBq.out.cell (World.block_lt_of_cell? w9 _ y0)).trans y0
                    have hq0 := HQ.out.1
                    have p211 := eq_true hq0
                    have q211 := eq_true cq
                    clear hq0
                    have hlq := (Kd.R_reads' HR9.out).2.2.2.1
                    have HLQ := Aside0.mk hlq
                    clear hlq
                    cases h with
                    | true =>
                      go_wp2
                      go_roundg k2
                      case measure => omega
                      case rel => exact ⟨q + 1, true, by rw [wr_in _ (by have h1 := HQ.out; have h2 := HLQ.out; have h3 := CQ.out; omega)], rfl, ⟨by have := HQ.out; have := CQ.out; omega⟩, ⟨.inl rfl⟩, HBq⟩
                    | false =>
                      by_cases cc : (rdOf ByteArray.empty rl q).toList = (PM.baseB (rd_T31 zs i).f0).toList
                      · have cc1 : ((rdOf ByteArray.empty rl q).toList == (PM.baseB (rd_T31 zs i).f0).toList) = true := beq_iff_eq.mpr cc
                        clear cc
                        go_wp2_with (first | (go_at_call 11; refine (path_Base.calls K (rd_T31 zs i).f0 (PM.baseB (rd_T31 zs i).f0) _ (HGL.out.of (below_step HGB.out (below_step HBr.out (below_step HZ9.out HBq.out)))) HBF.out).mono ?_; rintro e w11 ⟨rfl, hb⟩; have HBn := Aside0.mk (below_step HBq.out hb); clear hb))
                        go_roundg k2
                        case measure => omega
                        case rel => exact ⟨q + 1, true, by rw [wr_in _ (by have h1 := HQ.out; have h2 := HLQ.out; have h3 := CQ.out; omega)], rfl, ⟨by have := HQ.out; have := CQ.out; omega⟩, ⟨.inl rfl⟩, HBn⟩
                      · have cc1 : ((rdOf ByteArray.empty rl q).toList == (PM.baseB (rd_T31 zs i).f0).toList) = false := beq_eq_false_iff_ne.mpr cc
                        have HM2 := Aside0.mk (show PM.baseB (rd_T31 zs i).f0 ∈ rl.drop (q + 1).toNat from (by
                          have hql : q.toNat < rl.length := by have := HQ.out; have := CQ.out; omega
                          rcases HM.out with hh | hh
                          · cases hh
                          · rw [List.drop_eq_getElem_cons hql] at hh
                            rw [show (q + 1).toNat = q.toNat + 1 by have := HQ.out; omega]
                            rcases List.mem_cons.1 hh with e | e
                            · refine absurd ?_ cc
                              unfold rdOf
                              rw [List.getD_eq_getElem?_getD, List.getElem?_eq_getElem hql, ← e]
                              rfl
                            · exact e))
                        clear cc
                        go_wp2_with (first | (go_at_call 11; refine (path_Base.calls K (rd_T31 zs i).f0 (PM.baseB (rd_T31 zs i).f0) _ (HGL.out.of (below_step HGB.out (below_step HBr.out (below_step HZ9.out HBq.out)))) HBF.out).mono ?_; rintro e w11 ⟨rfl, hb⟩; have HBn := Aside0.mk (below_step HBq.out hb); clear hb))
                        go_roundg k2
                        case measure => omega
                        case rel => exact ⟨q + 1, false, by rw [wr_in _ (by have h1 := HQ.out; have h2 := HLQ.out; have h3 := CQ.out; omega)], rfl, ⟨by have := HQ.out; have := CQ.out; omega⟩, ⟨.inr HM2.out⟩, HBn⟩
                  · have hh : h = true := by
                      rcases HM.out with hh | hh
                      · exact hh
                      · rw [List.drop_eq_nil_of_le (by have := HQ.out; omega)] at hh
                        cases hh
                    subst hh
                    go_wp2
                    go_roundg k1
                    case measure => omega
                    case rel => exact ⟨i + 1, by rw [wr_in _ (by have h1 := HI.out; have h2 := HBT.out.len; have h3 := C2.out; omega)], ⟨by have := HI.out; have := C2.out; omega⟩, ⟨below_step HRE.out HBq.out⟩⟩
            · clear HI
              go_upto_region 22 with (first | ((with_reducible refine gate_dst (N := 14) rfl ?_); refine box_event ?hg (N := 14) ?hd (cs := #[.int .i64 0]) (t := 3) ?hr ?_; (case hd => rfl); (case hg => rfl); (case hr => first | (go_simp; done) | (go_simp; rfl)); intro b14 hg w12 hbox hb; have HB12 := Aside0.mk (below_step HBr.out hb); have X14 := Aside0.mk (show Boxed w12 b14 3 (.int .i64 0) from hbox); have S14 := Aside0.mk (show W5.heap.size ≤ b14 by rw [hg]; exact below_size HBr.out); have c14 := X14.out.cell; have f14 := X14.out.frozen; clear hb hbox hg))
              have X14n := Aside0.mk (Boxed.set (.int .i64 (-1)) X14.out)
              have HB13 := Aside0.mk (HB12.out.setCell (p := ⟨b14, 0, none⟩) S14.out (.int .i64 (-1)))
              clear c14 f14 X14 HB12
              generalize w12.setCell ⟨b14, 0, none⟩ (.int .i64 (-1)) = w13 at X14n HB13 ⊢
              go_upto_region 23 with (first | ((with_reducible refine gate_dst (N := 15) rfl ?_); refine box_event ?hg (N := 15) ?hd (cs := #[.int .i64 0]) (t := 3) ?hr ?_; (case hd => rfl); (case hg => rfl); (case hr => first | (go_simp; done) | (go_simp; rfl)); intro b15 hg w14 hbox hb; have HB14 := Aside0.mk (below_step HB13.out hb); have X14b := Aside0.mk (boxed_below X14n.out hb); have X15 := Aside0.mk (show Boxed w14 b15 3 (.int .i64 0) from hbox); have S15 := Aside0.mk (show b14 < b15 by rw [hg]; exact X14n.out.lt); have c15 := X15.out.cell; have f15 := X15.out.frozen; clear hb hbox hg))
              have X15n := Aside0.mk (Boxed.set (.int .i64 0) X15.out)
              have X14m := Aside0.mk (Boxed.other X14b.out (show b14 ≠ b15 by have := S15.out; omega) (.int .i64 0))
              have HB7 := Aside0.mk (HB14.out.setCell (p := ⟨b15, 0, none⟩) (show W5.heap.size ≤ b15 by have := S15.out; have := S14.out; omega) (.int .i64 0))
              clear c15 f15 X15 HB14 X14b X14n HB13 HBr
              generalize w14.setCell ⟨b15, 0, none⟩ (.int .i64 0) = W7 at X15n X14m HB7 ⊢
              have c3 := (boxed_below X3n.out HB7.out).cell
              have c5 := (boxed_below X5.out HB7.out).cell
              go_wp2_with (first | (go_at_call 12; refine (Walk_calls K (by have := HK.out; omega) zs p Ab cb W7 (HGL.out.of (below_step HGB.out HB7.out)) (Kd.C_below HC5.out HB7.out) (by have := HBT.out.len; omega) (fun x hx => by have := (HBT.out.meant x hx).2.2.1; omega)).mono ?_; rintro e ww ⟨bw, AL, cL, rfl, hbx, hS, hge, hb⟩; have HXW := Aside0.mk hbx; have HSW := Aside0.mk hS; have HGE := Aside0.mk hge; have HWW := Aside0.mk hb; clear hbx hS hge hb c3 c5))
              obtain ⟨f, hf⟩ := gone_at zs HBT.out.ok p
              have HGW := Aside0.mk (show Gl W5 from HGL.out.of HGB.out)
              refine (wpIn_wide (n := 6)).1 ?_
              refine wpIn_seqX (n := 6) rfl (by omega) (gf := 31) (lb := #[.pointer (some ⟨bw, 0, none⟩)]) rfl trivial (enters_of Tryd.func31 (by kernel_rfl) rfl)
                (walk1_seq (6 - 1) (by omega) (zs.filter (goneB p)) AL cL bw W7.heap.size (fun k => W7.heap.size ≤ k) (fun k => k ≠ b14 ∧ k ≠ b15) ww HXW.out (Kd.S_mono (Kd.S_bound HSW.out) (fun k hk => hk.2.1))
                  (by have := HBT.out.len; have := List.length_filter_le (goneB p) zs; omega) (fun x hx => by have := (HBT.out.meant x (List.mem_filter.1 hx).1).2.2.1; omega)
                  ⟨by have h1 := HGE.out; have h2 := X14m.out.lt; omega, by have h1 := HGE.out; have h2 := X15n.out.lt; omega⟩ (fun k hk => ⟨by have h2 := X14m.out.lt; omega, by have h2 := X15n.out.lt; omega⟩)
                  (fun W hW => Gl.kept HGW.out (fun k hk => ((hW k ⟨by have := S14.out; omega, by have := S14.out; have := S15.out; omega⟩ (by have := below_size (below_step HB7.out HWW.out); omega)).trans ((below_step HB7.out HWW.out).block k hk)))))
                (fun h1 h2 k hk hlt => (h2 k hk hlt).trans (h1 k hk hlt)) (fun W l o' hl k hk hlt => World.putObj_heap_other (by omega)) (fun _ => rfl)
                (fun pre x W0 W1 l o o' _ _ hl ho h => xpx_put hl ho h) (fun pre x W0 W W' h _ hb => xpx_below h hb)
                (ParI b14 b15 f ww) (fun _ _ _ => False) (ParI.own b14 b15 f ww) (fun c s W W' row h _ _ => h) ⟨boxed_below X14m.out HWW.out, boxed_below X15n.out HWW.out, Ex.refl _ _⟩ ?round ?done ?stop

              case round =>
                intro l pre x W0 W hI hB hsz hlen hX
                have HB := Aside0.mk hB
                have HSZ := Aside0.mk hsz
                clear hI hX hB hsz
                rw [show encX x = #[.agg #[.string x.1.f0, .int .i64 x.1.f1, .int .i64 x.1.f2, .int .i64 x.1.f3, .int .i64 x.1.f4, .int .i64 x.1.f5, .string x.1.f6, .slice x.2.1 x.1.f7.length x.2.2]] from rfl, zip_one]
                simp only [List.setIfInBounds_toArray, List.set_cons_zero, List.set_cons_succ]
                gi_wp2_with (first | ((with_reducible refine gatei_dst (N := 16) rfl ?_); refine box_eventI ?hg (N := 16) ?hd (T := 31) rfl (cs := #[.string (⟨#[]⟩ : ByteArray), .int .i64 0, .int .i64 0, .int .i64 0, .int .i64 0, .int .i64 0, .string (⟨#[]⟩ : ByteArray), .slice none 0 0]) (t := 31) ?hr ?_; (case hd => rfl); (case hg => rfl); (case hr => first | (go_simp; done) | (go_simp; rfl)); intro g16 hg w15 hbox hb; have HR15 := Aside0.mk (show Below W.heap.size W w15 from hb); have K16 := Aside0.mk hbox; have G16 := Aside0.mk (show W.heap.size ≤ g16 by rw [hg]; exact Nat.le_refl _); clear hb hbox hg) | ((with_reducible refine gatei_store (t := 31) (p := 16) (v := .tmp 70) rfl ?_); refine ev_set31I _ rfl (.tmp 16) (.tmp 70) rfl rfl g16 _ _ _ _ _ _ _ _ x.1.f0 x.1.f6 x.1.f1 x.1.f2 x.1.f3 x.1.f4 x.1.f5 x.2.1 x.1.f7.length x.2.2 rfl rfl K16.out (fun w16 b1 b2 => ?_); have HR16 := Aside0.mk (below_row_ HR15.out b2 G16.out); have K17 := Aside0.mk b1; clear b1 b2))
                refine ⟨HR16.out, fun Wd Wc hId hBd hszd hXd hcl => ?_⟩
                obtain ⟨hw0, hw1⟩ := hf pre.length x.1 hXd.1
                have HZX := Aside0.mk hw0
                have HGO := Aside0.mk hw1
                have y0 : Wc.cell? ⟨g16, 0, none⟩ = some (.string x.1.f0) := blk_cell (hcl _ _ _ _ K17.out) 0
                have NG16 := Aside0.mk (show ¬ TwoB b14 b15 g16 from fun h => by have h1 := G16.out; have h2 := HSZ.out; have h3 := HB.out.size; have h4 := HWW.out.size; have h5 := X14m.out.lt; have h6 := X15n.out.lt; rcases h with h | h <;> omega)
                have HBC := Aside0.mk (show Below W5.heap.size W5 Wc from ((below_step HB7.out HWW.out).trans (hId.2.2.below (below_size (below_step HB7.out HWW.out)) (fun k hk => by have h1 := S14.out; have h2 := S15.out; rcases hk with hk | hk <;> omega))).trans (hBd.mono (by have := below_size (below_step HB7.out HWW.out); have := hId.2.2.size; omega)))
                have NB3 := Aside0.mk (show ¬ TwoB b14 b15 b3 from fun h => by have h1 := S14.out; have h2 := S15.out; have h3 := X3n.out.lt; rcases h with h | h <;> omega)
                have c3 := (boxed_below X3n.out HBC.out).cell
                have c5 := (boxed_below X5.out HBC.out).cell
                have X14r := Aside0.mk (boxed_below hId.1 hBd)
                have X15r := Aside0.mk (boxed_below hId.2.1 hBd)
                have HID := Aside0.mk hId
                have HBD := Aside0.mk hBd
                have HGK := Aside0.mk (fun (W' : World) (hw : Ex (TwoB b14 b15) Wc W') => (HGW.out.of (HBC.out.trans (hw.below (below_size HBC.out) (fun k hk => by have h1 := S14.out; have h2 := S15.out; rcases hk with hk | hk <;> omega))) : Gl W'))
                have HLN := Aside0.mk hlen
                have HE := Aside0.mk (Ex.refl (TwoB b14 b15) Wc)
                clear hw0 hw1 hcl hId hBd hszd hXd hlen
                gi_wp2
                clear c5
                gi_loopw [73] (fun v73 wr => ∃ (i : Int), v73 = .int .i64 i ∧ Aside0 (0 ≤ i ∧ i ≤ (zs.length : Int)) ∧ Aside0 (Boxed wr b14 3 (.int .i64 (FI pre.length f i))) ∧ Aside0 (Boxed wr b15 3 (.int .i64 (pre.length : Int))) ∧ Aside0 (Ex (TwoB b14 b15) Wc wr)) (fun v73 wr => zs.length + 1 - ixOf v73)
                case atStart => exact ⟨0, rfl, ⟨by omega⟩, ⟨by rw [show FI pre.length f 0 = (if pre.length = 0 then -1 else (f : Int)) by unfold FI; by_cases h : pre.length = 0 <;> simp [h]]; exact X14r.out⟩, X15r, HE⟩
                case round =>
                  clear X14r X15r HE
                  obtain ⟨i, rfl, HIi, X14r, X15r, HE⟩ := hrel
                  by_cases c2 : i < (zs.length : Int)
                  · have C2 := Aside0.mk c2
                    have HCr := Aside0.mk (Kd.C_below HC5.out (HBC.out.trans (HE.out.below (below_size HBC.out) (fun k hk => by have h1 := S14.out; have h2 := S15.out; rcases hk with hk | hk <;> omega))))
                    obtain ⟨ad, A7, c7, eA, x0, x1, x2, x3, x4, x5, x6, x7, _, _⟩ := at_T31 HCr.out i HIi.out.1 c2
                    subst eA
                    have hi0 := HIi.out.1
                    have p210 := eq_true hi0
                    have q210 := eq_true c2
                    clear hi0
                    by_cases ce : (rd_T31 zs i).f0.toList = x.1.f0.toList
                    · have HIX := Aside0.mk (only_ix HBT.out.ok HZX.out i HIi.out.1 c2 ce)
                      have HXE := Aside0.mk (show rd_T31 zs i = x.1 from (by
                        unfold rd_T31
                        rw [HIX.out, Int.toNat_natCast, List.getD_eq_getElem?_getD, HZX.out]
                        rfl))
                      have ce1 : ((rd_T31 zs i).f0.toList != x.1.f0.toList) = false := bne_eq_false_iff_eq.mpr ce
                      have ce2 : ((rd_T31 zs i).f0.toList == x.1.f0.toList) = true := beq_iff_eq.mpr ce
                      clear ce c2
                      by_cases cn : pre.length = 0
                      · have CN := Aside0.mk cn
                        rw [show FI pre.length f i = -1 by unfold FI; rw [if_pos ⟨cn, by have := HIX.out; omega⟩]] at X14r
                        rw [cn] at X15r
                        have m1 := eq_true (show (-1 : Int) < 0 by decide)
                        have m2 := decide_eq_true (show (-1 : Int) < 0 by decide)
                        have wi := wr_in i (by have h1 := HIi.out; have h2 := HBT.out.len; omega)
                        clear cn
                        by_cases gp : p.toList = []
                        · have d1 : p.toList.isEmpty = true := by rw [gp]; rfl
                          have d2 : (p.toList == []) = true := by rw [gp]; rfl
                          have d2b : (p.toList != []) = false := by rw [gp]; rfl
                          clear gp
                          gi_wp2_with (first | ((with_reducible refine gatei_dst (N := 18) rfl ?_); refine box_eventI ?hg (N := 18) ?hd (T := 31) rfl (cs := #[.string (⟨#[]⟩ : ByteArray), .int .i64 0, .int .i64 0, .int .i64 0, .int .i64 0, .int .i64 0, .string (⟨#[]⟩ : ByteArray), .slice none 0 0]) (t := 31) ?hr ?_; (case hd => rfl); (case hg => rfl); (case hr => first | (go_simp; done) | (go_simp; rfl)); intro g18 hg w18 hbox hb; have HE18 := Aside0.mk (Ex.trans HE.out (Ex.of_below hb)); have K18 := Aside0.mk hbox; have G18 := Aside0.mk (show wr.heap.size ≤ g18 by rw [hg]; exact Nat.le_refl _); have Y14 := Aside0.mk (boxed_below X14r.out hb); have Y15 := Aside0.mk (boxed_below X15r.out hb); clear hb hbox hg) | ((with_reducible refine gatei_store (t := 31) (p := 18) (v := .tmp 77) rfl ?_); refine ev_set31I _ rfl (.tmp 18) (.tmp 77) rfl rfl g18 _ _ _ _ _ _ _ _ (rd_T31 zs i).f0 (rd_T31 zs i).f6 (rd_T31 zs i).f1 (rd_T31 zs i).f2 (rd_T31 zs i).f3 (rd_T31 zs i).f4 (rd_T31 zs i).f5 A7 (rd_T31 zs i).f7.length c7 rfl rfl K18.out (fun w19 b1 b2 => ?_); have HE19 := Aside0.mk (Ex.grown HE18.out b2 (fun k e => .inr (by injection e with e; have := G18.out; have := HE.out.size; omega))); have Z14 := Aside0.mk (Boxed.kept Y14.out b2 (fun e => by injection e with e; have := G18.out; have := X14r.out.lt; omega)); have Z15 := Aside0.mk (Boxed.kept Y15.out b2 (fun e => by injection e with e; have := G18.out; have := X15r.out.lt; omega)); have q0 : w19.cell? ⟨g18, 0, none⟩ = some (.string (rd_T31 zs i).f0) := blk_cell b1 0; have k0 := (ex_cell HE19.out NG16.out y0).trans y0; have d14 := Z14.out.cell; have d14f := Z14.out.frozen; have d15 := Z15.out.cell; have d3 := (ex_cell HE19.out NB3.out c3).trans c3; have hs := Ex.set (Ex.refl (fun k => k = b14) w19) ⟨b14, 0, none⟩ (.int .i64 i) rfl; have d14s := (Boxed.set (.int .i64 i) Z14.out).cell; have d15s := (Boxed.other Z15.out (show b15 ≠ b14 by have := S15.out; omega) (.int .i64 i)).cell; have q0s := (ex_cell hs (show ¬ g18 = b14 by have := G18.out; have := X14r.out.lt; omega) q0).trans q0; have d3s := (ex_cell hs (fun e => NB3.out (.inl e)) d3).trans d3; clear hs; clear b1 b2) | (refine ⟨trivial, ?_⟩; go_at_K))
                          go_roundw
                          case rel => exact ⟨i + 1, by rw [wr_in _ (by have h1 := HIi.out; have h2 := HBT.out.len; have h3 := C2.out; omega)], ⟨by have := HIi.out; have := C2.out; omega⟩, ⟨by rw [show FI pre.length f (i + 1) = i by unfold FI; rw [if_neg (by have := HIX.out; omega)]; have := HIX.out; have := CN.out; omega]; exact Boxed.set _ Z14.out⟩, ⟨by rw [CN.out]; exact Boxed.other Z15.out (show b15 ≠ b14 by have := S15.out; omega) _⟩, ⟨HE19.out.set _ _ (.inl rfl)⟩⟩
                          case measure => show zs.length + 1 - (wrap64 (i + 1)).toNat < zs.length + 1 - i.toNat; rw [wr_in _ (by have h1 := HIi.out; have h2 := HBT.out.len; have h3 := C2.out; omega)]; have h1 := HIi.out; have h2 := C2.out; omega
                        · have d1 : p.toList.isEmpty = false := by cases h : p.toList with | nil => exact absurd h gp | cons a b => rfl
                          have d2 : (p.toList == []) = false := by rw [beq_eq_false_iff_ne]; exact gp
                          have d2b : (p.toList != []) = true := by rw [bne_iff_ne]; exact gp
                          by_cases gx : (rd_T31 zs i).f0.toList = p.toList
                          · have d3 : ((rd_T31 zs i).f0.toList != p.toList) = false := bne_eq_false_iff_eq.mpr gx
                            have d3b : ((rd_T31 zs i).f0.toList == p.toList) = true := beq_iff_eq.mpr gx
                            clear gp gx
                            gi_wp2_with (first | ((with_reducible refine gatei_dst (N := 18) rfl ?_); refine box_eventI ?hg (N := 18) ?hd (T := 31) rfl (cs := #[.string (⟨#[]⟩ : ByteArray), .int .i64 0, .int .i64 0, .int .i64 0, .int .i64 0, .int .i64 0, .string (⟨#[]⟩ : ByteArray), .slice none 0 0]) (t := 31) ?hr ?_; (case hd => rfl); (case hg => rfl); (case hr => first | (go_simp; done) | (go_simp; rfl)); intro g18 hg w18 hbox hb; have HE18 := Aside0.mk (Ex.trans HE.out (Ex.of_below hb)); have K18 := Aside0.mk hbox; have G18 := Aside0.mk (show wr.heap.size ≤ g18 by rw [hg]; exact Nat.le_refl _); have Y14 := Aside0.mk (boxed_below X14r.out hb); have Y15 := Aside0.mk (boxed_below X15r.out hb); clear hb hbox hg) | ((with_reducible refine gatei_store (t := 31) (p := 18) (v := .tmp 77) rfl ?_); refine ev_set31I _ rfl (.tmp 18) (.tmp 77) rfl rfl g18 _ _ _ _ _ _ _ _ (rd_T31 zs i).f0 (rd_T31 zs i).f6 (rd_T31 zs i).f1 (rd_T31 zs i).f2 (rd_T31 zs i).f3 (rd_T31 zs i).f4 (rd_T31 zs i).f5 A7 (rd_T31 zs i).f7.length c7 rfl rfl K18.out (fun w19 b1 b2 => ?_); have HE19 := Aside0.mk (Ex.grown HE18.out b2 (fun k e => .inr (by injection e with e; have := G18.out; have := HE.out.size; omega))); have Z14 := Aside0.mk (Boxed.kept Y14.out b2 (fun e => by injection e with e; have := G18.out; have := X14r.out.lt; omega)); have Z15 := Aside0.mk (Boxed.kept Y15.out b2 (fun e => by injection e with e; have := G18.out; have := X15r.out.lt; omega)); have q0 : w19.cell? ⟨g18, 0, none⟩ = some (.string (rd_T31 zs i).f0) := blk_cell b1 0; have k0 := (ex_cell HE19.out NG16.out y0).trans y0; have d14 := Z14.out.cell; have d14f := Z14.out.frozen; have d15 := Z15.out.cell; have d3 := (ex_cell HE19.out NB3.out c3).trans c3; have hs := Ex.set (Ex.refl (fun k => k = b14) w19) ⟨b14, 0, none⟩ (.int .i64 i) rfl; have d14s := (Boxed.set (.int .i64 i) Z14.out).cell; have d15s := (Boxed.other Z15.out (show b15 ≠ b14 by have := S15.out; omega) (.int .i64 i)).cell; have q0s := (ex_cell hs (show ¬ g18 = b14 by have := G18.out; have := X14r.out.lt; omega) q0).trans q0; have d3s := (ex_cell hs (fun e => NB3.out (.inl e)) d3).trans d3; clear hs; clear b1 b2) | (refine ⟨trivial, ?_⟩; go_at_K))
                            go_roundw
                            case rel => exact ⟨i + 1, by rw [wr_in _ (by have h1 := HIi.out; have h2 := HBT.out.len; have h3 := C2.out; omega)], ⟨by have := HIi.out; have := C2.out; omega⟩, ⟨by rw [show FI pre.length f (i + 1) = i by unfold FI; rw [if_neg (by have := HIX.out; omega)]; have := HIX.out; have := CN.out; omega]; exact Boxed.set _ Z14.out⟩, ⟨by rw [CN.out]; exact Boxed.other Z15.out (show b15 ≠ b14 by have := S15.out; omega) _⟩, ⟨HE19.out.set _ _ (.inl rfl)⟩⟩
                            case measure => show zs.length + 1 - (wrap64 (i + 1)).toNat < zs.length + 1 - i.toNat; rw [wr_in _ (by have h1 := HIi.out; have h2 := HBT.out.len; have h3 := C2.out; omega)]; have h1 := HIi.out; have h2 := C2.out; omega
                          · have d3 : ((rd_T31 zs i).f0.toList != p.toList) = true := bne_iff_ne.mpr gx
                            have d3b : ((rd_T31 zs i).f0.toList == p.toList) = false := beq_eq_false_iff_ne.mpr gx
                            have HAB := Aside0.mk (show amphoraref08_Above.f K p (rd_T31 zs i).f0 = some true from (by
                              rw [PM.rabove_f _ _ K (by have := HK.out; omega), decide_eq_true]
                              have h1 := HGO.out
                              unfold goneB at h1
                              rw [← HXE.out] at h1
                              simp only [Bool.or_eq_true, beq_iff_eq, decide_eq_true_eq] at h1
                              rcases h1 with (h1 | h1) | h1
                              · exact absurd h1 gp
                              · exact absurd h1 gx
                              · exact h1))
                            clear gp gx
                            gi_wp2_with (first | ((with_reducible refine gatei_dst (N := 18) rfl ?_); refine box_eventI ?hg (N := 18) ?hd (T := 31) rfl (cs := #[.string (⟨#[]⟩ : ByteArray), .int .i64 0, .int .i64 0, .int .i64 0, .int .i64 0, .int .i64 0, .string (⟨#[]⟩ : ByteArray), .slice none 0 0]) (t := 31) ?hr ?_; (case hd => rfl); (case hg => rfl); (case hr => first | (go_simp; done) | (go_simp; rfl)); intro g18 hg w18 hbox hb; have HE18 := Aside0.mk (Ex.trans HE.out (Ex.of_below hb)); have K18 := Aside0.mk hbox; have G18 := Aside0.mk (show wr.heap.size ≤ g18 by rw [hg]; exact Nat.le_refl _); have Y14 := Aside0.mk (boxed_below X14r.out hb); have Y15 := Aside0.mk (boxed_below X15r.out hb); clear hb hbox hg) | ((with_reducible refine gatei_store (t := 31) (p := 18) (v := .tmp 77) rfl ?_); refine ev_set31I _ rfl (.tmp 18) (.tmp 77) rfl rfl g18 _ _ _ _ _ _ _ _ (rd_T31 zs i).f0 (rd_T31 zs i).f6 (rd_T31 zs i).f1 (rd_T31 zs i).f2 (rd_T31 zs i).f3 (rd_T31 zs i).f4 (rd_T31 zs i).f5 A7 (rd_T31 zs i).f7.length c7 rfl rfl K18.out (fun w19 b1 b2 => ?_); have HE19 := Aside0.mk (Ex.grown HE18.out b2 (fun k e => .inr (by injection e with e; have := G18.out; have := HE.out.size; omega))); have Z14 := Aside0.mk (Boxed.kept Y14.out b2 (fun e => by injection e with e; have := G18.out; have := X14r.out.lt; omega)); have Z15 := Aside0.mk (Boxed.kept Y15.out b2 (fun e => by injection e with e; have := G18.out; have := X15r.out.lt; omega)); have q0 : w19.cell? ⟨g18, 0, none⟩ = some (.string (rd_T31 zs i).f0) := blk_cell b1 0; have k0 := (ex_cell HE19.out NG16.out y0).trans y0; have d14 := Z14.out.cell; have d14f := Z14.out.frozen; have d15 := Z15.out.cell; have d3 := (ex_cell HE19.out NB3.out c3).trans c3; have hs := Ex.set (Ex.refl (fun k => k = b14) w19) ⟨b14, 0, none⟩ (.int .i64 i) rfl; have d14s := (Boxed.set (.int .i64 i) Z14.out).cell; have d15s := (Boxed.other Z15.out (show b15 ≠ b14 by have := S15.out; omega) (.int .i64 i)).cell; have q0s := (ex_cell hs (show ¬ g18 = b14 by have := G18.out; have := X14r.out.lt; omega) q0).trans q0; have d3s := (ex_cell hs (fun e => NB3.out (.inl e)) d3).trans d3; clear hs; clear b1 b2) | (refine ⟨trivial, ?_⟩; gi_at_call 13; refine (CallsIn.inRound l (callsIn_wide.2 (amphoraref08_Above.calls K p (rd_T31 zs i).f0 true _ (by first | exact HGK.out _ HE19.out | exact HGK.out _ (HE19.out.set _ _ (.inl rfl))) HAB.out))).mono ?_; rintro e w20 ⟨rfl, hb20⟩))
                            go_roundw
                            case rel => exact ⟨i + 1, by rw [wr_in _ (by have h1 := HIi.out; have h2 := HBT.out.len; have h3 := C2.out; omega)], ⟨by have := HIi.out; have := C2.out; omega⟩, ⟨by rw [show FI pre.length f (i + 1) = i by unfold FI; rw [if_neg (by have := HIX.out; omega)]; have := HIX.out; have := CN.out; omega]; exact boxed_below (Boxed.set _ Z14.out) hb20⟩, ⟨by rw [CN.out]; exact boxed_below (Boxed.other Z15.out (show b15 ≠ b14 by have := S15.out; omega) _) hb20⟩, ⟨Ex.trans (HE19.out.set _ _ (.inl rfl)) (Ex.of_below hb20)⟩⟩
                            case measure => show zs.length + 1 - (wrap64 (i + 1)).toNat < zs.length + 1 - i.toNat; rw [wr_in _ (by have h1 := HIi.out; have h2 := HBT.out.len; have h3 := C2.out; omega)]; have h1 := HIi.out; have h2 := C2.out; omega
                      · have CN := Aside0.mk cn
                        rw [show FI pre.length f i = (f : Int) by unfold FI; rw [if_neg (fun h => cn h.1)]] at X14r
                        have wi : wrap64 ((f : Int) + (pre.length : Int)) = i := by rw [wr_in _ (by have h1 := HIi.out; have h2 := HBT.out.len; have h3 := HIX.out; omega)]; have := HIX.out; omega
                        have nf := eq_false (show ¬ (f : Int) < 0 by omega)
                        have nf2 := decide_eq_false (show ¬ (f : Int) < 0 by omega)
                        clear cn
                        by_cases gp : p.toList = []
                        · have d1 : p.toList.isEmpty = true := by rw [gp]; rfl
                          have d2 : (p.toList == []) = true := by rw [gp]; rfl
                          have d2b : (p.toList != []) = false := by rw [gp]; rfl
                          clear gp
                          gi_wp2_with (first | ((with_reducible refine gatei_dst (N := 18) rfl ?_); refine box_eventI ?hg (N := 18) ?hd (T := 31) rfl (cs := #[.string (⟨#[]⟩ : ByteArray), .int .i64 0, .int .i64 0, .int .i64 0, .int .i64 0, .int .i64 0, .string (⟨#[]⟩ : ByteArray), .slice none 0 0]) (t := 31) ?hr ?_; (case hd => rfl); (case hg => rfl); (case hr => first | (go_simp; done) | (go_simp; rfl)); intro g18 hg w18 hbox hb; have HE18 := Aside0.mk (Ex.trans HE.out (Ex.of_below hb)); have K18 := Aside0.mk hbox; have G18 := Aside0.mk (show wr.heap.size ≤ g18 by rw [hg]; exact Nat.le_refl _); have Y14 := Aside0.mk (boxed_below X14r.out hb); have Y15 := Aside0.mk (boxed_below X15r.out hb); clear hb hbox hg) | ((with_reducible refine gatei_store (t := 31) (p := 18) (v := .tmp 77) rfl ?_); refine ev_set31I _ rfl (.tmp 18) (.tmp 77) rfl rfl g18 _ _ _ _ _ _ _ _ (rd_T31 zs i).f0 (rd_T31 zs i).f6 (rd_T31 zs i).f1 (rd_T31 zs i).f2 (rd_T31 zs i).f3 (rd_T31 zs i).f4 (rd_T31 zs i).f5 A7 (rd_T31 zs i).f7.length c7 rfl rfl K18.out (fun w19 b1 b2 => ?_); have HE19 := Aside0.mk (Ex.grown HE18.out b2 (fun k e => .inr (by injection e with e; have := G18.out; have := HE.out.size; omega))); have Z14 := Aside0.mk (Boxed.kept Y14.out b2 (fun e => by injection e with e; have := G18.out; have := X14r.out.lt; omega)); have Z15 := Aside0.mk (Boxed.kept Y15.out b2 (fun e => by injection e with e; have := G18.out; have := X15r.out.lt; omega)); have q0 : w19.cell? ⟨g18, 0, none⟩ = some (.string (rd_T31 zs i).f0) := blk_cell b1 0; have k0 := (ex_cell HE19.out NG16.out y0).trans y0; have d14 := Z14.out.cell; have d14f := Z14.out.frozen; have d15 := Z15.out.cell; have d3 := (ex_cell HE19.out NB3.out c3).trans c3; clear b1 b2) | (refine ⟨trivial, ?_⟩; go_at_K))
                          go_roundw
                          case rel => exact ⟨i + 1, by rw [wr_in _ (by have h1 := HIi.out; have h2 := HBT.out.len; have h3 := C2.out; omega)], ⟨by have := HIi.out; have := C2.out; omega⟩, ⟨by rw [show FI pre.length f (i + 1) = (f : Int) by unfold FI; rw [if_neg (by have := HIX.out; omega)]]; exact Z14.out⟩, ⟨Z15.out⟩, ⟨HE19.out⟩⟩
                          case measure => show zs.length + 1 - (wrap64 (i + 1)).toNat < zs.length + 1 - i.toNat; rw [wr_in _ (by have h1 := HIi.out; have h2 := HBT.out.len; have h3 := C2.out; omega)]; have h1 := HIi.out; have h2 := C2.out; omega
                        · have d1 : p.toList.isEmpty = false := by cases h : p.toList with | nil => exact absurd h gp | cons a b => rfl
                          have d2 : (p.toList == []) = false := by rw [beq_eq_false_iff_ne]; exact gp
                          have d2b : (p.toList != []) = true := by rw [bne_iff_ne]; exact gp
                          by_cases gx : (rd_T31 zs i).f0.toList = p.toList
                          · have d3 : ((rd_T31 zs i).f0.toList != p.toList) = false := bne_eq_false_iff_eq.mpr gx
                            have d3b : ((rd_T31 zs i).f0.toList == p.toList) = true := beq_iff_eq.mpr gx
                            clear gp gx
                            gi_wp2_with (first | ((with_reducible refine gatei_dst (N := 18) rfl ?_); refine box_eventI ?hg (N := 18) ?hd (T := 31) rfl (cs := #[.string (⟨#[]⟩ : ByteArray), .int .i64 0, .int .i64 0, .int .i64 0, .int .i64 0, .int .i64 0, .string (⟨#[]⟩ : ByteArray), .slice none 0 0]) (t := 31) ?hr ?_; (case hd => rfl); (case hg => rfl); (case hr => first | (go_simp; done) | (go_simp; rfl)); intro g18 hg w18 hbox hb; have HE18 := Aside0.mk (Ex.trans HE.out (Ex.of_below hb)); have K18 := Aside0.mk hbox; have G18 := Aside0.mk (show wr.heap.size ≤ g18 by rw [hg]; exact Nat.le_refl _); have Y14 := Aside0.mk (boxed_below X14r.out hb); have Y15 := Aside0.mk (boxed_below X15r.out hb); clear hb hbox hg) | ((with_reducible refine gatei_store (t := 31) (p := 18) (v := .tmp 77) rfl ?_); refine ev_set31I _ rfl (.tmp 18) (.tmp 77) rfl rfl g18 _ _ _ _ _ _ _ _ (rd_T31 zs i).f0 (rd_T31 zs i).f6 (rd_T31 zs i).f1 (rd_T31 zs i).f2 (rd_T31 zs i).f3 (rd_T31 zs i).f4 (rd_T31 zs i).f5 A7 (rd_T31 zs i).f7.length c7 rfl rfl K18.out (fun w19 b1 b2 => ?_); have HE19 := Aside0.mk (Ex.grown HE18.out b2 (fun k e => .inr (by injection e with e; have := G18.out; have := HE.out.size; omega))); have Z14 := Aside0.mk (Boxed.kept Y14.out b2 (fun e => by injection e with e; have := G18.out; have := X14r.out.lt; omega)); have Z15 := Aside0.mk (Boxed.kept Y15.out b2 (fun e => by injection e with e; have := G18.out; have := X15r.out.lt; omega)); have q0 : w19.cell? ⟨g18, 0, none⟩ = some (.string (rd_T31 zs i).f0) := blk_cell b1 0; have k0 := (ex_cell HE19.out NG16.out y0).trans y0; have d14 := Z14.out.cell; have d14f := Z14.out.frozen; have d15 := Z15.out.cell; have d3 := (ex_cell HE19.out NB3.out c3).trans c3; clear b1 b2) | (refine ⟨trivial, ?_⟩; go_at_K))
                            go_roundw
                            case rel => exact ⟨i + 1, by rw [wr_in _ (by have h1 := HIi.out; have h2 := HBT.out.len; have h3 := C2.out; omega)], ⟨by have := HIi.out; have := C2.out; omega⟩, ⟨by rw [show FI pre.length f (i + 1) = (f : Int) by unfold FI; rw [if_neg (by have := HIX.out; omega)]]; exact Z14.out⟩, ⟨Z15.out⟩, ⟨HE19.out⟩⟩
                            case measure => show zs.length + 1 - (wrap64 (i + 1)).toNat < zs.length + 1 - i.toNat; rw [wr_in _ (by have h1 := HIi.out; have h2 := HBT.out.len; have h3 := C2.out; omega)]; have h1 := HIi.out; have h2 := C2.out; omega
                          · have d3 : ((rd_T31 zs i).f0.toList != p.toList) = true := bne_iff_ne.mpr gx
                            have d3b : ((rd_T31 zs i).f0.toList == p.toList) = false := beq_eq_false_iff_ne.mpr gx
                            have HAB := Aside0.mk (show amphoraref08_Above.f K p (rd_T31 zs i).f0 = some true from (by
                              rw [PM.rabove_f _ _ K (by have := HK.out; omega), decide_eq_true]
                              have h1 := HGO.out
                              unfold goneB at h1
                              rw [← HXE.out] at h1
                              simp only [Bool.or_eq_true, beq_iff_eq, decide_eq_true_eq] at h1
                              rcases h1 with (h1 | h1) | h1
                              · exact absurd h1 gp
                              · exact absurd h1 gx
                              · exact h1))
                            clear gp gx
                            gi_wp2_with (first | ((with_reducible refine gatei_dst (N := 18) rfl ?_); refine box_eventI ?hg (N := 18) ?hd (T := 31) rfl (cs := #[.string (⟨#[]⟩ : ByteArray), .int .i64 0, .int .i64 0, .int .i64 0, .int .i64 0, .int .i64 0, .string (⟨#[]⟩ : ByteArray), .slice none 0 0]) (t := 31) ?hr ?_; (case hd => rfl); (case hg => rfl); (case hr => first | (go_simp; done) | (go_simp; rfl)); intro g18 hg w18 hbox hb; have HE18 := Aside0.mk (Ex.trans HE.out (Ex.of_below hb)); have K18 := Aside0.mk hbox; have G18 := Aside0.mk (show wr.heap.size ≤ g18 by rw [hg]; exact Nat.le_refl _); have Y14 := Aside0.mk (boxed_below X14r.out hb); have Y15 := Aside0.mk (boxed_below X15r.out hb); clear hb hbox hg) | ((with_reducible refine gatei_store (t := 31) (p := 18) (v := .tmp 77) rfl ?_); refine ev_set31I _ rfl (.tmp 18) (.tmp 77) rfl rfl g18 _ _ _ _ _ _ _ _ (rd_T31 zs i).f0 (rd_T31 zs i).f6 (rd_T31 zs i).f1 (rd_T31 zs i).f2 (rd_T31 zs i).f3 (rd_T31 zs i).f4 (rd_T31 zs i).f5 A7 (rd_T31 zs i).f7.length c7 rfl rfl K18.out (fun w19 b1 b2 => ?_); have HE19 := Aside0.mk (Ex.grown HE18.out b2 (fun k e => .inr (by injection e with e; have := G18.out; have := HE.out.size; omega))); have Z14 := Aside0.mk (Boxed.kept Y14.out b2 (fun e => by injection e with e; have := G18.out; have := X14r.out.lt; omega)); have Z15 := Aside0.mk (Boxed.kept Y15.out b2 (fun e => by injection e with e; have := G18.out; have := X15r.out.lt; omega)); have q0 : w19.cell? ⟨g18, 0, none⟩ = some (.string (rd_T31 zs i).f0) := blk_cell b1 0; have k0 := (ex_cell HE19.out NG16.out y0).trans y0; have d14 := Z14.out.cell; have d14f := Z14.out.frozen; have d15 := Z15.out.cell; have d3 := (ex_cell HE19.out NB3.out c3).trans c3; clear b1 b2) | (refine ⟨trivial, ?_⟩; gi_at_call 13; refine (CallsIn.inRound l (callsIn_wide.2 (amphoraref08_Above.calls K p (rd_T31 zs i).f0 true _ (by first | exact HGK.out _ HE19.out | exact HGK.out _ (HE19.out.set _ _ (.inl rfl))) HAB.out))).mono ?_; rintro e w20 ⟨rfl, hb20⟩))
                            go_roundw
                            case rel => exact ⟨i + 1, by rw [wr_in _ (by have h1 := HIi.out; have h2 := HBT.out.len; have h3 := C2.out; omega)], ⟨by have := HIi.out; have := C2.out; omega⟩, ⟨by rw [show FI pre.length f (i + 1) = (f : Int) by unfold FI; rw [if_neg (by have := HIX.out; omega)]]; exact boxed_below (Z14.out) hb20⟩, ⟨boxed_below (Z15.out) hb20⟩, ⟨Ex.trans (HE19.out) (Ex.of_below hb20)⟩⟩
                            case measure => show zs.length + 1 - (wrap64 (i + 1)).toNat < zs.length + 1 - i.toNat; rw [wr_in _ (by have h1 := HIi.out; have h2 := HBT.out.len; have h3 := C2.out; omega)]; have h1 := HIi.out; have h2 := C2.out; omega
                    · have ce1 : ((rd_T31 zs i).f0.toList != x.1.f0.toList) = true := bne_iff_ne.mpr ce
                      have ce2 : ((rd_T31 zs i).f0.toList == x.1.f0.toList) = false := beq_eq_false_iff_ne.mpr ce
                      have HNX := Aside0.mk (show i ≠ ((f + pre.length : Nat) : Int) from fun e => ce (by
                        have : rd_T31 zs i = x.1 := by
                          unfold rd_T31
                          rw [e, Int.toNat_natCast, List.getD_eq_getElem?_getD, HZX.out]
                          rfl
                        rw [this]))
                      clear ce
                      gi_wp2_with (first | ((with_reducible refine gatei_dst (N := 18) rfl ?_); refine box_eventI ?hg (N := 18) ?hd (T := 31) rfl (cs := #[.string (⟨#[]⟩ : ByteArray), .int .i64 0, .int .i64 0, .int .i64 0, .int .i64 0, .int .i64 0, .string (⟨#[]⟩ : ByteArray), .slice none 0 0]) (t := 31) ?hr ?_; (case hd => rfl); (case hg => rfl); (case hr => first | (go_simp; done) | (go_simp; rfl)); intro g18 hg w18 hbox hb; have HE18 := Aside0.mk (Ex.trans HE.out (Ex.of_below hb)); have K18 := Aside0.mk hbox; have G18 := Aside0.mk (show wr.heap.size ≤ g18 by rw [hg]; exact Nat.le_refl _); have Y14 := Aside0.mk (boxed_below X14r.out hb); have Y15 := Aside0.mk (boxed_below X15r.out hb); clear hb hbox hg) | ((with_reducible refine gatei_store (t := 31) (p := 18) (v := .tmp 77) rfl ?_); refine ev_set31I _ rfl (.tmp 18) (.tmp 77) rfl rfl g18 _ _ _ _ _ _ _ _ (rd_T31 zs i).f0 (rd_T31 zs i).f6 (rd_T31 zs i).f1 (rd_T31 zs i).f2 (rd_T31 zs i).f3 (rd_T31 zs i).f4 (rd_T31 zs i).f5 A7 (rd_T31 zs i).f7.length c7 rfl rfl K18.out (fun w19 b1 b2 => ?_); have HE19 := Aside0.mk (Ex.grown HE18.out b2 (fun k e => .inr (by injection e with e; have := G18.out; have := HE.out.size; omega))); have Z14 := Aside0.mk (Boxed.kept Y14.out b2 (fun e => by injection e with e; have := G18.out; have := X14r.out.lt; omega)); have Z15 := Aside0.mk (Boxed.kept Y15.out b2 (fun e => by injection e with e; have := G18.out; have := X15r.out.lt; omega)); have q0 : w19.cell? ⟨g18, 0, none⟩ = some (.string (rd_T31 zs i).f0) := blk_cell b1 0; have k0 := (ex_cell HE19.out NG16.out y0).trans y0; have d14 := Z14.out.cell; have d14f := Z14.out.frozen; have d15 := Z15.out.cell; have d3 := (ex_cell HE19.out NB3.out c3).trans c3; clear b1 b2))
                      go_roundw
                      case rel => exact ⟨i + 1, by rw [wr_in _ (by have h1 := HIi.out; have h2 := HBT.out.len; have h3 := C2.out; omega)], ⟨by have := HIi.out; have := C2.out; omega⟩, ⟨by rw [show FI pre.length f (i + 1) = FI pre.length f i by unfold FI; have h1 := HNX.out; by_cases h : pre.length = 0 ∧ i ≤ (f : Int) <;> by_cases h2 : pre.length = 0 ∧ i + 1 ≤ (f : Int) <;> simp only [h, h2, if_true, if_false] <;> omega]; exact Z14.out⟩, ⟨Z15.out⟩, ⟨HE19.out⟩⟩
                      case measure => show zs.length + 1 - (wrap64 (i + 1)).toNat < zs.length + 1 - i.toNat; rw [wr_in _ (by have h1 := HIi.out; have h2 := HBT.out.len; have h3 := C2.out; omega)]; have h1 := HIi.out; have h2 := C2.out; omega
                  · have HLT := Aside0.mk (show (f + pre.length : Int) < (zs.length : Int) by have := (List.getElem?_eq_some_iff.1 HZX.out).1; omega)
                    have c15 := X15r.out.cell
                    have f15 := X15r.out.frozen
                    gi_wp2
                    refine ⟨ex_keeps (HE.out.set ⟨b15, 0, none⟩ _ (.inr rfl)) (by have h4 := HWW.out.size; have h5 := X14m.out.lt; omega) (by have h4 := HWW.out.size; have h6 := X15n.out.lt; omega), fun k hk hlt => ?_, ?_, ?_, ?_⟩
                    · have hne : ¬ TwoB b14 b15 k := fun h => h.elim hk.1 hk.2
                      have hd := HID.out.2.2.size
                      exact ((HE.out.set ⟨b15, 0, none⟩ _ (.inr rfl)).block k (by have := HBD.out.size; omega) hne).trans (HBD.out.block k (by omega))
                    · have h1 := Boxed.other X14r.out (show b14 ≠ b15 by have := S15.out; omega) (.int .i64 (wrap64 ((pre.length : Int) + 1)))
                      rw [show FI pre.length f i = (if (pre ++ [x]).length = 0 then -1 else (f : Int)) by unfold FI; rw [if_neg (by have := HLT.out; omega), if_neg (by rw [List.length_append, List.length_singleton]; omega)]] at h1
                      exact h1
                    · have h1 := Boxed.set (.int .i64 (wrap64 ((pre.length : Int) + 1))) X15r.out
                      rw [wr_in _ (by have := HLT.out; have := HBT.out.len; omega), show (pre.length : Int) + 1 = ((pre ++ [x]).length : Int) by rw [List.length_append, List.length_singleton]; omega] at h1
                      rw [wr_in _ (by have := HLT.out; have := HBT.out.len; omega), show (pre.length : Int) + 1 = ((pre ++ [x]).length : Int) by rw [List.length_append, List.length_singleton]; omega]
                      exact h1
                    · exact ((HID.out.2.2.trans (Ex.of_below HBD.out)).trans HE.out).set ⟨b15, 0, none⟩ _ (.inr rfl)
              case done =>
                intro D xs W hD hS hI hl
                have HBD := Aside0.mk (show Below W5.heap.size W5 W from (below_step HB7.out HWW.out).trans (hI.2.2.below (below_size (below_step HB7.out HWW.out)) (fun k hk => by have h1 := S14.out; have h2 := S15.out; rcases hk with hk | hk <;> omega)))
                have X4d := Aside0.mk (boxed_below X4n.out HBD.out)
                have HD := Aside0.mk (And.intro hD hl)
                have c14 := hI.1.cell
                have c15 := hI.2.1.cell
                have f4 := X4d.out.frozen
                have c4 := X4d.out.cell
                have HDW := Aside0.mk (show W5.heap.size ≤ D by have := below_size (below_step HB7.out HWW.out); omega)
                have HFIN := Aside0.mk (fun (W9 : World) (e : W9 = W.setCell ⟨b4, 0, none⟩ (.bool true)) => (And.intro (show Boxed W9 b4 4 (.bool true) by rw [e]; exact Boxed.set _ X4d.out) (And.intro (show Below w.heap.size w W9 by rw [e]; exact (below_step HGB.out HBD.out).setCell (p := ⟨b4, 0, none⟩) S4.out _) (show W9.heap[D]? = some (.deferred (some [])) by rw [e]; exact (Below.heap_setCell _ _ _ _ (fun e => by have h1 := X4n.out.lt; have h2 := HDW.out; have h3 : D = b4 := e; omega)).trans HD.out.2))))
                clear hD hl hS
                by_cases cz : xs.length = 0
                · rw [if_pos cz] at c14
                  have m1 := eq_true (show (-1 : Int) < 0 by decide)
                  have m2 := decide_eq_true (show (-1 : Int) < 0 by decide)
                  clear cz hI
                  go_wp2
                  exact leavePD (HFIN.out _ rfl).1 rfl (HFIN.out _ rfl).2.1 (HFIN.out _ rfl).2.2 (by have := HDW.out; have := below_size HGB.out; omega)
                · rw [if_neg cz] at c14
                  have nf := eq_false (show ¬ (f : Int) < 0 by omega)
                  have nf2 := decide_eq_false (show ¬ (f : Int) < 0 by omega)
                  have np := eq_true (show (xs.length : Int) > 0 by omega)
                  have np2 := decide_eq_true (show (xs.length : Int) > 0 by omega)
                  have np3 := eq_true (show 0 < xs.length by omega)
                  clear cz hI
                  go_wp2
                  exact leavePD (HFIN.out _ rfl).1 rfl (HFIN.out _ rfl).2.1 (HFIN.out _ rfl).2.2 (by have := HDW.out; have := below_size HGB.out; omega)
              case stop =>
                intro D c pre W _ _ h _
                exact h.elim
end Go.Proofs.YtfkbmjfhakooiaaDoor.TR

/- What amphoralaw09.large answers: plain Lean. Conditions: as each theorem says. -/
namespace Go.Proofs.YtfkbmjfhakooiaaDoor.TR
open Go.RowKit Go.Proofs.YtfkbmjfhakooiaaDoor.PTree Go.Proofs.YtfkbmjfhakooiaaDoorW.PrintWords Go.Proofs.YtfkbmjfhakooiaaDoorW.PrintLast Go.Proofs.YtfkbmjfhakooiaaDoorW.PrintMore
set_option linter.unusedVariables false
set_option linter.unusedSimpArgs false
/-- Sizes that any value has. -/
def Sane (l : List S31) : Prop := ∀ x ∈ l, x.f0.size ≤ 9223372036854775807 ∧ x.f6.size ≤ 9223372036854775807 ∧ x.f7.length ≤ 9223372036854775807
theorem rd_mem' (l : List S31) (i : Int) (h0 : 0 ≤ i) (h1 : i < (l.length : Int)) : rd_T31 l i ∈ l := by
  unfold rd_T31
  have h2 : i.toNat < l.length := by omega
  rw [List.getD_eq_getElem?_getD, List.getElem?_eq_getElem h2]
  exact List.getElem_mem h2
theorem large_l (l : List S31) (hs : Sane l) (hl : (l.length : Int) ≤ 9223372036854775807) : ∀ (k : Nat) (n i : Int), 0 ≤ i → i ≤ (l.length : Int) → 0 ≤ n → n ≤ 400 → (l.length : Int) - i + 1 ≤ k →
    ∃ b, amphoralaw09_large.l0 k n l (l.length : Int) i = some b ∧ (b = false → (l.length : Int) - i ≤ 400 - n ∧ ∀ j, i ≤ j → j < (l.length : Int) → ((rd_T31 l j).f7.length : Int) ≤ 401000 ∧ ((rd_T31 l j).f0.size : Int) ≤ 40100 ∧ ((rd_T31 l j).f6.size : Int) ≤ 40100)
  | 0, n, i, h0, h1, h2, h3, h4 => by omega
  | k + 1, n, i, h0, h1, h2, h3, h4 => by
    unfold amphoralaw09_large.l0
    by_cases c1 : i < (l.length : Int)
    · rw [if_pos c1, if_pos h0, if_pos c1]
      obtain ⟨s1, s2, s3⟩ := hs _ (rd_mem' l i h0 c1)
      have e : wrap64 (n + (wrap64 ((wrap64 ((wrap64 (1 + (wrap64 ((((rd_T31 l i).f7).length : Int) / 1000)))) + (wrap64 ((((rd_T31 l i).f0).size : Int) / 100)))) + (wrap64 ((((rd_T31 l i).f6).size : Int) / 100))))) = n + (1 + ((rd_T31 l i).f7.length : Int) / 1000 + ((rd_T31 l i).f0.size : Int) / 100 + ((rd_T31 l i).f6.size : Int) / 100) := by
        have a0 : 0 ≤ ((rd_T31 l i).f7.length : Int) / 1000 ∧ ((rd_T31 l i).f7.length : Int) / 1000 ≤ 9223372036854776 := by omega
        have b0 : 0 ≤ ((rd_T31 l i).f0.size : Int) / 100 ∧ ((rd_T31 l i).f0.size : Int) / 100 ≤ 92233720368547758 := by omega
        have c0 : 0 ≤ ((rd_T31 l i).f6.size : Int) / 100 ∧ ((rd_T31 l i).f6.size : Int) / 100 ≤ 92233720368547758 := by omega
        generalize ((rd_T31 l i).f7.length : Int) / 1000 = a at a0 ⊢
        generalize ((rd_T31 l i).f0.size : Int) / 100 = b at b0 ⊢
        generalize ((rd_T31 l i).f6.size : Int) / 100 = c at c0 ⊢
        rw [wr_in a ⟨by omega, by omega⟩, wr_in (1 + a) ⟨by omega, by omega⟩, wr_in b ⟨by omega, by omega⟩, wr_in (1 + a + b) ⟨by omega, by omega⟩, wr_in c ⟨by omega, by omega⟩, wr_in (1 + a + b + c) ⟨by omega, by omega⟩, wr_in _ ⟨by omega, by omega⟩]
      rw [e]
      by_cases c2 : n + (1 + ((rd_T31 l i).f7.length : Int) / 1000 + ((rd_T31 l i).f0.size : Int) / 100 + ((rd_T31 l i).f6.size : Int) / 100) > 400
      · rw [if_pos c2]
        exact ⟨true, rfl, fun h => by cases h⟩
      · rw [if_neg c2, show wrap64 (i + 1) = i + 1 from wr_in _ ⟨by omega, by omega⟩]
        obtain ⟨b, hb, hq⟩ := large_l l hs hl k _ (i + 1) (by omega) (by omega) (show 0 ≤ n + (1 + ((rd_T31 l i).f7.length : Int) / 1000 + ((rd_T31 l i).f0.size : Int) / 100 + ((rd_T31 l i).f6.size : Int) / 100) by omega) (by omega) (by omega)
        refine ⟨b, hb, fun h => ?_⟩
        obtain ⟨q1, q2⟩ := hq h
        refine ⟨by omega, fun j hj hj2 => ?_⟩
        by_cases e2 : j = i
        · subst e2; omega
        · exact q2 j (by omega) hj2
    · rw [if_neg c1]
      exact ⟨false, rfl, fun _ => ⟨by omega, fun j hj hj2 => by omega⟩⟩
theorem large_f (l : List S31) (hs : Sane l) (hl : (l.length : Int) ≤ 9223372036854775807) (K : Nat) (hK : l.length + 1 ≤ K) :
    ∃ b, amphoralaw09_large.f K l = some b ∧ (b = false → l.length ≤ 400 ∧ ∀ x ∈ l, x.f7.length ≤ 401000 ∧ x.f0.size ≤ 40100 ∧ x.f6.size ≤ 40100) := by
  obtain ⟨b, hb, hq⟩ := large_l l hs hl K 0 0 (by omega) (by omega) (by omega) (by omega) (by omega)
  refine ⟨b, hb, fun h => ?_⟩
  obtain ⟨q1, q2⟩ := hq h
  refine ⟨by omega, fun x hx => ?_⟩
  obtain ⟨j, hj, rfl⟩ := List.getElem_of_mem hx
  have h1 := q2 (j : Int) (by omega) (by omega)
  have e : rd_T31 l (j : Int) = l[j] := by
    unfold rd_T31
    rw [Int.toNat_natCast, List.getD_eq_getElem?_getD, List.getElem?_eq_getElem hj]
    rfl
  rw [e] at h1
  omega
end Go.Proofs.YtfkbmjfhakooiaaDoor.TR

/- TreeParents, of any arguments. Conditions: as the theorem says. -/
namespace Go.Proofs.YtfkbmjfhakooiaaDoor.TR
open Go.RowKit Go.Proofs.YtfkbmjfhakooiaaDoor.PTree Go.Proofs.YtfkbmjfhakooiaaDoorW.PrintWords Go.Proofs.YtfkbmjfhakooiaaDoorW.PrintLast Go.Proofs.YtfkbmjfhakooiaaDoorW.PrintMore
set_option linter.unusedVariables false
set_option linter.unusedSimpArgs false
/-- The law. -/
theorem parents_holds (l0 : List S31) (p : ByteArray) (A0 : Option Addr) (k0 : Nat) (w : World) (hGl : Gl w) (h0 : Kd.C k31 w A0 l0.length l0) (hc0 : l0.length ≤ k0) (hs : ∀ x ∈ l0, x.f0.size ≤ 9223372036854775807 ∧ x.f6.size ≤ 9223372036854775807 ∧ x.f7.length ≤ 9223372036854775807 ∧ (Lit.int .i64 x.f1).wf = true) (hl : (l0.length : Int) ≤ 9223372036854775807) :
    Calls Tryd.prog 3 #[.slice A0 l0.length k0, .string p] w fun e w' => e = .returned (.bool true) ∧ Below w.heap.size w w' := by
  obtain ⟨K, hK⟩ : ∃ K, K = l0.length + 3000000 := ⟨_, rfl⟩
  obtain ⟨ba, b1, b2⟩ := large_f l0 (fun x hx => ⟨(hs x hx).1, (hs x hx).2.1, (hs x hx).2.2.1⟩) hl K (by omega)
  refine Parents_calls K (by omega) l0 p A0 k0 ba w hGl h0 hc0 b1 (fun e1 => ?_)
  obtain ⟨q1, q2⟩ := b2 e1
  exact ⟨by omega, fun x hx => ⟨by have := q2 x hx; omega, by have := q2 x hx; omega, by have := q2 x hx; omega, (hs x hx).2.2.2⟩⟩
end Go.Proofs.YtfkbmjfhakooiaaDoor.TR
