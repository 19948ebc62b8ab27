/- TreeLooks: the example, entries that come in, Find, Children, marked copies, Over, Walk and its iterator, plain Lean on them. Conditions: as each theorem says. -/
import Derived.Test.YtfkbmjfhakooiaaGreatDoorBuild
import Derived.Test.YtfkbmjfhakooiaaGreatDoorPMP45
import Derived.Test.YtfkbmjfhakooiaaGreatDoorChecks1
import Derived.Test.YtfkbmjfhakooiaaGreatDoorPTreex2
import Derived.Deep.Cut
import Derived.Test.YtfkbmjfhakooiaaGreatDoorSorts
import Derived.Deep.Slices
import Derived.ChangeSlices
import Derived.KernelRfl
import Derived.Test.YtfkbmjfhakooiaaGreatDoorPTreex3
import Derived.Test.YtfkbmjfhakooiaaGreatDoorPTreex0
import Derived.Deep.AppendSrc
import Derived.RangeFuncNested
import Derived.RangeFuncBound
import Derived.RangeFuncCalls
import Derived.RangeFuncLeaves
import Derived.RangeFuncBox
import Derived.Shelf.Abstract
import Derived.Shelf.RegionOpen
import Derived.WalkKit
import Derived.OwnWalkIn
import Derived.TacticsInMore
import Derived.LoopNIn
import Derived.LoopIn
import Derived.Test.YtfkbmjfhakooiaaGreatDoorProg
import Derived.Test.YtfkbmjfhakooiaaGreatDoorPM23
import Derived.Test.YtfkbmjfhakooiaaGreatDoorPTreex9
import Derived.Test.YtfkbmjfhakooiaaGreatDoorPTreex7
import Derived.Test.YtfkbmjfhakooiaaGreatDoorPTreex8w
/- What the chapter's example is. Conditions: none. -/
namespace Go.Proofs.YtfkbmjfhakooiaaGreatDoor.TR
open Go.RowKit Go.Proofs.YtfkbmjfhakooiaaGreatDoor.PTree Go.Proofs.YtfkbmjfhakooiaaGreatDoorW.PrintWords Go.Proofs.YtfkbmjfhakooiaaGreatDoorW.PrintLast Go.Proofs.YtfkbmjfhakooiaaGreatDoorW.PrintMore
set_option linter.unusedVariables false
set_option linter.unusedSimpArgs false
def ps1 : ByteArray := ⟨#[97, 47, 98, 47, 99]⟩
def ps2 : ByteArray := ⟨#[97, 47, 46, 47, 120]⟩
def fileE (p : ByteArray) : S28 := ⟨p, 2, 0, 0, 0, 0, ⟨#[]⟩, bytesOf p⟩
def dirE (p : ByteArray) : S28 := ⟨p, 1, 493, 0, 0, 0, ⟨#[]⟩, []⟩
def ax : ByteArray := ⟨#[97, 47, 120]⟩
def ab : ByteArray := ⟨#[97, 47, 98]⟩
def a_ : ByteArray := ⟨#[97]⟩
def aliveX : List S28 := [fileE ps1, ⟨ax, 2, 0, 0, 0, 0, ⟨#[]⟩, bytesOf ps2⟩, dirE ab, dirE a_]
def aliveY : List S28 := [dirE a_, dirE ab, fileE ps1, ⟨ax, 2, 0, 0, 0, 0, ⟨#[]⟩, bytesOf ps2⟩]
set_option maxRecDepth 100000 in
theorem alive_buildA : buildA 600 [fileE ps1, fileE ps2] = some (aliveX, none) := by kernel_rfl
set_option maxRecDepth 100000 in
theorem alive_check : tree_Check.f 600 aliveY = some (-1, none) := by kernel_rfl
end Go.Proofs.YtfkbmjfhakooiaaGreatDoor.TR

/- amphoralaw09.file, walked. Conditions: as each theorem says. -/
namespace Go.Proofs.YtfkbmjfhakooiaaGreatDoor.TR
open Go.RowKit Go.Proofs.YtfkbmjfhakooiaaGreatDoor.PTree Go.Proofs.YtfkbmjfhakooiaaGreatDoorW.PrintWords Go.Proofs.YtfkbmjfhakooiaaGreatDoorW.PrintLast Go.Proofs.YtfkbmjfhakooiaaGreatDoorW.PrintMore
set_option linter.unusedVariables false
set_option linter.unusedSimpArgs false
theorem ints_C {w : World} {k : IntKind} {A : Option Addr} {n : Nat} {xs : List Int} (h : ReadsInt w k A n xs) : Kd.C (Kd.int k) w A n xs := by
  refine ⟨h.1, h.2.1, fun hp => ?_⟩
  obtain ⟨ad, e, hc⟩ := h.2.2 hp
  refine ⟨ad, e, fun j p hj => ⟨[.int k p], rfl, rfl, fun i u hu => ?_⟩⟩
  obtain ⟨hl, hv⟩ := List.getElem?_eq_some_iff.1 hj
  cases i with
  | zero =>
    simp only [List.getElem?_cons_zero, Option.some.injEq] at hu
    subst hu
    have h1 := hc j (by rw [← h.1]; exact hl)
    rw [List.getD_eq_getElem?_getD, List.getElem?_eq_getElem hl, hv] at h1
    show w.cell? (ad.add (j * 1 + 0)) = _
    rw [Nat.mul_one, Nat.add_zero]
    simpa using h1
  | succ i => simp at hu
theorem below_row_ {w W W1 : World} {g : Nat} (h : Below w.heap.size w W) (b2 : W.grownBy W1 (some g)) (hg : w.heap.size ≤ g) : Below w.heap.size w W1 :=
  h.trans ⟨b2.os, b2.tape, b2.output, b2.size, fun k hk => b2.block k (Nat.lt_of_lt_of_le hk (below_size h)) (fun e => by injection e with e; omega)⟩
set_option maxHeartbeats 8000000 in
set_option maxRecDepth 100000 in
theorem file_calls (p : ByteArray) (hp : p.size ≤ 1000) (w : World) :
    Calls Tryz.prog 24 #[.string p] w fun e w' => ∃ (A : Option Addr) (c : Nat), e = .returned (.agg #[.string p, .int .i64 2, .int .i64 0, .int .i64 0, .int .i64 0, .int .i64 0, .string ⟨#[]⟩, .slice A (bytesOf p).length c]) ∧ (bytesOf p).length ≤ c ∧ Kd.C (Kd.int .u8) w' A (bytesOf p).length (bytesOf p) ∧ Below w.heap.size w w' := by
  have hu31 := Tryz.underlying28
  have HP := Aside0.mk hp
  clear hp
  have HL := Aside0.mk (bytesOf_length p)
  rw [HL.out]
  have kb := fun W => print_bytes (P := Tryz.prog) 9 26 5 Tryz.underlying9 Tryz.underlying26 Tryz.underlying5 p W
  go_enter Tryz.func24, Tryz.ntmps24
  go_wp2_with (first
    | ((with_reducible refine gate_dst (N := 2) rfl ?_); refine box_event ?hg (N := 2) ?hd (cs := #[.string (⟨#[]⟩ : ByteArray), .int .i64 0, .int .i64 0, .int .i64 0, .int .i64 0, .int .i64 0, .string (⟨#[]⟩ : ByteArray), .slice none 0 0]) (t := 28) ?hr ?_; (case hd => rfl); (case hg => rfl); (case hr => first | (go_simp; done) | (go_simp; rfl)); intro g2 hg w2 hbox hb; have HB := Aside0.mk hb; have K2 := Aside0.mk hbox; have G2 := Aside0.mk (show w.heap.size ≤ g2 by omega); clear hb hbox hg)
    | ((with_reducible refine gate_store (t := 28) (p := 2) (v := .tmp 6) rfl ?_); refine ev_set31 _ rfl (.tmp 2) (.tmp 6) rfl rfl g2 _ _ _ _ _ _ _ _ p ⟨#[]⟩ 2 0 0 0 0 (some ⟨w2.heap.size, 0, none⟩) p.size (grownCap w2 p.size 0 5) rfl rfl (blk_below K2.out (bytes_below (Below.refl _ _) (Nat.le_refl _) 5 p)) (fun w8 b1 b2 => ?_)))
  refine bodyPost_ret (results_cell_row rfl _ _ g2 28 _ (0, 0) _ rfl b1 Tryz.underlying28 rfl (by kernel_rfl)) rfl ?_
  have hlt : w2.heap.size < (Lib.bytesWorld w2 5 p).heap.size := by rw [Lib.bytesWorld_size]; omega
  have hne : some w2.heap.size ≠ some g2 := fun e => by
    injection e with e
    have := (Array.getElem?_eq_some_iff.1 K2.out).1
    omega
  refine ⟨_, _, rfl, grownCap_ge _ _ _ _, ints_C ?_, below_row_ (bytes_below HB.out (below_size HB.out) 5 p) b2 G2.out⟩
  obtain ⟨h1, h2, h3⟩ := bytes_reads w2 5 p (by have := HP.out; omega)
  refine ⟨h1, h2, fun hp => ?_⟩
  obtain ⟨ad, e, hc⟩ := h3 hp
  cases e
  refine ⟨_, rfl, fun j hj => ?_⟩
  rw [← hc j hj, add_plain]
  exact World.cell?_of_block (b2.block _ hlt hne)
end Go.Proofs.YtfkbmjfhakooiaaGreatDoor.TR

/- The chapter's example, walked. Conditions: as each theorem says. -/
namespace Go.Proofs.YtfkbmjfhakooiaaGreatDoor.TR
open Go.RowKit Go.Proofs.YtfkbmjfhakooiaaGreatDoor.PTree Go.Proofs.YtfkbmjfhakooiaaGreatDoorW.PrintWords Go.Proofs.YtfkbmjfhakooiaaGreatDoorW.PrintLast Go.Proofs.YtfkbmjfhakooiaaGreatDoorW.PrintMore
set_option linter.unusedVariables false
set_option linter.unusedSimpArgs false
theorem k28_mkK (w : World) (x : S28) (A : Option Addr) (k : Nat) (l : x.f7.length ≤ k) (g : (Kd.int .u8).C w A x.f7.length x.f7) : k28.K w x [.string x.f0, .int .i64 x.f1, .int .i64 x.f2, .int .i64 x.f3, .int .i64 x.f4, .int .i64 x.f5, .string x.f6, .slice A x.f7.length k] := ⟨[.string x.f0], [.int .i64 x.f1, .int .i64 x.f2, .int .i64 x.f3, .int .i64 x.f4, .int .i64 x.f5, .string x.f6, .slice A x.f7.length k], rfl, rfl, ⟨[.int .i64 x.f1], [.int .i64 x.f2, .int .i64 x.f3, .int .i64 x.f4, .int .i64 x.f5, .string x.f6, .slice A x.f7.length k], rfl, rfl, ⟨[.int .i64 x.f2], [.int .i64 x.f3, .int .i64 x.f4, .int .i64 x.f5, .string x.f6, .slice A x.f7.length k], rfl, rfl, ⟨[.int .i64 x.f3], [.int .i64 x.f4, .int .i64 x.f5, .string x.f6, .slice A x.f7.length k], rfl, rfl, ⟨[.int .i64 x.f4], [.int .i64 x.f5, .string x.f6, .slice A x.f7.length k], rfl, rfl, ⟨[.int .i64 x.f5], [.string x.f6, .slice A x.f7.length k], rfl, rfl, ⟨[.string x.f6], [.slice A x.f7.length k], rfl, rfl, ⟨A, k, rfl, l, g⟩⟩⟩⟩⟩⟩⟩⟩
theorem lit2_C (W W1 : World) (b : Nat) (x y : S28) (A1 A2 : Option Addr) (k1 k2 : Nat) (l1 : x.f7.length ≤ k1) (h1 : Kd.C (Kd.int .u8) W1 A1 x.f7.length x.f7) (l2 : y.f7.length ≤ k2) (h2 : Kd.C (Kd.int .u8) W1 A2 y.f7.length y.f7) (hb : W1.heap[b]? = some (.cells #[.string x.f0, .int .i64 x.f1, .int .i64 x.f2, .int .i64 x.f3, .int .i64 x.f4, .int .i64 x.f5, .string x.f6, .slice A1 x.f7.length k1, .string y.f0, .int .i64 y.f1, .int .i64 y.f2, .int .i64 y.f3, .int .i64 y.f4, .int .i64 y.f5, .string y.f6, .slice A2 y.f7.length k2] 28 (0, 0))) : Kd.C k28 W1 (some ⟨b, 0, none⟩) 2 [x, y] := by
  refine ⟨rfl, by decide, fun _ => ⟨_, rfl, fun j p hj => ?_⟩⟩
  match j, hj with
  | 0, hj =>
    obtain rfl := Option.some.inj hj
    refine ⟨_, rfl, k28_mkK W1 x A1 k1 l1 h1, fun i u hu => ?_⟩
    match i, hu with
    | 0, hu => exact (blk_cell hb 0).trans hu
    | 1, hu => exact (blk_cell hb 1).trans hu
    | 2, hu => exact (blk_cell hb 2).trans hu
    | 3, hu => exact (blk_cell hb 3).trans hu
    | 4, hu => exact (blk_cell hb 4).trans hu
    | 5, hu => exact (blk_cell hb 5).trans hu
    | 6, hu => exact (blk_cell hb 6).trans hu
    | 7, hu => exact (blk_cell hb 7).trans hu
    | i + 8, hu => simp at hu
  | 1, hj =>
    obtain rfl := Option.some.inj hj
    refine ⟨_, rfl, k28_mkK W1 y A2 k2 l2 h2, fun i u hu => ?_⟩
    match i, hu with
    | 0, hu => exact (blk_cell hb 8).trans hu
    | 1, hu => exact (blk_cell hb 9).trans hu
    | 2, hu => exact (blk_cell hb 10).trans hu
    | 3, hu => exact (blk_cell hb 11).trans hu
    | 4, hu => exact (blk_cell hb 12).trans hu
    | 5, hu => exact (blk_cell hb 13).trans hu
    | 6, hu => exact (blk_cell hb 14).trans hu
    | 7, hu => exact (blk_cell hb 15).trans hu
    | i + 8, hu => simp at hu
  | j + 2, hj => simp at hj
theorem aliveX_small : ∀ x ∈ aliveX, x.f0.size ≤ 200 := by
  intro x hx
  simp only [aliveX, List.mem_cons, List.not_mem_nil, or_false] at hx
  rcases hx with rfl | rfl | rfl | rfl <;> decide
theorem aliveX_keys : ∀ p q, p ∈ aliveX → q ∈ aliveX → p.f0 = q.f0 → p = q := by
  intro p q hp hq e
  simp only [aliveX, List.mem_cons, List.not_mem_nil, or_false] at hp hq
  rcases hp with rfl | rfl | rfl | rfl <;> rcases hq with rfl | rfl | rfl | rfl <;> first | rfl | exact absurd e (by decide)
theorem alive_sort (ys : List S28) (h : SortR 600 aliveX ys) : ys = aliveY := by
  refine sortR_uniq (B := 200) (by decide) (by decide) aliveX_small h ?_ ?_ aliveX_keys
  · exact ((List.Perm.swap _ _ _).trans (List.perm_append_comm (l₁ := [dirE ab, dirE a_]) (l₂ := [fileE ps1, ⟨ax, 2, 0, 0, 0, 0, ⟨#[]⟩, bytesOf ps2⟩])))
  · refine List.Pairwise.cons ?_ (List.Pairwise.cons ?_ (List.Pairwise.cons ?_ (List.Pairwise.cons ?_ List.Pairwise.nil)))
    all_goals (
      intro q hq
      simp only [List.mem_cons, List.not_mem_nil, or_false] at hq)
    · rcases hq with rfl | rfl | rfl <;> decide +kernel
    · rcases hq with rfl | rfl <;> decide +kernel
    · rcases hq with rfl <;> decide +kernel
theorem build_alive (A : Option Addr) (c : Nat) (w : World) (hC : Kd.C k28 w A 2 [fileE ps1, fileE ps2]) (hGl : Gl w) : Calls Tryz.prog 23 #[.slice A 2 c] w fun e w' => ∃ A c, e = .returned (.tuple #[.slice A 4 c, .nilIface]) ∧ Kd.C k28 w' A 4 aliveY ∧ Below w.heap.size w w' := by
  refine (Build_calls 600 A c [fileE ps1, fileE ps2] aliveX none (SortR 600 aliveX) w hC hGl alive_buildA (fun _ v W h0 hR => sort_goes 600 200 (by decide) (by decide) w hGl aliveX aliveX_small (by decide) v W h0 hR) (fun ys hy => ⟨(-1, none), by rw [alive_sort ys hy]; exact alive_check⟩)).mono ?_
  rintro e w' ⟨A, c, ys, en, rfl, hl, hC, hb, _, h⟩
  obtain ⟨zs, r, hz, hr, rfl, rfl⟩ := h rfl
  obtain rfl := alive_sort zs hz
  rw [alive_check] at hr
  obtain rfl := Option.some.inj hr
  exact ⟨A, c, rfl, hC, hb⟩

set_option maxHeartbeats 8000000 in
set_option maxRecDepth 100000 in
theorem alive_calls (w : World) (hGl : Gl w) : Calls Tryz.prog 5 #[] w fun e w' => e = .returned (.bool true) ∧ Below w.heap.size w w' := by
  have hu31 := Tryz.underlying28
  have hu26 := Tryz.underlying44
  have hu56 := Tryz.underlying63
  have HGL := Aside0.mk hGl
  clear hGl
  go_enter Tryz.func5, Tryz.ntmps5
  go_upto_region 2 with (first
    | (go_at_call 24; refine (file_calls (⟨#[97, 47, 98, 47, 99]⟩ : ByteArray) (by decide) w).mono ?_; rintro e w1 ⟨A1, k1, rfl, hl, hc, hb⟩; have L1 := Aside0.mk hl; have D1 := Aside0.mk hc; have HB1 := Aside0.mk hb; clear hl hc hb)
    | (go_at_call 24; refine (file_calls (⟨#[97, 47, 46, 47, 120]⟩ : ByteArray) (by decide) _).mono ?_; rintro e w2 ⟨A2, k2, rfl, hl, hc, hb⟩; have L2 := Aside0.mk hl; have D2 := Aside0.mk hc; have D1b := Aside0.mk (Kd.C_below D1.out hb); have HB2 := Aside0.mk (below_step HB1.out hb); clear hl hc hb)
    | (go_at_call 23; refine (build_alive _ _ _ (lit2_C w2 _ w2.heap.size (fileE ps1) (fileE ps2) A1 A2 k1 k2 L1.out (Kd.C_alloc D1b.out _) L2.out (Kd.C_alloc D2.out _) (heap_alloc_new w2 _)) (HGL.out.of (below_alloc HB2.out _))).mono ?_; rintro e w3 ⟨A3, k3, rfl, hc, hb⟩; have D3 := Aside0.mk hc; have HB3 := Aside0.mk (below_step (below_alloc HB2.out _) hb); clear hc hb))
  obtain ⟨ad, A7, c7, eA, _⟩ := at_T28 D3.out 0 (by decide) (by decide)
  subst eA
  go_upto_region 3 with (first
    | (go_at_call 19; refine (tree_Check.calls 600 (some ad) k3 aliveY (-1, none) _ D3.out (HGL.out.of HB3.out) alive_check).mono ?_; rintro e w4 ⟨rfl, hb⟩; have D4 := Aside0.mk (Kd.C_below D3.out hb); have HB4 := Aside0.mk (below_step HB3.out hb); clear hb; try simp only [errW_none, errW_some]))
  obtain ⟨_, A8, c8, eA, x0, x1, _⟩ := at_T28 D4.out 0 (by decide) (by decide)
  cases eA
  obtain ⟨_, A9, c9, eA, y0, _⟩ := at_T28 D4.out 3 (by decide) (by decide)
  cases eA
  replace x0 : w4.cell? ad = some (.string ⟨#[97]⟩) := by
    have h : ad.add ((0 : Int).toNat * 8) = ad := by unfold Addr.add; simp
    rw [h] at x0
    exact x0
  replace x1 : w4.cell? ⟨ad.block, ad.off + 1, none⟩ = some (.int .i64 1) := by
    have h : ad.add ((0 : Int).toNat * 8) = ad := by unfold Addr.add; simp
    rw [h] at x1
    exact x1
  replace y0 : w4.cell? ⟨ad.block, ad.off + 24, none⟩ = some (.string ⟨#[97, 47, 120]⟩) := by
    have h : ad.add ((3 : Int).toNat * 8) = ⟨ad.block, ad.off + 24, none⟩ := by unfold Addr.add; simp
    rw [h] at y0
    exact y0
  go_wp2
  go_ret
  exact ⟨rfl, HB4.out⟩
end Go.Proofs.YtfkbmjfhakooiaaGreatDoor.TR

/- A slice of entries that comes in, opened. Conditions: none. -/
namespace Go.Proofs.YtfkbmjfhakooiaaGreatDoor.TR
open Go.RowKit Go.Proofs.YtfkbmjfhakooiaaGreatDoor.PTree Go.Proofs.YtfkbmjfhakooiaaGreatDoorW.PrintWords Go.Proofs.YtfkbmjfhakooiaaGreatDoorW.PrintLast
set_option linter.unusedVariables false
set_option linter.unusedSimpArgs false
namespace Ents
open Go.ChangeShapes Go.WideShapes Go.Deep
def Fit (l : List S28) : Prop := (l.length : Int) ≤ 9223372036854775807 ∧ ∀ x ∈ l, x.f0.size ≤ 9223372036854775807 ∧ x.f6.size ≤ 9223372036854775807 ∧ x.f7.length ≤ 9223372036854775807 ∧ (Lit.int .i64 x.f1).wf = true
theorem cof31 : Tryz.prog.cellsOf 28 = 8 := by kernel_rfl
theorem cof9 : Tryz.prog.cellsOf 9 = 1 := by kernel_rfl
theorem cof3 : Tryz.prog.cellsOf 3 = 1 := by kernel_rfl
theorem cof29 : Tryz.prog.cellsOf 26 = 1 := by kernel_rfl
theorem cof5 : Tryz.prog.cellsOf 5 = 1 := by kernel_rfl
set_option maxRecDepth 100000 in
theorem entry_open {H : Type} {enc : TypeId × Value → H} {w : World} {base : Nat} {spare : Nat → Bool} {held : Bool} {n : Nat} {cs : List Value} {x : DataW H × List MemPlace} (h : DataW.trod enc Tryz.prog w base spare held n 28 cs = some x) :
    ∃ e : S28, k28.K w e cs ∧ e.f0.size ≤ 9223372036854775807 ∧ e.f6.size ≤ 9223372036854775807 ∧ e.f7.length ≤ 9223372036854775807 ∧ (Lit.int .i64 e.f1).wf = true := by
  obtain ⟨xs, m, _, _, hcl, hxl, hf⟩ := DataW.trod_struct Tryz.underlying28 h
  rw [cof31] at hcl
  have hm : maxLen = 9223372036854775807 := rfl
  match xs, hxl, cs, hcl with
  | [y0, y1, y2, y3, y4, y5, y6, y7], _, [v0, v1, v2, v3, v4, v5, v6, v7], _ =>
    have g0 : DataW.trod enc Tryz.prog w base spare held m 9 [v0] = some y0 := by have := hf 0 _ rfl; simpa [cof9] using this
    have g1 : DataW.trod enc Tryz.prog w base spare held m 3 [v1] = some y1 := by have := hf 1 _ rfl; simpa [cof3] using this
    have g2 : DataW.trod enc Tryz.prog w base spare held m 3 [v2] = some y2 := by have := hf 2 _ rfl; simpa [cof3] using this
    have g3 : DataW.trod enc Tryz.prog w base spare held m 3 [v3] = some y3 := by have := hf 3 _ rfl; simpa [cof3] using this
    have g4 : DataW.trod enc Tryz.prog w base spare held m 3 [v4] = some y4 := by have := hf 4 _ rfl; simpa [cof3] using this
    have g5 : DataW.trod enc Tryz.prog w base spare held m 3 [v5] = some y5 := by have := hf 5 _ rfl; simpa [cof3] using this
    have g6 : DataW.trod enc Tryz.prog w base spare held m 9 [v6] = some y6 := by have := hf 6 _ rfl; simpa [cof9] using this
    have g7 : DataW.trod enc Tryz.prog w base spare held m 26 [v7] = some y7 := by have := hf 7 _ rfl; simpa [cof29] using this
    obtain ⟨a0, e0, _, z0⟩ := DataW.trod_string Tryz.underlying9 g0
    obtain ⟨a1, e1, _, z1⟩ := DataW.trod_int Tryz.underlying3 g1
    obtain ⟨a2, e2, _, z2⟩ := DataW.trod_int Tryz.underlying3 g2
    obtain ⟨a3, e3, _, z3⟩ := DataW.trod_int Tryz.underlying3 g3
    obtain ⟨a4, e4, _, z4⟩ := DataW.trod_int Tryz.underlying3 g4
    obtain ⟨a5, e5, _, z5⟩ := DataW.trod_int Tryz.underlying3 g5
    obtain ⟨a6, e6, _, z6⟩ := DataW.trod_string Tryz.underlying9 g6
    obtain rfl : v0 = .string a0 := by simpa using e0
    obtain rfl : v1 = .int .i64 a1 := by simpa using e1
    obtain rfl : v2 = .int .i64 a2 := by simpa using e2
    obtain rfl : v3 = .int .i64 a3 := by simpa using e3
    obtain rfl : v4 = .int .i64 a4 := by simpa using e4
    obtain rfl : v5 = .int .i64 a5 := by simpa using e5
    obtain rfl : v6 = .string a6 := by simpa using e6
    rw [hm] at z0 z6
    rcases open_ints Tryz.underlying26 Tryz.underlying5 cof5 g7 with ⟨hcs, _⟩ | ⟨a, len, cap, zs, hcs, _, hl, hmx, hz, _, hcell, _⟩
    · obtain rfl : v7 = .slice none 0 0 := by simpa using hcs
      exact ⟨⟨a0, a1, a2, a3, a4, a5, a6, []⟩, k28_mkK w ⟨a0, a1, a2, a3, a4, a5, a6, []⟩ none 0 (Nat.le_refl _) ⟨rfl, by simp, fun h => absurd h (by simp)⟩, z0, z6, by simp, z1⟩
    · obtain rfl : v7 = .slice (some a) len cap := by simpa using hcs
      rw [hm] at hmx
      have hzl : len ≤ zs.length := by rw [hz]; split <;> omega
      have htl : (zs.take len).length = len := by rw [List.length_take]; omega
      have hC : (Kd.int .u8).C w (some a) (zs.take len).length (zs.take len) := by
        refine ⟨rfl, by rw [htl]; omega, fun _ => ⟨a, rfl, fun j p hp => ⟨[.int .u8 p], rfl, rfl, fun i u hu => ?_⟩⟩⟩
        have hj : j < (zs.take len).length := (List.getElem?_eq_some_iff.1 hp).1
        rw [htl] at hj
        cases i with
        | zero =>
          simp only [List.getElem?_cons_zero, Option.some.injEq] at hu
          subst hu
          show w.cell? (a.add (j * 1 + 0)) = _
          rw [Nat.mul_one, Nat.add_zero, hcell j (by omega)]
          rw [List.getElem?_take_of_lt hj] at hp
          rw [List.getD_eq_getElem?_getD, hp]
          rfl
        | succ i => simp at hu
      have hK := k28_mkK w ⟨a0, a1, a2, a3, a4, a5, a6, zs.take len⟩ (some a) cap (by show (zs.take len).length ≤ cap; omega) hC
      refine ⟨⟨a0, a1, a2, a3, a4, a5, a6, zs.take len⟩, ?_, z0, z6, by show (zs.take len).length ≤ _; omega, z1⟩
      have e : (zs.take len).length = len := htl
      simp only [e] at hK
      exact hK
theorem opened {H : Type} {enc : TypeId × Value → H} {w : World} {base : Nat} {spare : Nat → Bool} {held : Bool} {A : Option Addr} {len cap : Nat} {d : DataW H} {ps : List MemPlace}
    (hd : DataW.Trod enc Tryz.prog w base spare held 22 (.slice A len cap) d ps) : ∃ l : List S28, Kd.C k28 w A l.length l ∧ l.length = len ∧ len ≤ cap ∧ Fit l := by
  obtain ⟨fuel, hf⟩ := hd
  have hm : maxLen = 9223372036854775807 := rfl
  rcases open_slice Tryz.underlying22 hf with ⟨hcs, _⟩ | ⟨a, len', cap', m, n, D, Pl, hcs, _, hl, hmx, hmm, _, hx⟩
  · simp [Value.cells] at hcs
    obtain ⟨rfl, rfl, rfl⟩ := hcs
    exact ⟨[], ⟨rfl, by simp, fun h => absurd h (by simp)⟩, rfl, Nat.le_refl _, by simp, fun x hx => by cases hx⟩
  · simp [Value.cells] at hcs
    obtain ⟨rfl, rfl, rfl⟩ := hcs
    rw [hm] at hmx
    have hle : len ≤ m := by rw [hmm]; split <;> omega
    have each : ∀ i, i < len → ∃ e : S28, (∃ cs, cs.length = 8 ∧ k28.K w e cs ∧ ∀ j u, cs[j]? = some u → w.cell? (a.add (i * 8 + j)) = some u) ∧ e.f0.size ≤ 9223372036854775807 ∧ e.f6.size ≤ 9223372036854775807 ∧ e.f7.length ≤ 9223372036854775807 ∧ (Lit.int .i64 e.f1).wf = true := by
      intro i hi
      obtain ⟨cs', h1, h2⟩ := hx i (by omega)
      rw [cof31] at h1
      obtain ⟨_, hlen, hcell⟩ := World.cells?_some h1
      obtain ⟨e, hK, h3⟩ := entry_open h2
      refine ⟨e, ⟨cs', hlen, hK, fun j u hu => ?_⟩, h3⟩
      have hj : j < 8 := by rw [← hlen]; exact (List.getElem?_eq_some_iff.1 hu).1
      rw [← Go.Deep.add_add, hcell j hj, hu]
    haveI : Inhabited S28 := ⟨z28⟩
    obtain ⟨F, hF⟩ := choose_lt each
    have hg : ∀ (j : Nat) (p : S28), ((List.range len).map F)[j]? = some p → j < len ∧ p = F j := by
      intro j p hp
      rw [List.getElem?_map, Option.map_eq_some_iff] at hp
      obtain ⟨q, hq, rfl⟩ := hp
      obtain ⟨hj, rfl⟩ := List.getElem?_eq_some_iff.1 hq
      rw [List.length_range] at hj
      rw [List.getElem_range]
      exact ⟨hj, rfl⟩
    refine ⟨(List.range len).map F, ⟨rfl, by rw [List.length_map, List.length_range]; omega, fun _ => ⟨a, rfl, fun j p hp => ?_⟩⟩, by rw [List.length_map, List.length_range], hl, by rw [List.length_map, List.length_range]; omega, fun x hx => ?_⟩
    · obtain ⟨hj, rfl⟩ := hg j p hp
      exact (hF j hj).1
    · obtain ⟨j, hq⟩ := List.mem_iff_getElem?.1 hx
      obtain ⟨hj, e⟩ := hg j x hq
      rw [e]
      exact (hF j hj).2
end Ents
end Go.Proofs.YtfkbmjfhakooiaaGreatDoor.TR

/- tree.Find, slices.IndexFunc of entries, walked. Conditions: as each theorem says. -/
namespace Go.Proofs.YtfkbmjfhakooiaaGreatDoor.TR
open Go.RowKit Go.Proofs.YtfkbmjfhakooiaaGreatDoor.PTree Go.Proofs.YtfkbmjfhakooiaaGreatDoorW.PrintWords Go.Proofs.YtfkbmjfhakooiaaGreatDoorW.PrintLast Go.Proofs.YtfkbmjfhakooiaaGreatDoorW.PrintMore
set_option linter.unusedVariables false
set_option linter.unusedSimpArgs false
set_option maxHeartbeats 4000000 in
theorem find1_calls (x : S28) (A : Option Addr) (k gp : Nat) (p : ByteArray) (w : World) (hp : w.cell? ⟨gp, 0, none⟩ = some (.string p)) :
    Calls Tryz.prog 27 #[.agg #[.string x.f0, .int .i64 x.f1, .int .i64 x.f2, .int .i64 x.f3, .int .i64 x.f4, .int .i64 x.f5, .string x.f6, .slice A x.f7.length k], .pointer (some ⟨gp, 0, none⟩)] w fun e w' => e = .returned (.bool (x.f0.toList == p.toList)) ∧ Below w.heap.size w w' := by
  have hu31 := Tryz.underlying28
  obtain ⟨x0, x1, x2, x3, x4, x5, x6, x7⟩ := x
  simp only
  have hlt := World.block_lt_of_cell? w _ hp
  have hp2 := (World.cell?_alloc_lt w (.cells #[.string x0, .int .i64 x1, .int .i64 x2, .int .i64 x3, .int .i64 x4, .int .i64 x5, .string x6, .slice A x7.length k] 28) ⟨gp, 0, none⟩ hlt).trans hp
  go_enter Tryz.func27, Tryz.ntmps27
  go_wp2
  go_ret
  exact ⟨rfl, below_alloc (Below.refl _ _) _⟩
def find0 (l : List S28) (p : ByteArray) : Nat → Int → Option Int
  | 0, _ => none
  | k + 1, i => if i < (l.length : Int) then (if ((rd_T28 l i).f0.toList == p.toList) = true then some i else find0 l p k (i + 1)) else some (-1)
set_option maxHeartbeats 8000000 in
set_option maxRecDepth 100000 in
theorem index_calls (l0 : List S28) (p : ByteArray) (A0 : Option Addr) (k0 gp : Nat) (r : Int) (w : World) (h0 : Kd.C k28 w A0 l0.length l0) (hp : w.cell? ⟨gp, 0, none⟩ = some (.string p)) (h : find0 l0 p (l0.length + 1) 0 = some r) :
    Calls Tryz.prog 26 #[.slice A0 l0.length k0, .func (.func 27) #[] #[.pointer (some ⟨gp, 0, none⟩)]] w fun e w' => e = .returned (.int .i64 r) ∧ Below w.heap.size w w' := by
  have hu31 := Tryz.underlying28
  have H0 := Aside0.mk h0
  have HLB := Aside0.mk h0.2.1
  have HPC := Aside0.mk hp
  have H := Aside0.mk h
  clear h0 hp h
  have eg : ∀ args w, (callFunc 27 args).run Tryz.prog w = .ok (.enter 27 args) w := enters_of Tryz.func27 (by kernel_rfl) rfl
  have HB := Aside0.mk (Below.refl w.heap.size w)
  go_enter Tryz.func26, Tryz.ntmps26
  go_wp2
  go_loopg [8] (l0.length + 1) (fun kq v8 w' => ∃ (i : Int), v8 = .int .i64 i ∧ Aside0 (find0 l0 p kq i = some r) ∧ Aside0 (0 ≤ i) ∧ Aside0 (Below w.heap.size w w'))
  case atStart => exact ⟨0, rfl, H, ⟨by omega⟩, HB⟩
  case round =>
    clear HB H
    obtain ⟨i, rfl, HA, HI, HB⟩ := hrel
    cases gk with
    | zero => exact absurd HA.out (by simp [find0])
    | succ k1 =>
      have H := HA.out
      clear HA
      simp only [find0] at H
      by_cases c2 : i < (l0.length : Int)
      · rw [if_pos c2] at H
        have C2 := Aside0.mk c2
        obtain ⟨ad, A7, c7, eA, x0, x1, x2, x3, x4, x5, x6, x7, _, _⟩ := at_T28 H0.out i HI.out c2
        cases eA
        replace x0 := (HB.out.cell (World.block_lt_of_cell? w _ x0)).trans x0
        replace x1 := (HB.out.cell (World.block_lt_of_cell? w _ x1)).trans x1
        replace x2 := (HB.out.cell (World.block_lt_of_cell? w _ x2)).trans x2
        replace x3 := (HB.out.cell (World.block_lt_of_cell? w _ x3)).trans x3
        replace x4 := (HB.out.cell (World.block_lt_of_cell? w _ x4)).trans x4
        replace x5 := (HB.out.cell (World.block_lt_of_cell? w _ x5)).trans x5
        replace x6 := (HB.out.cell (World.block_lt_of_cell? w _ x6)).trans x6
        replace x7 := (HB.out.cell (World.block_lt_of_cell? w _ x7)).trans x7
        have hi0 := HI.out
        have p210 := eq_true hi0
        have q210 := eq_true c2
        clear hi0
        cases hq : ((rd_T28 l0 i).f0.toList == p.toList) with
        | true =>
          rw [hq, if_pos rfl] at H
          obtain rfl := Option.some.inj H
          go_wp2_with (first | (go_at_call 27; refine (find1_calls (rd_T28 l0 i) A7 c7 gp p _ ((HB.out.cell (World.block_lt_of_cell? w _ HPC.out)).trans HPC.out)).mono ?_; rintro e w9 ⟨rfl, hb⟩; have HB9 := Aside0.mk (below_step HB.out hb); rw [hq]; clear hb))
          go_ret
          exact ⟨rfl, HB9.out⟩
        | false =>
          rw [hq, if_neg (by simp)] at H
          replace H := Aside0.mk H
          go_wp2_with (first | (go_at_call 27; refine (find1_calls (rd_T28 l0 i) A7 c7 gp p _ ((HB.out.cell (World.block_lt_of_cell? w _ HPC.out)).trans HPC.out)).mono ?_; rintro e w9 ⟨rfl, hb⟩; have HB9 := Aside0.mk (below_step HB.out hb); rw [hq]; clear hb))
          go_roundg k1
          case measure => omega
          case rel => exact ⟨i + 1, by rw [wr_in _ (by have h1 := HI.out; have h2 := HLB.out; have h3 := C2.out; omega)], H, ⟨by have := HI.out; omega⟩, HB9⟩
      · rw [if_neg c2] at H
        obtain rfl := Option.some.inj H
        go_wp2
        go_ret
        exact ⟨rfl, HB.out⟩
end Go.Proofs.YtfkbmjfhakooiaaGreatDoor.TR

/- Rows of entries, one by one. Conditions: as each theorem says. -/
namespace Go.Proofs.YtfkbmjfhakooiaaGreatDoor.TR
open Go.RowKit Go.Proofs.YtfkbmjfhakooiaaGreatDoor.PTree Go.Proofs.YtfkbmjfhakooiaaGreatDoorW.PrintWords Go.Proofs.YtfkbmjfhakooiaaGreatDoorW.PrintLast Go.Proofs.YtfkbmjfhakooiaaGreatDoorW.PrintMore
set_option linter.unusedVariables false
set_option linter.unusedSimpArgs false
theorem take_rd (l : List S28) (i : Int) (h0 : 0 ≤ i) (h1 : i < (l.length : Int)) : l.take (i + 1).toNat = l.take i.toNat ++ [rd_T28 l i] := by
  have h2 : i.toNat < l.length := by omega
  rw [show (i + 1).toNat = i.toNat + 1 by omega, List.take_succ_eq_append_getElem h2]
  unfold rd_T28
  rw [List.getD_eq_getElem?_getD, List.getElem?_eq_getElem h2]
  rfl
end Go.Proofs.YtfkbmjfhakooiaaGreatDoor.TR

/- tree.Find, walked. Conditions: as each theorem says. -/
namespace Go.Proofs.YtfkbmjfhakooiaaGreatDoor.TR
open Go.RowKit Go.Proofs.YtfkbmjfhakooiaaGreatDoor.PTree Go.Proofs.YtfkbmjfhakooiaaGreatDoorW.PrintWords Go.Proofs.YtfkbmjfhakooiaaGreatDoorW.PrintLast Go.Proofs.YtfkbmjfhakooiaaGreatDoorW.PrintMore
set_option linter.unusedVariables false
set_option linter.unusedSimpArgs false
theorem find0_spec (l : List S28) (p : ByteArray) : ∀ (k : Nat) (i r : Int), 0 ≤ i → find0 l p k i = some r → r = -1 ∨ (0 ≤ r ∧ r < (l.length : Int) ∧ (rd_T28 l r).f0.toList = p.toList)
  | 0, i, r, _, h => by simp [find0] at h
  | k + 1, i, r, h0, h => by
    unfold find0 at h
    by_cases c1 : i < (l.length : Int)
    · rw [if_pos c1] at h
      by_cases c2 : ((rd_T28 l i).f0.toList == p.toList) = true
      · rw [if_pos c2] at h
        obtain rfl := Option.some.inj h
        exact .inr ⟨h0, c1, beq_iff_eq.mp c2⟩
      · rw [if_neg c2] at h
        exact find0_spec l p k (i + 1) r (by omega) h
    · rw [if_neg c1] at h
      exact .inl (Option.some.inj h).symm
theorem rd_memI (l : List S28) (i : Int) (h0 : 0 ≤ i) (h1 : i < (l.length : Int)) : rd_T28 l i ∈ l := by
  unfold rd_T28
  have h2 : i.toNat < l.length := by omega
  rw [List.getD_eq_getElem?_getD, List.getElem?_eq_getElem h2]
  exact List.getElem_mem h2
set_option maxHeartbeats 8000000 in
set_option maxRecDepth 100000 in
theorem Find_calls (l0 : List S28) (p : ByteArray) (A0 : Option Addr) (k0 : Nat) (r : Int) (w : World) (hGl : Gl w) (h0 : Kd.C k28 w A0 l0.length l0) (hd : ∀ x ∈ l0, x.f7.length ≤ 1000000000000) (h : find0 l0 p (l0.length + 1) 0 = some r) :
    Calls Tryz.prog 8 #[.slice A0 l0.length k0, .string p] w fun e w' => Below w.heap.size w w' ∧ ((r = -1 ∧ e = .returned (.tuple #[.agg #[.string (⟨#[]⟩ : ByteArray), .int .i64 0, .int .i64 0, .int .i64 0, .int .i64 0, .int .i64 0, .string (⟨#[]⟩ : ByteArray), .slice none 0 0], .bool false])) ∨ (0 ≤ r ∧ r < (l0.length : Int) ∧ ∃ (Ao : Option Addr) (co : Nat), e = .returned (.tuple #[.agg #[.string (rd_T28 l0 r).f0, .int .i64 (rd_T28 l0 r).f1, .int .i64 (rd_T28 l0 r).f2, .int .i64 (rd_T28 l0 r).f3, .int .i64 (rd_T28 l0 r).f4, .int .i64 (rd_T28 l0 r).f5, .string (rd_T28 l0 r).f6, .slice Ao (rd_T28 l0 r).f7.length co], .bool true]) ∧ Kd.R (Kd.int .u8) 5 w' w.heap.size (fun _ => True) (.slice Ao (rd_T28 l0 r).f7.length co) (rd_T28 l0 r).f7)) := by
  have hu31 := Tryz.underlying28
  have hz31 := info28
  have H0 := Aside0.mk h0
  have HGL := Aside0.mk hGl
  have HF := Aside0.mk h
  rcases find0_spec l0 p _ 0 r (by omega) h with e1 | ⟨r0, r1, _⟩
  · subst e1
    clear h0 hGl h hd
    go_enter Tryz.func8, Tryz.ntmps8
    go_wp2_with (first | ((with_reducible refine gate_dst (N := 3) rfl ?_); refine box_event ?hg (N := 3) ?hd (cs := #[.string p]) (t := 9) ?hr ?_; (case hd => rfl); (case hg => rfl); (case hr => first | (go_simp; done) | (go_simp; rfl)); intro g3 hg w3 hbox hb; have HB3 := Aside0.mk hb; have K3 := Aside0.mk hbox; clear hb hbox hg) | ((with_reducible refine gate_dst (N := 4) rfl ?_); refine box_event ?hg (N := 4) ?hd (cs := #[.string (⟨#[]⟩ : ByteArray), .int .i64 0, .int .i64 0, .int .i64 0, .int .i64 0, .int .i64 0, .string (⟨#[]⟩ : ByteArray), .slice none 0 0]) (t := 28) ?hr ?_; (case hd => rfl); (case hg => rfl); (case hr => first | (go_simp; done) | (go_simp; rfl)); intro g4 hg w4 hbox hb; have HB4 := Aside0.mk (below_step HB3.out hb); have K34 := Aside0.mk (blk_below K3.out hb); have K4 := Aside0.mk hbox; have G4 := Aside0.mk (show w.heap.size ≤ g4 by rw [hg]; exact below_size HB3.out); clear hb hbox hg) | (go_at_call 26; refine (index_calls l0 p _ k0 g3 _ _ (Kd.C_below H0.out HB4.out) (blk_cell K34.out 0) HF.out).mono ?_; rintro e w5 ⟨rfl, hb⟩; have HB5 := Aside0.mk (below_step HB4.out hb); have K5 := Aside0.mk (blk_below K4.out hb); clear hb) | ((with_reducible refine gate_store (t := 28) (p := 4) (v := .tmp 12) rfl ?_); refine ev_set31 _ rfl (.tmp 4) (.tmp 12) rfl rfl g4 _ _ _ _ _ _ _ _ ⟨#[]⟩ ⟨#[]⟩ 0 0 0 0 0 none 0 0 rfl rfl K5.out (fun w8 b1 b2 => ?_)))
    refine bodyPost_ret (results_ct rfl _ _ g4 28 #[.string (⟨#[]⟩ : ByteArray), .int .i64 0, .int .i64 0, .int .i64 0, .int .i64 0, .int .i64 0, .string (⟨#[]⟩ : ByteArray), .slice none 0 0] (0, 0) _ rfl b1 Tryz.underlying28 rfl (by kernel_rfl)) rfl ?_
    exact ⟨below_row_ HB5.out b2 G4.out, .inl ⟨by simp, rfl⟩⟩
  · have HDD := Aside0.mk (hd _ (rd_memI l0 r r0 r1))
    obtain ⟨ad, A7, c7, eA, x0, x1, x2, x3, x4, x5, x6, x7, hl7, hi7⟩ := at_T28 H0.out r r0 r1
    subst eA
    have HL7 := Aside0.mk hl7
    have HI7 := Aside0.mk hi7
    have p210 := eq_true r0
    have q210 := eq_true r1
    have n210 := eq_false (show ¬ r < 0 by omega)
    have m210 : decide (r < 0) = false := decide_eq_false (by omega)
    have HR := Aside0.mk (And.intro r0 r1)
    clear h0 hGl h hd hl7 hi7 r0 r1
    have HCO := Aside0.mk (show tree_copied.f (rd_T28 l0 r).f0 (rd_T28 l0 r).f1 (rd_T28 l0 r).f2 (rd_T28 l0 r).f3 (rd_T28 l0 r).f4 (rd_T28 l0 r).f5 (rd_T28 l0 r).f6 (rd_T28 l0 r).f7 = some ((rd_T28 l0 r).f0, (rd_T28 l0 r).f1, (rd_T28 l0 r).f2, (rd_T28 l0 r).f3, (rd_T28 l0 r).f4, (rd_T28 l0 r).f5, (rd_T28 l0 r).f6, (rd_T28 l0 r).f7) from (by
      unfold tree_copied.f bytes_Clone.f
      rw [if_pos HDD.out]
      rfl))
    go_enter Tryz.func8, Tryz.ntmps8
    go_wp2_with (first | ((with_reducible refine gate_dst (N := 3) rfl ?_); refine box_event ?hg (N := 3) ?hd (cs := #[.string p]) (t := 9) ?hr ?_; (case hd => rfl); (case hg => rfl); (case hr => first | (go_simp; done) | (go_simp; rfl)); intro g3 hg w3 hbox hb; have HB3 := Aside0.mk hb; have K3 := Aside0.mk hbox; clear hb hbox hg) | ((with_reducible refine gate_dst (N := 4) rfl ?_); refine box_event ?hg (N := 4) ?hd (cs := #[.string (⟨#[]⟩ : ByteArray), .int .i64 0, .int .i64 0, .int .i64 0, .int .i64 0, .int .i64 0, .string (⟨#[]⟩ : ByteArray), .slice none 0 0]) (t := 28) ?hr ?_; (case hd => rfl); (case hg => rfl); (case hr => first | (go_simp; done) | (go_simp; rfl)); intro g4 hg w4 hbox hb; have HB4 := Aside0.mk (below_step HB3.out hb); have K34 := Aside0.mk (blk_below K3.out hb); have K4 := Aside0.mk hbox; have G4 := Aside0.mk (show w.heap.size ≤ g4 by rw [hg]; exact below_size HB3.out); clear hb hbox hg) | (go_at_call 26; refine (index_calls l0 p _ k0 g3 _ _ (Kd.C_below H0.out HB4.out) (blk_cell K34.out 0) HF.out).mono ?_; rintro e w5 ⟨rfl, hb⟩; have HB5 := Aside0.mk (below_step HB4.out hb); have K5 := Aside0.mk (blk_below K4.out hb); have z0 := (HB5.out.cell (World.block_lt_of_cell? w _ x0)).trans x0; have z1 := (HB5.out.cell (World.block_lt_of_cell? w _ x1)).trans x1; have z2 := (HB5.out.cell (World.block_lt_of_cell? w _ x2)).trans x2; have z3 := (HB5.out.cell (World.block_lt_of_cell? w _ x3)).trans x3; have z4 := (HB5.out.cell (World.block_lt_of_cell? w _ x4)).trans x4; have z5 := (HB5.out.cell (World.block_lt_of_cell? w _ x5)).trans x5; have z6 := (HB5.out.cell (World.block_lt_of_cell? w _ x6)).trans x6; have z7 := (HB5.out.cell (World.block_lt_of_cell? w _ x7)).trans x7; clear hb) | (go_at_call 28; refine (tree_copied.calls (rd_T28 l0 r).f0 (rd_T28 l0 r).f1 (rd_T28 l0 r).f2 (rd_T28 l0 r).f3 (rd_T28 l0 r).f4 (rd_T28 l0 r).f5 (rd_T28 l0 r).f6 A7 c7 (rd_T28 l0 r).f7 (rd_T28 l0 r).f0 (rd_T28 l0 r).f1 (rd_T28 l0 r).f2 (rd_T28 l0 r).f3 (rd_T28 l0 r).f4 (rd_T28 l0 r).f5 (rd_T28 l0 r).f6 (rd_T28 l0 r).f7 _ (Kd.C_below HI7.out HB5.out) HL7.out (HGL.out.of HB5.out) HCO.out).mono ?_; rintro e w7 ⟨v7, rfl, ho, hb⟩; have HB7 := Aside0.mk (below_step HB5.out hb); have K7 := Aside0.mk (blk_below K5.out hb); have HD := Aside0.mk (Kd.R_types (Kd.R_lower ho (below_size HB5.out)) (blk_below K5.out hb) (by decide)); obtain ⟨Ao, co, eo⟩ := Kd.R_slice ho; subst eo; clear ho hb) | ((with_reducible refine gate_store (t := 28) (p := 4) (v := .tmp 17) rfl ?_); refine ev_set31 _ rfl (.tmp 4) (.tmp 17) rfl rfl g4 _ _ _ _ _ _ _ _ (rd_T28 l0 r).f0 (rd_T28 l0 r).f6 (rd_T28 l0 r).f1 (rd_T28 l0 r).f2 (rd_T28 l0 r).f3 (rd_T28 l0 r).f4 (rd_T28 l0 r).f5 Ao (rd_T28 l0 r).f7.length co rfl rfl K7.out (fun w8 b1 b2 => ?_)))
    refine bodyPost_ret (results_ct rfl _ _ g4 28 #[.string (rd_T28 l0 r).f0, .int .i64 (rd_T28 l0 r).f1, .int .i64 (rd_T28 l0 r).f2, .int .i64 (rd_T28 l0 r).f3, .int .i64 (rd_T28 l0 r).f4, .int .i64 (rd_T28 l0 r).f5, .string (rd_T28 l0 r).f6, .slice Ao (rd_T28 l0 r).f7.length co] (0, 0) _ rfl b1 Tryz.underlying28 rfl (by kernel_rfl)) rfl ?_
    exact ⟨below_row_ HB7.out b2 G4.out, .inr ⟨HR.out.1, HR.out.2, Ao, co, rfl, Kd.R_mono (Kd.R_grown HD.out b2 (fun k hk e => hk.2 (by injection e))) (fun _ _ => trivial)⟩⟩
end Go.Proofs.YtfkbmjfhakooiaaGreatDoor.TR

/- tree.Children, walked. Conditions: as each theorem says. -/
namespace Go.Proofs.YtfkbmjfhakooiaaGreatDoor.TR
open Go.RowKit Go.Proofs.YtfkbmjfhakooiaaGreatDoor.PTree Go.Proofs.YtfkbmjfhakooiaaGreatDoorW.PrintWords Go.Proofs.YtfkbmjfhakooiaaGreatDoorW.PrintLast Go.Proofs.YtfkbmjfhakooiaaGreatDoorW.PrintMore
set_option linter.unusedVariables false
set_option linter.unusedSimpArgs false
theorem infoSt : (Tryz.prog.info? 9).map (fun i => (i.zero, i.size, i.bytes)) = some (some (.string ⟨#[]⟩), 1, 16) := by kernel_rfl
def children0 (K : Nat) (l : List S28) (p : ByteArray) : Nat → List ByteArray → Int → Option (List ByteArray)
  | 0, _, _ => none
  | k + 1, out, i => if i < (l.length : Int) then
      (path_Parent.f K (rd_T28 l i).f0).bind fun q => (path_Good.f K (rd_T28 l i).f0).bind fun g =>
        if g = true then (if q.1.toList = p.toList then (if q.2 = !p.toList.isEmpty then (path_Base.f K (rd_T28 l i).f0).bind fun b => children0 K l p k (out ++ [b]) (i + 1) else children0 K l p k out (i + 1)) else children0 K l p k out (i + 1)) else children0 K l p k out (i + 1)
    else some out
def childrenF (K : Nat) (l : List S28) (p : ByteArray) : Option (List ByteArray) := children0 K l p (l.length + 1) [] 0
set_option maxHeartbeats 8000000 in
set_option maxRecDepth 100000 in
theorem Children_calls (K : Nat) (l0 : List S28) (p : ByteArray) (A0 : Option Addr) (k0 : Nat) (r : List ByteArray) (w : World) (hGl : Gl w) (h0 : Kd.C k28 w A0 l0.length l0) (hn : l0.length ≤ 1000000) (h : childrenF K l0 p = some r) :
    Calls Tryz.prog 11 #[.slice A0 l0.length k0, .string p] w fun e w' => ∃ v, e = .returned v ∧ Kd.R Kd.string 9 w' w.heap.size (fun _ => True) v r ∧ Below w.heap.size w w' := by
  have hu31 := Tryz.underlying28
  have H0 := Aside0.mk h0
  have HN := Aside0.mk hn
  have HGL := Aside0.mk hGl
  have H := Aside0.mk (show children0 K l0 p (l0.length + 1) [] 0 = some r from h)
  clear h0 hn hGl h
  have HB := Aside0.mk (Below.refl w.heap.size w)
  go_enter Tryz.func11, Tryz.ntmps11
  go_wp2
  go_loopg [5, 12] (l0.length + 1) (fun kq v5 v12 w' => ∃ (out : List ByteArray) (i : Int), v12 = .int .i64 i ∧ Aside0 (children0 K l0 p kq out i = some r) ∧ Aside0 (0 ≤ i ∧ i ≤ (l0.length : Int) ∧ (out.length : Int) ≤ i) ∧ Aside0 (Kd.R Kd.string 9 w' w.heap.size (fun _ => True) v5 out) ∧ Aside0 (Below w.heap.size w w'))
  case atStart => exact ⟨[], 0, rfl, H, ⟨by omega, by omega, by simp⟩, ⟨Kd.R_nil _ _ _ _ _⟩, HB⟩
  case round =>
    clear HB H
    obtain ⟨out, i, rfl, HA, HI, HO, HB⟩ := hrel
    cases gk with
    | zero => exact absurd HA.out (by simp [children0])
    | succ k1 =>
      have H := HA.out
      clear HA
      simp only [children0] at H
      by_cases c2 : i < (l0.length : Int)
      · rw [if_pos c2] at H
        have C2 := Aside0.mk c2
        obtain ⟨⟨q, ok⟩, HP, Ha⟩ := Option.bind_eq_some_iff.mp H
        clear H
        obtain ⟨g, HG, H⟩ := Option.bind_eq_some_iff.mp Ha
        clear Ha
        replace HP := Aside0.mk HP
        replace HG := Aside0.mk HG
        obtain ⟨ad, A7, c7, eA, x0, x1, x2, x3, x4, x5, x6, x7, _, _⟩ := at_T28 H0.out i HI.out.1 c2
        cases eA
        replace x0 := (HB.out.cell (World.block_lt_of_cell? w _ x0)).trans x0
        replace x1 := (HB.out.cell (World.block_lt_of_cell? w _ x1)).trans x1
        replace x2 := (HB.out.cell (World.block_lt_of_cell? w _ x2)).trans x2
        replace x3 := (HB.out.cell (World.block_lt_of_cell? w _ x3)).trans x3
        replace x4 := (HB.out.cell (World.block_lt_of_cell? w _ x4)).trans x4
        replace x5 := (HB.out.cell (World.block_lt_of_cell? w _ x5)).trans x5
        replace x6 := (HB.out.cell (World.block_lt_of_cell? w _ x6)).trans x6
        replace x7 := (HB.out.cell (World.block_lt_of_cell? w _ x7)).trans x7
        have hi0 := HI.out.1
        have p210 := eq_true hi0
        have q210 := eq_true c2
        clear hi0
        have HZ := Aside0.mk (Below.refl wr.heap.size wr)
        cases g with
        | false =>
          replace H := Aside0.mk ((if_neg (by simp)).symm.trans H)
          go_wp2_with (first | ((with_reducible refine gate_dst (N := 7) rfl ?_); refine box_event ?hg (N := 7) ?hd (cs := #[.string (⟨#[]⟩ : ByteArray), .int .i64 0, .int .i64 0, .int .i64 0, .int .i64 0, .int .i64 0, .string (⟨#[]⟩ : ByteArray), .slice none 0 0]) (t := 28) ?hr ?_; (case hd => rfl); (case hg => rfl); (case hr => first | (go_simp; done) | (go_simp; rfl)); intro g7 hg w7 hbox hb; have HZ7 := Aside0.mk (below_step HZ.out hb); have K7 := Aside0.mk hbox; have G7 := Aside0.mk (show wr.heap.size ≤ g7 by rw [hg]; exact below_size HZ.out); clear hb hbox hg) | ((with_reducible refine gate_store (t := 28) (p := 7) (v := .tmp 15) rfl ?_); refine ev_set31 _ rfl (.tmp 7) (.tmp 15) rfl rfl g7 _ _ _ _ _ _ _ _ (rd_T28 l0 i).f0 (rd_T28 l0 i).f6 (rd_T28 l0 i).f1 (rd_T28 l0 i).f2 (rd_T28 l0 i).f3 (rd_T28 l0 i).f4 (rd_T28 l0 i).f5 A7 (rd_T28 l0 i).f7.length c7 rfl rfl K7.out (fun w8 b1 b2 => ?_); have HZ8 := Aside0.mk (below_row_ HZ7.out b2 G7.out); have K8 := Aside0.mk b1; have y0 : w8.cell? ⟨g7, 0, none⟩ = some (.string (rd_T28 l0 i).f0) := blk_cell b1 0; have y1 : w8.cell? ⟨g7, 1, none⟩ = some (.int .i64 (rd_T28 l0 i).f1) := blk_cell b1 1; have y2 : w8.cell? ⟨g7, 2, none⟩ = some (.int .i64 (rd_T28 l0 i).f2) := blk_cell b1 2; have y3 : w8.cell? ⟨g7, 3, none⟩ = some (.int .i64 (rd_T28 l0 i).f3) := blk_cell b1 3; have y4 : w8.cell? ⟨g7, 4, none⟩ = some (.int .i64 (rd_T28 l0 i).f4) := blk_cell b1 4; have y5 : w8.cell? ⟨g7, 5, none⟩ = some (.int .i64 (rd_T28 l0 i).f5) := blk_cell b1 5; have y6 : w8.cell? ⟨g7, 6, none⟩ = some (.string (rd_T28 l0 i).f6) := blk_cell b1 6; have y7 : w8.cell? ⟨g7, 7, none⟩ = some (.slice A7 (rd_T28 l0 i).f7.length c7) := blk_cell b1 7; clear b1 b2) | (go_at_call 29; refine (path_Parent.calls K (rd_T28 l0 i).f0 q ok _ (HGL.out.of (below_step HB.out HZ8.out)) HP.out).mono ?_; rintro e w9 ⟨rfl, hb⟩; have HZ9 := Aside0.mk (below_step HZ8.out hb); have K9 := Aside0.mk (blk_below K8.out hb); have v0 : w9.cell? ⟨g7, 0, none⟩ = some (.string (rd_T28 l0 i).f0) := blk_cell K9.out 0; clear hb y0 y1 y2 y3 y4 y5 y6 y7) | (go_at_call 30; refine (path_Good.calls K (rd_T28 l0 i).f0 false _ (HGL.out.of (below_step HB.out HZ9.out)) HG.out).mono ?_; rintro e w10 ⟨rfl, hb⟩; have HZ10 := Aside0.mk (below_step HZ9.out hb); have K10 := Aside0.mk (blk_below K9.out hb); have u0 : w10.cell? ⟨g7, 0, none⟩ = some (.string (rd_T28 l0 i).f0) := blk_cell K10.out 0; clear hb v0))
          go_roundg k1
          case measure => omega
          case rel => exact ⟨out, i + 1, by rw [wr_in _ (by have h1 := HI.out; have h2 := HN.out; have h3 := C2.out; omega)], H, ⟨by have := HI.out; have := C2.out; omega⟩, ⟨Kd.R_below HO.out HZ10.out⟩, ⟨below_step HB.out HZ10.out⟩⟩
        | true =>
          rw [if_pos rfl] at H
          by_cases c3 : q.toList = p.toList
          · rw [if_pos c3] at H
            have d3 : (q.toList == p.toList) = true := beq_iff_eq.mpr c3
            have e3 : (q.toList != p.toList) = false := bne_eq_false_iff_eq.mpr c3
            clear c3
            by_cases c4 : ok = !p.toList.isEmpty
            · rw [if_pos c4] at H
              obtain ⟨bs, HBS, Hb⟩ := Option.bind_eq_some_iff.mp H
              clear H
              replace HBS := Aside0.mk HBS
              have H := Aside0.mk Hb
              clear Hb
              have c4b : (ok == !p.toList.isEmpty) = true := beq_iff_eq.mpr c4
              clear c4
              go_wp2_with (first | ((with_reducible refine gate_dst (N := 7) rfl ?_); refine box_event ?hg (N := 7) ?hd (cs := #[.string (⟨#[]⟩ : ByteArray), .int .i64 0, .int .i64 0, .int .i64 0, .int .i64 0, .int .i64 0, .string (⟨#[]⟩ : ByteArray), .slice none 0 0]) (t := 28) ?hr ?_; (case hd => rfl); (case hg => rfl); (case hr => first | (go_simp; done) | (go_simp; rfl)); intro g7 hg w7 hbox hb; have HZ7 := Aside0.mk (below_step HZ.out hb); have K7 := Aside0.mk hbox; have G7 := Aside0.mk (show wr.heap.size ≤ g7 by rw [hg]; exact below_size HZ.out); clear hb hbox hg) | ((with_reducible refine gate_store (t := 28) (p := 7) (v := .tmp 15) rfl ?_); refine ev_set31 _ rfl (.tmp 7) (.tmp 15) rfl rfl g7 _ _ _ _ _ _ _ _ (rd_T28 l0 i).f0 (rd_T28 l0 i).f6 (rd_T28 l0 i).f1 (rd_T28 l0 i).f2 (rd_T28 l0 i).f3 (rd_T28 l0 i).f4 (rd_T28 l0 i).f5 A7 (rd_T28 l0 i).f7.length c7 rfl rfl K7.out (fun w8 b1 b2 => ?_); have HZ8 := Aside0.mk (below_row_ HZ7.out b2 G7.out); have K8 := Aside0.mk b1; have y0 : w8.cell? ⟨g7, 0, none⟩ = some (.string (rd_T28 l0 i).f0) := blk_cell b1 0; have y1 : w8.cell? ⟨g7, 1, none⟩ = some (.int .i64 (rd_T28 l0 i).f1) := blk_cell b1 1; have y2 : w8.cell? ⟨g7, 2, none⟩ = some (.int .i64 (rd_T28 l0 i).f2) := blk_cell b1 2; have y3 : w8.cell? ⟨g7, 3, none⟩ = some (.int .i64 (rd_T28 l0 i).f3) := blk_cell b1 3; have y4 : w8.cell? ⟨g7, 4, none⟩ = some (.int .i64 (rd_T28 l0 i).f4) := blk_cell b1 4; have y5 : w8.cell? ⟨g7, 5, none⟩ = some (.int .i64 (rd_T28 l0 i).f5) := blk_cell b1 5; have y6 : w8.cell? ⟨g7, 6, none⟩ = some (.string (rd_T28 l0 i).f6) := blk_cell b1 6; have y7 : w8.cell? ⟨g7, 7, none⟩ = some (.slice A7 (rd_T28 l0 i).f7.length c7) := blk_cell b1 7; clear b1 b2) | (go_at_call 29; refine (path_Parent.calls K (rd_T28 l0 i).f0 q ok _ (HGL.out.of (below_step HB.out HZ8.out)) HP.out).mono ?_; rintro e w9 ⟨rfl, hb⟩; have HZ9 := Aside0.mk (below_step HZ8.out hb); have K9 := Aside0.mk (blk_below K8.out hb); have v0 : w9.cell? ⟨g7, 0, none⟩ = some (.string (rd_T28 l0 i).f0) := blk_cell K9.out 0; clear hb y0 y1 y2 y3 y4 y5 y6 y7) | (go_at_call 30; refine (path_Good.calls K (rd_T28 l0 i).f0 true _ (HGL.out.of (below_step HB.out HZ9.out)) HG.out).mono ?_; rintro e w10 ⟨rfl, hb⟩; have HZ10 := Aside0.mk (below_step HZ9.out hb); have K10 := Aside0.mk (blk_below K9.out hb); have u0 : w10.cell? ⟨g7, 0, none⟩ = some (.string (rd_T28 l0 i).f0) := blk_cell K10.out 0; clear hb v0) | (go_at_call 31; refine (path_Base.calls K (rd_T28 l0 i).f0 bs _ (HGL.out.of (below_step HB.out HZ10.out)) HBS.out).mono ?_; rintro e w11 ⟨rfl, hb⟩; have HZ11 := Aside0.mk (below_step HZ10.out hb); clear hb u0) | ((with_reducible refine gate_builtin (b := .append) (xs := #[.tmp 36, .tmp 40]) rfl ?_); at_builtin; refine Kd.R_append Kd.string (w0 := w) w.heap.size rfl (.tmp 36) (.tmp 40) 33 9 (.string ⟨#[]⟩) 16 rfl Tryz.underlying33 infoSt rfl (by decide) (by omega) u5 out bs [.string bs] (fun _ => True) (fun _ => False) rfl rfl ?aP (fun k_ hk_ => hk_.elim) (fun _ _ => trivial) ?aO ?aB ?aS ?aL ?_; (case aP => exact (show [_] = [Value.string bs] from rfl)); (case aO => exact Kd.R_below HO.out HZ11.out); (case aB => exact below_step HB.out HZ11.out); (case aS => exact below_size (below_step HB.out HZ11.out)); (case aL => have h1 := HI.out; have h2 := HN.out; omega); intro v12 w12 ho hb hg hat; have HO12 := Aside0.mk ho; have HB12 := Aside0.mk hb; clear ho hb hg hat))
              go_roundg k1
              case measure => omega
              case rel => exact ⟨out ++ [bs], i + 1, by rw [wr_in _ (by have h1 := HI.out; have h2 := HN.out; have h3 := C2.out; omega)], H, ⟨by have h1 := HI.out; have := C2.out; rw [List.length_append, List.length_singleton]; omega⟩, HO12, HB12⟩
            · rw [if_neg c4] at H
              replace H := Aside0.mk H
              have c4b : (ok == !p.toList.isEmpty) = false := beq_eq_false_iff_ne.mpr c4
              clear c4
              go_wp2_with (first | ((with_reducible refine gate_dst (N := 7) rfl ?_); refine box_event ?hg (N := 7) ?hd (cs := #[.string (⟨#[]⟩ : ByteArray), .int .i64 0, .int .i64 0, .int .i64 0, .int .i64 0, .int .i64 0, .string (⟨#[]⟩ : ByteArray), .slice none 0 0]) (t := 28) ?hr ?_; (case hd => rfl); (case hg => rfl); (case hr => first | (go_simp; done) | (go_simp; rfl)); intro g7 hg w7 hbox hb; have HZ7 := Aside0.mk (below_step HZ.out hb); have K7 := Aside0.mk hbox; have G7 := Aside0.mk (show wr.heap.size ≤ g7 by rw [hg]; exact below_size HZ.out); clear hb hbox hg) | ((with_reducible refine gate_store (t := 28) (p := 7) (v := .tmp 15) rfl ?_); refine ev_set31 _ rfl (.tmp 7) (.tmp 15) rfl rfl g7 _ _ _ _ _ _ _ _ (rd_T28 l0 i).f0 (rd_T28 l0 i).f6 (rd_T28 l0 i).f1 (rd_T28 l0 i).f2 (rd_T28 l0 i).f3 (rd_T28 l0 i).f4 (rd_T28 l0 i).f5 A7 (rd_T28 l0 i).f7.length c7 rfl rfl K7.out (fun w8 b1 b2 => ?_); have HZ8 := Aside0.mk (below_row_ HZ7.out b2 G7.out); have K8 := Aside0.mk b1; have y0 : w8.cell? ⟨g7, 0, none⟩ = some (.string (rd_T28 l0 i).f0) := blk_cell b1 0; have y1 : w8.cell? ⟨g7, 1, none⟩ = some (.int .i64 (rd_T28 l0 i).f1) := blk_cell b1 1; have y2 : w8.cell? ⟨g7, 2, none⟩ = some (.int .i64 (rd_T28 l0 i).f2) := blk_cell b1 2; have y3 : w8.cell? ⟨g7, 3, none⟩ = some (.int .i64 (rd_T28 l0 i).f3) := blk_cell b1 3; have y4 : w8.cell? ⟨g7, 4, none⟩ = some (.int .i64 (rd_T28 l0 i).f4) := blk_cell b1 4; have y5 : w8.cell? ⟨g7, 5, none⟩ = some (.int .i64 (rd_T28 l0 i).f5) := blk_cell b1 5; have y6 : w8.cell? ⟨g7, 6, none⟩ = some (.string (rd_T28 l0 i).f6) := blk_cell b1 6; have y7 : w8.cell? ⟨g7, 7, none⟩ = some (.slice A7 (rd_T28 l0 i).f7.length c7) := blk_cell b1 7; clear b1 b2) | (go_at_call 29; refine (path_Parent.calls K (rd_T28 l0 i).f0 q ok _ (HGL.out.of (below_step HB.out HZ8.out)) HP.out).mono ?_; rintro e w9 ⟨rfl, hb⟩; have HZ9 := Aside0.mk (below_step HZ8.out hb); have K9 := Aside0.mk (blk_below K8.out hb); have v0 : w9.cell? ⟨g7, 0, none⟩ = some (.string (rd_T28 l0 i).f0) := blk_cell K9.out 0; clear hb y0 y1 y2 y3 y4 y5 y6 y7) | (go_at_call 30; refine (path_Good.calls K (rd_T28 l0 i).f0 true _ (HGL.out.of (below_step HB.out HZ9.out)) HG.out).mono ?_; rintro e w10 ⟨rfl, hb⟩; have HZ10 := Aside0.mk (below_step HZ9.out hb); have K10 := Aside0.mk (blk_below K9.out hb); have u0 : w10.cell? ⟨g7, 0, none⟩ = some (.string (rd_T28 l0 i).f0) := blk_cell K10.out 0; clear hb v0))
              go_roundg k1
              case measure => omega
              case rel => exact ⟨out, i + 1, by rw [wr_in _ (by have h1 := HI.out; have h2 := HN.out; have h3 := C2.out; omega)], H, ⟨by have := HI.out; have := C2.out; omega⟩, ⟨Kd.R_below HO.out HZ10.out⟩, ⟨below_step HB.out HZ10.out⟩⟩
          · rw [if_neg c3] at H
            replace H := Aside0.mk H
            have d3 : (q.toList == p.toList) = false := beq_eq_false_iff_ne.mpr c3
            have e3 : (q.toList != p.toList) = true := bne_iff_ne.mpr c3
            clear c3
            go_wp2_with (first | ((with_reducible refine gate_dst (N := 7) rfl ?_); refine box_event ?hg (N := 7) ?hd (cs := #[.string (⟨#[]⟩ : ByteArray), .int .i64 0, .int .i64 0, .int .i64 0, .int .i64 0, .int .i64 0, .string (⟨#[]⟩ : ByteArray), .slice none 0 0]) (t := 28) ?hr ?_; (case hd => rfl); (case hg => rfl); (case hr => first | (go_simp; done) | (go_simp; rfl)); intro g7 hg w7 hbox hb; have HZ7 := Aside0.mk (below_step HZ.out hb); have K7 := Aside0.mk hbox; have G7 := Aside0.mk (show wr.heap.size ≤ g7 by rw [hg]; exact below_size HZ.out); clear hb hbox hg) | ((with_reducible refine gate_store (t := 28) (p := 7) (v := .tmp 15) rfl ?_); refine ev_set31 _ rfl (.tmp 7) (.tmp 15) rfl rfl g7 _ _ _ _ _ _ _ _ (rd_T28 l0 i).f0 (rd_T28 l0 i).f6 (rd_T28 l0 i).f1 (rd_T28 l0 i).f2 (rd_T28 l0 i).f3 (rd_T28 l0 i).f4 (rd_T28 l0 i).f5 A7 (rd_T28 l0 i).f7.length c7 rfl rfl K7.out (fun w8 b1 b2 => ?_); have HZ8 := Aside0.mk (below_row_ HZ7.out b2 G7.out); have K8 := Aside0.mk b1; have y0 : w8.cell? ⟨g7, 0, none⟩ = some (.string (rd_T28 l0 i).f0) := blk_cell b1 0; have y1 : w8.cell? ⟨g7, 1, none⟩ = some (.int .i64 (rd_T28 l0 i).f1) := blk_cell b1 1; have y2 : w8.cell? ⟨g7, 2, none⟩ = some (.int .i64 (rd_T28 l0 i).f2) := blk_cell b1 2; have y3 : w8.cell? ⟨g7, 3, none⟩ = some (.int .i64 (rd_T28 l0 i).f3) := blk_cell b1 3; have y4 : w8.cell? ⟨g7, 4, none⟩ = some (.int .i64 (rd_T28 l0 i).f4) := blk_cell b1 4; have y5 : w8.cell? ⟨g7, 5, none⟩ = some (.int .i64 (rd_T28 l0 i).f5) := blk_cell b1 5; have y6 : w8.cell? ⟨g7, 6, none⟩ = some (.string (rd_T28 l0 i).f6) := blk_cell b1 6; have y7 : w8.cell? ⟨g7, 7, none⟩ = some (.slice A7 (rd_T28 l0 i).f7.length c7) := blk_cell b1 7; clear b1 b2) | (go_at_call 29; refine (path_Parent.calls K (rd_T28 l0 i).f0 q ok _ (HGL.out.of (below_step HB.out HZ8.out)) HP.out).mono ?_; rintro e w9 ⟨rfl, hb⟩; have HZ9 := Aside0.mk (below_step HZ8.out hb); have K9 := Aside0.mk (blk_below K8.out hb); have v0 : w9.cell? ⟨g7, 0, none⟩ = some (.string (rd_T28 l0 i).f0) := blk_cell K9.out 0; clear hb y0 y1 y2 y3 y4 y5 y6 y7) | (go_at_call 30; refine (path_Good.calls K (rd_T28 l0 i).f0 true _ (HGL.out.of (below_step HB.out HZ9.out)) HG.out).mono ?_; rintro e w10 ⟨rfl, hb⟩; have HZ10 := Aside0.mk (below_step HZ9.out hb); have K10 := Aside0.mk (blk_below K9.out hb); have u0 : w10.cell? ⟨g7, 0, none⟩ = some (.string (rd_T28 l0 i).f0) := blk_cell K10.out 0; clear hb v0))
            go_roundg k1
            case measure => omega
            case rel => exact ⟨out, i + 1, by rw [wr_in _ (by have h1 := HI.out; have h2 := HN.out; have h3 := C2.out; omega)], H, ⟨by have := HI.out; have := C2.out; omega⟩, ⟨Kd.R_below HO.out HZ10.out⟩, ⟨below_step HB.out HZ10.out⟩⟩
      · rw [if_neg c2] at H
        obtain rfl := Option.some.inj H
        go_wp2
        go_ret
        exact ⟨_, rfl, HO.out, HB.out⟩
end Go.Proofs.YtfkbmjfhakooiaaGreatDoor.TR

/- amphoranum: Copy and Kept, walked. Conditions: as each theorem says. -/
namespace Go.Proofs.YtfkbmjfhakooiaaGreatDoor.PTree
open Go.RowKit Go.Proofs.YtfkbmjfhakooiaaGreatDoorW.PrintWords Go.Proofs.YtfkbmjfhakooiaaGreatDoorW.PrintLast Go.Proofs.YtfkbmjfhakooiaaGreatDoorW.PrintMore
set_option linter.unusedVariables false
set_option linter.unusedSimpArgs false
/-! ### amphoranum's Copy and Kept: a copy of bytes with two marks in its spare room -/
namespace Marks
open Go.RowKit
/-- append(v, x...) where there is room, x anything that yields cells. -/
theorem run_room {P : Program} {w : World} (t tx ty e : TypeId) (i : TypeInfo) (ht : P.underlying t = some (.slice e)) (hi : P.info? e = some i) (hs1 : i.size = 1)
    (g sLen sCap : Nat) (cur : Array Value) (hg : w.heap[g]? = some (.cells cur e (0, 0))) (x : Value) (n : Nat) (news : List Value) (hs : Src P 1 tx x n news w)
    (hroom : sLen + n ≤ sCap) (hfit : sLen + n ≤ cur.size) :
    (Builtin.append_ #[t, tx] ty #[.slice (some ⟨g, 0, none⟩) sLen sCap, x]).run P w =
      .ok (.slice (some ⟨g, 0, none⟩) (sLen + n) sCap) (w.setRow g (cur.toList.take sLen ++ news ++ cur.toList.drop (sLen + n)).toArray) := by
  have hl : news.length = n := by simpa using hs.newsLen
  have hst := run_storeCells_at P g sLen e news 0 cur w hg (by omega) hs.one
  simp only [Nat.add_zero, hl] at hst
  rcases hs.kind with ⟨e', hk⟩ | hk <;>
    simp [Builtin.append_, run_underlying ht, run_underlying hk, sizeOf, typeInfo, hi, hs1, hs.len, hroom, hs.cells, Addr.add_lit, hst]
theorem ev_room {P : Program} {ops : Array Oper} {rest : List Oper} {o : Oper} {a : Act} {Q : Exit → Act → World → Prop} {W : World} (hgd : o.guard = none) (s x : Operand) (t tx e : TypeId)
    (ho : o.op = .call { callee := .builtin .append, args := #[s, x], argTypes := #[t, tx] })
    (ht : P.underlying t = some (.slice e)) (hinfo : (P.info? e).map (fun i => (i.zero, i.size, i.bytes)) = some (some (.int .u8 0), 1, 1))
    (g sLen sCap : Nat) (cur : Array Value) (hg : W.heap[g]? = some (.cells cur e (0, 0))) (vx : Value) (n : Nat) (news : List Value)
    (hs : a.eval s = .slice (some ⟨g, 0, none⟩) sLen sCap) (hx : a.eval x = vx) (hsrc : Src P 1 tx vx n news W) (hroom : sLen + n ≤ sCap) (hfit : sLen + n ≤ cur.size)
    (h : ∀ w1, w1 = W.setRow g (cur.toList.take sLen ++ news ++ cur.toList.drop (sLen + n)).toArray → wpList P ops Q rest (a.put o.dst (.slice (some ⟨g, 0, none⟩) (sLen + n) sCap)) w1) :
    wpList P ops Q (o :: rest) a W := by
  obtain ⟨i0, hi, hzz⟩ := Option.map_eq_some_iff.1 hinfo
  simp only [Prod.mk.injEq] at hzz
  obtain ⟨hz0, hz1, hz2⟩ := hzz
  refine wpList_plain hgd fun K hK => ?_
  have hr := run_room t tx o.type e i0 ht hi hz1 g sLen sCap cur hg vx n news hsrc hroom hfit
  have hw := h _ rfl
  unfold Oper.wp execOp
  simp only [ho, resolve, invoke, builtin, Sem.run_bind, Sem.run_pure, Result.andThen_ok, List.map_toArray, List.map_cons, List.map_nil, hs, hx, hr]
  exact hK _ _ hw
/-- The row of a copy with its marks. -/
def At (w : World) (g : Nat) (l : List Int) : Prop := w.heap[g]? = some (.cells (nums .u8 (l ++ [165, 90])).toArray 5 (0, 0))
theorem At.below {w w1 : World} {g : Nat} {l : List Int} (h : At w g l) (hb : Below w.heap.size w w1) : At w1 g l := (hb.block g (blk_lt h)).trans h
theorem cell_nums {w : World} {g : Nat} {l m : List Int} {e : TypeId} (h : w.heap[g]? = some (.cells (nums .u8 (l ++ m)).toArray e (0, 0))) (j : Nat) (hj : j < (l ++ m).length) : w.cell? ⟨g, j, none⟩ = some (.int .u8 ((l ++ m)[j])) := by
  rw [blk_cell h j]
  have : (nums .u8 (l ++ m)).toArray[j]? = (nums .u8 (l ++ m))[j]? := by simp
  rw [this]
  unfold nums
  rw [List.getElem?_map, List.getElem?_eq_getElem hj]; rfl
theorem cellsC {w : World} {g : Nat} {l m : List Int} {e : TypeId} (hl : l.length ≤ 9223372036854775807) (h : w.heap[g]? = some (.cells (nums .u8 (l ++ m)).toArray e (0, 0))) : Kd.C (Kd.int .u8) w (some ⟨g, 0, none⟩) l.length l := by
  refine Kd.C_of_reads (enc := Value.int .u8) (d := (0 : Int)) (h1 := fun _ => rfl) ⟨rfl, hl, fun _ => ⟨⟨g, 0, none⟩, rfl, fun j hj => ?_⟩⟩
  rw [add_plain, cell_nums h j (by rw [List.length_append]; omega), List.getElem_append_left hj, List.getD_eq_getElem?_getD, List.getElem?_eq_getElem hj]; rfl
theorem srcC {P : Program} {w : World} {A : Option Addr} {l : List Int} {t e : TypeId} (ht : P.underlying t = some (.slice e)) (h : Kd.C (Kd.int .u8) w A l.length l) (c : Nat) : Src P 1 t (.slice A l.length c) l.length (nums .u8 l) w := by
  have hr := Kd.reads_of_C (enc := Value.int .u8) (d := (0 : Int)) (h1 := fun _ => rfl) h
  rcases Nat.eq_zero_or_pos l.length with h0 | h0
  · have hl : l = [] := List.eq_nil_of_length_eq_zero h0
    subst hl
    refine ⟨.inl ⟨e, ht⟩, fun _ => rfl, ?_, ?_, rfl, fun u hu => by cases hu⟩
    · cases A <;> (simp [Builtin.firstCells, nums]) <;> rfl
    · cases A <;> (simp [Builtin.firstCells, nums]) <;> rfl
  · obtain ⟨ad, rfl, hc⟩ := hr.2.2 h0
    refine Src.ofSlice w ht ad l.length c _ (by rw [nums_length, Nat.mul_one]) (fun j u hu => ?_) (fun u hu => ?_)
    · have hj : j < l.length := by have := (List.getElem?_eq_some_iff.1 hu).1; rwa [nums_length] at this
      rw [hc j hj]
      rw [← hu]; simp [nums, hj]
    · unfold nums at hu; obtain ⟨x, _, rfl⟩ := List.mem_map.1 hu; rfl
theorem below_setRow {b : Nat} {w W : World} (h : Below b w W) (hb : b ≤ W.heap.size) (g : Nat) (cs : Array Value) (hg : b ≤ g) : Below b w (W.setRow g cs) :=
  by
  have hg2 : W.grownBy (W.setRow g cs) (some g) := ⟨rfl, rfl, rfl, by simp, fun k _ hk => setRow_other W g k _ (fun e => hk (by rw [e]))⟩
  exact pw_below_grown h (some g) hb hg2 (fun k hk => by injection hk with hk; omega)
theorem alloc_at (w : World) (o : Obj) : (w.alloc o).heap[w.heap.size]? = some o := by
  show (w.heap.push o)[w.heap.size]? = some o
  exact Array.getElem?_push_size
theorem make_run (c : Nat) (hc : c ≤ 140737488355328) (W : World) : (Instr.makeSlice 26 (.int .i64 0) (.int .i64 (c : Int))).run Tryz.prog W = .ok (.slice (some ⟨W.heap.size, 0, none⟩) 0 c) (W.alloc (.cells (madeCells #[.int .u8 0] c) 5)) := by
  obtain ⟨i, hi, h⟩ := Option.map_eq_some_iff.1 info5
  simp only [Prod.mk.injEq] at h
  have := run_make (P := Tryz.prog) W 26 5 i (.int .u8 0) Tryz.underlying26 hi h.1 .i64 .i64 0 (c : Int) (Int.le_refl _) (by omega) (by rw [h.2.2]; omega) (by omega)
  rw [h.2.1, Nat.mul_one] at this
  exact this
theorem made_size (c : Nat) : (madeCells #[Value.int .u8 0] c).size = c := by simp [madeCells]
set_option maxHeartbeats 4000000 in
theorem copy_calls (A : Option Addr) (c : Nat) (l : List Int) (w : World) (hC : Kd.C (Kd.int .u8) w A l.length l) (hc : l.length ≤ c) (hl : l.length ≤ 140737488355000) :
    Calls Tryz.prog 25 #[.slice A l.length c] w fun e w' => ∃ g, e = .returned (.slice (some ⟨g, 0, none⟩) l.length (l.length + 2)) ∧ w.heap.size ≤ g ∧ At w' g l ∧ Below w.heap.size w w' := by
  have HC := Aside0.mk hC
  obtain ⟨n, hn⟩ : ∃ n, n = l.length := ⟨_, rfl⟩
  have HN := Aside0.mk hn
  have hw : wrap64 ((n : Int) + 2) = (n : Int) + 2 := by unfold wrap64; omega
  have hmk : ∀ W, (Instr.makeSlice 26 (.int .i64 0) (.int .i64 ((n : Int) + 2))).run Tryz.prog W = .ok (.slice (some ⟨W.heap.size, 0, none⟩) 0 (n + 2)) (W.alloc (.cells (madeCells #[.int .u8 0] (n + 2)) 5)) := fun W => make_run (n + 2) (by omega) W
  rw [← hn]
  have hcc : n ≤ c := by omega
  have hl' : n ≤ 140737488355000 := by omega
  clear hC hn hc hl
  go_enter Tryz.func25, Tryz.ntmps25
  obtain ⟨cur0, hcur0⟩ : ∃ x, x = madeCells #[Value.int .u8 0] (n + 2) := ⟨_, rfl⟩
  have hs0 : cur0.size = n + 2 := by rw [hcur0]; exact made_size _
  obtain ⟨cur1, hcur1⟩ : ∃ x, x = (cur0.toList.take 0 ++ nums .u8 l ++ cur0.toList.drop (0 + n)).toArray := ⟨_, rfl⟩
  have hs1 : cur1.size = n + 2 := by rw [hcur1]; simp [nums_length, ← HN.out, hs0]
  have hcur2 : (cur1.toList.take n ++ nums .u8 [165, 90] ++ cur1.toList.drop (n + 2)).toArray = (nums .u8 (l ++ [165, 90])).toArray := by
    have e1 : cur1.toList.take n = nums .u8 l := by
      rw [hcur1]
      show ((cur0.toList.take 0 ++ nums .u8 l ++ cur0.toList.drop (0 + n))).take n = _
      rw [List.take_zero, List.nil_append]
      exact List.take_left' (by rw [nums_length, HN.out])
    have e2 : cur1.toList.drop (n + 2) = [] := List.drop_eq_nil_of_le (by rw [Array.length_toList, hs1]; exact Nat.le_refl _)
    rw [e1, e2, List.append_nil, nums_append]
  rw [← hcur0] at hmk
  obtain ⟨W0, hW0⟩ : ∃ W0, W0 = w.alloc (.cells cur0 5) := ⟨_, rfl⟩
  have hr0 : W0.heap[w.heap.size]? = some (.cells cur0 5 (0, 0)) := by rw [hW0]; exact alloc_at _ _
  have hb0 : Below w.heap.size w W0 := by rw [hW0]; exact below_alloc (Below.refl _ _) _
  obtain ⟨w1, hw1⟩ : ∃ w1, w1 = W0.setRow w.heap.size cur1 := ⟨_, rfl⟩
  have hr1 : w1.heap[w.heap.size]? = some (.cells cur1 5 (0, 0)) := by rw [hw1]; exact setRow_heap _ _ _ _ _ _ hr0
  have hb1 : Below w.heap.size w w1 := by rw [hw1]; exact below_setRow hb0 hb0.size _ _ (Nat.le_refl _)
  obtain ⟨W2, hW2⟩ : ∃ W2, W2 = w1.alloc (.cells #[.int .u8 165, .int .u8 90] 5) := ⟨_, rfl⟩
  have hr2 : W2.heap[w.heap.size]? = some (.cells cur1 5 (0, 0)) := by rw [hW2]; exact blk_alloc hr1 _
  have hb2 : Below w.heap.size w W2 := by rw [hW2]; exact below_alloc hb1 _
  have hC2 : Kd.C (Kd.int .u8) W2 (some ⟨w1.heap.size, 0, none⟩) 2 [165, 90] := by rw [hW2]; exact cellsC (l := [165, 90]) (m := []) (by decide) (alloc_at w1 _)
  have hr3 : (W2.setRow w.heap.size (nums .u8 (l ++ [165, 90])).toArray).heap[w.heap.size]? = some (.cells (nums .u8 (l ++ [165, 90])).toArray 5 (0, 0)) := setRow_heap _ _ _ _ _ _ hr2
  have hb3 : Below w.heap.size w (W2.setRow w.heap.size (nums .u8 (l ++ [165, 90])).toArray) := below_setRow hb2 hb2.size _ _ (Nat.le_refl _)
  have X0 := Aside0.mk hr0
  have X2 := Aside0.mk hr2
  have XC := Aside0.mk hC2
  have X3 := Aside0.mk hr3
  have XB := Aside0.mk hb3
  have XW1 := Aside0.mk hw1
  have XW0 := Aside0.mk hW0
  have XW2 := Aside0.mk hW2
  have Xc1 := Aside0.mk hcur1
  have Xc2 := Aside0.mk hcur2
  have Xs0 := Aside0.mk hs0
  have Xs1 := Aside0.mk hs1
  have XL := Aside0.mk hl'
  obtain ⟨ix, hix, _, hszx, _⟩ := info_parts info5
  have hcut := (print_take_of (P := Tryz.prog) (Value.int .u8) 0 26 5 .i64 Tryz.underlying26 hix hszx (some ⟨w.heap.size, 0, none⟩) (n + 2) (l ++ [165, 90]) (n : Int) (by omega) (by rw [List.length_append, ← HN.out]; simp; omega) (by rw [List.length_append, ← HN.out]; simp)).1
  have hln : ((l ++ [165, 90]).take (n : Int).toNat).length = n := by rw [List.length_take, List.length_append, ← HN.out]; simp
  have hll : (l ++ [165, 90]).length = n + 2 := by rw [List.length_append, ← HN.out]; rfl
  rw [hln, hll] at hcut
  clear hr0 hb0 hr1 hb1 hr2 hb2 hC2 hr3 hb3 hw1 hW0 hW2 hcur0 hcur1 hcur2 hs0 hs1 hl' hln hll hix hszx
  go_wp2_with (first
    | (at_builtin; refine ev_room rfl (.tmp 6) (.tmp 7) 26 26 5 rfl Tryz.underlying26 info5 w.heap.size 0 (n + 2) cur0 ?row (.slice A n c) n (nums .u8 l) rfl rfl ?src ?room ?fit ?_; (case row => (rw [← XW0.out]; exact X0.out)); (case src => (rw [HN.out]; exact srcC Tryz.underlying26 (Kd.C_alloc HC.out _) c)); (case room => omega); (case fit => (rw [Xs0.out]; omega)); intro wz hwz; rw [← XW0.out, ← Xc1.out, ← XW1.out] at hwz; subst hwz)
    | (at_builtin; refine ev_room rfl (.tmp 8) (.tmp 9) 26 26 5 rfl Tryz.underlying26 info5 w.heap.size n (n + 2) cur1 ?row (.slice (some ⟨wz.heap.size, 0, none⟩) 2 2) 2 (nums .u8 [165, 90]) rfl rfl ?src ?room ?fit ?_; (case row => (rw [← XW2.out]; exact X2.out)); (case src => (rw [← XW2.out]; exact srcC (l := [165, 90]) Tryz.underlying26 XC.out 2)); (case room => omega); (case fit => (rw [Xs1.out]; omega)); intro wy hwy; rw [← XW2.out, Xc2.out] at hwy; subst hwy))
  go_ret
  exact ⟨w.heap.size, rfl, Nat.le_refl _, X3.out, XB.out⟩
theorem cut_to (W : World) (A : Option Addr) (n c : Nat) (j : Nat) (hj : j ≤ c) : (Instr.slice 26 (.slice A n c) none (some (.int .i64 (j : Int))) none).run Tryz.prog W = .ok (.slice A j c) W := by
  obtain ⟨i, hi, _, hsz, _⟩ := info_parts info5
  have hel : Tryz.prog.elem 26 = 5 := by simp [Program.elem, Tryz.underlying26]
  have hu : Tryz.prog.underlying 26 = some (.slice (Tryz.prog.elem 26)) := by rw [hel]; exact Tryz.underlying26
  have ha : (A.map fun x => x.add 0) = A := by cases A <;> simp [Addr.add]
  rw [run_slice_h W 26 A n c hu .i64 (j : Int) (by omega) (by omega), hel]
  simp [sizeOf, typeInfo, hi, hsz, sliced, Result.andThen, ha]
end Marks
end Go.Proofs.YtfkbmjfhakooiaaGreatDoor.PTree

/- amphoralaw09.mine, walked: a copy with marks. Conditions: as each theorem says. -/
namespace Go.Proofs.YtfkbmjfhakooiaaGreatDoor.TR
open Go.RowKit Go.Proofs.YtfkbmjfhakooiaaGreatDoor.PTree Go.Proofs.YtfkbmjfhakooiaaGreatDoorW.PrintWords Go.Proofs.YtfkbmjfhakooiaaGreatDoorW.PrintLast Go.Proofs.YtfkbmjfhakooiaaGreatDoorW.PrintMore
set_option linter.unusedVariables false
set_option linter.unusedSimpArgs false
/-- Eight cells, as they are. -/
abbrev Raw := {cs : List Value // cs.length = 8 ∧ ∀ q ∈ cs, q.oneCell' = true}
def kRaw : Kd Raw where
  sz := 8
  E := []
  K := fun _ x cs => cs = x.1
  M := fun _ _ _ x cs => cs = x.1
  K_len := fun {_ x _} h => by rw [h]; exact x.2.1
  K_one := fun {_ x _} h => by rw [h]; exact x.2.2
  K_below := fun _ h => h
  K_of_M := fun h => h
  M_mono := fun _ h => h
  M_bound := fun h => h
  M_move := fun _ h => h
  M_lower := fun _ h => h
def encM (x : S28) (g : Nat) : List Value := [.string x.f0, .int .i64 x.f1, .int .i64 x.f2, .int .i64 x.f3, .int .i64 x.f4, .int .i64 x.f5, .string x.f6, .slice (some ⟨g, 0, none⟩) x.f7.length (x.f7.length + 2)]
def rawOf (x : S28) (g : Nat) : Raw := ⟨encM x g, rfl, by simp [encM, Value.oneCell']⟩
def encMark : List Value := [.string ⟨#[109, 97, 114, 107]⟩, .int .i64 0, .int .i64 0, .int .i64 0, .int .i64 0, .int .i64 0, .string ⟨#[]⟩, .slice none 0 0]
def rawMark : Raw := ⟨encMark, rfl, by simp [encMark, Value.oneCell']⟩
/-- Row A, of capacity c, holds l's copies with marks, an entry 'mark' behind. -/
structure MineAt (W : World) (base : Nat) (ga c : Nat) (l : List S28) : Prop where
  cap : l.length + 1 ≤ c
  size : l.length + 1 ≤ 9223372036854775807
  own : base ≤ ga
  blk : ∃ cs, W.heap[ga]? = some (.cells cs 28 (0, 0))
  each : ∀ j x, l[j]? = some x → ∃ g, base ≤ g ∧ Marks.At W g x.f7 ∧ ∀ k u, (encM x g)[k]? = some u → W.cell? ⟨ga, j * 8 + k, none⟩ = some u
  mark : ∀ k u, encMark[k]? = some u → W.cell? ⟨ga, l.length * 8 + k, none⟩ = some u
theorem MineAt.below {W W1 : World} {base ga c : Nat} {l : List S28} (h : MineAt W base ga c l) (hb : Below W.heap.size W W1) : MineAt W1 base ga c l := by
  refine ⟨h.cap, h.size, h.own, ?_, fun j x hx => ?_, fun k u hu => (hb.cell (World.block_lt_of_cell? W _ (h.mark k u hu))).trans (h.mark k u hu)⟩
  · obtain ⟨cs, h1⟩ := h.blk
    exact ⟨cs, blk_below h1 hb⟩
  · obtain ⟨g, g0, g1, g2⟩ := h.each j x hx
    exact ⟨g, g0, g1.below hb, fun k u hu => (hb.cell (World.block_lt_of_cell? W _ (g2 k u hu))).trans (g2 k u hu)⟩
theorem MineAt.reads {W : World} {base ga c : Nat} {l : List S28} (h : MineAt W base ga c l) (hd : ∀ x ∈ l, x.f7.length ≤ 9223372036854775807) : Kd.C k28 W (some ⟨ga, 0, none⟩) l.length l := by
  refine ⟨rfl, by have := h.size; omega, fun _ => ⟨_, rfl, fun j x hx => ?_⟩⟩
  obtain ⟨g, _, g1, g2⟩ := h.each j x hx
  refine ⟨encM x g, rfl, k28_mkK W x (some ⟨g, 0, none⟩) _ (by omega) (Marks.cellsC (hd x (List.mem_of_getElem? hx)) g1), fun k u hu => ?_⟩
  rw [add_plain]
  exact g2 k u hu
theorem cut22 (W : World) (A : Option Addr) (n c j : Nat) (hj : j ≤ c) : (Instr.slice 22 (.slice A n c) none (some (.int .i64 (j : Int))) none).run Tryz.prog W = .ok (.slice A j c) W := by
  obtain ⟨i, hi, _, hsz, _⟩ := info_parts info28
  have hel : Tryz.prog.elem 22 = 28 := by simp [Program.elem, Tryz.underlying22]
  have hu : Tryz.prog.underlying 22 = some (.slice (Tryz.prog.elem 22)) := by rw [hel]; exact Tryz.underlying22
  have ha : (A.map fun x => x.add 0) = A := by cases A <;> simp [Addr.add]
  rw [run_slice_h W 22 A n c hu .i64 (j : Int) (by omega) (by omega), hel]
  simp [sizeOf, typeInfo, hi, hsz, sliced, Result.andThen, ha]
theorem make22 (n : Nat) (hn : n * 96 ≤ 281474976710656) (W : World) : ∃ cs : Array Value, cs.size = n * 8 ∧ (Instr.makeSlice 22 (.int .i64 0) (.int .i64 (n : Int))).run Tryz.prog W = .ok (.slice (some ⟨W.heap.size, 0, none⟩) 0 n) (W.alloc (.cells cs 28)) := by
  obtain ⟨i, hi, h⟩ := Option.map_eq_some_iff.1 info28
  simp only [Prod.mk.injEq] at h
  have := run_make (P := Tryz.prog) W 22 28 i _ Tryz.underlying22 hi h.1 .i64 .i64 0 (n : Int) (Int.le_refl _) (by omega) (by rw [h.2.2]; omega) (by omega)
  rw [h.2.1] at this
  exact ⟨_, size_madeCells _ _, this⟩
set_option maxHeartbeats 8000000 in
set_option maxRecDepth 100000 in
theorem mine_calls (l0 : List S28) (A0 : Option Addr) (k0 : Nat) (w : World) (h0 : Kd.C k28 w A0 l0.length l0) (hn : l0.length * 96 ≤ 140737488355000) (hd : ∀ x ∈ l0, x.f7.length ≤ 140737488355000) :
    Calls Tryz.prog 7 #[.slice A0 l0.length k0] w fun e w' => ∃ ga c, e = .returned (.slice (some ⟨ga, 0, none⟩) l0.length c) ∧ MineAt w' w.heap.size ga c l0 ∧ Below w.heap.size w w' := by
  have hu31 := Tryz.underlying28
  have H0 := Aside0.mk h0
  have HN := Aside0.mk hn
  have HDD := Aside0.mk hd
  obtain ⟨cs0, hcs, hmk⟩ := make22 (l0.length + 1) (by omega) w
  have hw1 : wrap64 ((l0.length : Int) + 1) = (l0.length : Int) + 1 := by unfold wrap64; omega
  rw [show ((l0.length + 1 : Nat) : Int) = (l0.length : Int) + 1 by omega] at hmk
  clear h0 hn hd
  obtain ⟨w1, hw⟩ : ∃ w1, w1 = w.alloc (.cells cs0 28) := ⟨_, rfl⟩
  have HB := Aside0.mk (show Below w.heap.size w w1 by rw [hw]; exact below_alloc (Below.refl _ _) _)
  have HO := Aside0.mk (show Kd.R kRaw 28 w1 w.heap.size (fun _ => True) (.slice (some ⟨w.heap.size, 0, none⟩) 0 (l0.length + 1)) [] from ⟨fun _ _ => trivial, [], by rw [hw]; exact World.ownsRow_made w cs0 (l0.length + 1) (Nat.le_refl _) (by unfold maxLen; have := HN.out; omega) hcs, rfl, fun j p hj => by cases hj⟩)
  rw [← hw] at hmk
  clear hw hcs
  go_enter Tryz.func7, Tryz.ntmps7
  go_wp2
  clear hmk hw1
  generalize (.slice (some ⟨w.heap.size, 0, none⟩) 0 (l0.length + 1) : Value) = v30 at HO ⊢
  go_loopg [3, 12] (l0.length + 1) (fun kq v3 v12 w' => ∃ (i : Int) (rs : List Raw), v12 = .int .i64 i ∧ Aside0 (0 ≤ i ∧ i ≤ (l0.length : Int) ∧ (kq : Int) = (l0.length : Int) + 1 - i) ∧ Aside0 ((rs.length : Int) = i) ∧ Aside0 (Kd.R kRaw 28 w' w.heap.size (fun _ => True) v3 rs) ∧ Aside0 (∀ (j : Nat) (r : Raw), rs[j]? = some r → ∃ g, w.heap.size ≤ g ∧ Marks.At w' g (rd_T28 l0 (j : Int)).f7 ∧ r.1 = encM (rd_T28 l0 (j : Int)) g) ∧ Aside0 (Below w.heap.size w w'))
  case atStart => exact ⟨0, [], rfl, ⟨by omega, by omega, by omega⟩, ⟨rfl⟩, HO, ⟨fun j r hj => by cases hj⟩, HB⟩
  case round =>
    clear HB HO
    obtain ⟨i, rs, rfl, HI, HL, HO, HE, HB⟩ := hrel
    cases gk with
    | zero => exact absurd HI.out (fun h => by omega)
    | succ k1 =>
      by_cases c2 : i < (l0.length : Int)
      · have C2 := Aside0.mk c2
        obtain ⟨ad, A7, c7, eA, x0, x1, x2, x3, x4, x5, x6, x7, hl7, hi7⟩ := at_T28 H0.out i HI.out.1 c2
        subst eA
        have HL7 := Aside0.mk hl7
        have HI7 := Aside0.mk (Kd.C_below hi7 HB.out)
        have HS7 := Aside0.mk (HDD.out (rd_T28 l0 i) (by
          unfold rd_T28
          have h2 : i.toNat < l0.length := by have := C2.out; have := HI.out.1; omega
          rw [List.getD_eq_getElem?_getD, List.getElem?_eq_getElem h2]
          exact List.getElem_mem h2))
        clear hl7 hi7
        replace x0 := (HB.out.cell (World.block_lt_of_cell? w _ x0)).trans x0
        replace x1 := (HB.out.cell (World.block_lt_of_cell? w _ x1)).trans x1
        replace x2 := (HB.out.cell (World.block_lt_of_cell? w _ x2)).trans x2
        replace x3 := (HB.out.cell (World.block_lt_of_cell? w _ x3)).trans x3
        replace x4 := (HB.out.cell (World.block_lt_of_cell? w _ x4)).trans x4
        replace x5 := (HB.out.cell (World.block_lt_of_cell? w _ x5)).trans x5
        replace x6 := (HB.out.cell (World.block_lt_of_cell? w _ x6)).trans x6
        replace x7 := (HB.out.cell (World.block_lt_of_cell? w _ x7)).trans x7
        have hi0 := HI.out.1
        have p210 := eq_true hi0
        have q210 := eq_true c2
        clear hi0
        have HZ := Aside0.mk (Below.refl wr.heap.size wr)
        go_upto_region 6 with (first | ((with_reducible refine gate_dst (N := 5) rfl ?_); refine box_event ?hg (N := 5) ?hd (cs := #[.string (⟨#[]⟩ : ByteArray), .int .i64 0, .int .i64 0, .int .i64 0, .int .i64 0, .int .i64 0, .string (⟨#[]⟩ : ByteArray), .slice none 0 0]) (t := 28) ?hr ?_; (case hd => rfl); (case hg => rfl); (case hr => first | (go_simp; done) | (go_simp; rfl)); intro g5 hg w5 hbox hb; have HZ5 := Aside0.mk (below_step HZ.out hb); have K5 := Aside0.mk hbox; have G5 := Aside0.mk (show wr.heap.size ≤ g5 by rw [hg]; exact below_size HZ.out); clear hb hbox hg) | ((with_reducible refine gate_store (t := 28) (p := 5) (v := .tmp 15) rfl ?_); refine ev_set31 _ rfl (.tmp 5) (.tmp 15) rfl rfl g5 _ _ _ _ _ _ _ _ (rd_T28 l0 i).f0 (rd_T28 l0 i).f6 (rd_T28 l0 i).f1 (rd_T28 l0 i).f2 (rd_T28 l0 i).f3 (rd_T28 l0 i).f4 (rd_T28 l0 i).f5 A7 (rd_T28 l0 i).f7.length c7 rfl rfl K5.out (fun w6 b1 b2 => ?_); have HZ6 := Aside0.mk (below_row_ HZ5.out b2 G5.out); have K6 := Aside0.mk b1; have y0 : w6.cell? ⟨g5, 0, none⟩ = some (.string (rd_T28 l0 i).f0) := blk_cell b1 0; have y1 : w6.cell? ⟨g5, 1, none⟩ = some (.int .i64 (rd_T28 l0 i).f1) := blk_cell b1 1; have y2 : w6.cell? ⟨g5, 2, none⟩ = some (.int .i64 (rd_T28 l0 i).f2) := blk_cell b1 2; have y3 : w6.cell? ⟨g5, 3, none⟩ = some (.int .i64 (rd_T28 l0 i).f3) := blk_cell b1 3; have y4 : w6.cell? ⟨g5, 4, none⟩ = some (.int .i64 (rd_T28 l0 i).f4) := blk_cell b1 4; have y5 : w6.cell? ⟨g5, 5, none⟩ = some (.int .i64 (rd_T28 l0 i).f5) := blk_cell b1 5; have y6 : w6.cell? ⟨g5, 6, none⟩ = some (.string (rd_T28 l0 i).f6) := blk_cell b1 6; have y7 : w6.cell? ⟨g5, 7, none⟩ = some (.slice A7 (rd_T28 l0 i).f7.length c7) := blk_cell b1 7; clear b1 b2) | (go_at_call 25; refine (Marks.copy_calls A7 c7 (rd_T28 l0 i).f7 _ (Kd.C_below HI7.out HZ6.out) HL7.out HS7.out).mono ?_; rintro e w7 ⟨gd, rfl, hgd, hat, hb⟩; have HZ7 := Aside0.mk (below_step HZ6.out hb); have K7 := Aside0.mk (blk_below K6.out hb); have HAT := Aside0.mk hat; have HGD := Aside0.mk (show wr.heap.size ≤ gd by have := below_size HZ6.out; omega); clear hgd hat hb y0 y1 y2 y3 y4 y5 y6 y7; have f7 := blk_frozen K7.out 7; have z7 := blk_cell K7.out 7))
        clear z7 f7
        have K8n := Aside0.mk (show (w7.setCell ⟨g5, 7, none⟩ (.slice (some ⟨gd, 0, none⟩) (rd_T28 l0 i).f7.length ((rd_T28 l0 i).f7.length + 2))).heap[g5]? = some (.cells #[.string (rd_T28 l0 i).f0, .int .i64 (rd_T28 l0 i).f1, .int .i64 (rd_T28 l0 i).f2, .int .i64 (rd_T28 l0 i).f3, .int .i64 (rd_T28 l0 i).f4, .int .i64 (rd_T28 l0 i).f5, .string (rd_T28 l0 i).f6, .slice (some ⟨gd, 0, none⟩) (rd_T28 l0 i).f7.length ((rd_T28 l0 i).f7.length + 2)] 28 (0, 0)) from blk_set K7.out 7 _)
        have HZ8 := Aside0.mk (show Below wr.heap.size wr (w7.setCell ⟨g5, 7, none⟩ (.slice (some ⟨gd, 0, none⟩) (rd_T28 l0 i).f7.length ((rd_T28 l0 i).f7.length + 2))) from below_set HZ7.out G5.out)
        have HA8 := Aside0.mk (show Marks.At (w7.setCell ⟨g5, 7, none⟩ (.slice (some ⟨gd, 0, none⟩) (rd_T28 l0 i).f7.length ((rd_T28 l0 i).f7.length + 2))) gd (rd_T28 l0 i).f7 from (Below.heap_setCell _ _ _ _ (fun e => by
          have h1 : w7.heap[gd]? = some _ := HAT.out
          have h2 := K7.out
          rw [e] at h1
          rw [show (⟨g5, 7, none⟩ : Addr).block = g5 from rfl, h2] at h1
          injection h1 with h1
          injection h1 with _ h1
          exact absurd h1 (by decide))).trans HAT.out)
        clear HAT K7 HZ7
        generalize w7.setCell ⟨g5, 7, none⟩ (.slice (some ⟨gd, 0, none⟩) (rd_T28 l0 i).f7.length ((rd_T28 l0 i).f7.length + 2)) = w8 at K8n HZ8 HA8 ⊢
        have y0 : w8.cell? ⟨g5, 0, none⟩ = some (.string (rd_T28 l0 i).f0) := blk_cell K8n.out 0; have y1 : w8.cell? ⟨g5, 1, none⟩ = some (.int .i64 (rd_T28 l0 i).f1) := blk_cell K8n.out 1; have y2 : w8.cell? ⟨g5, 2, none⟩ = some (.int .i64 (rd_T28 l0 i).f2) := blk_cell K8n.out 2; have y3 : w8.cell? ⟨g5, 3, none⟩ = some (.int .i64 (rd_T28 l0 i).f3) := blk_cell K8n.out 3; have y4 : w8.cell? ⟨g5, 4, none⟩ = some (.int .i64 (rd_T28 l0 i).f4) := blk_cell K8n.out 4; have y5 : w8.cell? ⟨g5, 5, none⟩ = some (.int .i64 (rd_T28 l0 i).f5) := blk_cell K8n.out 5; have y6 : w8.cell? ⟨g5, 6, none⟩ = some (.string (rd_T28 l0 i).f6) := blk_cell K8n.out 6; have y7 : w8.cell? ⟨g5, 7, none⟩ = some (.slice (some ⟨gd, 0, none⟩) (rd_T28 l0 i).f7.length ((rd_T28 l0 i).f7.length + 2)) := blk_cell K8n.out 7
        go_wp2_with ((with_reducible refine gate_builtin (b := .append) (xs := #[.tmp 20, .tmp 22]) rfl ?_); at_builtin; go_loud (refine Kd.R_append kRaw (w0 := w) w.heap.size rfl (.tmp 20) (.tmp 22) 22 28 (.agg #[.string (⟨#[]⟩ : ByteArray), .int .i64 0, .int .i64 0, .int .i64 0, .int .i64 0, .int .i64 0, .string (⟨#[]⟩ : ByteArray), .slice none 0 0]) 96 rfl Tryz.underlying22 info28 rfl (by decide) (by omega) u3 rs (rawOf (rd_T28 l0 i) gd) [.string (rd_T28 l0 i).f0, .int .i64 (rd_T28 l0 i).f1, .int .i64 (rd_T28 l0 i).f2, .int .i64 (rd_T28 l0 i).f3, .int .i64 (rd_T28 l0 i).f4, .int .i64 (rd_T28 l0 i).f5, .string (rd_T28 l0 i).f6, .slice (some ⟨gd, 0, none⟩) (rd_T28 l0 i).f7.length ((rd_T28 l0 i).f7.length + 2)] (fun _ => True) (fun _ => False) rfl rfl ?aP (fun k_ hk_ => hk_.elim) (fun _ _ => trivial) ?aO ?aB ?aS ?aL ?_); (case aP => exact rfl); (case aO => exact Kd.R_below HO.out HZ8.out); (case aB => exact below_step HB.out HZ8.out); (case aS => exact below_size (below_step HB.out HZ8.out)); (case aL => have h1 := HN.out; have h2 := HL.out; have h3 := C2.out; have h4 := HI.out; omega); intro v11 w11 ho hb hg hat; have HO11 := Aside0.mk ho; have HB11 := Aside0.mk hb; have HG11 := Aside0.mk hg; clear ho hb hg hat)
        go_roundg k1
        case measure => omega
        case rel =>
          refine ⟨i + 1, rs ++ [rawOf (rd_T28 l0 i) gd], by rw [wr_in _ (by have h1 := HI.out; have h2 := HN.out; have h3 := C2.out; omega)], ⟨by have := HI.out; have := C2.out; omega⟩, ⟨by have := HL.out; rw [List.length_append, List.length_singleton]; omega⟩, HO11, ⟨fun j r hj => ?_⟩, HB11⟩
          have hat : ∀ {g : Nat} {d : List Int}, Marks.At w8 g d → Marks.At w11 g d := fun {g d} h => by
            refine (HG11.out.block g (blk_lt h) (fun e => ?_)).trans h
            obtain ⟨cs, hc⟩ := Kd.R_typed (Kd.R_below HO.out HZ8.out) g e.symm
            have h1 : w8.heap[g]? = some _ := h
            rw [hc] at h1
            injection h1 with h1
            injection h1 with _ h1
            exact absurd h1 (by decide)
          by_cases hjl : j < rs.length
          · rw [List.getElem?_append_left hjl] at hj
            obtain ⟨g, g0, g1, g2⟩ := HE.out j r hj
            exact ⟨g, g0, hat (g1.below HZ8.out), g2⟩
          · have hj2 : j = rs.length := by
              have := (List.getElem?_eq_some_iff.1 hj).1
              rw [List.length_append, List.length_singleton] at this
              omega
            subst hj2
            rw [List.getElem?_append_right (Nat.le_refl _), Nat.sub_self] at hj
            obtain rfl := Option.some.inj hj
            have he : ((rs.length : Nat) : Int) = i := HL.out
            rw [he]
            exact ⟨gd, by have := HGD.out; have := below_size HB.out; omega, hat HA8.out, rfl⟩
      · have hil : rs.length = l0.length := by have := HI.out; have := HL.out; omega
        have HIL := Aside0.mk hil
        clear hil
        go_wp2_with ((with_reducible refine gate_builtin (b := .append) (xs := #[.tmp 25, .tmp 27]) rfl ?_); at_builtin; refine Kd.R_append kRaw (w0 := w) w.heap.size rfl (.tmp 25) (.tmp 27) 22 28 (.agg #[.string (⟨#[]⟩ : ByteArray), .int .i64 0, .int .i64 0, .int .i64 0, .int .i64 0, .int .i64 0, .string (⟨#[]⟩ : ByteArray), .slice none 0 0]) 96 rfl Tryz.underlying22 info28 rfl (by decide) (by omega) u3 rs rawMark encMark (fun _ => True) (fun _ => False) rfl rfl ?aP (fun k_ hk_ => hk_.elim) (fun _ _ => trivial) ?aO ?aB ?aS ?aL ?_; (case aP => exact rfl); (case aO => exact HO.out); (case aB => exact HB.out); (case aS => exact below_size HB.out); (case aL => have h1 := HN.out; have h2 := HL.out; have h4 := HI.out; omega); intro v11 w11 ho hb hg hat; have HO11 := Aside0.mk ho; have HB11 := Aside0.mk hb; have HG11 := Aside0.mk hg; obtain ⟨Ax, cx, ex⟩ := Kd.R_slice ho; subst ex; have hcut := cut22 w11 Ax (rs.length + 1) cx l0.length (by have h1 := (Kd.R_reads' ho).2.1; rw [List.length_append, List.length_singleton, HIL.out] at h1; omega); clear ho hb hg hat)
        go_ret
        obtain ⟨ga, eg⟩ : ∃ ga, Ax = some ⟨ga, 0, none⟩ := by
          obtain ⟨_, inner, hown, _⟩ := HO11.out
          rcases hown.2 with ⟨hv, _⟩ | ⟨g', cap', cur, hv, _⟩
          · injection hv with _ h2 _
            rw [List.length_append, List.length_singleton] at h2
            omega
          · injection hv with ha _ _
            exact ⟨g', ha⟩
        subst eg
        obtain ⟨_, r2, r3⟩ := Kd.R_reads' HO11.out
        have hln : (rs ++ [rawMark]).length = l0.length + 1 := by rw [List.length_append, List.length_singleton, HIL.out]
        have hat : ∀ {g : Nat} {d : List Int}, Marks.At wr g d → Marks.At w11 g d := fun {g d} h => by
          refine (HG11.out.block g (blk_lt h) (fun e => ?_)).trans h
          obtain ⟨cs, hc⟩ := Kd.R_typed HO.out g e.symm
          have h1 : wr.heap[g]? = some _ := h
          rw [hc] at h1
          injection h1 with h1
          injection h1 with _ h1
          exact absurd h1 (by decide)
        have hcell : ∀ (j : Nat) (r : Raw), (rs ++ [rawMark])[j]? = some r → ∀ k u, r.1[k]? = some u → w11.cell? ⟨ga, j * 8 + k, none⟩ = some u := fun j r hj k u hu => by
          obtain ⟨ad, ead, hx⟩ := r3.2.2 (by omega)
          injection ead with ead
          subst ead
          obtain ⟨cs, _, hk, hc⟩ := hx j r hj
          have hk2 : cs = r.1 := hk
          rw [← hk2] at hu
          have h5 := hc k u hu
          rw [add_plain] at h5
          exact h5
        refine ⟨ga, cx, by simp, ⟨by omega, by have := r3.2.1; omega, Kd.R_base HO11.out ga (by simp [Value.ownBlock]), Kd.R_typed HO11.out ga (by simp [Value.ownBlock]), fun j x hx => ?_, fun k u hu => ?_⟩, HB11.out⟩
        · have hj := (List.getElem?_eq_some_iff.1 hx).1
          have hjr : j < rs.length := by have := HIL.out; omega
          obtain ⟨g, g0, g1, g2⟩ := HE.out j _ (List.getElem?_eq_getElem hjr)
          have e1 : rd_T28 l0 (j : Int) = x := by
            unfold rd_T28
            rw [Int.toNat_natCast, List.getD_eq_getElem?_getD, hx]
            rfl
          rw [e1] at g1 g2
          refine ⟨g, g0, hat g1, fun k u hu => hcell j rs[j] ?_ k u (by rw [g2]; exact hu)⟩
          rw [List.getElem?_append_left hjr, List.getElem?_eq_getElem hjr]
        · refine hcell l0.length rawMark ?_ k u hu
          rw [List.getElem?_append_right (by have := HIL.out; omega), HIL.out, Nat.sub_self]
          rfl
end Go.Proofs.YtfkbmjfhakooiaaGreatDoor.TR

/- Over, walked: it writes into one row alone. Conditions: as the theorem says. -/
namespace Go.Proofs.YtfkbmjfhakooiaaGreatDoor.TR
open Go.RowKit Go.Proofs.YtfkbmjfhakooiaaGreatDoor.PTree Go.Proofs.YtfkbmjfhakooiaaGreatDoorW.PrintWords Go.Proofs.YtfkbmjfhakooiaaGreatDoorW.PrintLast Go.Proofs.YtfkbmjfhakooiaaGreatDoorW.PrintMore
set_option linter.unusedVariables false
set_option linter.unusedSimpArgs false
/-- A block whose first n cells are bytes. -/
def U8s (w : World) (g n : Nat) : Prop := ∃ cs, w.heap[g]? = some (.cells cs 5 (0, 0)) ∧ ∀ j, j < n → ∃ x : Int, cs[j]? = some (.int .u8 x)
theorem U8s.at_ {w : World} {g n : Nat} (h : U8s w g n) (j : Nat) (hj : j < n) : (∃ x : Int, w.cell? ⟨g, j, none⟩ = some (.int .u8 x)) ∧ w.frozen? ⟨g, j, none⟩ = false := by
  obtain ⟨cs, h0, h1⟩ := h
  obtain ⟨x, hx⟩ := h1 j hj
  exact ⟨⟨x, (blk_cell h0 j).trans hx⟩, blk_frozen h0 j⟩
theorem U8s.set {w : World} {g n : Nat} (h : U8s w g n) (j : Nat) (x : Int) : U8s (w.setCell ⟨g, j, none⟩ (.int .u8 x)) g n := by
  obtain ⟨cs, h0, h1⟩ := h
  refine ⟨_, heapSet h0 j _, fun i hi => ?_⟩
  obtain ⟨y, hy⟩ := h1 i hi
  rw [Array.getElem?_setIfInBounds]
  split
  · next e =>
    subst e
    exact ⟨x, by rw [if_pos (Array.getElem?_eq_some_iff.1 hy).1]⟩
  · exact ⟨y, hy⟩
set_option maxHeartbeats 4000000 in
set_option maxRecDepth 100000 in
theorem over_calls (g n c : Nat) (w : World) (hn : n ≤ 140737488355328) (hnc : n ≤ c) (h : U8s w g n) :
    Calls Tryz.prog 16 #[.slice (some ⟨g, 0, none⟩) n c] w fun e w' => (∃ v, e = .returned v) ∧ Ex (fun k => k = g) w w' ∧ ∀ m, U8s w g m → U8s w' g m := by
  have H1 := Aside0.mk h
  have H0 := Aside0.mk (And.intro (fun (m : Nat) (hm : U8s w g m) => hm) (Ex.refl (fun k => k = g) w))
  clear h
  go_enter Tryz.func16, Tryz.ntmps16
  go_wp2
  go_loopg [5] (n + 1) (fun kq v5 wr => ∃ i : Nat, v5 = .int .i64 (i : Int) ∧ Aside0 (i + kq = n + 1) ∧ Aside0 (i ≤ n) ∧ Aside0 ((∀ m, U8s w g m → U8s wr g m) ∧ Ex (fun k => k = g) w wr))
  case atStart => exact ⟨0, rfl, ⟨by omega⟩, ⟨by omega⟩, H0⟩
  case round =>
    clear H0
    obtain ⟨i, rfl, HI, HJ, HS⟩ := hrel
    cases gk with
    | zero => exact absurd HI.out (by have := HJ.out; omega)
    | succ k1 =>
      by_cases c1 : (i : Int) < (n : Int)
      · obtain ⟨⟨x, hcx⟩, hfx⟩ := (HS.out.1 n H1.out).at_ i (by omega)
        have c1b := decide_eq_true c1
        have p0 := eq_true (Int.natCast_nonneg i)
        have p1 := eq_true c1
        have w1 : wrap64 ((i : Int) + 1) = ((i + 1 : Nat) : Int) := by unfold wrap64; omega
        go_wp2
        go_roundg k1
        case measure => omega
        case rel => exact ⟨i + 1, (by first | rfl | (simp; done) | (simp [w1]; done)), ⟨by have := HI.out; omega⟩, ⟨by omega⟩, ⟨fun m hm => (HS.out.1 m hm).set i _, HS.out.2.set ⟨g, i, none⟩ _ rfl⟩⟩
      · have c1b := decide_eq_false c1
        go_wp2
        go_end0
        exact ⟨⟨_, rfl⟩, HS.out.2, HS.out.1⟩
end Go.Proofs.YtfkbmjfhakooiaaGreatDoor.TR

/- What amphoralaw09.large answers: plain Lean. Conditions: as each theorem says. -/
namespace Go.Proofs.YtfkbmjfhakooiaaGreatDoor.TR
open Go.RowKit Go.Proofs.YtfkbmjfhakooiaaGreatDoor.PTree Go.Proofs.YtfkbmjfhakooiaaGreatDoorW.PrintWords Go.Proofs.YtfkbmjfhakooiaaGreatDoorW.PrintLast Go.Proofs.YtfkbmjfhakooiaaGreatDoorW.PrintMore
set_option linter.unusedVariables false
set_option linter.unusedSimpArgs false
/-- Sizes that any value has. -/
def Sane (l : List S28) : Prop := ∀ x ∈ l, x.f0.size ≤ 9223372036854775807 ∧ x.f6.size ≤ 9223372036854775807 ∧ x.f7.length ≤ 9223372036854775807
theorem rd_mem' (l : List S28) (i : Int) (h0 : 0 ≤ i) (h1 : i < (l.length : Int)) : rd_T28 l i ∈ l := by
  unfold rd_T28
  have h2 : i.toNat < l.length := by omega
  rw [List.getD_eq_getElem?_getD, List.getElem?_eq_getElem h2]
  exact List.getElem_mem h2
theorem large_l (l : List S28) (hs : Sane l) (hl : (l.length : Int) ≤ 9223372036854775807) : ∀ (k : Nat) (n i : Int), 0 ≤ i → i ≤ (l.length : Int) → 0 ≤ n → n ≤ 400 → (l.length : Int) - i + 1 ≤ k →
    ∃ b, amphoralaw09_large.l0 k n l (l.length : Int) i = some b ∧ (b = false → (l.length : Int) - i ≤ 400 - n ∧ ∀ j, i ≤ j → j < (l.length : Int) → ((rd_T28 l j).f7.length : Int) ≤ 401000 ∧ ((rd_T28 l j).f0.size : Int) ≤ 40100 ∧ ((rd_T28 l j).f6.size : Int) ≤ 40100)
  | 0, n, i, h0, h1, h2, h3, h4 => by omega
  | k + 1, n, i, h0, h1, h2, h3, h4 => by
    unfold amphoralaw09_large.l0
    by_cases c1 : i < (l.length : Int)
    · rw [if_pos c1, if_pos h0, if_pos c1]
      obtain ⟨s1, s2, s3⟩ := hs _ (rd_mem' l i h0 c1)
      have e : wrap64 (n + (wrap64 ((wrap64 ((wrap64 (1 + (wrap64 ((((rd_T28 l i).f7).length : Int) / 1000)))) + (wrap64 ((((rd_T28 l i).f0).size : Int) / 100)))) + (wrap64 ((((rd_T28 l i).f6).size : Int) / 100))))) = n + (1 + ((rd_T28 l i).f7.length : Int) / 1000 + ((rd_T28 l i).f0.size : Int) / 100 + ((rd_T28 l i).f6.size : Int) / 100) := by
        have a0 : 0 ≤ ((rd_T28 l i).f7.length : Int) / 1000 ∧ ((rd_T28 l i).f7.length : Int) / 1000 ≤ 9223372036854776 := by omega
        have b0 : 0 ≤ ((rd_T28 l i).f0.size : Int) / 100 ∧ ((rd_T28 l i).f0.size : Int) / 100 ≤ 92233720368547758 := by omega
        have c0 : 0 ≤ ((rd_T28 l i).f6.size : Int) / 100 ∧ ((rd_T28 l i).f6.size : Int) / 100 ≤ 92233720368547758 := by omega
        generalize ((rd_T28 l i).f7.length : Int) / 1000 = a at a0 ⊢
        generalize ((rd_T28 l i).f0.size : Int) / 100 = b at b0 ⊢
        generalize ((rd_T28 l i).f6.size : Int) / 100 = c at c0 ⊢
        rw [wr_in a ⟨by omega, by omega⟩, wr_in (1 + a) ⟨by omega, by omega⟩, wr_in b ⟨by omega, by omega⟩, wr_in (1 + a + b) ⟨by omega, by omega⟩, wr_in c ⟨by omega, by omega⟩, wr_in (1 + a + b + c) ⟨by omega, by omega⟩, wr_in _ ⟨by omega, by omega⟩]
      rw [e]
      by_cases c2 : n + (1 + ((rd_T28 l i).f7.length : Int) / 1000 + ((rd_T28 l i).f0.size : Int) / 100 + ((rd_T28 l i).f6.size : Int) / 100) > 400
      · rw [if_pos c2]
        exact ⟨true, rfl, fun h => by cases h⟩
      · rw [if_neg c2, show wrap64 (i + 1) = i + 1 from wr_in _ ⟨by omega, by omega⟩]
        obtain ⟨b, hb, hq⟩ := large_l l hs hl k _ (i + 1) (by omega) (by omega) (show 0 ≤ n + (1 + ((rd_T28 l i).f7.length : Int) / 1000 + ((rd_T28 l i).f0.size : Int) / 100 + ((rd_T28 l i).f6.size : Int) / 100) by omega) (by omega) (by omega)
        refine ⟨b, hb, fun h => ?_⟩
        obtain ⟨q1, q2⟩ := hq h
        refine ⟨by omega, fun j hj hj2 => ?_⟩
        by_cases e2 : j = i
        · subst e2; omega
        · exact q2 j (by omega) hj2
    · rw [if_neg c1]
      exact ⟨false, rfl, fun _ => ⟨by omega, fun j hj hj2 => by omega⟩⟩
theorem large_f (l : List S28) (hs : Sane l) (hl : (l.length : Int) ≤ 9223372036854775807) (K : Nat) (hK : l.length + 1 ≤ K) :
    ∃ b, amphoralaw09_large.f K l = some b ∧ (b = false → l.length ≤ 400 ∧ ∀ x ∈ l, x.f7.length ≤ 401000 ∧ x.f0.size ≤ 40100 ∧ x.f6.size ≤ 40100) := by
  obtain ⟨b, hb, hq⟩ := large_l l hs hl K 0 0 (by omega) (by omega) (by omega) (by omega) (by omega)
  refine ⟨b, hb, fun h => ?_⟩
  obtain ⟨q1, q2⟩ := hq h
  refine ⟨by omega, fun x hx => ?_⟩
  obtain ⟨j, hj, rfl⟩ := List.getElem_of_mem hx
  have h1 := q2 (j : Int) (by omega) (by omega)
  have e : rd_T28 l (j : Int) = l[j] := by
    unfold rd_T28
    rw [Int.toNat_natCast, List.getD_eq_getElem?_getD, List.getElem?_eq_getElem hj]
    rfl
  rw [e] at h1
  omega
end Go.Proofs.YtfkbmjfhakooiaaGreatDoor.TR

/- A range over an iterator that hands on what it has made: the contract says what is known of each round's value (Xp: the world behind the round before, the world where yield is called); the law of the loop over it. Conditions: as each theorem says. -/
namespace Go.Proofs.YtfkbmjfhakooiaaGreatDoor.TR
open Go.RowKit Go.Shelf
attribute [local go_sem] Oper.semAt_some
set_option linter.unusedVariables false
set_option linter.unusedSimpArgs false
/-- What an iterator promises that makes what it hands on. -/
def SeqX {α : Type} (F : Fence) (n : Nat) (P : Program) (g : Nat) (lb : Array Value) (encs : α → Array Value) (Kp : World → World → Prop) (Xp : List α → α → World → World → Prop) (S Sp : List α → Prop) (N : Nat) (w : World) : Prop :=
  ∀ (l : Nat) (J Jx : List α → World → Prop) (W : World), Below w.heap.size w W → J [] W →
    (∀ pre x W0 W1, J pre W0 → Below W0.heap.size W0 W1 → pre.length < N → Xp pre x W0 W1 → YieldAt F (n - 1) P l (encs x) W1 fun e W' =>
      (e = .returned (.bool true) ∧ J (pre ++ [x]) W' ∧ Kp W0 W') ∨ (e = .returned (.bool false) ∧ Jx (pre ++ [x]) W')) →
    CallsIn F n P g (#[.func (.yield l) #[] #[]] ++ lb) W fun e W' => (∃ v, e = .returned v) ∧ ((∃ xs, S xs ∧ J xs W') ∨ (∃ pre, Sp pre ∧ Jx pre W'))
theorem below_put {W0 W1 : World} {l : Nat} {o : Obj} (h : Below W0.heap.size W0 W1) (hl : l < W0.heap.size) : Below (W0.putObj l o).heap.size (W0.putObj l o) (W1.putObj l o) := by
  have g0 := grownBy_putObj' W0 l o
  have g1 := grownBy_putObj' W1 l o
  have s0 : (W0.putObj l o).heap.size = W0.heap.size := by simp [World.putObj]
  have s1 : (W1.putObj l o).heap.size = W1.heap.size := by simp [World.putObj]
  refine ⟨by rw [g1.os, h.os, g0.os], by rw [g1.tape, h.tape, g0.tape], by rw [g1.output, h.output, g0.output], by rw [s0, s1]; exact h.size, fun k hk => ?_⟩
  rw [s0] at hk
  by_cases e : k = l
  · subst e
    rw [World.putObj_heap_same hk, World.putObj_heap_same (Nat.lt_of_lt_of_le hk h.size)]
  · rw [World.putObj_heap_other e, World.putObj_heap_other e]
    exact h.block k hk
theorem below_step0 {X Y Z : World} (h : Below X.heap.size X Y) (k : Below Y.heap.size Y Z) : Below X.heap.size X Z := h.trans (k.mono h.size)
/-- The loop over such an iterator. -/
theorem wpIn_seqX {F : Fence} {n : Nat} {P : Program} {α : Type} {g : Operand} {ps : Array Tmp} {assign body : Code} {Q : Exit → Act → World → Prop} {a : Act} {w : World}
    (hro : F.round = none) (h1 : 1 ≤ n) {gf : Nat} {lb : Array Value} (hg : a.eval g = .func (.func gf) #[] lb) (hFg : F.fn gf) (eg : ∀ args w, (callFunc gf args).run P w = .ok (.enter gf args) w)
    {encs : α → Array Value} {Kp : World → World → Prop} {Xp : List α → α → World → World → Prop} {S Sp : List α → Prop} {N : Nat} (hseq : SeqX F (n - 1) P gf lb encs Kp Xp S Sp N w)
    (hKt : ∀ {A B C : World}, Kp A B → Kp B C → Kp A C) (hKb : ∀ (W : World) (l : Nat) (o' : Obj), w.heap.size ≤ l → Kp W (W.putObj l o')) (hps : ∀ x, (encs x).size = ps.size)
    (hX : ∀ (pre : List α) (x : α) (W0 W1 : World) (l : Nat) (o o' : Obj), w.heap.size ≤ l → l < W0.heap.size → W1.heap[l]? = some o → o.isCells = false → Xp pre x W0 W1 → Xp pre x (W0.putObj l o') (W1.putObj l o'))
    (hXb : ∀ (pre : List α) (x : α) (W0 W W' : World), Xp pre x W0 W → Below W0.heap.size W0 W → Below W.heap.size W W' → Xp pre x W0 W')
    (I : List α → World → Prop) (Ix : Code → List α → World → Prop) (hI : OwnFrom w.heap.size I) (hIx : ∀ c, OwnFrom w.heap.size (Ix c)) (h0 : I [] w)
    (hround : ∀ (l : Nat) (pre : List α) (x : α) (W0 W : World), I pre W0 → Below W0.heap.size W0 W → w.heap.size ≤ W0.heap.size → pre.length < N → Xp pre x W0 W →
      assign.wpIn (F.inRound l) (n - 1 - 1) P (Exit.then (fun a₁ W₁ => Below W.heap.size W W₁ ∧ ∀ Wd Wc : World, I pre Wd → Below Wd.heap.size Wd Wc → w.heap.size ≤ Wd.heap.size → Xp pre x Wd Wc → (∀ (k : Nat) (cs : Array Value) (t : TypeId) (fr : Nat × Nat), W₁.heap[k]? = some (.cells cs t fr) → Wc.heap[k]? = some (.cells cs t fr)) →
        body.wpIn (F.inRound l) (n - 1 - 1) P (fun e _ W' => match e with
          | .normal => KeepsFrom w.heap.size Wc W' ∧ Kp Wd W' ∧ I (pre ++ [x]) W'
          | .ret => KeepsFrom w.heap.size Wc W' ∧ Ix .ret (pre ++ [x]) W'
          | .exit id => KeepsFrom w.heap.size Wc W' ∧ Ix (.exit id) (pre ++ [x]) W'
          | .goto t => KeepsFrom w.heap.size Wc W' ∧ Ix (.goto t) (pre ++ [x]) W'
          | .panic _ => False
          | .outgrown => False) a₁ Wc) (fun _ _ _ => False)) { tmps := (ps.zip (encs x)).foldl (fun t (p, v) => t.setIfInBounds p v) a.tmps, defers := [] } W)
    (hdone : ∀ (D : Nat) (xs : List α) (W : World), w.heap.size ≤ D → S xs → I xs W → W.heap[D]? = some (.deferred (some [])) → Q .normal { a with defers := { target := .collected D, args := #[] } :: a.defers } W)
    (hstop : ∀ (D : Nat) (c : Code) (pre : List α) (W : World), w.heap.size ≤ D → Sp pre → Ix c pre W → W.heap[D]? = some (.deferred (some [])) → c.wpIn F n P Q { a with defers := { target := .collected D, args := #[] } :: a.defers } W) :
    (Code.rangeFunc g ps assign body).wpIn F n P Q a w := by
  refine wpIn_rangeFunc fun fn hfn => ?_
  rw [hro]
  obtain ⟨d0, hd0⟩ : ∃ d, d = w.heap.size := ⟨_, rfl⟩
  obtain ⟨rec, hrec⟩ : ∃ rec : LoopState → Option Code → Loop, rec = fun st pe => { state := st, pending := pe, fn, tmps := a.tmps, params := ps, assign, body, defers := d0 } := ⟨_, rfl⟩
  obtain ⟨Wa, hWa⟩ : ∃ W, W = w.alloc (.deferred (some [])) := ⟨_, rfl⟩
  obtain ⟨Wb, hWb⟩ : ∃ W, W = Wa.alloc (.loop (rec .ready none)) := ⟨_, rfl⟩
  have sa : Wa.heap.size = d0 + 1 := by rw [hWa, World.size_alloc, hd0]
  have la : Wa.heap[d0]? = some (.deferred (some [])) := by rw [hWa, hd0]; exact World.alloc_heap_new w _
  have lb1 : Wb.heap[d0 + 1]? = some (.loop (rec .ready none)) := by have h := World.alloc_heap_new Wa (.loop (rec .ready none)); rw [sa, ← hWb] at h; exact h
  have lb0 : Wb.heap[d0]? = some (.deferred (some [])) := by rw [hWb]; exact (Below.heap_alloc _ _ _ (by omega)).trans la
  have ib : I [] Wb := by rw [hWb, hWa]; exact hI.alloc _ (hI.alloc _ h0)
  have bb : Below w.heap.size w Wb := by rw [hWb, hWa]; exact ((Below.refl _ w).alloc (Nat.le_refl _) _).alloc (by simp) _
  have zb : Wb.heap.size = d0 + 2 := by rw [hWb, World.size_alloc, sa]
  refine ⟨d0 + 1, [{ target := .collected d0, args := #[] }], Wb, { target := .fn (.func gf) lb, args := #[.func (.yield (d0 + 1)) #[] #[]] }, Wb, gf, #[.func (.yield (d0 + 1)) #[] #[]] ++ lb, Wb, ?_, ?_, ?_, ?_, fun _ => h1, ?_⟩
  · rw [hWb, hWa, hrec, hd0]; exact run_enterLoop_outer _ _ _ _ _
  · simp only [resolve, hg]; simp [go_sem]
  · intro f' hf'; simp [Target.leads] at hf'; subst hf'; exact hFg
  · simp [invoke, go_sem, eg]
  refine (hseq (d0 + 1) (fun pre W => I pre W ∧ w.heap.size ≤ W.heap.size ∧ W.heap[d0 + 1]? = some (.loop (rec .ready none)) ∧ W.heap[d0]? = some (.deferred (some [])))
      (fun pre W => ∃ c, Ix c pre W ∧ W.heap[d0 + 1]? = some (.loop (rec .done (some c))) ∧ W.heap[d0]? = some (.deferred (some [])))
      Wb bb ⟨ib, by omega, lb1, lb0⟩ ?_).mono ?_
  · rintro pre x W0 W ⟨hi, hsz, hl0, hk0⟩ hbW hlen hx
    have hlt0 : d0 + 1 < W0.heap.size := (Array.getElem?_eq_some_iff.1 hl0).1
    have hl : W.heap[d0 + 1]? = some (.loop (rec .ready none)) := (hbW.block _ hlt0).trans hl0
    have hk : W.heap[d0]? = some (.deferred (some [])) := (hbW.block _ (by omega)).trans hk0
    have hlt : d0 + 1 < W.heap.size := (Array.getElem?_eq_some_iff.1 hl).1
    have hy := run_yield (P := P) (args := encs x) hl (by rw [hrec]; exact hps x)
    rw [hrec] at hy
    refine ⟨fn, _, assign, body, hy, roundIn_of_wpIn hfn (wpIn_mono (hround _ pre x W0 W hi hbW hsz hlen hx) ?_)⟩
    rintro e a' Wa hq
    cases e with
    | exit id => exact hq.elim
    | goto t => exact hq.elim
    | ret => exact hq.elim
    | panic ch => exact hq.elim
    | outgrown => exact hq.elim
    | normal =>
    obtain ⟨hba, hcont⟩ := hq
    have hbWa : Below W0.heap.size W0 Wa := below_step0 hbW hba
    have hxa := hXb _ _ _ _ _ hx hbW hba
    have hla : Wa.heap[d0 + 1]? = some (.loop (rec .ready none)) := (hba.block _ hlt).trans hl
    have hka : Wa.heap[d0]? = some (.deferred (some [])) := (hba.block _ (by omega)).trans hk
    have hlta : d0 + 1 < Wa.heap.size := (Array.getElem?_eq_some_iff.1 hla).1
    obtain ⟨Wc, hWc⟩ : ∃ W', W' = Wa.putObj (d0 + 1) (.loop { rec .ready none with state := .busy }) := ⟨_, rfl⟩
    obtain ⟨Wd, hWd⟩ : ∃ W', W' = W0.putObj (d0 + 1) (.loop { rec .ready none with state := .busy }) := ⟨_, rfl⟩
    have lc1 : Wc.heap[d0 + 1]? = some (.loop { rec .ready none with state := .busy }) := by rw [hWc]; exact World.putObj_heap_same hlta
    have lc0 : Wc.heap[d0]? = some (.deferred (some [])) := by rw [hWc]; exact (World.putObj_heap_other (by omega)).trans hka
    have kc : Kp W0 Wd := by rw [hWd]; exact hKb _ _ _ (by omega)
    have ic : I pre Wd := by rw [hWd]; exact hI.putObj _ hi (by omega) hl0 rfl
    have bc : Below Wd.heap.size Wd Wc := by rw [hWd, hWc]; exact below_put hbWa hlt0
    have xc : Xp pre x Wd Wc := by rw [hWd, hWc]; exact hX _ _ _ _ _ _ _ (by omega) hlt0 hla rfl hxa
    have sd : Wd.heap.size = W0.heap.size := by rw [hWd]; simp [World.putObj]
    refine ⟨Wc, by rw [hWc]; exact run_beginRound hla (by rw [hrec]), ?_⟩
    refine wpIn_mono (hcont Wd Wc ic bc (by omega) xc (fun k cs t fr hk => by rw [hWc]; exact (World.putObj_heap_other (fun e => by subst e; rw [hla] at hk; cases hk)).trans hk)) ?_
    have fin : ∀ (jump : Option Code) (W3 : World), KeepsFrom w.heap.size Wc W3 → ∃ W4, W4 = W3.putObj (d0 + 1) (.loop (rec (if jump.isNone then .ready else .done) jump)) ∧ (Instr.endRound (d0 + 1) jump).run P W3 = .ok (.bool jump.isNone) W4 ∧
        W3.heap[d0 + 1]? = some (.loop { rec .ready none with state := .busy }) ∧ W4.heap[d0 + 1]? = some (.loop (rec (if jump.isNone then .ready else .done) jump)) ∧ W4.heap[d0]? = some (.deferred (some [])) := fun jump W3 hk3 => by
      have hl3 := hk3.same _ _ (by omega) lc1 rfl
      have he := run_endRound (P := P) jump hl3
      refine ⟨_, rfl, ?_, hl3, World.putObj_heap_same (Array.getElem?_eq_some_iff.1 hl3).1, (World.putObj_heap_other (by omega)).trans (hk3.same _ _ (by omega) lc0 rfl)⟩
      rw [hrec] at he ⊢; exact he
    have out : ∀ (c : Code) (W3 : World), KeepsFrom w.heap.size Wc W3 → Ix c (pre ++ [x]) W3 → ∃ W4, (Instr.endRound (d0 + 1) (some c)).run P W3 = .ok (.bool false) W4 ∧ (∃ c, Ix c (pre ++ [x]) W4 ∧ W4.heap[d0 + 1]? = some (.loop (rec .done (some c))) ∧ W4.heap[d0]? = some (.deferred (some []))) := fun c W3 hk3 hi3 => by
      obtain ⟨W4, e4, hr, hl3, hl4, hk4⟩ := fin (some c) W3 hk3
      exact ⟨W4, hr, c, by rw [e4]; exact (hIx _).putObj _ hi3 (by omega) hl3 rfl, hl4, hk4⟩
    have szc : Wc.heap.size = Wa.heap.size := by rw [hWc]; simp [World.putObj]
    have sza := hba.size
    rintro e a3 W3 hp
    cases e with
    | normal =>
      obtain ⟨hk3, hkp3, hi3⟩ := hp
      obtain ⟨W4, e4, hr, hl3, hl4, hk4⟩ := fin none W3 hk3
      have hs4 : W4.heap.size = W3.heap.size := by rw [e4]; simp [World.putObj]
      have hs3 := hk3.size
      have hbs := hbW.size
      exact ⟨_, _, hr, .inl ⟨rfl, ⟨by rw [e4]; exact hI.putObj _ hi3 (by omega) hl3 rfl, by omega, hl4, hk4⟩, hKt (hKt kc hkp3) (by rw [e4]; exact hKb _ _ _ (by omega))⟩⟩
    | ret => obtain ⟨W4, hr, h4⟩ := out .ret W3 hp.1 hp.2; exact ⟨_, _, hr, .inr ⟨rfl, h4⟩⟩
    | exit id => obtain ⟨W4, hr, h4⟩ := out (.exit id) W3 hp.1 hp.2; exact ⟨_, _, hr, .inr ⟨rfl, h4⟩⟩
    | goto t => obtain ⟨W4, hr, h4⟩ := out (.goto t) W3 hp.1 hp.2; exact ⟨_, _, hr, .inr ⟨rfl, h4⟩⟩
    | panic ch => exact hp.elim
    | outgrown => exact hp.elim
  · rintro e W2 ⟨⟨v, rfl⟩, (⟨xs, hS, hi, _, hl, hk⟩ | ⟨pre, hSp, c, hi, hl, hk⟩)⟩
    · have he := run_endLoop (P := P) hl (by rw [hrec]; simp)
      rw [hrec] at he
      exact ⟨none, _, he, hdone d0 xs _ (by omega) hS (hI.putObj _ hi (by omega) hl rfl) ((World.putObj_heap_other (by omega)).trans hk)⟩
    · have he := run_endLoop (P := P) hl (by rw [hrec]; simp)
      rw [hrec] at he
      exact ⟨some c, _, he, hstop d0 c pre _ (by omega) hSp ((hIx c).putObj _ hi (by omega) hl rfl) ((World.putObj_heap_other (by omega)).trans hk)⟩
end Go.Proofs.YtfkbmjfhakooiaaGreatDoor.TR

/- Boxes and stores of entries inside a fence; the iterator of tree.Walk; its contract. Conditions: as each theorem says. -/
namespace Go.Proofs.YtfkbmjfhakooiaaGreatDoor.TR
open Go.RowKit Go.Shelf Go.Proofs.YtfkbmjfhakooiaaGreatDoor.PTree Go.Proofs.YtfkbmjfhakooiaaGreatDoorW.PrintWords Go.Proofs.YtfkbmjfhakooiaaGreatDoorW.PrintLast Go.Proofs.YtfkbmjfhakooiaaGreatDoorW.PrintMore
set_option linter.unusedVariables false
set_option linter.unusedSimpArgs false
section
variable {F : Fence} {n : Nat} {P : Program} {ops : Array Oper} {rest : List Oper} {o : Oper} {a : Act} {Q : Exit → Act → World → Prop}
theorem gatei_dst {W : World} {N : Tmp} (_hN : o.dst = some N) (h : wpListIn F n P ops Q (o :: rest) a W) : wpListIn F n P ops Q (o :: rest) a W := h
theorem gatei_store {W : World} {t : TypeId} {p : Tmp} {v : Operand} (_ho : o.op = .store t (.tmp p) v) (h : wpListIn F n P ops Q (o :: rest) a W) : wpListIn F n P ops Q (o :: rest) a W := h
theorem box_eventI {W : World} (hgd : o.guard = none) {N : Tmp} (_hd : o.dst = some N) {T : TypeId} (hop : o.op = Op.alloc T) {cs : Array Value} {t : TypeId}
    (hrun : (execOp a.eval o).run P W = .ok (.value (.pointer (some ⟨W.heap.size, 0, none⟩))) (W.alloc (.cells cs t (0, 0))))
    (h : ∀ g, g = W.heap.size → ∀ w1, w1.heap[g]? = some (.cells cs t (0, 0)) → Below W.heap.size W w1 → wpListIn F n P ops Q rest (a.put o.dst (.pointer (some ⟨g, 0, none⟩))) w1) : wpListIn F n P ops Q (o :: rest) a W := by
  refine wpListIn_plain hgd fun K hK => ?_
  unfold Oper.wpIn
  refine ⟨by simp [Oper.about, hop], ?_⟩
  rw [Oper.semAt_plain F _ _ (by rw [hop]; intro c hc; cases hc), hrun]
  exact hK _ _ (h _ rfl _ (blk_new W _) (below_alloc (Below.refl _ _) _))
end
/-- An entry is stored into a box of its own, inside a fence. -/
theorem ev_set31I {F : Fence} {n : Nat} {ops : Array Oper} {rest : List Oper} {o : Oper} {a : Act} {Q : Exit → Act → World → Prop} (w : World) (hg : o.guard = none) (p x : Operand) (hop : o.op = Op.store 28 p x) (hd : o.dst = none) (g : Nat) (z0 z1 z2 z3 z4 z5 z6 z7 : Value) (f0 f6 : ByteArray) (f1 f2 f3 f4 f5 : Int) (A7 : Option Addr) (n7 c7 : Nat)
    (hp : a.eval p = .pointer (some ⟨g, 0, none⟩)) (hx : a.eval x = .agg #[.string f0, .int .i64 f1, .int .i64 f2, .int .i64 f3, .int .i64 f4, .int .i64 f5, .string f6, .slice A7 n7 c7])
    (hb : w.heap[g]? = some (.cells #[z0, z1, z2, z3, z4, z5, z6, z7] 28 (0, 0)))
    (hK : ∀ w', w'.heap[g]? = some (.cells #[.string f0, .int .i64 f1, .int .i64 f2, .int .i64 f3, .int .i64 f4, .int .i64 f5, .string f6, .slice A7 n7 c7] 28 (0, 0)) → w.grownBy w' (some g) → wpListIn F n Tryz.prog ops Q rest a w') : wpListIn F n Tryz.prog ops Q (o :: rest) a w := by
  have hrun : (Instr.storeAt 28 (.pointer (some ⟨g, 0, none⟩)) (.agg #[.string f0, .int .i64 f1, .int .i64 f2, .int .i64 f3, .int .i64 f4, .int .i64 f5, .string f6, .slice A7 n7 c7])).run Tryz.prog w = .ok () (w.setCells g 0 [.string f0, .int .i64 f1, .int .i64 f2, .int .i64 f3, .int .i64 f4, .int .i64 f5, .string f6, .slice A7 n7 c7]) :=
    run_store_run 28 _ _ hb rfl (by
      obtain ⟨i, hi, hq⟩ := Option.map_eq_some_iff.1 info28
      rw [hi]
      simp only [Prod.mk.injEq] at hq
      show some i.size = _
      rw [hq.2.1]
      rfl) (Nat.le_refl 8) (by simp [Value.oneCell'])
  obtain ⟨cur, h1, h2, h3⟩ := setCells_row (g := g) [.string f0, .int .i64 f1, .int .i64 f2, .int .i64 f3, .int .i64 f4, .int .i64 f5, .string f6, .slice A7 n7 c7] 0 w _ hb (Nat.le_refl 8)
  obtain ⟨s1, s2, s3, s4⟩ := setCells_same g [.string f0, .int .i64 f1, .int .i64 f2, .int .i64 f3, .int .i64 f4, .int .i64 f5, .string f6, .slice A7 n7 c7] 0 w
  have hcur : cur = #[.string f0, .int .i64 f1, .int .i64 f2, .int .i64 f3, .int .i64 f4, .int .i64 f5, .string f6, .slice A7 n7 c7] := Array.ext' h3
  subst hcur
  refine wpListIn_plain hg fun K hKK => ?_
  unfold Oper.wpIn
  refine ⟨by simp [Oper.about, hop], ?_⟩
  rw [Oper.semAt_plain F _ _ (by rw [hop]; intro c hc; cases hc)]
  unfold execOp
  simp only [hop, hp, hx, Sem.run_bind, Sem.run_pure, Result.andThen_ok, hrun]
  show K (a.put o.dst undef) _
  rw [hd]
  exact hKK _ _ (hK _ h1 ⟨s1, s2, s3, Nat.le_of_eq s4.symm, fun k _ hk => setCells_far _ 0 k (fun e => hk (by rw [e]))⟩)
end Go.Proofs.YtfkbmjfhakooiaaGreatDoor.TR

/- What tree.Walk goes over. Conditions: none. -/
namespace Go.Proofs.YtfkbmjfhakooiaaGreatDoor.TR
open Go.RowKit Go.Proofs.YtfkbmjfhakooiaaGreatDoor.PTree Go.Proofs.YtfkbmjfhakooiaaGreatDoorW.PrintWords Go.Proofs.YtfkbmjfhakooiaaGreatDoorW.PrintLast Go.Proofs.YtfkbmjfhakooiaaGreatDoorW.PrintMore
set_option linter.unusedVariables false
def goneB (p : ByteArray) (x : S28) : Bool := p.toList == [] || x.f0.toList == p.toList || decide (PM.AboveP p x.f0)
end Go.Proofs.YtfkbmjfhakooiaaGreatDoor.TR

/- tree.Walk$1, the iterator, and its contract. Conditions: as each theorem says. -/
namespace Go.Proofs.YtfkbmjfhakooiaaGreatDoor.TR
open Go.RowKit Go.Shelf Go.Proofs.YtfkbmjfhakooiaaGreatDoor.PTree Go.Proofs.YtfkbmjfhakooiaaGreatDoorW.PrintWords Go.Proofs.YtfkbmjfhakooiaaGreatDoorW.PrintLast Go.Proofs.YtfkbmjfhakooiaaGreatDoorW.PrintMore
attribute [local go_sem] Oper.semAt_some
set_option linter.unusedVariables false
set_option linter.unusedSimpArgs false
/-- An entry, and where its bytes lie. -/
abbrev EntX := S28 × Option Addr × Nat
def encX (x : EntX) : Array Value := #[.agg #[.string x.1.f0, .int .i64 x.1.f1, .int .i64 x.1.f2, .int .i64 x.1.f3, .int .i64 x.1.f4, .int .i64 x.1.f5, .string x.1.f6, .slice x.2.1 x.1.f7.length x.2.2]]
/-- What a round keeps: the blocks of KS that lay in w. -/
def KpX (w : World) (KS : Nat → Prop) (X Y : World) : Prop := ∀ k, KS k → k < w.heap.size → Y.heap[k]? = X.heap[k]?
/-- What is known of a round's entry. -/
def XpX (l : List S28) (pre : List EntX) (x : EntX) (W0 W1 : World) : Prop := l[pre.length]? = some x.1 ∧ Kd.R (Kd.int .u8) 5 W1 W0.heap.size (fun _ => True) (.slice x.2.1 x.1.f7.length x.2.2) x.1.f7
set_option maxHeartbeats 8000000 in
set_option maxRecDepth 100000 in
theorem walk1_seq (n : Nat) (hn1 : 2 ≤ n) (l : List S28) (A : Option Addr) (c b base : Nat) (ok KS : Nat → Prop) (w : World) (hb : w.heap[b]? = some (.cells #[.slice A l.length c] 22 (0, 0))) (hS : Kd.S k28 28 w base ok (.slice A l.length c) l) (hn : l.length ≤ 1000000) (hd : ∀ x ∈ l, x.f7.length ≤ 1000000000000)
    (hkb : KS b) (hko : ∀ k, ok k → KS k) (hkg : ∀ W, (∀ k, KS k → k < w.heap.size → W.heap[k]? = w.heap[k]?) → Gl W) :
    SeqX Fence.wide n Tryz.prog 35 #[.pointer (some ⟨b, 0, none⟩)] encX (KpX w KS) (XpX l) (fun xs => xs.map (·.1) = l) (fun pre => pre.map (·.1) <+: l) l.length w := by
  intro lp J Jx W hW hJ0 hY
  have hu31 := Tryz.underlying28
  have HS := Aside0.mk hS
  have HN := Aside0.mk hn
  have HDD := Aside0.mk hd
  have HKO := Aside0.mk hko
  have HKG := Aside0.mk hkg
  have hbW := (hW.block b (Array.getElem?_eq_some_iff.1 hb).1).trans hb
  have hc0 : W.cell? ⟨b, 0, none⟩ = some (.slice A l.length c) := blk_cell hbW 0
  have HJ := Aside0.mk hJ0
  have HKK := Aside0.mk (fun (k : Nat) (_ : KS k) (hk : k < w.heap.size) => hW.block k hk)
  clear hS hn hd hko hkg hJ0 hW hb hbW
  refine callsIn_wide.2 ?_
  go_enter Tryz.func35, Tryz.ntmps35
  go_wp2
  clear hc0
  go_loopg [7] (l.length + 1) (fun kq v7 w' => ∃ (i : Int) (pre : List EntX), v7 = .int .i64 i ∧ Aside0 (0 ≤ i ∧ i ≤ (l.length : Int) ∧ (kq : Int) = (l.length : Int) + 1 - i) ∧ Aside0 (pre.map (·.1) = l.take i.toNat) ∧ Aside0 (J pre w') ∧ Aside0 (∀ k, KS k → k < w.heap.size → w'.heap[k]? = w.heap[k]?))
  case atStart => exact ⟨0, [], rfl, ⟨by omega, by omega, by omega⟩, ⟨rfl⟩, HJ, HKK⟩
  case round =>
    clear HJ HKK
    obtain ⟨i, pre, rfl, HI, HP, HJ, HKK⟩ := hrel
    cases gk with
    | zero => exact absurd HI.out (fun h => by omega)
    | succ k1 =>
      by_cases c2 : i < (l.length : Int)
      · have C2 := Aside0.mk c2
        have HSr := Aside0.mk (Kd.S_step HS.out (fun k hk hlt => HKK.out k (HKO.out k hk) hlt))
        have HG := Aside0.mk (HKG.out wr HKK.out)
        obtain ⟨ad, A7, c7, eA, x0, x1, x2, x3, x4, x5, x6, x7, hl7, hi7⟩ := at_T28 (Kd.S_reads' HSr.out).2.2 i HI.out.1 c2
        cases eA
        have HL7 := Aside0.mk hl7
        have HI7 := Aside0.mk hi7
        have HX := Aside0.mk (show l[pre.length]? = some (rd_T28 l i) from (by
          have h1 := HP.out
          have h2 := congrArg List.length h1
          have h3 := C2.out
          have h4 := HI.out.1
          rw [List.length_map, List.length_take] at h2
          have h5 : pre.length = i.toNat := by omega
          have h6 : i.toNat < l.length := by omega
          rw [h5, List.getElem?_eq_getElem h6]
          unfold rd_T28
          rw [List.getD_eq_getElem?_getD, List.getElem?_eq_getElem h6]
          rfl))
        clear hl7 hi7
        have hi0 := HI.out.1
        have p210 := eq_true hi0
        have q210 := eq_true c2
        clear hi0
        have HCO := Aside0.mk (show tree_copied.f (rd_T28 l i).f0 (rd_T28 l i).f1 (rd_T28 l i).f2 (rd_T28 l i).f3 (rd_T28 l i).f4 (rd_T28 l i).f5 (rd_T28 l i).f6 (rd_T28 l i).f7 = some ((rd_T28 l i).f0, (rd_T28 l i).f1, (rd_T28 l i).f2, (rd_T28 l i).f3, (rd_T28 l i).f4, (rd_T28 l i).f5, (rd_T28 l i).f6, (rd_T28 l i).f7) from (by
          unfold tree_copied.f bytes_Clone.f
          rw [if_pos (HDD.out (rd_T28 l i) (by
            unfold rd_T28
            have h2 : i.toNat < l.length := by have := C2.out; have := HI.out.1; omega
            rw [List.getD_eq_getElem?_getD, List.getElem?_eq_getElem h2]
            exact List.getElem_mem h2))]
          rfl))
        go_upto_region 3 with (first | ((with_reducible refine gate_dst (N := 4) rfl ?_); refine box_event ?hg (N := 4) ?hd (cs := #[.string (⟨#[]⟩ : ByteArray), .int .i64 0, .int .i64 0, .int .i64 0, .int .i64 0, .int .i64 0, .string (⟨#[]⟩ : ByteArray), .slice none 0 0]) (t := 28) ?hr ?_; (case hd => rfl); (case hg => rfl); (case hr => first | (go_simp; done) | (go_simp; rfl)); intro g4 hg w5 hbox hb; have HZ5 := Aside0.mk hb; have K5 := Aside0.mk hbox; have G5 := Aside0.mk (show wr.heap.size ≤ g4 by rw [hg]; exact Nat.le_refl _); clear hb hbox hg) | ((with_reducible refine gate_store (t := 28) (p := 4) (v := .tmp 10) rfl ?_); refine ev_set31 _ rfl (.tmp 4) (.tmp 10) rfl rfl g4 _ _ _ _ _ _ _ _ (rd_T28 l i).f0 (rd_T28 l i).f6 (rd_T28 l i).f1 (rd_T28 l i).f2 (rd_T28 l i).f3 (rd_T28 l i).f4 (rd_T28 l i).f5 A7 (rd_T28 l i).f7.length c7 rfl rfl K5.out (fun w6 b1 b2 => ?_); have HZ6 := Aside0.mk (below_row_ HZ5.out b2 G5.out); have y0 : w6.cell? ⟨g4, 0, none⟩ = some (.string (rd_T28 l i).f0) := blk_cell b1 0; have y1 : w6.cell? ⟨g4, 1, none⟩ = some (.int .i64 (rd_T28 l i).f1) := blk_cell b1 1; have y2 : w6.cell? ⟨g4, 2, none⟩ = some (.int .i64 (rd_T28 l i).f2) := blk_cell b1 2; have y3 : w6.cell? ⟨g4, 3, none⟩ = some (.int .i64 (rd_T28 l i).f3) := blk_cell b1 3; have y4 : w6.cell? ⟨g4, 4, none⟩ = some (.int .i64 (rd_T28 l i).f4) := blk_cell b1 4; have y5 : w6.cell? ⟨g4, 5, none⟩ = some (.int .i64 (rd_T28 l i).f5) := blk_cell b1 5; have y6 : w6.cell? ⟨g4, 6, none⟩ = some (.string (rd_T28 l i).f6) := blk_cell b1 6; have y7 : w6.cell? ⟨g4, 7, none⟩ = some (.slice A7 (rd_T28 l i).f7.length c7) := blk_cell b1 7; clear b1 b2))
        refine (wpIn_wide (n := n)).1 ?_
        have hn2 : 1 ≤ n := by omega
        gi_wp2_with (refine ⟨trivial, ?_⟩; gi_at_call 28; refine (callsIn_wide.2 (tree_copied.calls (rd_T28 l i).f0 (rd_T28 l i).f1 (rd_T28 l i).f2 (rd_T28 l i).f3 (rd_T28 l i).f4 (rd_T28 l i).f5 (rd_T28 l i).f6 A7 c7 (rd_T28 l i).f7 (rd_T28 l i).f0 (rd_T28 l i).f1 (rd_T28 l i).f2 (rd_T28 l i).f3 (rd_T28 l i).f4 (rd_T28 l i).f5 (rd_T28 l i).f6 (rd_T28 l i).f7 _ (Kd.C_below HI7.out HZ6.out) HL7.out (HG.out.of HZ6.out) HCO.out)).mono ?_; rintro e w7 ⟨v7, rfl, ho, hb⟩; have HZ7 := Aside0.mk (below_step HZ6.out hb); have HD := Aside0.mk (Kd.R_lower ho (show wr.heap.size ≤ w6.heap.size from below_size HZ6.out)); obtain ⟨Ao, co, eo⟩ := Kd.R_slice ho; subst eo; obtain ⟨fn, tmps, assign, body, hy, hRR⟩ := hY pre ((rd_T28 l i), Ao, co) wr w7 HJ.out HZ7.out (by have h1 := HP.out; have h2 := congrArg List.length h1; rw [List.length_map, List.length_take] at h2; have := C2.out; have := HI.out.1; omega) ⟨HX.out, HD.out⟩; have HRR := Aside0.mk hRR; dsimp only [encX] at hy; clear ho hb hRR y0 y1 y2 y3 y4 y5 y6 y7)
        refine HRR.out.mono ?_
        rintro e W3 (⟨rfl, hJ3, hk3⟩ | ⟨rfl, hJx3⟩)
        · have HJ3 := Aside0.mk hJ3
          have HK3 := Aside0.mk hk3
          clear hJ3 hk3
          gi_wp2
          go_wp2
          go_roundg k1
          case measure => omega
          case rel => exact ⟨i + 1, pre ++ [((rd_T28 l i), Ao, co)], by rw [wr_in _ (by have h1 := HI.out; have h2 := HN.out; have h3 := C2.out; omega)], ⟨by have := HI.out; have := C2.out; omega⟩, ⟨by rw [take_rd l i HI.out.1 C2.out, List.map_append, HP.out]; rfl⟩, HJ3, ⟨fun k hk hlt => (HK3.out k hk hlt).trans (HKK.out k hk hlt)⟩⟩
        · have HJ3 := Aside0.mk hJx3
          clear hJx3
          gi_wp2
          go_wp2
          refine bodyPost_ret (results_none rfl _ _ _) rfl ?_
          exact ⟨⟨_, rfl⟩, .inr ⟨_, by rw [List.map_append, HP.out]; exact ⟨l.drop (i + 1).toNat, by show l.take i.toNat ++ [rd_T28 l i] ++ _ = l; rw [← take_rd l i HI.out.1 C2.out, List.take_append_drop]⟩, HJ3.out⟩⟩
      · have e1 : l.take i.toNat = l := List.take_of_length_le (by have := HI.out; omega)
        rw [e1] at HP
        clear e1
        go_wp2
        go_end0
        exact ⟨⟨_, rfl⟩, .inl ⟨pre, HP.out, HJ.out⟩⟩
end Go.Proofs.YtfkbmjfhakooiaaGreatDoor.TR

/- tree.Walk, walked. Conditions: as each theorem says. -/
namespace Go.Proofs.YtfkbmjfhakooiaaGreatDoor.TR
open Go.RowKit Go.Proofs.YtfkbmjfhakooiaaGreatDoor.PTree Go.Proofs.YtfkbmjfhakooiaaGreatDoorW.PrintWords Go.Proofs.YtfkbmjfhakooiaaGreatDoorW.PrintLast Go.Proofs.YtfkbmjfhakooiaaGreatDoorW.PrintMore
set_option linter.unusedVariables false
set_option linter.unusedSimpArgs false
theorem boxed_below {W W1 : World} {b t : Nat} {v : Value} (h : Boxed W b t v) (hb : Below W.heap.size W W1) : Boxed W1 b t v := (hb.block b h.lt).trans h
set_option maxHeartbeats 8000000 in
set_option maxRecDepth 100000 in
theorem Walk_calls (K : Nat) (hK : 500 ≤ K) (l0 : List S28) (p : ByteArray) (A0 : Option Addr) (k0 : Nat) (w : World) (hGl : Gl w) (h0 : Kd.C k28 w A0 l0.length l0) (hn : l0.length ≤ 1000000) (hd : ∀ x ∈ l0, x.f7.length ≤ 1000000000000) :
    Calls Tryz.prog 15 #[.slice A0 l0.length k0, .string p] w fun e w' => ∃ b A c, e = .returned (.func (.func 35) #[] #[.pointer (some ⟨b, 0, none⟩)]) ∧ Boxed w' b 22 (.slice A (l0.filter (goneB p)).length c) ∧ Kd.S k28 28 w' w.heap.size (fun k => k ≠ b) (.slice A (l0.filter (goneB p)).length c) (l0.filter (goneB p)) ∧ w.heap.size ≤ b ∧ Below w.heap.size w w' := by
  have hu31 := Tryz.underlying28
  have hu22 := Tryz.underlying22
  have HK := Aside0.mk hK
  have H0 := Aside0.mk h0
  have HN := Aside0.mk hn
  have HDD := Aside0.mk hd
  have HGL := Aside0.mk hGl
  clear h0 hn hd hGl hK
  go_enter Tryz.func15, Tryz.ntmps15
  go_upto_region 2 with ((with_reducible refine gate_dst (N := 5) rfl ?_); refine box_event ?hg (N := 5) ?hd (cs := #[.slice none 0 0]) (t := 22) ?hr ?_; (case hd => rfl); (case hg => rfl); (case hr => first | (go_simp; done) | (go_simp; rfl)); intro b hg w1 hbox hb; have HB := Aside0.mk hb; have HBX := Aside0.mk (show Boxed w1 b 22 (.slice none 0 0) from hbox); have HBS := Aside0.mk (show w.heap.size ≤ b by rw [hg]; exact Nat.le_refl _); clear hb hbox hg)
  go_wp2
  go_loopg [10] (l0.length + 1) (fun kq v10 w' => ∃ (i : Int) (v3 : Value), v10 = .int .i64 i ∧ Aside0 (0 ≤ i ∧ i ≤ (l0.length : Int) ∧ (kq : Int) = (l0.length : Int) + 1 - i) ∧ Aside0 (Boxed w' b 22 v3) ∧ Aside0 (Kd.S k28 28 w' w.heap.size (fun k => k ≠ b) v3 ((l0.take i.toNat).filter (goneB p))) ∧ Aside0 (Below w.heap.size w w'))
  case atStart => exact ⟨0, _, rfl, ⟨by omega, by omega, by omega⟩, HBX, ⟨Kd.S_nil _ _ _ _ _⟩, HB⟩
  case round =>
    clear HB HBX
    obtain ⟨i, v3, rfl, HI, HBX, HO, HB⟩ := hrel
    cases gk with
    | zero => exact absurd HI.out (fun h => by omega)
    | succ k1 =>
      by_cases c2 : i < (l0.length : Int)
      · have C2 := Aside0.mk c2
        obtain ⟨ad, A7, c7, eA, x0, x1, x2, x3, x4, x5, x6, x7, hl7, hi7⟩ := at_T28 H0.out i HI.out.1 c2
        cases eA
        have HL7 := Aside0.mk hl7
        have HI7 := Aside0.mk (Kd.C_below hi7 HB.out)
        clear hl7 hi7
        replace x0 := (HB.out.cell (World.block_lt_of_cell? w _ x0)).trans x0
        replace x1 := (HB.out.cell (World.block_lt_of_cell? w _ x1)).trans x1
        replace x2 := (HB.out.cell (World.block_lt_of_cell? w _ x2)).trans x2
        replace x3 := (HB.out.cell (World.block_lt_of_cell? w _ x3)).trans x3
        replace x4 := (HB.out.cell (World.block_lt_of_cell? w _ x4)).trans x4
        replace x5 := (HB.out.cell (World.block_lt_of_cell? w _ x5)).trans x5
        replace x6 := (HB.out.cell (World.block_lt_of_cell? w _ x6)).trans x6
        replace x7 := (HB.out.cell (World.block_lt_of_cell? w _ x7)).trans x7
        have hi0 := HI.out.1
        have p210 := eq_true hi0
        have q210 := eq_true c2
        clear hi0
        have HZ := Aside0.mk (Below.refl wr.heap.size wr)
        have HCO := Aside0.mk (show tree_copied.f (rd_T28 l0 i).f0 (rd_T28 l0 i).f1 (rd_T28 l0 i).f2 (rd_T28 l0 i).f3 (rd_T28 l0 i).f4 (rd_T28 l0 i).f5 (rd_T28 l0 i).f6 (rd_T28 l0 i).f7 = some ((rd_T28 l0 i).f0, (rd_T28 l0 i).f1, (rd_T28 l0 i).f2, (rd_T28 l0 i).f3, (rd_T28 l0 i).f4, (rd_T28 l0 i).f5, (rd_T28 l0 i).f6, (rd_T28 l0 i).f7) from (by
          unfold tree_copied.f bytes_Clone.f
          rw [if_pos (HDD.out (rd_T28 l0 i) (by
            unfold rd_T28
            have h2 : i.toNat < l0.length := by have := C2.out; have := HI.out.1; omega
            rw [List.getD_eq_getElem?_getD, List.getElem?_eq_getElem h2]
            exact List.getElem_mem h2))]
          rfl))
        have hin := HI.out
        by_cases cp : p.toList = []
        · have HGO := Aside0.mk (show goneB p (rd_T28 l0 i) = true by unfold goneB; rw [cp]; rfl)
          have d1 : p.toList.isEmpty = true := by rw [cp]; rfl
          have d2 : (p.toList == []) = true := by rw [cp]; rfl
          clear cp hin
          go_upto_region 6 with (first | ((with_reducible refine gate_dst (N := 7) rfl ?_); refine box_event ?hg (N := 7) ?hd (cs := #[.string (⟨#[]⟩ : ByteArray), .int .i64 0, .int .i64 0, .int .i64 0, .int .i64 0, .int .i64 0, .string (⟨#[]⟩ : ByteArray), .slice none 0 0]) (t := 28) ?hr ?_; (case hd => rfl); (case hg => rfl); (case hr => first | (go_simp; done) | (go_simp; rfl)); intro g7 hg w5 hbox hb; have HZ5 := Aside0.mk (below_step HZ.out hb); have K5 := Aside0.mk hbox; have G5 := Aside0.mk (show wr.heap.size ≤ g7 by rw [hg]; exact below_size HZ.out); clear hb hbox hg) | ((with_reducible refine gate_store (t := 28) (p := 7) (v := .tmp 13) rfl ?_); refine ev_set31 _ rfl (.tmp 7) (.tmp 13) rfl rfl g7 _ _ _ _ _ _ _ _ (rd_T28 l0 i).f0 (rd_T28 l0 i).f6 (rd_T28 l0 i).f1 (rd_T28 l0 i).f2 (rd_T28 l0 i).f3 (rd_T28 l0 i).f4 (rd_T28 l0 i).f5 A7 (rd_T28 l0 i).f7.length c7 rfl rfl K5.out (fun w6 b1 b2 => ?_); have HZ6 := Aside0.mk (below_row_ HZ5.out b2 G5.out); have y0 : w6.cell? ⟨g7, 0, none⟩ = some (.string (rd_T28 l0 i).f0) := blk_cell b1 0; have y1 : w6.cell? ⟨g7, 1, none⟩ = some (.int .i64 (rd_T28 l0 i).f1) := blk_cell b1 1; have y2 : w6.cell? ⟨g7, 2, none⟩ = some (.int .i64 (rd_T28 l0 i).f2) := blk_cell b1 2; have y3 : w6.cell? ⟨g7, 3, none⟩ = some (.int .i64 (rd_T28 l0 i).f3) := blk_cell b1 3; have y4 : w6.cell? ⟨g7, 4, none⟩ = some (.int .i64 (rd_T28 l0 i).f4) := blk_cell b1 4; have y5 : w6.cell? ⟨g7, 5, none⟩ = some (.int .i64 (rd_T28 l0 i).f5) := blk_cell b1 5; have y6 : w6.cell? ⟨g7, 6, none⟩ = some (.string (rd_T28 l0 i).f6) := blk_cell b1 6; have y7 : w6.cell? ⟨g7, 7, none⟩ = some (.slice A7 (rd_T28 l0 i).f7.length c7) := blk_cell b1 7; clear b1 b2))
          have HBQ := Aside0.mk (boxed_below HBX.out HZ6.out)
          have bq := HBQ.out.cell
          refine start_ (n := 6) (S := fun W' => Below w6.heap.size w6 W') (ds := [4, 5]) #[false, false, false, false, false, false] (by kernel_rfl) rfl rfl (below_drew1 (Below.refl _ _)) (fun hS0 => ?_)
          refine take_ (i := 0) (N := some 28) (v := v3) #[true, false, false, false, false, false] rfl rfl (by kernel_rfl) (fun _ _ _ h => h) (Or.inl ⟨by rfl, fun W2 h2 => ?_⟩) hS0 rfl ?_
          · have q0 := (h2.cell (World.block_lt_of_cell? _ _ bq)).trans bq
            go_simp
          simp only [Act.put, List.setIfInBounds_toArray, List.set_cons_zero, List.set_cons_succ]
          refine take_ (i := 1) (N := some 29) (v := .agg #[.string (rd_T28 l0 i).f0, .int .i64 (rd_T28 l0 i).f1, .int .i64 (rd_T28 l0 i).f2, .int .i64 (rd_T28 l0 i).f3, .int .i64 (rd_T28 l0 i).f4, .int .i64 (rd_T28 l0 i).f5, .string (rd_T28 l0 i).f6, .slice A7 (rd_T28 l0 i).f7.length c7]) #[true, true, false, false, false, false] rfl rfl (by kernel_rfl) (fun _ _ _ h => h) (Or.inl ⟨by rfl, fun W2 h2 => ?_⟩) hS0 rfl ?_
          · have z0 := (h2.cell (World.block_lt_of_cell? _ _ y0)).trans y0; have z1 := (h2.cell (World.block_lt_of_cell? _ _ y1)).trans y1; have z2 := (h2.cell (World.block_lt_of_cell? _ _ y2)).trans y2; have z3 := (h2.cell (World.block_lt_of_cell? _ _ y3)).trans y3; have z4 := (h2.cell (World.block_lt_of_cell? _ _ y4)).trans y4; have z5 := (h2.cell (World.block_lt_of_cell? _ _ y5)).trans y5; have z6 := (h2.cell (World.block_lt_of_cell? _ _ y6)).trans y6; have z7 := (h2.cell (World.block_lt_of_cell? _ _ y7)).trans y7
            go_simp
          simp only [Act.put, List.setIfInBounds_toArray, List.set_cons_zero, List.set_cons_succ]
          refine one_ (i := 2) (N := some 30) #[true, true, true, false, false, false] rfl rfl (by kernel_rfl) (by decide) (fun K_ hK_ => ?_)
          refine goes_ Tryz.func28 (by kernel_rfl) rfl #[.agg #[.string (rd_T28 l0 i).f0, .int .i64 (rd_T28 l0 i).f1, .int .i64 (rd_T28 l0 i).f2, .int .i64 (rd_T28 l0 i).f3, .int .i64 (rd_T28 l0 i).f4, .int .i64 (rd_T28 l0 i).f5, .string (rd_T28 l0 i).f6, .slice A7 (rd_T28 l0 i).f7.length c7]] (by rfl) rfl rfl (by first | rfl | (simp [Act.eval]; done)) ?_
          refine (tree_copied.calls (rd_T28 l0 i).f0 (rd_T28 l0 i).f1 (rd_T28 l0 i).f2 (rd_T28 l0 i).f3 (rd_T28 l0 i).f4 (rd_T28 l0 i).f5 (rd_T28 l0 i).f6 A7 c7 (rd_T28 l0 i).f7 (rd_T28 l0 i).f0 (rd_T28 l0 i).f1 (rd_T28 l0 i).f2 (rd_T28 l0 i).f3 (rd_T28 l0 i).f4 (rd_T28 l0 i).f5 (rd_T28 l0 i).f6 (rd_T28 l0 i).f7 _ (Kd.C_below HI7.out (below_step HZ6.out hS0)) HL7.out (HGL.out.of (below_step HB.out (below_step HZ6.out hS0))) HCO.out).mono ?_
          rintro e w7 ⟨v7, rfl, ho, hb⟩
          have hS7 := below_step hS0 hb
          have HD := Aside0.mk (Kd.R_lower ho (show wr.heap.size ≤ w6.drew.heap.size from below_size (below_step HZ6.out hS0)))
          obtain ⟨Ao, co, eo⟩ := Kd.R_slice ho
          subst eo
          clear ho
          refine ⟨_, rfl, hK_.out _ _ hS7 (fun _ => ?_)⟩
          clear hK_ K_
          simp only [Act.put, List.setIfInBounds_toArray, List.set_cons_zero, List.set_cons_succ]
          refine one_ (i := 3) (N := some 31) #[true, true, true, true, false, false] rfl rfl (by kernel_rfl) (by decide) (fun K_ hK_ => ?_)
          refine value_ (v := .slice (some ⟨w7.heap.size, 0, none⟩) 1 1) (w1 := w7.alloc (.cells #[.string (rd_T28 l0 i).f0, .int .i64 (rd_T28 l0 i).f1, .int .i64 (rd_T28 l0 i).f2, .int .i64 (rd_T28 l0 i).f3, .int .i64 (rd_T28 l0 i).f4, .int .i64 (rd_T28 l0 i).f5, .string (rd_T28 l0 i).f6, .slice Ao (rd_T28 l0 i).f7.length co] 28)) (by rfl) rfl (by first | (go_simp; done) | (go_simp; rfl)) ?_
          refine hK_.out _ _ (below_alloc hS7 _) (fun _ => ?_)
          clear hK_ K_
          simp only [Act.put, List.setIfInBounds_toArray, List.set_cons_zero, List.set_cons_succ]
          have hZ7 := below_step HZ6.out hS7
          refine last_ (i := 4) (N := some 32) #[true, true, true, true, true, false] rfl rfl (by kernel_rfl) (by decide) (fun K_ hK_ => ?_)
          refine Kd.S_append_step k28 (w0 := w) w.heap.size (by rfl) (.tmp 28) (.tmp 31) 22 28 (.agg #[.string (⟨#[]⟩ : ByteArray), .int .i64 0, .int .i64 0, .int .i64 0, .int .i64 0, .int .i64 0, .string (⟨#[]⟩ : ByteArray), .slice none 0 0]) 96 rfl Tryz.underlying22 info28 rfl (by decide) (by omega) v3 ((l0.take i.toNat).filter (goneB p)) (rd_T28 l0 i) [.string (rd_T28 l0 i).f0, .int .i64 (rd_T28 l0 i).f1, .int .i64 (rd_T28 l0 i).f2, .int .i64 (rd_T28 l0 i).f3, .int .i64 (rd_T28 l0 i).f4, .int .i64 (rd_T28 l0 i).f5, .string (rd_T28 l0 i).f6, .slice Ao (rd_T28 l0 i).f7.length co] (fun k => k ≠ b) (fun k_ => k_ ≠ b ∧ wr.heap.size ≤ k_) rfl rfl ?aP (fun k_ hk_ => ⟨hk_.1, fun e_ => by have := Kd.S_lt HO.out k_ e_.symm; omega⟩) (fun k_ hk_ => by have h1 := HBX.out.lt; have h2 := below_size hZ7; omega) ?aO ?aB ?aS ?aL ?_
          case aP => exact k28_mkM _ _ _ (rd_T28 l0 i) (Kd.R_lower (Kd.R_mono (Kd.R_bound HD.out) (fun k_ hk_ => ⟨by have h1 := HBX.out.lt; have h2 := hk_.2.1; omega, hk_.2.1⟩)) (below_size HB.out))
          case aO => exact Kd.S_mono (Kd.S_old HO.out hZ7) (fun k_ hk_ => ⟨hk_.1, fun h_ => by have := hk_.2; omega⟩)
          case aB => exact below_step HB.out hZ7
          case aS => exact below_size (below_step HB.out hZ7)
          case aL => have h1 := HN.out; have h2 := List.length_filter_le (goneB p) (l0.take i.toNat); rw [List.length_take] at h2; omega
          intro v11 w11 ho11 hb11 hg11 hat11
          obtain ⟨A11, c11, e11⟩ := Kd.S_slice ho11
          subst e11
          refine hK_.out _ _ ?_
          clear hK_ K_
          simp only [Act.put, List.setIfInBounds_toArray, List.set_cons_zero, List.set_cons_succ]
          have hb11x := Aside0.mk (show Boxed w11 b 22 v3 from Boxed.kept (boxed_below HBX.out hZ7) hg11 (fun e_ => (Kd.S_R HO.out).1 b e_.symm rfl))
          have bc := hb11x.out.cell
          have bf := hb11x.out.frozen
          refine last_ (i := 5) (N := none) #[true, true, true, true, true, true] rfl rfl (by kernel_rfl) (by decide) (fun K_ hK_ => ?_)
          refine skip_ (w1 := w11.setCell ⟨b, 0, none⟩ (.slice A11 ((l0.take i.toNat).filter (goneB p) ++ [(rd_T28 l0 i)]).length c11)) (by rfl) rfl (by first | (go_simp; done) | (go_simp; rfl)) ?_
          refine hK_.out _ _ ?_
          clear hK_ K_ bc bf
          refine done_ (by kernel_rfl) ?_
          go_wp2
          go_roundg k1
          case measure => omega
          case rel => exact ⟨i + 1, _, by rw [wr_in _ (by have h1 := HI.out; have h2 := HN.out; have h3 := C2.out; omega)], ⟨by have := HI.out; have := C2.out; omega⟩, ⟨hb11x.out.set _⟩, ⟨Kd.S_far (by rw [take_rd l0 i HI.out.1 C2.out, List.filter_append, List.filter_cons_of_pos HGO.out, List.filter_nil]; have e_ := ho11; rw [List.length_append, List.length_singleton] at e_; exact e_) (fun k hk => hk) _⟩, ⟨Below.setCell hb11 HBS.out _⟩⟩
        · have d1 : p.toList.isEmpty = false := by cases h : p.toList with | nil => exact absurd h cp | cons a b => rfl
          have d2 : (p.toList == []) = false := by rw [beq_eq_false_iff_ne]; exact cp
          by_cases cx : (rd_T28 l0 i).f0.toList = p.toList
          · have HGO := Aside0.mk (show goneB p (rd_T28 l0 i) = true by unfold goneB; rw [beq_iff_eq.mpr cx]; simp)
            have d3 : ((rd_T28 l0 i).f0.toList == p.toList) = true := beq_iff_eq.mpr cx
            clear cx cp hin
            go_upto_region 6 with (first | ((with_reducible refine gate_dst (N := 7) rfl ?_); refine box_event ?hg (N := 7) ?hd (cs := #[.string (⟨#[]⟩ : ByteArray), .int .i64 0, .int .i64 0, .int .i64 0, .int .i64 0, .int .i64 0, .string (⟨#[]⟩ : ByteArray), .slice none 0 0]) (t := 28) ?hr ?_; (case hd => rfl); (case hg => rfl); (case hr => first | (go_simp; done) | (go_simp; rfl)); intro g7 hg w5 hbox hb; have HZ5 := Aside0.mk (below_step HZ.out hb); have K5 := Aside0.mk hbox; have G5 := Aside0.mk (show wr.heap.size ≤ g7 by rw [hg]; exact below_size HZ.out); clear hb hbox hg) | ((with_reducible refine gate_store (t := 28) (p := 7) (v := .tmp 13) rfl ?_); refine ev_set31 _ rfl (.tmp 7) (.tmp 13) rfl rfl g7 _ _ _ _ _ _ _ _ (rd_T28 l0 i).f0 (rd_T28 l0 i).f6 (rd_T28 l0 i).f1 (rd_T28 l0 i).f2 (rd_T28 l0 i).f3 (rd_T28 l0 i).f4 (rd_T28 l0 i).f5 A7 (rd_T28 l0 i).f7.length c7 rfl rfl K5.out (fun w6 b1 b2 => ?_); have HZ6 := Aside0.mk (below_row_ HZ5.out b2 G5.out); have y0 : w6.cell? ⟨g7, 0, none⟩ = some (.string (rd_T28 l0 i).f0) := blk_cell b1 0; have y1 : w6.cell? ⟨g7, 1, none⟩ = some (.int .i64 (rd_T28 l0 i).f1) := blk_cell b1 1; have y2 : w6.cell? ⟨g7, 2, none⟩ = some (.int .i64 (rd_T28 l0 i).f2) := blk_cell b1 2; have y3 : w6.cell? ⟨g7, 3, none⟩ = some (.int .i64 (rd_T28 l0 i).f3) := blk_cell b1 3; have y4 : w6.cell? ⟨g7, 4, none⟩ = some (.int .i64 (rd_T28 l0 i).f4) := blk_cell b1 4; have y5 : w6.cell? ⟨g7, 5, none⟩ = some (.int .i64 (rd_T28 l0 i).f5) := blk_cell b1 5; have y6 : w6.cell? ⟨g7, 6, none⟩ = some (.string (rd_T28 l0 i).f6) := blk_cell b1 6; have y7 : w6.cell? ⟨g7, 7, none⟩ = some (.slice A7 (rd_T28 l0 i).f7.length c7) := blk_cell b1 7; clear b1 b2))
            have HBQ := Aside0.mk (boxed_below HBX.out HZ6.out)
            have bq := HBQ.out.cell
            refine start_ (n := 6) (S := fun W' => Below w6.heap.size w6 W') (ds := [4, 5]) #[false, false, false, false, false, false] (by kernel_rfl) rfl rfl (below_drew1 (Below.refl _ _)) (fun hS0 => ?_)
            refine take_ (i := 0) (N := some 28) (v := v3) #[true, false, false, false, false, false] rfl rfl (by kernel_rfl) (fun _ _ _ h => h) (Or.inl ⟨by rfl, fun W2 h2 => ?_⟩) hS0 rfl ?_
            · have q0 := (h2.cell (World.block_lt_of_cell? _ _ bq)).trans bq
              go_simp
            simp only [Act.put, List.setIfInBounds_toArray, List.set_cons_zero, List.set_cons_succ]
            refine take_ (i := 1) (N := some 29) (v := .agg #[.string (rd_T28 l0 i).f0, .int .i64 (rd_T28 l0 i).f1, .int .i64 (rd_T28 l0 i).f2, .int .i64 (rd_T28 l0 i).f3, .int .i64 (rd_T28 l0 i).f4, .int .i64 (rd_T28 l0 i).f5, .string (rd_T28 l0 i).f6, .slice A7 (rd_T28 l0 i).f7.length c7]) #[true, true, false, false, false, false] rfl rfl (by kernel_rfl) (fun _ _ _ h => h) (Or.inl ⟨by rfl, fun W2 h2 => ?_⟩) hS0 rfl ?_
            · have z0 := (h2.cell (World.block_lt_of_cell? _ _ y0)).trans y0; have z1 := (h2.cell (World.block_lt_of_cell? _ _ y1)).trans y1; have z2 := (h2.cell (World.block_lt_of_cell? _ _ y2)).trans y2; have z3 := (h2.cell (World.block_lt_of_cell? _ _ y3)).trans y3; have z4 := (h2.cell (World.block_lt_of_cell? _ _ y4)).trans y4; have z5 := (h2.cell (World.block_lt_of_cell? _ _ y5)).trans y5; have z6 := (h2.cell (World.block_lt_of_cell? _ _ y6)).trans y6; have z7 := (h2.cell (World.block_lt_of_cell? _ _ y7)).trans y7
              go_simp
            simp only [Act.put, List.setIfInBounds_toArray, List.set_cons_zero, List.set_cons_succ]
            refine one_ (i := 2) (N := some 30) #[true, true, true, false, false, false] rfl rfl (by kernel_rfl) (by decide) (fun K_ hK_ => ?_)
            refine goes_ Tryz.func28 (by kernel_rfl) rfl #[.agg #[.string (rd_T28 l0 i).f0, .int .i64 (rd_T28 l0 i).f1, .int .i64 (rd_T28 l0 i).f2, .int .i64 (rd_T28 l0 i).f3, .int .i64 (rd_T28 l0 i).f4, .int .i64 (rd_T28 l0 i).f5, .string (rd_T28 l0 i).f6, .slice A7 (rd_T28 l0 i).f7.length c7]] (by rfl) rfl rfl (by first | rfl | (simp [Act.eval]; done)) ?_
            refine (tree_copied.calls (rd_T28 l0 i).f0 (rd_T28 l0 i).f1 (rd_T28 l0 i).f2 (rd_T28 l0 i).f3 (rd_T28 l0 i).f4 (rd_T28 l0 i).f5 (rd_T28 l0 i).f6 A7 c7 (rd_T28 l0 i).f7 (rd_T28 l0 i).f0 (rd_T28 l0 i).f1 (rd_T28 l0 i).f2 (rd_T28 l0 i).f3 (rd_T28 l0 i).f4 (rd_T28 l0 i).f5 (rd_T28 l0 i).f6 (rd_T28 l0 i).f7 _ (Kd.C_below HI7.out (below_step HZ6.out hS0)) HL7.out (HGL.out.of (below_step HB.out (below_step HZ6.out hS0))) HCO.out).mono ?_
            rintro e w7 ⟨v7, rfl, ho, hb⟩
            have hS7 := below_step hS0 hb
            have HD := Aside0.mk (Kd.R_lower ho (show wr.heap.size ≤ w6.drew.heap.size from below_size (below_step HZ6.out hS0)))
            obtain ⟨Ao, co, eo⟩ := Kd.R_slice ho
            subst eo
            clear ho
            refine ⟨_, rfl, hK_.out _ _ hS7 (fun _ => ?_)⟩
            clear hK_ K_
            simp only [Act.put, List.setIfInBounds_toArray, List.set_cons_zero, List.set_cons_succ]
            refine one_ (i := 3) (N := some 31) #[true, true, true, true, false, false] rfl rfl (by kernel_rfl) (by decide) (fun K_ hK_ => ?_)
            refine value_ (v := .slice (some ⟨w7.heap.size, 0, none⟩) 1 1) (w1 := w7.alloc (.cells #[.string (rd_T28 l0 i).f0, .int .i64 (rd_T28 l0 i).f1, .int .i64 (rd_T28 l0 i).f2, .int .i64 (rd_T28 l0 i).f3, .int .i64 (rd_T28 l0 i).f4, .int .i64 (rd_T28 l0 i).f5, .string (rd_T28 l0 i).f6, .slice Ao (rd_T28 l0 i).f7.length co] 28)) (by rfl) rfl (by first | (go_simp; done) | (go_simp; rfl)) ?_
            refine hK_.out _ _ (below_alloc hS7 _) (fun _ => ?_)
            clear hK_ K_
            simp only [Act.put, List.setIfInBounds_toArray, List.set_cons_zero, List.set_cons_succ]
            have hZ7 := below_step HZ6.out hS7
            refine last_ (i := 4) (N := some 32) #[true, true, true, true, true, false] rfl rfl (by kernel_rfl) (by decide) (fun K_ hK_ => ?_)
            refine Kd.S_append_step k28 (w0 := w) w.heap.size (by rfl) (.tmp 28) (.tmp 31) 22 28 (.agg #[.string (⟨#[]⟩ : ByteArray), .int .i64 0, .int .i64 0, .int .i64 0, .int .i64 0, .int .i64 0, .string (⟨#[]⟩ : ByteArray), .slice none 0 0]) 96 rfl Tryz.underlying22 info28 rfl (by decide) (by omega) v3 ((l0.take i.toNat).filter (goneB p)) (rd_T28 l0 i) [.string (rd_T28 l0 i).f0, .int .i64 (rd_T28 l0 i).f1, .int .i64 (rd_T28 l0 i).f2, .int .i64 (rd_T28 l0 i).f3, .int .i64 (rd_T28 l0 i).f4, .int .i64 (rd_T28 l0 i).f5, .string (rd_T28 l0 i).f6, .slice Ao (rd_T28 l0 i).f7.length co] (fun k => k ≠ b) (fun k_ => k_ ≠ b ∧ wr.heap.size ≤ k_) rfl rfl ?aP (fun k_ hk_ => ⟨hk_.1, fun e_ => by have := Kd.S_lt HO.out k_ e_.symm; omega⟩) (fun k_ hk_ => by have h1 := HBX.out.lt; have h2 := below_size hZ7; omega) ?aO ?aB ?aS ?aL ?_
            case aP => exact k28_mkM _ _ _ (rd_T28 l0 i) (Kd.R_lower (Kd.R_mono (Kd.R_bound HD.out) (fun k_ hk_ => ⟨by have h1 := HBX.out.lt; have h2 := hk_.2.1; omega, hk_.2.1⟩)) (below_size HB.out))
            case aO => exact Kd.S_mono (Kd.S_old HO.out hZ7) (fun k_ hk_ => ⟨hk_.1, fun h_ => by have := hk_.2; omega⟩)
            case aB => exact below_step HB.out hZ7
            case aS => exact below_size (below_step HB.out hZ7)
            case aL => have h1 := HN.out; have h2 := List.length_filter_le (goneB p) (l0.take i.toNat); rw [List.length_take] at h2; omega
            intro v11 w11 ho11 hb11 hg11 hat11
            obtain ⟨A11, c11, e11⟩ := Kd.S_slice ho11
            subst e11
            refine hK_.out _ _ ?_
            clear hK_ K_
            simp only [Act.put, List.setIfInBounds_toArray, List.set_cons_zero, List.set_cons_succ]
            have hb11x := Aside0.mk (show Boxed w11 b 22 v3 from Boxed.kept (boxed_below HBX.out hZ7) hg11 (fun e_ => (Kd.S_R HO.out).1 b e_.symm rfl))
            have bc := hb11x.out.cell
            have bf := hb11x.out.frozen
            refine last_ (i := 5) (N := none) #[true, true, true, true, true, true] rfl rfl (by kernel_rfl) (by decide) (fun K_ hK_ => ?_)
            refine skip_ (w1 := w11.setCell ⟨b, 0, none⟩ (.slice A11 ((l0.take i.toNat).filter (goneB p) ++ [(rd_T28 l0 i)]).length c11)) (by rfl) rfl (by first | (go_simp; done) | (go_simp; rfl)) ?_
            refine hK_.out _ _ ?_
            clear hK_ K_ bc bf
            refine done_ (by kernel_rfl) ?_
            go_wp2
            go_roundg k1
            case measure => omega
            case rel => exact ⟨i + 1, _, by rw [wr_in _ (by have h1 := HI.out; have h2 := HN.out; have h3 := C2.out; omega)], ⟨by have := HI.out; have := C2.out; omega⟩, ⟨hb11x.out.set _⟩, ⟨Kd.S_far (by rw [take_rd l0 i HI.out.1 C2.out, List.filter_append, List.filter_cons_of_pos HGO.out, List.filter_nil]; have e_ := ho11; rw [List.length_append, List.length_singleton] at e_; exact e_) (fun k hk => hk) _⟩, ⟨Below.setCell hb11 HBS.out _⟩⟩
          · have d3 : ((rd_T28 l0 i).f0.toList == p.toList) = false := beq_eq_false_iff_ne.mpr cx
            by_cases ca : PM.AboveP p (rd_T28 l0 i).f0
            · have HGO := Aside0.mk (show goneB p (rd_T28 l0 i) = true by unfold goneB; rw [decide_eq_true ca]; simp)
              have HAB := Aside0.mk (show path_Above.f K p (rd_T28 l0 i).f0 = some true by rw [PM.above_f _ _ K HK.out, decide_eq_true ca])
              clear cx cp ca hin
              go_upto_region 6 with (first | ((with_reducible refine gate_dst (N := 7) rfl ?_); refine box_event ?hg (N := 7) ?hd (cs := #[.string (⟨#[]⟩ : ByteArray), .int .i64 0, .int .i64 0, .int .i64 0, .int .i64 0, .int .i64 0, .string (⟨#[]⟩ : ByteArray), .slice none 0 0]) (t := 28) ?hr ?_; (case hd => rfl); (case hg => rfl); (case hr => first | (go_simp; done) | (go_simp; rfl)); intro g7 hg w5 hbox hb; have HZ5 := Aside0.mk (below_step HZ.out hb); have K5 := Aside0.mk hbox; have G5 := Aside0.mk (show wr.heap.size ≤ g7 by rw [hg]; exact below_size HZ.out); clear hb hbox hg) | ((with_reducible refine gate_store (t := 28) (p := 7) (v := .tmp 13) rfl ?_); refine ev_set31 _ rfl (.tmp 7) (.tmp 13) rfl rfl g7 _ _ _ _ _ _ _ _ (rd_T28 l0 i).f0 (rd_T28 l0 i).f6 (rd_T28 l0 i).f1 (rd_T28 l0 i).f2 (rd_T28 l0 i).f3 (rd_T28 l0 i).f4 (rd_T28 l0 i).f5 A7 (rd_T28 l0 i).f7.length c7 rfl rfl K5.out (fun w6 b1 b2 => ?_); have HZ6 := Aside0.mk (below_row_ HZ5.out b2 G5.out); have y0 : w6.cell? ⟨g7, 0, none⟩ = some (.string (rd_T28 l0 i).f0) := blk_cell b1 0; have y1 : w6.cell? ⟨g7, 1, none⟩ = some (.int .i64 (rd_T28 l0 i).f1) := blk_cell b1 1; have y2 : w6.cell? ⟨g7, 2, none⟩ = some (.int .i64 (rd_T28 l0 i).f2) := blk_cell b1 2; have y3 : w6.cell? ⟨g7, 3, none⟩ = some (.int .i64 (rd_T28 l0 i).f3) := blk_cell b1 3; have y4 : w6.cell? ⟨g7, 4, none⟩ = some (.int .i64 (rd_T28 l0 i).f4) := blk_cell b1 4; have y5 : w6.cell? ⟨g7, 5, none⟩ = some (.int .i64 (rd_T28 l0 i).f5) := blk_cell b1 5; have y6 : w6.cell? ⟨g7, 6, none⟩ = some (.string (rd_T28 l0 i).f6) := blk_cell b1 6; have y7 : w6.cell? ⟨g7, 7, none⟩ = some (.slice A7 (rd_T28 l0 i).f7.length c7) := blk_cell b1 7; clear b1 b2) | (go_at_call 34; refine (path_Above.calls K p (rd_T28 l0 i).f0 true _ (HGL.out.of (below_step HB.out HZ6.out)) HAB.out).mono ?_; rintro e w6b ⟨rfl, hb⟩; have HZ6b := Aside0.mk (below_step HZ6.out hb); have u0 := (hb.cell (World.block_lt_of_cell? w6 _ y0)).trans y0; have u1 := (hb.cell (World.block_lt_of_cell? w6 _ y1)).trans y1; have u2 := (hb.cell (World.block_lt_of_cell? w6 _ y2)).trans y2; have u3 := (hb.cell (World.block_lt_of_cell? w6 _ y3)).trans y3; have u4 := (hb.cell (World.block_lt_of_cell? w6 _ y4)).trans y4; have u5 := (hb.cell (World.block_lt_of_cell? w6 _ y5)).trans y5; have u6 := (hb.cell (World.block_lt_of_cell? w6 _ y6)).trans y6; have u7 := (hb.cell (World.block_lt_of_cell? w6 _ y7)).trans y7; clear hb y0 y1 y2 y3 y4 y5 y6 y7; have y0 := u0; have y1 := u1; have y2 := u2; have y3 := u3; have y4 := u4; have y5 := u5; have y6 := u6; have y7 := u7; clear u0 u1 u2 u3 u4 u5 u6 u7))
              have HBQ := Aside0.mk (boxed_below HBX.out HZ6b.out)
              have bq := HBQ.out.cell
              refine start_ (n := 6) (S := fun W' => Below w6b.heap.size w6b W') (ds := [4, 5]) #[false, false, false, false, false, false] (by kernel_rfl) rfl rfl (below_drew1 (Below.refl _ _)) (fun hS0 => ?_)
              refine take_ (i := 0) (N := some 28) (v := v3) #[true, false, false, false, false, false] rfl rfl (by kernel_rfl) (fun _ _ _ h => h) (Or.inl ⟨by rfl, fun W2 h2 => ?_⟩) hS0 rfl ?_
              · have q0 := (h2.cell (World.block_lt_of_cell? _ _ bq)).trans bq
                go_simp
              simp only [Act.put, List.setIfInBounds_toArray, List.set_cons_zero, List.set_cons_succ]
              refine take_ (i := 1) (N := some 29) (v := .agg #[.string (rd_T28 l0 i).f0, .int .i64 (rd_T28 l0 i).f1, .int .i64 (rd_T28 l0 i).f2, .int .i64 (rd_T28 l0 i).f3, .int .i64 (rd_T28 l0 i).f4, .int .i64 (rd_T28 l0 i).f5, .string (rd_T28 l0 i).f6, .slice A7 (rd_T28 l0 i).f7.length c7]) #[true, true, false, false, false, false] rfl rfl (by kernel_rfl) (fun _ _ _ h => h) (Or.inl ⟨by rfl, fun W2 h2 => ?_⟩) hS0 rfl ?_
              · have z0 := (h2.cell (World.block_lt_of_cell? _ _ y0)).trans y0; have z1 := (h2.cell (World.block_lt_of_cell? _ _ y1)).trans y1; have z2 := (h2.cell (World.block_lt_of_cell? _ _ y2)).trans y2; have z3 := (h2.cell (World.block_lt_of_cell? _ _ y3)).trans y3; have z4 := (h2.cell (World.block_lt_of_cell? _ _ y4)).trans y4; have z5 := (h2.cell (World.block_lt_of_cell? _ _ y5)).trans y5; have z6 := (h2.cell (World.block_lt_of_cell? _ _ y6)).trans y6; have z7 := (h2.cell (World.block_lt_of_cell? _ _ y7)).trans y7
                go_simp
              simp only [Act.put, List.setIfInBounds_toArray, List.set_cons_zero, List.set_cons_succ]
              refine one_ (i := 2) (N := some 30) #[true, true, true, false, false, false] rfl rfl (by kernel_rfl) (by decide) (fun K_ hK_ => ?_)
              refine goes_ Tryz.func28 (by kernel_rfl) rfl #[.agg #[.string (rd_T28 l0 i).f0, .int .i64 (rd_T28 l0 i).f1, .int .i64 (rd_T28 l0 i).f2, .int .i64 (rd_T28 l0 i).f3, .int .i64 (rd_T28 l0 i).f4, .int .i64 (rd_T28 l0 i).f5, .string (rd_T28 l0 i).f6, .slice A7 (rd_T28 l0 i).f7.length c7]] (by rfl) rfl rfl (by first | rfl | (simp [Act.eval]; done)) ?_
              refine (tree_copied.calls (rd_T28 l0 i).f0 (rd_T28 l0 i).f1 (rd_T28 l0 i).f2 (rd_T28 l0 i).f3 (rd_T28 l0 i).f4 (rd_T28 l0 i).f5 (rd_T28 l0 i).f6 A7 c7 (rd_T28 l0 i).f7 (rd_T28 l0 i).f0 (rd_T28 l0 i).f1 (rd_T28 l0 i).f2 (rd_T28 l0 i).f3 (rd_T28 l0 i).f4 (rd_T28 l0 i).f5 (rd_T28 l0 i).f6 (rd_T28 l0 i).f7 _ (Kd.C_below HI7.out (below_step HZ6b.out hS0)) HL7.out (HGL.out.of (below_step HB.out (below_step HZ6b.out hS0))) HCO.out).mono ?_
              rintro e w7 ⟨v7, rfl, ho, hb⟩
              have hS7 := below_step hS0 hb
              have HD := Aside0.mk (Kd.R_lower ho (show wr.heap.size ≤ w6b.drew.heap.size from below_size (below_step HZ6b.out hS0)))
              obtain ⟨Ao, co, eo⟩ := Kd.R_slice ho
              subst eo
              clear ho
              refine ⟨_, rfl, hK_.out _ _ hS7 (fun _ => ?_)⟩
              clear hK_ K_
              simp only [Act.put, List.setIfInBounds_toArray, List.set_cons_zero, List.set_cons_succ]
              refine one_ (i := 3) (N := some 31) #[true, true, true, true, false, false] rfl rfl (by kernel_rfl) (by decide) (fun K_ hK_ => ?_)
              refine value_ (v := .slice (some ⟨w7.heap.size, 0, none⟩) 1 1) (w1 := w7.alloc (.cells #[.string (rd_T28 l0 i).f0, .int .i64 (rd_T28 l0 i).f1, .int .i64 (rd_T28 l0 i).f2, .int .i64 (rd_T28 l0 i).f3, .int .i64 (rd_T28 l0 i).f4, .int .i64 (rd_T28 l0 i).f5, .string (rd_T28 l0 i).f6, .slice Ao (rd_T28 l0 i).f7.length co] 28)) (by rfl) rfl (by first | (go_simp; done) | (go_simp; rfl)) ?_
              refine hK_.out _ _ (below_alloc hS7 _) (fun _ => ?_)
              clear hK_ K_
              simp only [Act.put, List.setIfInBounds_toArray, List.set_cons_zero, List.set_cons_succ]
              have hZ7 := below_step HZ6b.out hS7
              refine last_ (i := 4) (N := some 32) #[true, true, true, true, true, false] rfl rfl (by kernel_rfl) (by decide) (fun K_ hK_ => ?_)
              refine Kd.S_append_step k28 (w0 := w) w.heap.size (by rfl) (.tmp 28) (.tmp 31) 22 28 (.agg #[.string (⟨#[]⟩ : ByteArray), .int .i64 0, .int .i64 0, .int .i64 0, .int .i64 0, .int .i64 0, .string (⟨#[]⟩ : ByteArray), .slice none 0 0]) 96 rfl Tryz.underlying22 info28 rfl (by decide) (by omega) v3 ((l0.take i.toNat).filter (goneB p)) (rd_T28 l0 i) [.string (rd_T28 l0 i).f0, .int .i64 (rd_T28 l0 i).f1, .int .i64 (rd_T28 l0 i).f2, .int .i64 (rd_T28 l0 i).f3, .int .i64 (rd_T28 l0 i).f4, .int .i64 (rd_T28 l0 i).f5, .string (rd_T28 l0 i).f6, .slice Ao (rd_T28 l0 i).f7.length co] (fun k => k ≠ b) (fun k_ => k_ ≠ b ∧ wr.heap.size ≤ k_) rfl rfl ?aP (fun k_ hk_ => ⟨hk_.1, fun e_ => by have := Kd.S_lt HO.out k_ e_.symm; omega⟩) (fun k_ hk_ => by have h1 := HBX.out.lt; have h2 := below_size hZ7; omega) ?aO ?aB ?aS ?aL ?_
              case aP => exact k28_mkM _ _ _ (rd_T28 l0 i) (Kd.R_lower (Kd.R_mono (Kd.R_bound HD.out) (fun k_ hk_ => ⟨by have h1 := HBX.out.lt; have h2 := hk_.2.1; omega, hk_.2.1⟩)) (below_size HB.out))
              case aO => exact Kd.S_mono (Kd.S_old HO.out hZ7) (fun k_ hk_ => ⟨hk_.1, fun h_ => by have := hk_.2; omega⟩)
              case aB => exact below_step HB.out hZ7
              case aS => exact below_size (below_step HB.out hZ7)
              case aL => have h1 := HN.out; have h2 := List.length_filter_le (goneB p) (l0.take i.toNat); rw [List.length_take] at h2; omega
              intro v11 w11 ho11 hb11 hg11 hat11
              obtain ⟨A11, c11, e11⟩ := Kd.S_slice ho11
              subst e11
              refine hK_.out _ _ ?_
              clear hK_ K_
              simp only [Act.put, List.setIfInBounds_toArray, List.set_cons_zero, List.set_cons_succ]
              have hb11x := Aside0.mk (show Boxed w11 b 22 v3 from Boxed.kept (boxed_below HBX.out hZ7) hg11 (fun e_ => (Kd.S_R HO.out).1 b e_.symm rfl))
              have bc := hb11x.out.cell
              have bf := hb11x.out.frozen
              refine last_ (i := 5) (N := none) #[true, true, true, true, true, true] rfl rfl (by kernel_rfl) (by decide) (fun K_ hK_ => ?_)
              refine skip_ (w1 := w11.setCell ⟨b, 0, none⟩ (.slice A11 ((l0.take i.toNat).filter (goneB p) ++ [(rd_T28 l0 i)]).length c11)) (by rfl) rfl (by first | (go_simp; done) | (go_simp; rfl)) ?_
              refine hK_.out _ _ ?_
              clear hK_ K_ bc bf
              refine done_ (by kernel_rfl) ?_
              go_wp2
              go_roundg k1
              case measure => omega
              case rel => exact ⟨i + 1, _, by rw [wr_in _ (by have h1 := HI.out; have h2 := HN.out; have h3 := C2.out; omega)], ⟨by have := HI.out; have := C2.out; omega⟩, ⟨hb11x.out.set _⟩, ⟨Kd.S_far (by rw [take_rd l0 i HI.out.1 C2.out, List.filter_append, List.filter_cons_of_pos HGO.out, List.filter_nil]; have e_ := ho11; rw [List.length_append, List.length_singleton] at e_; exact e_) (fun k hk => hk) _⟩, ⟨Below.setCell hb11 HBS.out _⟩⟩
            · have HGO := Aside0.mk (show ¬ goneB p (rd_T28 l0 i) = true by unfold goneB; rw [decide_eq_false ca, d2, d3]; simp)
              have HAB := Aside0.mk (show path_Above.f K p (rd_T28 l0 i).f0 = some false by rw [PM.above_f _ _ K HK.out, decide_eq_false ca])
              clear cx cp ca hin
              go_wp2_with (first | ((with_reducible refine gate_dst (N := 7) rfl ?_); refine box_event ?hg (N := 7) ?hd (cs := #[.string (⟨#[]⟩ : ByteArray), .int .i64 0, .int .i64 0, .int .i64 0, .int .i64 0, .int .i64 0, .string (⟨#[]⟩ : ByteArray), .slice none 0 0]) (t := 28) ?hr ?_; (case hd => rfl); (case hg => rfl); (case hr => first | (go_simp; done) | (go_simp; rfl)); intro g7 hg w5 hbox hb; have HZ5 := Aside0.mk (below_step HZ.out hb); have K5 := Aside0.mk hbox; have G5 := Aside0.mk (show wr.heap.size ≤ g7 by rw [hg]; exact below_size HZ.out); clear hb hbox hg) | ((with_reducible refine gate_store (t := 28) (p := 7) (v := .tmp 13) rfl ?_); refine ev_set31 _ rfl (.tmp 7) (.tmp 13) rfl rfl g7 _ _ _ _ _ _ _ _ (rd_T28 l0 i).f0 (rd_T28 l0 i).f6 (rd_T28 l0 i).f1 (rd_T28 l0 i).f2 (rd_T28 l0 i).f3 (rd_T28 l0 i).f4 (rd_T28 l0 i).f5 A7 (rd_T28 l0 i).f7.length c7 rfl rfl K5.out (fun w6 b1 b2 => ?_); have HZ6 := Aside0.mk (below_row_ HZ5.out b2 G5.out); have y0 : w6.cell? ⟨g7, 0, none⟩ = some (.string (rd_T28 l0 i).f0) := blk_cell b1 0; have y1 : w6.cell? ⟨g7, 1, none⟩ = some (.int .i64 (rd_T28 l0 i).f1) := blk_cell b1 1; have y2 : w6.cell? ⟨g7, 2, none⟩ = some (.int .i64 (rd_T28 l0 i).f2) := blk_cell b1 2; have y3 : w6.cell? ⟨g7, 3, none⟩ = some (.int .i64 (rd_T28 l0 i).f3) := blk_cell b1 3; have y4 : w6.cell? ⟨g7, 4, none⟩ = some (.int .i64 (rd_T28 l0 i).f4) := blk_cell b1 4; have y5 : w6.cell? ⟨g7, 5, none⟩ = some (.int .i64 (rd_T28 l0 i).f5) := blk_cell b1 5; have y6 : w6.cell? ⟨g7, 6, none⟩ = some (.string (rd_T28 l0 i).f6) := blk_cell b1 6; have y7 : w6.cell? ⟨g7, 7, none⟩ = some (.slice A7 (rd_T28 l0 i).f7.length c7) := blk_cell b1 7; clear b1 b2) | (go_at_call 34; refine (path_Above.calls K p (rd_T28 l0 i).f0 false _ (HGL.out.of (below_step HB.out HZ6.out)) HAB.out).mono ?_; rintro e w6b ⟨rfl, hb⟩; have HZ6b := Aside0.mk (below_step HZ6.out hb); have u0 := (hb.cell (World.block_lt_of_cell? w6 _ y0)).trans y0; have u1 := (hb.cell (World.block_lt_of_cell? w6 _ y1)).trans y1; have u2 := (hb.cell (World.block_lt_of_cell? w6 _ y2)).trans y2; have u3 := (hb.cell (World.block_lt_of_cell? w6 _ y3)).trans y3; have u4 := (hb.cell (World.block_lt_of_cell? w6 _ y4)).trans y4; have u5 := (hb.cell (World.block_lt_of_cell? w6 _ y5)).trans y5; have u6 := (hb.cell (World.block_lt_of_cell? w6 _ y6)).trans y6; have u7 := (hb.cell (World.block_lt_of_cell? w6 _ y7)).trans y7; clear hb y0 y1 y2 y3 y4 y5 y6 y7; have y0 := u0; have y1 := u1; have y2 := u2; have y3 := u3; have y4 := u4; have y5 := u5; have y6 := u6; have y7 := u7; clear u0 u1 u2 u3 u4 u5 u6 u7))
              go_roundg k1
              case measure => omega
              case rel => exact ⟨i + 1, v3, by rw [wr_in _ (by have h1 := HI.out; have h2 := HN.out; have h3 := C2.out; omega)], ⟨by have := HI.out; have := C2.out; omega⟩, ⟨boxed_below HBX.out HZ6b.out⟩, ⟨by rw [take_rd l0 i HI.out.1 C2.out, List.filter_append, List.filter_cons_of_neg HGO.out, List.filter_nil, List.append_nil]; exact Kd.S_below HO.out HZ6b.out⟩, ⟨below_step HB.out HZ6b.out⟩⟩
      · have e1 : l0.take i.toNat = l0 := List.take_of_length_le (by have := HI.out; omega)
        rw [e1] at HO
        clear e1
        obtain ⟨Ao, co, eo⟩ := Kd.S_slice HO.out
        subst eo
        go_wp2
        go_ret
        exact ⟨b, rfl, Ao, co, HBX.out, HO.out, HBS.out, HB.out⟩
end Go.Proofs.YtfkbmjfhakooiaaGreatDoor.TR

/- A range over an iterator: what is kept through its rounds. Conditions: as each theorem says. -/
namespace Go.Proofs.YtfkbmjfhakooiaaGreatDoor.TR
open Go.RowKit Go.Shelf Go.Proofs.YtfkbmjfhakooiaaGreatDoor.PTree Go.Proofs.YtfkbmjfhakooiaaGreatDoorW.PrintWords Go.Proofs.YtfkbmjfhakooiaaGreatDoorW.PrintLast Go.Proofs.YtfkbmjfhakooiaaGreatDoorW.PrintMore
set_option linter.unusedVariables false
set_option linter.unusedSimpArgs false
theorem Gl.kept {w W : World} (h : Gl w) (hb : ∀ k, k < w.heap.size → W.heap[k]? = w.heap[k]?) : Gl W := by
  have cell : ∀ {a : Addr} {v : Value}, w.cell? a = some v → W.cell? a = some v := fun {a v} hc => by
    have hlt := World.block_lt_of_cell? w _ hc
    rw [← hc]
    unfold World.cell?
    rw [hb _ hlt]
  exact ⟨⟨fun c hc => cell (h.tabs.1 c hc), fun i hi => ⟨cell (h.tabs.2 i hi).1, cell (h.tabs.2 i hi).2⟩⟩⟩
theorem xpx_put {wl : List S28} {pre : List EntX} {x : EntX} {W0 W1 : World} {l : Nat} {o o' : Obj} (hl : W1.heap[l]? = some o) (ho : o.isCells = false) (h : XpX wl pre x W0 W1) : XpX wl pre x (W0.putObj l o') (W1.putObj l o') := by
  refine ⟨h.1, ?_⟩
  have s0 : (W0.putObj l o').heap.size = W0.heap.size := by simp [World.putObj]
  rw [s0]
  refine Kd.R_mono (Kd.R_grown (Kd.R_bound h.2) (grownBy_putObj' W1 l o') (fun k hk e => ?_)) (fun _ _ => trivial)
  injection e with e
  subst e
  obtain ⟨_, _, _, q, _, cells, hc⟩ := hk
  rw [hl] at hc
  injection hc with hc
  subst hc
  cases ho
theorem xpx_below {wl : List S28} {pre : List EntX} {x : EntX} {W0 W W' : World} (h : XpX wl pre x W0 W) (hb : Below W.heap.size W W') : XpX wl pre x W0 W' := ⟨h.1, Kd.R_below h.2 hb⟩
theorem zip_one (T : Array Value) (v : Value) (k : Tmp) : ((#[k] : Array Tmp).zip #[v]).foldl (fun t (x : Tmp × Value) => match x with | (p, v) => t.setIfInBounds p v) T = T.setIfInBounds k v := by first | rfl | (simp; done)
theorem ex_cell {X : Nat → Prop} {a b : World} (h : Ex X a b) {p : Addr} (hn : ¬ X p.block) {v : Value} (hc : a.cell? p = some v) : b.cell? p = a.cell? p := by
  unfold World.cell?
  rw [h.block _ (World.block_lt_of_cell? a _ hc) hn]
end Go.Proofs.YtfkbmjfhakooiaaGreatDoor.TR

/- The reference's Same of a list and itself. Conditions: as each theorem says. -/
namespace Go.Proofs.YtfkbmjfhakooiaaGreatDoor.TR
open Go.RowKit Go.Proofs.YtfkbmjfhakooiaaGreatDoor.PTree Go.Proofs.YtfkbmjfhakooiaaGreatDoorW.PrintWords Go.Proofs.YtfkbmjfhakooiaaGreatDoorW.PrintLast Go.Proofs.YtfkbmjfhakooiaaGreatDoorW.PrintMore
set_option linter.unusedVariables false
set_option linter.unusedSimpArgs false
theorem entry_self (x : S28) : amphoraref09_SameEntry.f x.f0 x.f1 x.f2 x.f3 x.f4 x.f5 x.f6 x.f7 x.f0 x.f1 x.f2 x.f3 x.f4 x.f5 x.f6 x.f7 = some true := by
  unfold amphoraref09_SameEntry.f
  simp
theorem rsame_l (l : List S28) (hl : (l.length : Int) ≤ 9223372036854775807) : ∀ (n : Nat) (i : Int) (k : Nat), 0 ≤ i → (l.length : Int) - i ≤ n → n + 1 ≤ k → amphoraref09_Same.l0 k l l i = some true
  | n, i, 0, _, _, h => by omega
  | n, i, k + 1, h0, h1, h2 => by
    unfold amphoraref09_Same.l0
    by_cases c1 : i < (l.length : Int)
    · rw [if_pos c1, if_pos h0, if_pos c1, entry_self, Option.bind_some, if_pos rfl, show wrap64 (i + 1) = i + 1 from wr_in _ ⟨by omega, by omega⟩]
      cases n with
      | zero => omega
      | succ n => exact rsame_l l hl n (i + 1) k (by omega) (by omega) (by omega)
    · rw [if_neg c1]
theorem rsame_f (l : List S28) (hl : (l.length : Int) ≤ 9223372036854775807) (K : Nat) (hK : l.length + 1 ≤ K) : amphoraref09_Same.f K l l = some true := by
  unfold amphoraref09_Same.f
  rw [if_pos rfl]
  exact rsame_l l hl l.length 0 K (by omega) (by omega) hK
end Go.Proofs.YtfkbmjfhakooiaaGreatDoor.TR

/- What TreeLooks asks of the reference: plain Lean. Conditions: as each theorem says. -/
namespace Go.Proofs.YtfkbmjfhakooiaaGreatDoor.TR
open Go.RowKit Go.Proofs.YtfkbmjfhakooiaaGreatDoor.PTree Go.Proofs.YtfkbmjfhakooiaaGreatDoorW.PrintWords Go.Proofs.YtfkbmjfhakooiaaGreatDoorW.PrintLast Go.Proofs.YtfkbmjfhakooiaaGreatDoorW.PrintMore
set_option linter.unusedVariables false
set_option linter.unusedSimpArgs false
theorem looks_size_l (l : List S28) (hl : (l.length : Int) ≤ 1000000) : ∀ (k : Nat) (n i : Int), 0 ≤ i → i ≤ (l.length : Int) → (l.length : Int) - i + 1 ≤ k → ∃ r, tree_Size.l0 k n l (l.length : Int) i = some r ∧ amphoraref09_Size.l0 k l n i = some r
  | 0, n, i, h0, h1, h2 => by omega
  | k + 1, n, i, h0, h1, h2 => by
    unfold tree_Size.l0 amphoraref09_Size.l0
    by_cases c1 : i < (l.length : Int)
    · rw [if_pos c1, if_pos h0, if_pos c1, if_pos c1, if_pos h0, show wrap64 (i + 1) = i + 1 from wr_in _ ⟨by omega, by omega⟩]
      exact looks_size_l l hl k _ (i + 1) (by omega) (by omega) (by omega)
    · rw [if_neg c1, if_neg c1]
      exact ⟨n, rfl, rfl⟩
theorem looks_size (l : List S28) (hl : (l.length : Int) ≤ 1000000) (K : Nat) (hK : l.length + 1 ≤ K) : ∃ r, tree_Size.f K l = some r ∧ amphoraref09_Size.f K l = some r := by
  unfold tree_Size.f amphoraref09_Size.f
  exact looks_size_l l hl K 0 0 (by omega) (by omega) (by omega)
theorem looks_walk_l (l : List S28) (p : ByteArray) (hl : (l.length : Int) ≤ 1000000) : ∀ (k : Nat) (i : Int), 0 ≤ i → i ≤ (l.length : Int) → (l.length : Int) - i + 6001 ≤ k → amphoraref09_Walk.l0 k l p ((l.take i.toNat).filter (goneB p)) i = some (l.filter (goneB p))
  | 0, i, h0, h1, h2 => by omega
  | k + 1, i, h0, h1, h2 => by
    unfold amphoraref09_Walk.l0
    have hlen : ((l.take i.toNat).filter (goneB p)).length < 1466015503701 := by
      have h3 := List.length_filter_le (goneB p) (l.take i.toNat)
      rw [List.length_take] at h3
      omega
    have hx : (⟨(rd_T28 l i).f0, (rd_T28 l i).f1, (rd_T28 l i).f2, (rd_T28 l i).f3, (rd_T28 l i).f4, (rd_T28 l i).f5, (rd_T28 l i).f6, (rd_T28 l i).f7⟩ : S28) = rd_T28 l i := rfl
    by_cases c1 : i < (l.length : Int)
    · have ih := looks_walk_l l p hl k (i + 1) (by omega) (by omega) (by omega)
      rw [take_rd l i h0 c1, List.filter_append] at ih
      have hy : goneB p (rd_T28 l i) = true → amphoraref09_Walk.l0 k l p ((l.take i.toNat).filter (goneB p) ++ [rd_T28 l i]) (i + 1) = some (l.filter (goneB p)) := fun h => by rw [List.filter_cons_of_pos h, List.filter_nil] at ih; exact ih
      have hn : ¬ goneB p (rd_T28 l i) = true → amphoraref09_Walk.l0 k l p ((l.take i.toNat).filter (goneB p)) (i + 1) = some (l.filter (goneB p)) := fun h => by rw [List.filter_cons_of_neg h, List.filter_nil, List.append_nil] at ih; exact ih
      rw [hx, show wrap64 (i + 1) = i + 1 from wr_in _ ⟨by omega, by omega⟩, if_pos c1]
      by_cases e1 : p.toList = []
      · rw [if_pos e1, if_pos h0, if_pos hlen]
        exact hy (by unfold goneB; rw [e1]; rfl)
      · rw [if_neg e1, if_pos h0]
        by_cases e2 : (rd_T28 l i).f0.toList = p.toList
        · rw [if_pos e2, if_pos hlen]
          exact hy (by unfold goneB; rw [beq_iff_eq.mpr e2]; simp)
        · rw [if_neg e2, PM.rabove_f _ _ k (by omega), Option.bind_some]
          by_cases e3 : PM.AboveP p (rd_T28 l i).f0
          · rw [decide_eq_true e3, if_pos rfl, if_pos hlen]
            exact hy (by unfold goneB; rw [decide_eq_true e3]; simp)
          · rw [decide_eq_false e3, if_neg (by simp)]
            exact hn (by unfold goneB; rw [decide_eq_false e3, beq_eq_false_iff_ne.mpr e1, beq_eq_false_iff_ne.mpr e2]; simp)
    · rw [if_neg c1, List.take_of_length_le (by omega)]
theorem looks_walk (l : List S28) (p : ByteArray) (hl : (l.length : Int) ≤ 1000000) (K : Nat) (hK : l.length + 6001 ≤ K) : amphoraref09_Walk.f K l p = some (l.filter (goneB p)) := by
  have h := looks_walk_l l p hl K 0 (by omega) (by omega) (by omega)
  simpa [amphoraref09_Walk.f] using h
theorem split_good {s : ByteArray} (h : PM.GoodP s) : PM.splitB s = pieces s := by
  unfold PM.splitB
  exact if_pos h
theorem split_bad {s : ByteArray} (h : ¬ PM.GoodP s) : PM.splitB s = [] := by
  unfold PM.splitB
  exact if_neg h
theorem looks_children_l (K : Nat) (hK : 500 ≤ K) (l : List S28) (p : ByteArray) (hn : (l.length : Int) ≤ 1000000) (hl : ∀ x ∈ l, x.f0.size ≤ 1000000000000) : ∀ (k q : Nat) (out : List ByteArray) (i : Int), 0 ≤ i → i ≤ (l.length : Int) → (l.length : Int) - i + 1 ≤ k → 2 * k + 6001 ≤ q → out.length ≤ i.toNat →
    ∃ r, children0 K l p k out i = some r ∧ amphoraref09_Children.l0 q l p out i = some r ∧ r.length ≤ l.length
  | 0, q, out, i, h0, hi, h1, _, _ => by omega
  | k + 1, q, out, i, h0, hi, h1, h2, h3 => by
    obtain ⟨q, rfl⟩ : ∃ j, q = j + 2 := ⟨q - 2, by omega⟩
    unfold children0
    simp only [amphoraref09_Children.l0]
    by_cases c1 : i < (l.length : Int)
    · have hz := hl _ (rd_mem' l i h0 c1)
      have skip := looks_children_l K hK l p hn hl k q out (i + 1) (by omega) (by omega) (by omega) (by omega) (by omega)
      have more := looks_children_l K hK l p hn hl k q (out ++ [PM.baseB (rd_T28 l i).f0]) (i + 1) (by omega) (by omega) (by omega) (by omega) (by rw [List.length_append, List.length_singleton]; omega)
      have w1 : wrap64 (i + 1) = i + 1 := wr_in _ ⟨by omega, by omega⟩
      rw [if_pos c1, if_pos c1, if_pos h0, PM.parent_f _ K (by omega) hK, Option.bind_some, PM.good_f _ K hK, Option.bind_some, PM.base_f _ K hK, Option.bind_some, PM.rsplit_f _ (q + 1) (by omega), Option.bind_some]
      by_cases g : PM.GoodP (rd_T28 l i).f0
      · have hemp : (⟨#[]⟩ : ByteArray).toList = ([] : List UInt8) := by rw [Lib.toList_data]
        have hpn := PM.pieces_ne (rd_T28 l i).f0
        have hlen : 1 ≤ (pieces (rd_T28 l i).f0).length := by
          rcases h : pieces (rd_T28 l i).f0 with _ | ⟨a, b⟩
          · exact absurd h hpn
          · simp
        have hbase : PM.baseB (rd_T28 l i).f0 = (pieces (rd_T28 l i).f0).getLast hpn := by unfold PM.baseB; rw [dif_pos g]
        have hsz : (pieces (rd_T28 l i).f0).length ≤ 1000000 := by have h5 := pieces_len (rd_T28 l i).f0; have h6 := g.1; omega
        rw [decide_eq_true g, if_pos rfl, split_good g, if_neg (show ¬ (((pieces (rd_T28 l i).f0).length : Int) = 0) by omega)]
        have J : ∀ b : Bool, amphoraref09_Children.j1 (q + 1) l p out i (pieces (rd_T28 l i).f0) ((pieces (rd_T28 l i).f0).length : Int) b = if b = true then amphoraref09_Children.l0 q l p out (i + 1) else if (PM.parentB (rd_T28 l i).f0).1.toList = p.toList then amphoraref09_Children.l0 q l p (out ++ [PM.baseB (rd_T28 l i).f0]) (i + 1) else amphoraref09_Children.l0 q l p out (i + 1) := fun b => by
          simp only [amphoraref09_Children.j1]
          rw [w1, if_pos h0, if_pos c1, PM.rparent_f _ q (by omega), Option.bind_some, wr_in (((pieces (rd_T28 l i).f0).length : Int) - 1) ⟨by omega, by omega⟩, if_pos (show 0 ≤ ((pieces (rd_T28 l i).f0).length : Int) - 1 by omega), if_pos (show ((pieces (rd_T28 l i).f0).length : Int) - 1 < ((pieces (rd_T28 l i).f0).length : Int) by omega), if_pos (show out.length < 8796093022208 by omega)]
          have e : rdOf ByteArray.empty (pieces (rd_T28 l i).f0) (((pieces (rd_T28 l i).f0).length : Int) - 1) = PM.baseB (rd_T28 l i).f0 := by
            rw [hbase]
            unfold rdOf
            rw [List.getLast_eq_getElem, List.getD_eq_getElem?_getD, List.getElem?_eq_getElem (by omega)]
            simp only [Option.getD_some]
            congr 1
            omega
          rw [e]
        by_cases ep : p.toList = []
        · rw [if_pos ep, J]
          have e0 : (!p.toList.isEmpty) = false := by rw [ep]; rfl
          rw [e0]
          by_cases h2 : 2 ≤ (pieces (rd_T28 l i).f0).length
          · have hpb : (PM.parentB (rd_T28 l i).f0).2 = true := by unfold PM.parentB; rw [if_pos ⟨g, h2⟩]
            rw [hpb, if_pos (show (((pieces (rd_T28 l i).f0).length : Int) != 1) = true by rw [bne_iff_ne]; omega), if_neg (show ¬ (true = false) by simp)]
            split
            · exact skip
            · exact skip
          · have hpb : PM.parentB (rd_T28 l i).f0 = ((⟨#[]⟩ : ByteArray), false) := by unfold PM.parentB; rw [if_neg (fun h => h2 h.2)]
            rw [hpb, if_neg (show ¬ (((pieces (rd_T28 l i).f0).length : Int) != 1) = true by rw [bne_iff_ne]; omega), ep]
            simp only [hemp, ↓reduceIte]
            exact more
        · rw [if_neg ep, J, if_neg (show ¬ (false = true) by simp)]
          have e0 : (!p.toList.isEmpty) = true := by cases h : p.toList with | nil => exact absurd h ep | cons a b => rfl
          rw [e0]
          by_cases h4 : (PM.parentB (rd_T28 l i).f0).1.toList = p.toList
          · have hpb : (PM.parentB (rd_T28 l i).f0).2 = true := by
              unfold PM.parentB at h4 ⊢
              split
              · rfl
              · next hh =>
                rw [if_neg hh] at h4
                exact absurd (by rw [← h4]; exact hemp) ep
            rw [if_pos h4, if_pos h4, hpb, if_pos rfl]
            exact more
          · rw [if_neg h4, if_neg h4]
            exact skip
      · rw [decide_eq_false g, if_neg (by simp), split_bad g, if_pos (by simp)]
        have J : amphoraref09_Children.j1 (q + 1) l p out i [] (([] : List ByteArray).length : Int) true = amphoraref09_Children.l0 q l p out (i + 1) := by
          simp only [amphoraref09_Children.j1]
          rw [if_pos trivial, w1]
        rw [J]
        exact skip
    · rw [if_neg c1, if_neg c1]
      exact ⟨out, rfl, rfl, by omega⟩
theorem looks_children (K : Nat) (l : List S28) (p : ByteArray) (hn : (l.length : Int) ≤ 1000000) (hl : ∀ x ∈ l, x.f0.size ≤ 1000000000000) (hK : 2 * l.length + 6003 ≤ K) : ∃ r, childrenF K l p = some r ∧ amphoraref09_Children.f K l p = some r ∧ r.length ≤ l.length := by
  unfold childrenF amphoraref09_Children.f
  exact looks_children_l K (by omega) l p hn hl (l.length + 1) K [] 0 (by omega) (by omega) (by omega) (by omega) (by simp)
theorem texts_l (l : List ByteArray) (hl : (l.length : Int) ≤ 9223372036854775806) : ∀ (n : Nat) (i : Int) (k : Nat), 0 ≤ i → (l.length : Int) - i ≤ n → n + 1 ≤ k → amphoranum_Texts.l0 k l l (l.length : Int) i = some true
  | n, i, 0, _, _, h => by omega
  | n, i, k + 1, h0, h1, h2 => by
    unfold amphoranum_Texts.l0
    by_cases c1 : i < (l.length : Int)
    · rw [if_pos c1, if_pos h0, if_pos c1, if_pos c1, if_pos rfl, show wrap64 (i + 1) = i + 1 from wr_in _ ⟨by omega, by omega⟩]
      cases n with
      | zero => omega
      | succ n => exact texts_l l hl n (i + 1) k (by omega) (by omega) (by omega)
    · rw [if_neg c1]
theorem texts_self (l : List ByteArray) (hl : (l.length : Int) ≤ 9223372036854775806) (K : Nat) (hK : l.length + 1 ≤ K) : amphoranum_Texts.f K l l = some true := by
  unfold amphoranum_Texts.f
  rw [if_pos rfl]
  exact texts_l l hl l.length 0 K (by omega) (by omega) hK
end Go.Proofs.YtfkbmjfhakooiaaGreatDoor.TR

/- TreeLooks: what its walk needs of Find and of its first loop. Conditions: as each theorem says. -/
namespace Go.Proofs.YtfkbmjfhakooiaaGreatDoor.TR
open Go.RowKit Go.Proofs.YtfkbmjfhakooiaaGreatDoor.PTree Go.Proofs.YtfkbmjfhakooiaaGreatDoorW.PrintWords Go.Proofs.YtfkbmjfhakooiaaGreatDoorW.PrintLast Go.Proofs.YtfkbmjfhakooiaaGreatDoorW.PrintMore
set_option linter.unusedVariables false
set_option linter.unusedSimpArgs false
theorem find0_least (l : List S28) (p : ByteArray) : ∀ (k : Nat) (i r : Int), 0 ≤ i → find0 l p k i = some r → (r = -1 → (l.length : Int) - i + 1 ≤ k → ∀ j, i ≤ j → j < (l.length : Int) → (rd_T28 l j).f0.toList ≠ p.toList) ∧ (0 ≤ r → ∀ j, i ≤ j → j < r → (rd_T28 l j).f0.toList ≠ p.toList)
  | 0, i, r, h0, h => by simp [find0] at h
  | k + 1, i, r, h0, h => by
    unfold find0 at h
    by_cases c1 : i < (l.length : Int)
    · rw [if_pos c1] at h
      by_cases c2 : ((rd_T28 l i).f0.toList == p.toList) = true
      · rw [if_pos c2] at h
        obtain rfl := Option.some.inj h
        exact ⟨fun e => by omega, fun _ j h1 h2 => by omega⟩
      · rw [if_neg c2] at h
        obtain ⟨a, b⟩ := find0_least l p k (i + 1) r (by omega) h
        have hn : (rd_T28 l i).f0.toList ≠ p.toList := fun e => c2 (beq_iff_eq.mpr e)
        refine ⟨fun e hk j h1 h2 => ?_, fun e j h1 h2 => ?_⟩
        · by_cases ej : j = i
          · rw [ej]; exact hn
          · exact a e (by omega) j (by omega) h2
        · by_cases ej : j = i
          · rw [ej]; exact hn
          · exact b e j (by omega) h2
    · rw [if_neg c1] at h
      obtain rfl := Option.some.inj h
      exact ⟨fun _ _ j h1 h2 => by omega, fun e => by omega⟩
theorem find0_goes (l : List S28) (p : ByteArray) : ∀ (k : Nat) (i : Int), (l.length : Int) - i + 1 ≤ k → i ≤ (l.length : Int) → ∃ r, find0 l p k i = some r
  | 0, i, h, h2 => by omega
  | k + 1, i, h, h2 => by
    unfold find0
    by_cases c1 : i < (l.length : Int)
    · rw [if_pos c1]
      split
      · exact ⟨_, rfl⟩
      · exact find0_goes l p k (i + 1) (by omega) (by omega)
    · rw [if_neg c1]
      exact ⟨_, rfl⟩
/-- The entry that is looked for: the first of that path, or none. -/
def Sought (l : List S28) (p : ByteArray) (n : Int) (th : Bool) (x : S28) : Prop :=
  (th = false ∧ x = z28 ∧ ∀ j, 0 ≤ j → j < n → (rd_T28 l j).f0.toList ≠ p.toList) ∨ (th = true ∧ ∃ r, 0 ≤ r ∧ r < n ∧ x = rd_T28 l r ∧ (rd_T28 l r).f0.toList = p.toList ∧ ∀ j, 0 ≤ j → j < r → (rd_T28 l j).f0.toList ≠ p.toList)
theorem Sought.one {l : List S28} {p : ByteArray} {n : Int} {a b : Bool} {x y : S28} (h : Sought l p n a x) (k : Sought l p n b y) : a = b ∧ x = y := by
  rcases h with ⟨h1, h2, h3⟩ | ⟨h1, r, r0, r1, h2, h3, h4⟩ <;> rcases k with ⟨k1, k2, k3⟩ | ⟨k1, s, s0, s1, k2, k3, k4⟩
  · exact ⟨by rw [h1, k1], by rw [h2, k2]⟩
  · exact absurd k3 (h3 s s0 s1)
  · exact absurd h3 (k3 r r0 r1)
  · have e : r = s := by
      rcases Int.lt_trichotomy r s with c | c | c
      · exact absurd h3 (k4 r r0 c)
      · exact c
      · exact absurd k3 (h4 s s0 c)
    subst e
    exact ⟨by rw [h1, k1], by rw [h2, k2]⟩
theorem Sought.keep {l : List S28} {p : ByteArray} {i : Int} {x : S28} (h : Sought l p i true x) : Sought l p (i + 1) true x := by
  rcases h with ⟨h1, _⟩ | ⟨h1, r, r0, r1, h2⟩
  · cases h1
  · exact .inr ⟨rfl, r, r0, by omega, h2⟩
theorem Sought.found {l : List S28} {p : ByteArray} {i : Int} {x : S28} (h : Sought l p i false x) (h0 : 0 ≤ i) (e : (rd_T28 l i).f0.toList = p.toList) : Sought l p (i + 1) true (rd_T28 l i) := by
  rcases h with ⟨_, _, h3⟩ | ⟨h1, _⟩
  · exact .inr ⟨rfl, i, h0, by omega, rfl, e, h3⟩
  · cases h1
theorem Sought.pass {l : List S28} {p : ByteArray} {i : Int} {x : S28} (h : Sought l p i false x) (e : (rd_T28 l i).f0.toList ≠ p.toList) : Sought l p (i + 1) false x := by
  rcases h with ⟨_, h2, h3⟩ | ⟨h1, _⟩
  · refine .inl ⟨rfl, h2, fun j j0 j1 => ?_⟩
    by_cases ej : j = i
    · rw [ej]; exact e
    · exact h3 j j0 (by omega)
  · cases h1
theorem find_goes (l0 : List S28) (p : ByteArray) (A0 : Option Addr) (k0 : Nat) (w : World) (hGl : Gl w) (h0 : Kd.C k28 w A0 l0.length l0) (hd : ∀ x ∈ l0, x.f7.length ≤ 1000000000000) :
    Calls Tryz.prog 8 #[.slice A0 l0.length k0, .string p] w fun e w' => ∃ (ok : Bool) (x : S28) (Ao : Option Addr) (co : Nat), e = .returned (.tuple #[.agg #[.string x.f0, .int .i64 x.f1, .int .i64 x.f2, .int .i64 x.f3, .int .i64 x.f4, .int .i64 x.f5, .string x.f6, .slice Ao x.f7.length co], .bool ok]) ∧ Sought l0 p (l0.length : Int) ok x ∧ Kd.C (Kd.int .u8) w' Ao x.f7.length x.f7 ∧ x.f7.length ≤ co ∧ Below w.heap.size w w' := by
  obtain ⟨r, hr⟩ := find0_goes l0 p (l0.length + 1) 0 (by omega) (by omega)
  obtain ⟨m1, m2⟩ := find0_least l0 p (l0.length + 1) 0 r (by omega) hr
  have hsp := find0_spec l0 p _ 0 r (by omega) hr
  refine (Find_calls l0 p A0 k0 r w hGl h0 hd hr).mono ?_
  rintro e w' ⟨hb, (⟨e1, e2⟩ | ⟨r0, r1, Ao, co, e2, hR⟩)⟩
  · exact ⟨false, z28, none, 0, e2, .inl ⟨rfl, rfl, fun j j0 j1 => m1 e1 (by omega) j j0 j1⟩, ⟨rfl, by simp [z28], fun h => absurd h (by simp [z28])⟩, by simp [z28], hb⟩
  · rcases hsp with h | ⟨_, _, h⟩
    · omega
    · obtain ⟨q1, q2, q3⟩ := Kd.R_reads' hR
      exact ⟨true, rd_T28 l0 r, Ao, co, e2, .inr ⟨rfl, r, r0, r1, rfl, h, fun j j0 j1 => m2 r0 j j0 j1⟩, q3, q2, hb⟩
theorem heap31 : Kd.Heap k28 := by
  unfold k28
  repeat first | exact Kd.heap_string | exact Kd.heap_int _ | refine Kd.heap_iso _ ?_ | refine Kd.heap_pair ?_ ?_ | refine Kd.heap_slice _ ?_
/-- The rows of bytes that a copy's entries hold: blocks from lo to hi. -/
def U8All (W : World) (ga lo hi : Nat) (l : List S28) : Prop := ∀ j x, l[j]? = some x → ∃ g, lo ≤ g ∧ g < hi ∧ g ≠ ga ∧ U8s W g x.f7.length ∧ W.cell? ⟨ga, j * 8 + 7, none⟩ = some (.slice (some ⟨g, 0, none⟩) x.f7.length (x.f7.length + 2))
theorem U8All.of {W : World} {base ga c : Nat} {l : List S28} (h : MineAt W base ga c l) : U8All W ga base W.heap.size l := by
  intro j x hx
  obtain ⟨g, g0, g1, g2⟩ := h.each j x hx
  have hlt := (Array.getElem?_eq_some_iff.1 (show W.heap[g]? = some _ from g1)).1
  refine ⟨g, g0, hlt, fun e => ?_, ⟨_, g1, fun i hi => ?_⟩, g2 7 _ rfl⟩
  · obtain ⟨cs, h1⟩ := h.blk
    rw [← e] at h1
    have h2 : W.heap[g]? = some _ := g1
    rw [h1] at h2
    injection h2 with h2
    injection h2 with _ h3 _
    cases h3
  · refine ⟨(x.f7 ++ [165, 90])[i]'(by rw [List.length_append]; omega), ?_⟩
    simp only [nums, List.map_append, List.getElem?_toArray, List.map_cons, List.map_nil]
    rw [List.getElem?_append_left (by rw [List.length_map]; exact hi), List.getElem?_map, List.getElem?_eq_getElem hi, List.getElem_append_left hi]
    rfl
theorem U8s.kept {W W' : World} {g n : Nat} (h : U8s W g n) (e : W'.heap[g]? = W.heap[g]?) : U8s W' g n := by
  obtain ⟨cs, h0, h1⟩ := h
  exact ⟨cs, e.trans h0, h1⟩
theorem U8All.step {W W' : World} {ga lo hi g : Nat} {l : List S28} (h : U8All W ga lo hi l) (hg : g ≠ ga) (hE : Ex (fun k => k = g) W W') (hU : ∀ m, U8s W g m → U8s W' g m) : U8All W' ga lo hi l := by
  intro j x hx
  obtain ⟨q, q0, q1, q2, q3, q4⟩ := h j x hx
  refine ⟨q, q0, q1, q2, ?_, (ex_cell hE (fun e => hg e.symm) q4).trans q4⟩
  by_cases e : q = g
  · subst e
    exact hU _ q3
  · obtain ⟨cs, c0, _⟩ := id q3
    exact q3.kept (hE.block q (Array.getElem?_eq_some_iff.1 c0).1 e)
theorem U8All.moved {W W' : World} {base ga c : Nat} {l : List S28} (h : U8All W ga base W.heap.size l) (hb : ∀ k, k < W.heap.size → W'.heap[k]? = W.heap[k]?) (hm : MineAt W base ga c l) : U8All W' ga base W.heap.size l := by
  intro j x hx
  obtain ⟨q, q0, q1, q2, q3, q4⟩ := h j x hx
  refine ⟨q, q0, q1, q2, q3.kept (hb q q1), ?_⟩
  have hlt := World.block_lt_of_cell? W _ q4
  rw [← q4]
  unfold World.cell?
  rw [hb _ hlt]
theorem Ex.wide {X Y : Nat → Prop} {a b : World} (h : Ex X a b) (hxy : ∀ k, X k → Y k) : Ex Y a b := ⟨h.os, h.tape, h.output, h.size, fun i hi hy => h.block i hi (fun hx => hy (hxy i hx))⟩
end Go.Proofs.YtfkbmjfhakooiaaGreatDoor.TR

/- TreeLooks: what a round's list of entries is. Conditions: as each theorem says. -/
namespace Go.Proofs.YtfkbmjfhakooiaaGreatDoor.TR
open Go.RowKit Go.Shelf Go.Proofs.YtfkbmjfhakooiaaGreatDoor.PTree Go.Proofs.YtfkbmjfhakooiaaGreatDoorW.PrintWords Go.Proofs.YtfkbmjfhakooiaaGreatDoorW.PrintLast Go.Proofs.YtfkbmjfhakooiaaGreatDoorW.PrintMore
set_option linter.unusedVariables false
set_option linter.unusedSimpArgs false
def cellsX (x : EntX) : List Value := [.string x.1.f0, .int .i64 x.1.f1, .int .i64 x.1.f2, .int .i64 x.1.f3, .int .i64 x.1.f4, .int .i64 x.1.f5, .string x.1.f6, .slice x.2.1 x.1.f7.length x.2.2]
/-- The bytes of an entry that was handed on. -/
abbrev RowX (W : World) (lo : Nat) (x : EntX) : Prop := Kd.R (Kd.int .u8) 5 W lo (fun _ => True) (.slice x.2.1 x.1.f7.length x.2.2) x.1.f7
/-- A round's list: box b16 holds it; box b15 the round's number; what lay below lo stays. -/
structure GotI (lo b15 b16 : Nat) (n : Int) (wl : World) (pre : List EntX) (W : World) : Prop where
  c15 : Boxed W b15 3 (.int .i64 n)
  got : ∃ A c, Boxed W b16 22 (.slice A pre.length c) ∧ W.ownsRow lo 28 8 (.slice A pre.length c) pre.length (pre.flatMap cellsX)
  each : ∀ x ∈ pre, RowX W lo x
  below : Below lo wl W
  lo15 : lo ≤ b15
  lo16 : b15 < b16
theorem RowX.grown {W W' : World} {lo : Nat} {x : EntX} {row : Option Nat} (h : RowX W lo x) (hg : W.grownBy W' row) (hr : ∀ r, row = some r → ∀ cs : Array Value, W.heap[r]? ≠ some (.cells cs 5 (0, 0))) : RowX W' lo x := by
  refine Kd.R_mono (Kd.R_grown (Kd.R_bound h) hg (fun k hk e => ?_)) (fun _ _ => trivial)
  obtain ⟨_, _, _, q, hq, cs, hc⟩ := hk
  have hq' : q = 5 := by simpa [Kd.int, Kd.scalar] using hq
  subst hq'
  exact hr k e.symm cs hc
theorem GotI.own (lo b15 b16 : Nat) (n : Int) (wl : World) (B : Nat) (hB : lo ≤ B) : OwnFrom B (GotI lo b15 b16 n wl) := by
  intro pre W W' row h hg hr
  have ne : ∀ {b t : Nat} {v : Value}, Boxed W b t v → some b ≠ row := fun {b t v} hb e => by
    obtain ⟨_, o, ho, hc⟩ := hr b e.symm
    have h1 : W.heap[b]? = some (.cells #[v] t (0, 0)) := hb
    rw [h1] at ho
    injection ho with ho
    subst ho
    cases hc
  obtain ⟨A, c, g1, g2⟩ := h.got
  have nr : ∀ {cs : Array Value} {t r : Nat}, row = some r → W.heap[r]? = some (.cells cs t (0, 0)) → False := fun {cs t r} e hc => by
    obtain ⟨_, o, ho, hn⟩ := hr r e
    rw [hc] at ho
    injection ho with ho
    subst ho
    cases hn
  obtain ⟨A, c, g1, g2⟩ := h.got
  refine ⟨h.c15.kept hg (ne h.c15), ⟨A, c, g1.kept hg (ne g1), g2.kept hg ?_⟩, fun x hx => (h.each x hx).grown hg (fun r e cs hc => nr e hc), h.below.grown hg (by have := h.c15.lt; have := h.lo15; omega) (fun k e => Nat.le_trans hB (hr k e).1), h.lo15, h.lo16⟩
  rcases hq : (Value.slice A pre.length c).ownBlock with _ | k
  · exact .inl rfl
  · refine .inr (fun e => ?_)
    obtain ⟨cs, hc⟩ := own_typed g2 k hq
    exact nr e.symm hc
theorem RowX.far {W : World} {lo b t : Nat} {x : EntX} {u v : Value} (h : RowX W lo x) (hb : Boxed W b t u) (ht : t ≠ 5) : RowX (W.setCell ⟨b, 0, none⟩ v) lo x := by
  refine Kd.R_mono (Kd.R_far (Kd.R_bound h) (p := ⟨b, 0, none⟩) (fun k hk e => ?_) v) (fun _ _ => trivial)
  obtain ⟨_, _, _, q, hq, cs, hc⟩ := hk
  have hq' : q = 5 := by simpa [Kd.int, Kd.scalar] using hq
  have e : k = b := e
  subst e
  have h1 : W.heap[k]? = some (.cells #[u] t (0, 0)) := hb
  rw [hc] at h1
  injection h1 with h1
  injection h1 with _ h2 _
  exact ht (h2 ▸ hq')
/-- One entry more. -/
theorem GotI.more {lo b15 b16 : Nat} {n : Int} {wl Wd Wc : World} {pre : List EntX} {x : EntX} (h : GotI lo b15 b16 n wl pre Wd) (hb : Below Wd.heap.size Wd Wc) (hx : RowX Wc Wd.heap.size x) {A : Option Addr} {c : Nat} (hB : Boxed Wc b16 22 (.slice A pre.length c)) (ho : Wc.ownsRow lo 28 8 (.slice A pre.length c) pre.length (pre.flatMap cellsX))
    {tmp : Obj} {v' : Value} {w1 : World} (hown : w1.ownsRow lo 28 8 v' (pre.length + 1) (pre.flatMap cellsX ++ cellsX x)) (hg : (Wc.alloc tmp).grownBy w1 (Value.slice A pre.length c).ownBlock) :
    GotI lo b15 b16 n wl (pre ++ [x]) (w1.setCell ⟨b16, 0, none⟩ v') ∧ KeepsOthers Wc (w1.setCell ⟨b16, 0, none⟩ v') ∧ Below lo Wc (w1.setCell ⟨b16, 0, none⟩ v') := by
  have s15 := h.c15.lt
  have l15 := h.lo15
  have l16 := h.lo16
  have hbs := hb.size
  obtain ⟨q1, q2, q3, q4, q5⟩ := Boxed.appended hB (by decide) ho (by omega) (by omega) hown hg
  obtain ⟨g', c', e'⟩ := ownsRow_succ hown
  subst e'
  have k15 : Boxed Wc b15 3 (.int .i64 n) := boxed_below h.c15 hb
  have hne : some b15 ≠ (Value.slice A pre.length c).ownBlock := k15.not_row (by decide) ho
  have hrow : ∀ y, RowX Wc lo y → RowX (w1.setCell ⟨b16, 0, none⟩ (.slice (some ⟨g', 0, none⟩) (pre.length + 1) c')) lo y := fun y hy => by
    have h1 : RowX (Wc.alloc tmp) lo y := Kd.R_below hy (below_alloc (Below.refl _ _) _)
    refine RowX.far (RowX.grown h1 hg (fun r e cs hc => ?_)) q1 (by decide)
    obtain ⟨cs2, hc2⟩ := own_typed ho r e
    have hlt := (Array.getElem?_eq_some_iff.1 hc2).1
    rw [Below.heap_alloc _ _ _ hlt, hc2] at hc
    injection hc with hc
    injection hc with _ h2 _
    cases h2
  refine ⟨⟨((k15.alloc tmp).kept hg hne).other (by omega) _, ⟨_, _, by rw [List.length_append]; exact q2, ?_⟩, fun y hy => hrow y ?_, ?_, l15, l16⟩, q4, q5⟩
  · rw [List.length_append, List.flatMap_append, List.flatMap_cons, List.flatMap_nil, List.append_nil]
    exact q3
  · rcases List.mem_append.1 hy with hy | hy
    · exact Kd.R_below (h.each y hy) hb
    · obtain rfl := List.mem_singleton.1 hy
      exact Kd.R_lower hx (by omega)
  · exact (h.below.trans (hb.mono (by omega))).trans q5
theorem flat_at : ∀ (pre : List EntX) (j : Nat) (x : EntX) (i : Nat), pre[j]? = some x → i < 8 → (pre.flatMap cellsX)[j * 8 + i]? = (cellsX x)[i]?
  | [], j, x, i, h, _ => by simp at h
  | a :: r, 0, x, i, h, hi => by
    simp only [List.getElem?_cons_zero, Option.some.injEq] at h
    subst h
    rw [List.flatMap_cons, Nat.zero_mul, Nat.zero_add, List.getElem?_append_left (by simp only [cellsX, List.length_cons, List.length_nil]; omega)]
  | a :: r, j + 1, x, i, h, hi => by
    simp only [List.getElem?_cons_succ] at h
    have hl : (cellsX a).length = 8 := rfl
    rw [List.flatMap_cons, List.getElem?_append_right (by rw [hl]; omega), hl, show (j + 1) * 8 + i - 8 = j * 8 + i by omega]
    exact flat_at r j x i h hi
theorem GotI.reads {lo b15 b16 : Nat} {n : Int} {wl W : World} {pre : List EntX} (h : GotI lo b15 b16 n wl pre W) (hp : pre.length ≤ 1000000) {A : Option Addr} {c : Nat} (ho : W.ownsRow lo 28 8 (.slice A pre.length c) pre.length (pre.flatMap cellsX)) : Kd.C k28 W A (pre.map (·.1)).length (pre.map (·.1)) ∧ pre.length ≤ c := by
  rcases ho.2 with ⟨e, h0⟩ | ⟨g, cap, cur, e, hg, hh, hn, hcap, hsz, htake⟩
  · injection e with e1 e2 e3
    have : pre = [] := List.eq_nil_of_length_eq_zero h0
    subst this
    exact ⟨⟨rfl, by simp, fun h => absurd h (by simp)⟩, by simp⟩
  · injection e with e1 e2 e3
    subst e1
    subst e3
    refine ⟨⟨rfl, by rw [List.length_map]; omega, fun _ => ⟨_, rfl, fun j y hy => ?_⟩⟩, by omega⟩
    rw [List.getElem?_map, Option.map_eq_some_iff] at hy
    obtain ⟨x, hx, rfl⟩ := hy
    have hjl := (List.getElem?_eq_some_iff.1 hx).1
    obtain ⟨q1, q2, q3⟩ := Kd.R_reads' (h.each x (List.mem_of_getElem? hx))
    refine ⟨cellsX x, rfl, k28_mkK W x.1 _ _ q2 q3, fun i u hu => ?_⟩
    have hi : i < 8 := (List.getElem?_eq_some_iff.1 hu).1
    rw [add_plain]
    show W.cell? ⟨g, j * 8 + i, none⟩ = some u
    rw [blk_cell hh, ← hu, ← flat_at pre j x i hx hi, ← htake, List.getElem?_take_of_lt (by omega)]
    simp
/-- What follows where a code ends as it should; a region's panics are no matter then. -/
def OnN (Q : Exit → Act → World → Prop) : Exit → Act → World → Prop
  | .normal, a, w => Q .normal a w
  | _, _, _ => False
theorem wp_onN {P : Program} {c : Code} {Q : Exit → Act → World → Prop} {a : Act} {w : World} (h : c.wp P (OnN Q) a w) : c.wp P Q a w := Code.wp_mono (fun e a w q => by cases e <;> first | exact q | exact q.elim) h
theorem C_take {W : World} {A : Option Addr} {l : List S28} (h : Kd.C k28 W A l.length l) (m : Nat) : Kd.C k28 W A (l.take m).length (l.take m) := by
  obtain ⟨h1, h2, h3⟩ := h
  refine ⟨rfl, by rw [List.length_take]; omega, fun hp => ?_⟩
  rw [List.length_take] at hp
  obtain ⟨ad, e, hc⟩ := h3 (by omega)
  refine ⟨ad, e, fun j p hj => hc j p ?_⟩
  have hl := (List.getElem?_eq_some_iff.1 hj).1
  rw [List.length_take] at hl
  rw [List.getElem?_take_of_lt (by omega)] at hj
  exact hj
theorem cells_new (W : World) (cs : Array Value) (t : TypeId) (j : Nat) (u : Value) (h : cs.toList[j]? = some u) : (W.alloc (.cells cs t)).cell? ((⟨W.heap.size, 0, none⟩ : Addr).add j) = some u := by
  rw [add_plain]
  have h1 : (W.alloc (.cells cs t)).heap[W.heap.size]? = some (.cells cs t (0, 0)) := World.alloc_heap_new W _
  exact (blk_cell h1 j).trans (by rw [← h]; simp)
end Go.Proofs.YtfkbmjfhakooiaaGreatDoor.TR

/- TreeLooks: what a round over what Walk hands on needs. Conditions: as each theorem says. -/
namespace Go.Proofs.YtfkbmjfhakooiaaGreatDoor.TR
open Go.RowKit Go.Shelf Go.Proofs.YtfkbmjfhakooiaaGreatDoor.PTree Go.Proofs.YtfkbmjfhakooiaaGreatDoorW.PrintWords Go.Proofs.YtfkbmjfhakooiaaGreatDoorW.PrintLast Go.Proofs.YtfkbmjfhakooiaaGreatDoorW.PrintMore
set_option linter.unusedVariables false
set_option linter.unusedSimpArgs false
/-! ### the code of a round -/
def oR : Option Code → Option Code
  | some (.seq _ b) => some b
  | _ => none
def oL : Option Code → Option Code
  | some (.seq a _) => some a
  | _ => none
def oB : Option Code → Option Code
  | some (.block _ c) => some c
  | _ => none
def oLp : Option Code → Option Code
  | some (.loop c) => some c
  | _ => none
/-- The body of the loop of two rounds. -/
noncomputable def bodyR : Option Code := oLp (oB (oR (oL (oR (oR (oR (oR (oR (oR (oR (oR (oR (oR (oR (oR (oR (Tryz.f3.body)))))))))))))))))
theorem wp_opt {P : Program} {Q : Exit → Act → World → Prop} {a : Act} {w : World} {o : Option Code} {c : Code} (e : o = some c) (h : c.wp P Q a w) : (o.getD .skip).wp P Q a w := by
  subst e
  exact h
/-! ### the loop over an iterator, its ways out joined -/
theorem wpIn_seqX_one {F : Fence} {n : Nat} {P : Program} {α : Type} {g : Operand} {ps : Array Tmp} {assign body : Code} {Q : Exit → Act → World → Prop} {a : Act} {w : World}
    (hro : F.round = none) (h1 : 1 ≤ n) {gf : Nat} {lb : Array Value} (hg : a.eval g = .func (.func gf) #[] lb) (hFg : F.fn gf) (eg : ∀ args w, (callFunc gf args).run P w = .ok (.enter gf args) w)
    {encs : α → Array Value} {Kp : World → World → Prop} {Xp : List α → α → World → World → Prop} {S Sp : List α → Prop} {N : Nat} (hseq : SeqX F (n - 1) P gf lb encs Kp Xp S Sp N w)
    (hKt : ∀ {A B C : World}, Kp A B → Kp B C → Kp A C) (hKb : ∀ (W : World) (l : Nat) (o' : Obj), w.heap.size ≤ l → Kp W (W.putObj l o')) (hps : ∀ x, (encs x).size = ps.size)
    (hX : ∀ (pre : List α) (x : α) (W0 W1 : World) (l : Nat) (o o' : Obj), w.heap.size ≤ l → l < W0.heap.size → W1.heap[l]? = some o → o.isCells = false → Xp pre x W0 W1 → Xp pre x (W0.putObj l o') (W1.putObj l o'))
    (hXb : ∀ (pre : List α) (x : α) (W0 W W' : World), Xp pre x W0 W → Below W0.heap.size W0 W → Below W.heap.size W W' → Xp pre x W0 W')
    (I : List α → World → Prop) (Ix : Code → List α → World → Prop) (hI : OwnFrom w.heap.size I) (hIx : ∀ c, OwnFrom w.heap.size (Ix c)) (h0 : I [] w)
    (hround : ∀ (l : Nat) (pre : List α) (x : α) (W0 W : World), I pre W0 → Below W0.heap.size W0 W → w.heap.size ≤ W0.heap.size → pre.length < N → Xp pre x W0 W →
      assign.wpIn (F.inRound l) (n - 1 - 1) P (Exit.then (fun a₁ W₁ => Below W.heap.size W W₁ ∧ ∀ Wd Wc : World, I pre Wd → Below Wd.heap.size Wd Wc → w.heap.size ≤ Wd.heap.size → Xp pre x Wd Wc → (∀ (k : Nat) (cs : Array Value) (t : TypeId) (fr : Nat × Nat), W₁.heap[k]? = some (.cells cs t fr) → Wc.heap[k]? = some (.cells cs t fr)) →
        body.wpIn (F.inRound l) (n - 1 - 1) P (fun e _ W' => match e with
          | .normal => KeepsFrom w.heap.size Wc W' ∧ Kp Wd W' ∧ I (pre ++ [x]) W'
          | .ret => KeepsFrom w.heap.size Wc W' ∧ Ix .ret (pre ++ [x]) W'
          | .exit id => KeepsFrom w.heap.size Wc W' ∧ Ix (.exit id) (pre ++ [x]) W'
          | .goto t => KeepsFrom w.heap.size Wc W' ∧ Ix (.goto t) (pre ++ [x]) W'
          | .panic _ => False
          | .outgrown => False) a₁ Wc) (fun _ _ _ => False)) { tmps := (ps.zip (encs x)).foldl (fun t (p, v) => t.setIfInBounds p v) a.tmps, defers := [] } W)
    (id : Nat) (R : Nat → World → Prop)
    (hdone : ∀ (D : Nat) (xs : List α) (W : World), w.heap.size ≤ D → S xs → I xs W → W.heap[D]? = some (.deferred (some [])) → R D W)
    (hstop : ∀ (D : Nat) (c : Code) (pre : List α) (W : World), w.heap.size ≤ D → Sp pre → Ix c pre W → W.heap[D]? = some (.deferred (some [])) → c = .exit id ∧ R D W)
    (hx : ∀ a' w', Q .normal a' w' → Q (.exit id) a' w')
    (rest : ∀ (D : Nat) (W : World), R D W → Q .normal { a with defers := { target := .collected D, args := #[] } :: a.defers } W) :
    (Code.rangeFunc g ps assign body).wpIn F n P Q a w :=
  wpIn_seqX hro h1 hg hFg eg hseq hKt hKb hps hX hXb I Ix hI hIx h0 hround (fun D xs W a1 a2 a3 a4 => rest D W (hdone D xs W a1 a2 a3 a4)) (fun D c pre W a1 a2 a3 a4 => by
    obtain ⟨rfl, hr⟩ := hstop D c pre W a1 a2 a3 a4
    exact wpIn_exit (hx _ _ (rest D W hr)))
/-! ### the list that a round makes -/
theorem GotI.first {W wc : World} {lo b15 b16 : Nat} {n : Int} (h15 : Boxed W b15 3 (.int .i64 n)) (l15 : lo ≤ b15) (h16 : b16 = W.heap.size + 1) (hx : Boxed wc b16 22 (.slice none 0 0)) (hc : Below (W.alloc (.cells #[] 28)).heap.size (W.alloc (.cells #[] 28)) wc) :
    GotI lo b15 b16 n W [] (wc.setCell ⟨b16, 0, none⟩ (.slice (some ⟨W.heap.size, 0, none⟩) 0 0)) := by
  have s15 := h15.lt
  have k15 : Boxed wc b15 3 (.int .i64 n) := boxed_below (h15.alloc _) hc
  have hlo : lo ≤ W.heap.size := by omega
  have ho : (W.alloc (.cells #[] 28)).ownsRow lo 28 8 (.slice (some ⟨W.heap.size, 0, none⟩) 0 0) 0 [] := World.ownsRow_made W #[] 0 hlo (Nat.zero_le _) rfl
  have ho2 : wc.ownsRow lo 28 8 (.slice (some ⟨W.heap.size, 0, none⟩) 0 0) 0 [] := own_move ho (fun k hk => hc.block k (by have : k = W.heap.size := (by simpa [Value.ownBlock] using hk.symm); rw [World.size_alloc]; omega))
  refine ⟨k15.other (by omega) _, ⟨_, 0, hx.set _, ho2.kept (grownBy_setCell' wc b16 _) (.inr (hx.not_row (by decide) ho2).symm)⟩, fun x hx => (by cases hx), ?_, l15, by omega⟩
  have hb : Below lo W (W.alloc (.cells #[] 28)) := (Below.refl lo W).alloc hlo _
  have hc2 : Below lo W wc := hb.trans (hc.mono (by rw [World.size_alloc]; omega))
  exact hc2.setCell (p := ⟨b16, 0, none⟩) (by show lo ≤ b16; omega) _
theorem GotI.datas {lo : Nat} {W : World} {pre : List EntX} {A : Option Addr} {c : Nat} (ho : W.ownsRow lo 28 8 (.slice A pre.length c) pre.length (pre.flatMap cellsX)) (hp : 0 < pre.length) :
    ∃ g, A = some ⟨g, 0, none⟩ ∧ (∃ cs, W.heap[g]? = some (.cells cs 28 (0, 0))) ∧ ∀ j x, pre[j]? = some x → W.cell? ⟨g, j * 8 + 7, none⟩ = some (.slice x.2.1 x.1.f7.length x.2.2) := by
  rcases ho.2 with ⟨e, h0⟩ | ⟨g, cap, cur, e, hg, hh, hn, hcap, hsz, htake⟩
  · omega
  · injection e with e1 e2 e3
    refine ⟨g, e1, ⟨_, hh⟩, fun j x hx => ?_⟩
    have hjl := (List.getElem?_eq_some_iff.1 hx).1
    have hu : (cellsX x)[7]? = some (.slice x.2.1 x.1.f7.length x.2.2) := rfl
    rw [blk_cell hh, ← hu, ← flat_at pre j x 7 hx (by decide), ← htake, List.getElem?_take_of_lt (by omega)]
    simp
/-! ### Over, of a row of the list -/
theorem RowX.u8 {W : World} {lo : Nat} {x : EntX} (h : RowX W lo x) : x.1.f7.length = 0 ∨ ∃ g, x.2.1 = some ⟨g, 0, none⟩ ∧ lo ≤ g ∧ U8s W g x.1.f7.length := by
  rcases Nat.eq_zero_or_pos x.1.f7.length with e | hp
  · exact .inl e
  · obtain ⟨g, cap, he, hb, hl, cells, hc⟩ := Kd.R_form h hp
    injection he with e1 e2 e3
    obtain ⟨q1, q2, q3⟩ := Kd.R_reads' h
    obtain ⟨_, _, q4⟩ := q3
    obtain ⟨ad, ea, q5⟩ := q4 hp
    refine .inr ⟨g, e1, hb, cells, hc, fun j hj => ?_⟩
    obtain ⟨cs, _, hk, hcell⟩ := q5 j _ (List.getElem?_eq_getElem hj)
    rw [e1] at ea
    obtain rfl := Option.some.inj ea
    have hk' : cs = [.int .u8 (x.1.f7[j])] := hk
    subst hk'
    have h2 := hcell 0 _ rfl
    rw [add_plain, blk_cell hc] at h2
    exact ⟨_, by simpa [Kd.int, Kd.scalar] using h2⟩
set_option maxHeartbeats 4000000 in
set_option maxRecDepth 100000 in
theorem over_zero (A : Option Addr) (c : Nat) (w : World) : Calls Tryz.prog 16 #[.slice A 0 c] w fun e w' => (∃ v, e = .returned v) ∧ w' = w := by
  go_enter Tryz.func16, Tryz.ntmps16
  go_wp2
  refine wp_loop_rounds 1 ?_
  rw [rounds_succ]
  go_wp2
  go_end0
  exact ⟨⟨_, rfl⟩, rfl⟩
/-- Rows from lo on of bytes. -/
def ByteRows (W : World) (lo : Nat) : Nat → Prop := fun k => lo ≤ k ∧ U8s W k 0
theorem over_row {W0 wr : World} {lo : Nat} {x : EntX} (h : RowX W0 lo x) (hx : x.1.f7.length ≤ 140737488355328) (hn : x.1.f7.length ≤ x.2.2) (hE : Ex (ByteRows W0 lo) W0 wr) (hU : ∀ g m, U8s W0 g m → U8s wr g m) :
    Calls Tryz.prog 16 #[.slice x.2.1 x.1.f7.length x.2.2] wr fun e w' => (∃ v, e = .returned v) ∧ Ex (ByteRows W0 lo) W0 w' ∧ ∀ g m, U8s W0 g m → U8s w' g m := by
  rcases h.u8 with e | ⟨g, e1, e2, e3⟩
  · rw [e]
    refine (over_zero _ _ _).mono ?_
    rintro e w' ⟨hv, rfl⟩
    exact ⟨hv, hE, hU⟩
  · rw [e1]
    refine (over_calls g _ _ wr hx hn (hU _ _ e3)).mono ?_
    rintro e w' ⟨hv, hE1, hU1⟩
    refine ⟨hv, hE.trans (hE1.wide (fun k hk => ?_)), fun q m hq => ?_⟩
    · have hk : k = g := hk
      subst hk
      obtain ⟨cs, c0, _⟩ := e3
      exact ⟨e2, cs, c0, fun j hj => by omega⟩
    · by_cases eq : q = g
      · subst eq
        exact hU1 _ (hU _ _ hq)
      · have h2 := hU _ _ hq
        obtain ⟨cs, c0, _⟩ := id h2
        exact h2.kept (hE1.block q (Array.getElem?_eq_some_iff.1 c0).1 eq)
/-- What is no row of bytes stays. -/
theorem notBytes {W : World} {lo k t : Nat} {cs : Array Value} (h : W.heap[k]? = some (.cells cs t (0, 0))) (ht : t ≠ 5) : ¬ ByteRows W lo k := fun ⟨_, _, hc, _⟩ => by
  rw [h] at hc
  injection hc with hc
  injection hc with _ h2 _
  exact ht h2
theorem notBytesD {W : World} {lo k : Nat} {d : Option (List Deferred)} (h : W.heap[k]? = some (.deferred d)) : ¬ ByteRows W lo k := fun ⟨_, _, hc, _⟩ => by
  rw [h] at hc
  injection hc with hc
  cases hc
theorem same_goes (K : Nat) (hK : 10000 ≤ K) {W1 W2 : World} {pre : List EntX} {l : List S28} {Ag A14 : Option Addr} {cg c14 : Nat} (m : Nat) (hm : m ≤ l.length) (hl : l.length ≤ 400) (hg : Gl W1)
    (h1 : Kd.C k28 W1 Ag (pre.map (·.1)).length (pre.map (·.1)) ∧ pre.length ≤ cg) (h2 : Kd.C k28 W1 A14 l.length l) (h3 : l.length ≤ c14) (e : pre.map (·.1) = l.take m) (hb : Below W1.heap.size W1 W2) :
    Calls Tryz.prog 18 #[.slice Ag pre.length cg, .slice A14 m c14] W2 fun e w' => e = .returned (.bool true) ∧ Below W2.heap.size W2 w' := by
  have ht : (l.take m).length = m := by rw [List.length_take]; omega
  have h := amphoraref09_Same.calls K Ag cg (pre.map (·.1)) A14 c14 (l.take m) true W2 (Kd.C_below h1.1 hb) (by rw [List.length_map]; exact h1.2) (C_take (Kd.C_below h2 hb) m) (by omega) (hg.of hb) (by rw [e]; exact rsame_f _ (by rw [ht]; omega) K (by rw [ht]; omega))
  rw [List.length_map, ht] at h
  exact h
end Go.Proofs.YtfkbmjfhakooiaaGreatDoor.TR
