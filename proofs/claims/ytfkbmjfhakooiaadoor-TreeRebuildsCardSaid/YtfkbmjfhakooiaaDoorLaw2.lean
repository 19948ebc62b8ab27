/- TreeRebuilds: file, the example, entries that come in, what a tree is, Build, Find, Same, the law's walk, plain Lean. Conditions: as each theorem says. -/
import Derived.Test.YtfkbmjfhakooiaaDoorBuild
import Derived.Test.YtfkbmjfhakooiaaDoorPMP5
import Derived.Test.YtfkbmjfhakooiaaDoorEv31
import Derived.Test.YtfkbmjfhakooiaaDoorPTreex2
import Derived.Deep.Cut
import Derived.Test.YtfkbmjfhakooiaaDoorOrd
import Derived.Deep.Slices
import Derived.ChangeSlices
import Derived.KernelRfl
import Derived.Test.YtfkbmjfhakooiaaDoorCheck
import Derived.Test.YtfkbmjfhakooiaaDoorPTreex3
import Derived.Shelf.SlicesQ.Load
import Derived.Lib.Bytes
/- What the chapter's example is. Conditions: none. -/
namespace Go.Proofs.YtfkbmjfhakooiaaDoor.TR
open Go.RowKit Go.Proofs.YtfkbmjfhakooiaaDoor.PTree Go.Proofs.YtfkbmjfhakooiaaDoorW.PrintWords Go.Proofs.YtfkbmjfhakooiaaDoorW.PrintLast Go.Proofs.YtfkbmjfhakooiaaDoorW.PrintMore
set_option linter.unusedVariables false
set_option linter.unusedSimpArgs false
def ps1 : ByteArray := ⟨#[97, 47, 98, 47, 99]⟩
def ps2 : ByteArray := ⟨#[97, 47, 46, 47, 120]⟩
def fileE (p : ByteArray) : S31 := ⟨p, 2, 0, 0, 0, 0, ⟨#[]⟩, bytesOf p⟩
def dirE (p : ByteArray) : S31 := ⟨p, 1, 493, 0, 0, 0, ⟨#[]⟩, []⟩
def ax : ByteArray := ⟨#[97, 47, 120]⟩
def ab : ByteArray := ⟨#[97, 47, 98]⟩
def a_ : ByteArray := ⟨#[97]⟩
def aliveX : List S31 := [fileE ps1, ⟨ax, 2, 0, 0, 0, 0, ⟨#[]⟩, bytesOf ps2⟩, dirE ab, dirE a_]
def aliveY : List S31 := [dirE a_, dirE ab, fileE ps1, ⟨ax, 2, 0, 0, 0, 0, ⟨#[]⟩, bytesOf ps2⟩]
set_option maxRecDepth 100000 in
theorem alive_buildA : buildA 600 [fileE ps1, fileE ps2] = some (aliveX, none) := by kernel_rfl
set_option maxRecDepth 100000 in
theorem alive_check : tree_Check.f 600 aliveY = some (-1, none) := by kernel_rfl
end Go.Proofs.YtfkbmjfhakooiaaDoor.TR

/- amphoralaw09.file, walked. Conditions: as each theorem says. -/
namespace Go.Proofs.YtfkbmjfhakooiaaDoor.TR
open Go.RowKit Go.Proofs.YtfkbmjfhakooiaaDoor.PTree Go.Proofs.YtfkbmjfhakooiaaDoorW.PrintWords Go.Proofs.YtfkbmjfhakooiaaDoorW.PrintLast Go.Proofs.YtfkbmjfhakooiaaDoorW.PrintMore
set_option linter.unusedVariables false
set_option linter.unusedSimpArgs false
theorem ints_C {w : World} {k : IntKind} {A : Option Addr} {n : Nat} {xs : List Int} (h : ReadsInt w k A n xs) : Kd.C (Kd.int k) w A n xs := by
  refine ⟨h.1, h.2.1, fun hp => ?_⟩
  obtain ⟨ad, e, hc⟩ := h.2.2 hp
  refine ⟨ad, e, fun j p hj => ⟨[.int k p], rfl, rfl, fun i u hu => ?_⟩⟩
  obtain ⟨hl, hv⟩ := List.getElem?_eq_some_iff.1 hj
  cases i with
  | zero =>
    simp only [List.getElem?_cons_zero, Option.some.injEq] at hu
    subst hu
    have h1 := hc j (by rw [← h.1]; exact hl)
    rw [List.getD_eq_getElem?_getD, List.getElem?_eq_getElem hl, hv] at h1
    show w.cell? (ad.add (j * 1 + 0)) = _
    rw [Nat.mul_one, Nat.add_zero]
    simpa using h1
  | succ i => simp at hu
theorem below_row_ {w W W1 : World} {g : Nat} (h : Below w.heap.size w W) (b2 : W.grownBy W1 (some g)) (hg : w.heap.size ≤ g) : Below w.heap.size w W1 :=
  h.trans ⟨b2.os, b2.tape, b2.output, b2.size, fun k hk => b2.block k (Nat.lt_of_lt_of_le hk (below_size h)) (fun e => by injection e with e; omega)⟩
set_option maxHeartbeats 8000000 in
set_option maxRecDepth 100000 in
theorem file_calls (p : ByteArray) (hp : p.size ≤ 1000) (w : World) :
    Calls Tryd.prog 22 #[.string p] w fun e w' => ∃ (A : Option Addr) (c : Nat), e = .returned (.agg #[.string p, .int .i64 2, .int .i64 0, .int .i64 0, .int .i64 0, .int .i64 0, .string ⟨#[]⟩, .slice A (bytesOf p).length c]) ∧ (bytesOf p).length ≤ c ∧ Kd.C (Kd.int .u8) w' A (bytesOf p).length (bytesOf p) ∧ Below w.heap.size w w' := by
  have hu31 := Tryd.underlying31
  have HP := Aside0.mk hp
  clear hp
  have HL := Aside0.mk (bytesOf_length p)
  rw [HL.out]
  have kb := fun W => print_bytes (P := Tryd.prog) 9 29 5 Tryd.underlying9 Tryd.underlying29 Tryd.underlying5 p W
  go_enter Tryd.func22, Tryd.ntmps22
  go_wp2_with (first
    | ((with_reducible refine gate_dst (N := 2) rfl ?_); refine box_event ?hg (N := 2) ?hd (cs := #[.string (⟨#[]⟩ : ByteArray), .int .i64 0, .int .i64 0, .int .i64 0, .int .i64 0, .int .i64 0, .string (⟨#[]⟩ : ByteArray), .slice none 0 0]) (t := 31) ?hr ?_; (case hd => rfl); (case hg => rfl); (case hr => first | (go_simp; done) | (go_simp; rfl)); intro g2 hg w2 hbox hb; have HB := Aside0.mk hb; have K2 := Aside0.mk hbox; have G2 := Aside0.mk (show w.heap.size ≤ g2 by omega); clear hb hbox hg)
    | ((with_reducible refine gate_store (t := 31) (p := 2) (v := .tmp 6) rfl ?_); refine ev_set31 _ rfl (.tmp 2) (.tmp 6) rfl rfl g2 _ _ _ _ _ _ _ _ p ⟨#[]⟩ 2 0 0 0 0 (some ⟨w2.heap.size, 0, none⟩) p.size (grownCap w2 p.size 0 5) rfl rfl (blk_below K2.out (bytes_below (Below.refl _ _) (Nat.le_refl _) 5 p)) (fun w8 b1 b2 => ?_)))
  refine bodyPost_ret (results_cell_row rfl _ _ g2 31 _ (0, 0) _ rfl b1 Tryd.underlying31 rfl (by kernel_rfl)) rfl ?_
  have hlt : w2.heap.size < (Lib.bytesWorld w2 5 p).heap.size := by rw [Lib.bytesWorld_size]; omega
  have hne : some w2.heap.size ≠ some g2 := fun e => by
    injection e with e
    have := (Array.getElem?_eq_some_iff.1 K2.out).1
    omega
  refine ⟨_, _, rfl, grownCap_ge _ _ _ _, ints_C ?_, below_row_ (bytes_below HB.out (below_size HB.out) 5 p) b2 G2.out⟩
  obtain ⟨h1, h2, h3⟩ := bytes_reads w2 5 p (by have := HP.out; omega)
  refine ⟨h1, h2, fun hp => ?_⟩
  obtain ⟨ad, e, hc⟩ := h3 hp
  cases e
  refine ⟨_, rfl, fun j hj => ?_⟩
  rw [← hc j hj, add_plain]
  exact World.cell?_of_block (b2.block _ hlt hne)
end Go.Proofs.YtfkbmjfhakooiaaDoor.TR

/- The chapter's example, walked. Conditions: as each theorem says. -/
namespace Go.Proofs.YtfkbmjfhakooiaaDoor.TR
open Go.RowKit Go.Proofs.YtfkbmjfhakooiaaDoor.PTree Go.Proofs.YtfkbmjfhakooiaaDoorW.PrintWords Go.Proofs.YtfkbmjfhakooiaaDoorW.PrintLast Go.Proofs.YtfkbmjfhakooiaaDoorW.PrintMore
set_option linter.unusedVariables false
set_option linter.unusedSimpArgs false
theorem k31_mkK (w : World) (x : S31) (A : Option Addr) (k : Nat) (l : x.f7.length ≤ k) (g : (Kd.int .u8).C w A x.f7.length x.f7) : k31.K w x [.string x.f0, .int .i64 x.f1, .int .i64 x.f2, .int .i64 x.f3, .int .i64 x.f4, .int .i64 x.f5, .string x.f6, .slice A x.f7.length k] := ⟨[.string x.f0], [.int .i64 x.f1, .int .i64 x.f2, .int .i64 x.f3, .int .i64 x.f4, .int .i64 x.f5, .string x.f6, .slice A x.f7.length k], rfl, rfl, ⟨[.int .i64 x.f1], [.int .i64 x.f2, .int .i64 x.f3, .int .i64 x.f4, .int .i64 x.f5, .string x.f6, .slice A x.f7.length k], rfl, rfl, ⟨[.int .i64 x.f2], [.int .i64 x.f3, .int .i64 x.f4, .int .i64 x.f5, .string x.f6, .slice A x.f7.length k], rfl, rfl, ⟨[.int .i64 x.f3], [.int .i64 x.f4, .int .i64 x.f5, .string x.f6, .slice A x.f7.length k], rfl, rfl, ⟨[.int .i64 x.f4], [.int .i64 x.f5, .string x.f6, .slice A x.f7.length k], rfl, rfl, ⟨[.int .i64 x.f5], [.string x.f6, .slice A x.f7.length k], rfl, rfl, ⟨[.string x.f6], [.slice A x.f7.length k], rfl, rfl, ⟨A, k, rfl, l, g⟩⟩⟩⟩⟩⟩⟩⟩
theorem lit2_C (W W1 : World) (b : Nat) (x y : S31) (A1 A2 : Option Addr) (k1 k2 : Nat) (l1 : x.f7.length ≤ k1) (h1 : Kd.C (Kd.int .u8) W1 A1 x.f7.length x.f7) (l2 : y.f7.length ≤ k2) (h2 : Kd.C (Kd.int .u8) W1 A2 y.f7.length y.f7) (hb : W1.heap[b]? = some (.cells #[.string x.f0, .int .i64 x.f1, .int .i64 x.f2, .int .i64 x.f3, .int .i64 x.f4, .int .i64 x.f5, .string x.f6, .slice A1 x.f7.length k1, .string y.f0, .int .i64 y.f1, .int .i64 y.f2, .int .i64 y.f3, .int .i64 y.f4, .int .i64 y.f5, .string y.f6, .slice A2 y.f7.length k2] 31 (0, 0))) : Kd.C k31 W1 (some ⟨b, 0, none⟩) 2 [x, y] := by
  refine ⟨rfl, by decide, fun _ => ⟨_, rfl, fun j p hj => ?_⟩⟩
  match j, hj with
  | 0, hj =>
    obtain rfl := Option.some.inj hj
    refine ⟨_, rfl, k31_mkK W1 x A1 k1 l1 h1, fun i u hu => ?_⟩
    match i, hu with
    | 0, hu => exact (blk_cell hb 0).trans hu
    | 1, hu => exact (blk_cell hb 1).trans hu
    | 2, hu => exact (blk_cell hb 2).trans hu
    | 3, hu => exact (blk_cell hb 3).trans hu
    | 4, hu => exact (blk_cell hb 4).trans hu
    | 5, hu => exact (blk_cell hb 5).trans hu
    | 6, hu => exact (blk_cell hb 6).trans hu
    | 7, hu => exact (blk_cell hb 7).trans hu
    | i + 8, hu => simp at hu
  | 1, hj =>
    obtain rfl := Option.some.inj hj
    refine ⟨_, rfl, k31_mkK W1 y A2 k2 l2 h2, fun i u hu => ?_⟩
    match i, hu with
    | 0, hu => exact (blk_cell hb 8).trans hu
    | 1, hu => exact (blk_cell hb 9).trans hu
    | 2, hu => exact (blk_cell hb 10).trans hu
    | 3, hu => exact (blk_cell hb 11).trans hu
    | 4, hu => exact (blk_cell hb 12).trans hu
    | 5, hu => exact (blk_cell hb 13).trans hu
    | 6, hu => exact (blk_cell hb 14).trans hu
    | 7, hu => exact (blk_cell hb 15).trans hu
    | i + 8, hu => simp at hu
  | j + 2, hj => simp at hj
theorem aliveX_small : ∀ x ∈ aliveX, x.f0.size ≤ 200 := by
  intro x hx
  simp only [aliveX, List.mem_cons, List.not_mem_nil, or_false] at hx
  rcases hx with rfl | rfl | rfl | rfl <;> decide
theorem aliveX_keys : ∀ p q, p ∈ aliveX → q ∈ aliveX → p.f0 = q.f0 → p = q := by
  intro p q hp hq e
  simp only [aliveX, List.mem_cons, List.not_mem_nil, or_false] at hp hq
  rcases hp with rfl | rfl | rfl | rfl <;> rcases hq with rfl | rfl | rfl | rfl <;> first | rfl | exact absurd e (by decide)
theorem alive_sort (ys : List S31) (h : SortR 600 aliveX ys) : ys = aliveY := by
  refine sortR_uniq (B := 200) (by decide) (by decide) aliveX_small h ?_ ?_ aliveX_keys
  · exact ((List.Perm.swap _ _ _).trans (List.perm_append_comm (l₁ := [dirE ab, dirE a_]) (l₂ := [fileE ps1, ⟨ax, 2, 0, 0, 0, 0, ⟨#[]⟩, bytesOf ps2⟩])))
  · refine List.Pairwise.cons ?_ (List.Pairwise.cons ?_ (List.Pairwise.cons ?_ (List.Pairwise.cons ?_ List.Pairwise.nil)))
    all_goals (
      intro q hq
      simp only [List.mem_cons, List.not_mem_nil, or_false] at hq)
    · rcases hq with rfl | rfl | rfl <;> decide +kernel
    · rcases hq with rfl | rfl <;> decide +kernel
    · rcases hq with rfl <;> decide +kernel
theorem build_alive (A : Option Addr) (c : Nat) (w : World) (hC : Kd.C k31 w A 2 [fileE ps1, fileE ps2]) (hGl : Gl w) : Calls Tryd.prog 8 #[.slice A 2 c] w fun e w' => ∃ A c, e = .returned (.tuple #[.slice A 4 c, .nilIface]) ∧ Kd.C k31 w' A 4 aliveY ∧ Below w.heap.size w w' := by
  refine (Build_calls 600 A c [fileE ps1, fileE ps2] aliveX none (SortR 600 aliveX) w hC hGl alive_buildA (fun _ v W h0 hR => sort_goes 600 200 (by decide) (by decide) w hGl aliveX aliveX_small (by decide) v W h0 hR) (fun ys hy => ⟨(-1, none), by rw [alive_sort ys hy]; exact alive_check⟩)).mono ?_
  rintro e w' ⟨A, c, ys, en, rfl, hl, hC, hb, _, h⟩
  obtain ⟨zs, r, hz, hr, rfl, rfl⟩ := h rfl
  obtain rfl := alive_sort zs hz
  rw [alive_check] at hr
  obtain rfl := Option.some.inj hr
  exact ⟨A, c, rfl, hC, hb⟩

set_option maxHeartbeats 8000000 in
set_option maxRecDepth 100000 in
theorem alive_calls (w : World) (hGl : Gl w) : Calls Tryd.prog 6 #[] w fun e w' => e = .returned (.bool true) ∧ Below w.heap.size w w' := by
  have hu31 := Tryd.underlying31
  have hu26 := Tryd.underlying26
  have hu56 := Tryd.underlying56
  have HGL := Aside0.mk hGl
  clear hGl
  go_enter Tryd.func6, Tryd.ntmps6
  go_upto_region 2 with (first
    | (go_at_call 22; refine (file_calls (⟨#[97, 47, 98, 47, 99]⟩ : ByteArray) (by decide) w).mono ?_; rintro e w1 ⟨A1, k1, rfl, hl, hc, hb⟩; have L1 := Aside0.mk hl; have D1 := Aside0.mk hc; have HB1 := Aside0.mk hb; clear hl hc hb)
    | (go_at_call 22; refine (file_calls (⟨#[97, 47, 46, 47, 120]⟩ : ByteArray) (by decide) _).mono ?_; rintro e w2 ⟨A2, k2, rfl, hl, hc, hb⟩; have L2 := Aside0.mk hl; have D2 := Aside0.mk hc; have D1b := Aside0.mk (Kd.C_below D1.out hb); have HB2 := Aside0.mk (below_step HB1.out hb); clear hl hc hb)
    | (go_at_call 8; refine (build_alive _ _ _ (lit2_C w2 _ w2.heap.size (fileE ps1) (fileE ps2) A1 A2 k1 k2 L1.out (Kd.C_alloc D1b.out _) L2.out (Kd.C_alloc D2.out _) (heap_alloc_new w2 _)) (HGL.out.of (below_alloc HB2.out _))).mono ?_; rintro e w3 ⟨A3, k3, rfl, hc, hb⟩; have D3 := Aside0.mk hc; have HB3 := Aside0.mk (below_step (below_alloc HB2.out _) hb); clear hc hb))
  obtain ⟨ad, A7, c7, eA, _⟩ := at_T31 D3.out 0 (by decide) (by decide)
  subst eA
  go_upto_region 3 with (first
    | (go_at_call 19; refine (tree_Check.calls 600 (some ad) k3 aliveY (-1, none) _ D3.out (HGL.out.of HB3.out) alive_check).mono ?_; rintro e w4 ⟨rfl, hb⟩; have D4 := Aside0.mk (Kd.C_below D3.out hb); have HB4 := Aside0.mk (below_step HB3.out hb); clear hb; try simp only [errW_none, errW_some]))
  obtain ⟨_, A8, c8, eA, x0, x1, _⟩ := at_T31 D4.out 0 (by decide) (by decide)
  cases eA
  obtain ⟨_, A9, c9, eA, y0, _⟩ := at_T31 D4.out 3 (by decide) (by decide)
  cases eA
  replace x0 : w4.cell? ad = some (.string ⟨#[97]⟩) := by
    have h : ad.add ((0 : Int).toNat * 8) = ad := by unfold Addr.add; simp
    rw [h] at x0
    exact x0
  replace x1 : w4.cell? ⟨ad.block, ad.off + 1, none⟩ = some (.int .i64 1) := by
    have h : ad.add ((0 : Int).toNat * 8) = ad := by unfold Addr.add; simp
    rw [h] at x1
    exact x1
  replace y0 : w4.cell? ⟨ad.block, ad.off + 24, none⟩ = some (.string ⟨#[97, 47, 120]⟩) := by
    have h : ad.add ((3 : Int).toNat * 8) = ⟨ad.block, ad.off + 24, none⟩ := by unfold Addr.add; simp
    rw [h] at y0
    exact y0
  go_wp2
  go_ret
  exact ⟨rfl, HB4.out⟩
end Go.Proofs.YtfkbmjfhakooiaaDoor.TR

/- A slice of entries that comes in, opened. Conditions: none. -/
namespace Go.Proofs.YtfkbmjfhakooiaaDoor.TR
open Go.RowKit Go.Proofs.YtfkbmjfhakooiaaDoor.PTree Go.Proofs.YtfkbmjfhakooiaaDoorW.PrintWords Go.Proofs.YtfkbmjfhakooiaaDoorW.PrintLast
set_option linter.unusedVariables false
set_option linter.unusedSimpArgs false
namespace Ents
open Go.ChangeShapes Go.WideShapes Go.Deep
def Fit (l : List S31) : Prop := (l.length : Int) ≤ 9223372036854775807 ∧ ∀ x ∈ l, x.f0.size ≤ 9223372036854775807 ∧ x.f6.size ≤ 9223372036854775807 ∧ x.f7.length ≤ 9223372036854775807 ∧ (Lit.int .i64 x.f1).wf = true
theorem cof31 : Tryd.prog.cellsOf 31 = 8 := by kernel_rfl
theorem cof9 : Tryd.prog.cellsOf 9 = 1 := by kernel_rfl
theorem cof3 : Tryd.prog.cellsOf 3 = 1 := by kernel_rfl
theorem cof29 : Tryd.prog.cellsOf 29 = 1 := by kernel_rfl
theorem cof5 : Tryd.prog.cellsOf 5 = 1 := by kernel_rfl
set_option maxRecDepth 100000 in
theorem entry_open {H : Type} {enc : TypeId × Value → H} {w : World} {base : Nat} {spare : Nat → Bool} {held : Bool} {n : Nat} {cs : List Value} {x : DataW H × List MemPlace} (h : DataW.trod enc Tryd.prog w base spare held n 31 cs = some x) :
    ∃ e : S31, k31.K w e cs ∧ e.f0.size ≤ 9223372036854775807 ∧ e.f6.size ≤ 9223372036854775807 ∧ e.f7.length ≤ 9223372036854775807 ∧ (Lit.int .i64 e.f1).wf = true := by
  obtain ⟨xs, m, _, _, hcl, hxl, hf⟩ := DataW.trod_struct Tryd.underlying31 h
  rw [cof31] at hcl
  have hm : maxLen = 9223372036854775807 := rfl
  match xs, hxl, cs, hcl with
  | [y0, y1, y2, y3, y4, y5, y6, y7], _, [v0, v1, v2, v3, v4, v5, v6, v7], _ =>
    have g0 : DataW.trod enc Tryd.prog w base spare held m 9 [v0] = some y0 := by have := hf 0 _ rfl; simpa [cof9] using this
    have g1 : DataW.trod enc Tryd.prog w base spare held m 3 [v1] = some y1 := by have := hf 1 _ rfl; simpa [cof3] using this
    have g2 : DataW.trod enc Tryd.prog w base spare held m 3 [v2] = some y2 := by have := hf 2 _ rfl; simpa [cof3] using this
    have g3 : DataW.trod enc Tryd.prog w base spare held m 3 [v3] = some y3 := by have := hf 3 _ rfl; simpa [cof3] using this
    have g4 : DataW.trod enc Tryd.prog w base spare held m 3 [v4] = some y4 := by have := hf 4 _ rfl; simpa [cof3] using this
    have g5 : DataW.trod enc Tryd.prog w base spare held m 3 [v5] = some y5 := by have := hf 5 _ rfl; simpa [cof3] using this
    have g6 : DataW.trod enc Tryd.prog w base spare held m 9 [v6] = some y6 := by have := hf 6 _ rfl; simpa [cof9] using this
    have g7 : DataW.trod enc Tryd.prog w base spare held m 29 [v7] = some y7 := by have := hf 7 _ rfl; simpa [cof29] using this
    obtain ⟨a0, e0, _, z0⟩ := DataW.trod_string Tryd.underlying9 g0
    obtain ⟨a1, e1, _, z1⟩ := DataW.trod_int Tryd.underlying3 g1
    obtain ⟨a2, e2, _, z2⟩ := DataW.trod_int Tryd.underlying3 g2
    obtain ⟨a3, e3, _, z3⟩ := DataW.trod_int Tryd.underlying3 g3
    obtain ⟨a4, e4, _, z4⟩ := DataW.trod_int Tryd.underlying3 g4
    obtain ⟨a5, e5, _, z5⟩ := DataW.trod_int Tryd.underlying3 g5
    obtain ⟨a6, e6, _, z6⟩ := DataW.trod_string Tryd.underlying9 g6
    obtain rfl : v0 = .string a0 := by simpa using e0
    obtain rfl : v1 = .int .i64 a1 := by simpa using e1
    obtain rfl : v2 = .int .i64 a2 := by simpa using e2
    obtain rfl : v3 = .int .i64 a3 := by simpa using e3
    obtain rfl : v4 = .int .i64 a4 := by simpa using e4
    obtain rfl : v5 = .int .i64 a5 := by simpa using e5
    obtain rfl : v6 = .string a6 := by simpa using e6
    rw [hm] at z0 z6
    rcases open_ints Tryd.underlying29 Tryd.underlying5 cof5 g7 with ⟨hcs, _⟩ | ⟨a, len, cap, zs, hcs, _, hl, hmx, hz, _, hcell, _⟩
    · obtain rfl : v7 = .slice none 0 0 := by simpa using hcs
      exact ⟨⟨a0, a1, a2, a3, a4, a5, a6, []⟩, k31_mkK w ⟨a0, a1, a2, a3, a4, a5, a6, []⟩ none 0 (Nat.le_refl _) ⟨rfl, by simp, fun h => absurd h (by simp)⟩, z0, z6, by simp, z1⟩
    · obtain rfl : v7 = .slice (some a) len cap := by simpa using hcs
      rw [hm] at hmx
      have hzl : len ≤ zs.length := by rw [hz]; split <;> omega
      have htl : (zs.take len).length = len := by rw [List.length_take]; omega
      have hC : (Kd.int .u8).C w (some a) (zs.take len).length (zs.take len) := by
        refine ⟨rfl, by rw [htl]; omega, fun _ => ⟨a, rfl, fun j p hp => ⟨[.int .u8 p], rfl, rfl, fun i u hu => ?_⟩⟩⟩
        have hj : j < (zs.take len).length := (List.getElem?_eq_some_iff.1 hp).1
        rw [htl] at hj
        cases i with
        | zero =>
          simp only [List.getElem?_cons_zero, Option.some.injEq] at hu
          subst hu
          show w.cell? (a.add (j * 1 + 0)) = _
          rw [Nat.mul_one, Nat.add_zero, hcell j (by omega)]
          rw [List.getElem?_take_of_lt hj] at hp
          rw [List.getD_eq_getElem?_getD, hp]
          rfl
        | succ i => simp at hu
      have hK := k31_mkK w ⟨a0, a1, a2, a3, a4, a5, a6, zs.take len⟩ (some a) cap (by show (zs.take len).length ≤ cap; omega) hC
      refine ⟨⟨a0, a1, a2, a3, a4, a5, a6, zs.take len⟩, ?_, z0, z6, by show (zs.take len).length ≤ _; omega, z1⟩
      have e : (zs.take len).length = len := htl
      simp only [e] at hK
      exact hK
theorem opened {H : Type} {enc : TypeId × Value → H} {w : World} {base : Nat} {spare : Nat → Bool} {held : Bool} {A : Option Addr} {len cap : Nat} {d : DataW H} {ps : List MemPlace}
    (hd : DataW.Trod enc Tryd.prog w base spare held 22 (.slice A len cap) d ps) : ∃ l : List S31, Kd.C k31 w A l.length l ∧ l.length = len ∧ len ≤ cap ∧ Fit l := by
  obtain ⟨fuel, hf⟩ := hd
  have hm : maxLen = 9223372036854775807 := rfl
  rcases open_slice Tryd.underlying22 hf with ⟨hcs, _⟩ | ⟨a, len', cap', m, n, D, Pl, hcs, _, hl, hmx, hmm, _, hx⟩
  · simp [Value.cells] at hcs
    obtain ⟨rfl, rfl, rfl⟩ := hcs
    exact ⟨[], ⟨rfl, by simp, fun h => absurd h (by simp)⟩, rfl, Nat.le_refl _, by simp, fun x hx => by cases hx⟩
  · simp [Value.cells] at hcs
    obtain ⟨rfl, rfl, rfl⟩ := hcs
    rw [hm] at hmx
    have hle : len ≤ m := by rw [hmm]; split <;> omega
    have each : ∀ i, i < len → ∃ e : S31, (∃ cs, cs.length = 8 ∧ k31.K w e cs ∧ ∀ j u, cs[j]? = some u → w.cell? (a.add (i * 8 + j)) = some u) ∧ e.f0.size ≤ 9223372036854775807 ∧ e.f6.size ≤ 9223372036854775807 ∧ e.f7.length ≤ 9223372036854775807 ∧ (Lit.int .i64 e.f1).wf = true := by
      intro i hi
      obtain ⟨cs', h1, h2⟩ := hx i (by omega)
      rw [cof31] at h1
      obtain ⟨_, hlen, hcell⟩ := World.cells?_some h1
      obtain ⟨e, hK, h3⟩ := entry_open h2
      refine ⟨e, ⟨cs', hlen, hK, fun j u hu => ?_⟩, h3⟩
      have hj : j < 8 := by rw [← hlen]; exact (List.getElem?_eq_some_iff.1 hu).1
      rw [← Go.Deep.add_add, hcell j hj, hu]
    haveI : Inhabited S31 := ⟨z31⟩
    obtain ⟨F, hF⟩ := choose_lt each
    have hg : ∀ (j : Nat) (p : S31), ((List.range len).map F)[j]? = some p → j < len ∧ p = F j := by
      intro j p hp
      rw [List.getElem?_map, Option.map_eq_some_iff] at hp
      obtain ⟨q, hq, rfl⟩ := hp
      obtain ⟨hj, rfl⟩ := List.getElem?_eq_some_iff.1 hq
      rw [List.length_range] at hj
      rw [List.getElem_range]
      exact ⟨hj, rfl⟩
    refine ⟨(List.range len).map F, ⟨rfl, by rw [List.length_map, List.length_range]; omega, fun _ => ⟨a, rfl, fun j p hp => ?_⟩⟩, by rw [List.length_map, List.length_range], hl, by rw [List.length_map, List.length_range]; omega, fun x hx => ?_⟩
    · obtain ⟨hj, rfl⟩ := hg j p hp
      exact (hF j hj).1
    · obtain ⟨j, hq⟩ := List.mem_iff_getElem?.1 hx
      obtain ⟨hj, e⟩ := hg j x hq
      rw [e]
      exact (hF j hj).2
end Ents
end Go.Proofs.YtfkbmjfhakooiaaDoor.TR

/- tree.Check answers of any entries of bounded sizes. Conditions: as each theorem says. -/
namespace Go.Proofs.YtfkbmjfhakooiaaDoor.TR
open Go.RowKit Go.Proofs.YtfkbmjfhakooiaaDoor.PTree Go.Proofs.YtfkbmjfhakooiaaDoorW.PrintWords Go.Proofs.YtfkbmjfhakooiaaDoorW.PrintLast Go.Proofs.YtfkbmjfhakooiaaDoorW.PrintMore
set_option linter.unusedVariables false
set_option linter.unusedSimpArgs false
/-- Is an entry good, its path aside? -/
def fieldsB (kd md u g t : Int) (ln : ByteArray) (d : List Int) : Bool := (if md < 0 then false else (if md > 4095 then false else (if metaB u (0) = true then (if metaB g (0) = true then (if metaB t (-1099511627776) = true then (if kd = 1 then (if ln.toList = ([] : List UInt8) then (if (d.length : Int) = 0 then true else false) else false) else (if kd = 2 then (if ln.toList = ([] : List UInt8) then (if (d.length : Int) ≤ 65536 then true else false) else false) else (if kd = 3 then (if decide (PM.TextP ln 400) = true then (if (d.length : Int) = 0 then true else false) else false) else (if kd = 4 then (if decide (PM.GoodP ln) = true then (if (d.length : Int) = 0 then (if md = 0 then (if u = 0 then (if g = 0 then (if t = 0 then true else false) else false) else false) else false) else false) else false) else false)))) else false) else false) else false)))
theorem fields_f (K : Nat) (hK : 500 ≤ K) (p : ByteArray) (kd md u g t : Int) (ln : ByteArray) (d : List Int) (hl : ln.size ≤ 9223372036854775807) : tree_goodFields.f K p kd md u g t ln d = some (fieldsB kd md u g t ln d) := by
  unfold tree_goodFields.f fieldsB
  rw [PM.text_f ln 400 hl, PM.good_f ln K hK]
  simp only [apply_ite (some : Bool → Option Bool), Option.bind_some]
theorem parentB_size (s : ByteArray) : (PM.parentB s).1.size ≤ 1000000000000 := by
  unfold PM.parentB
  split
  · rename_i h
    have hj := PM.dl_good h.1 h.2
    have h1 := PM.joinB_size hj.1
    have h2 := hj.2.2
    show (PM.joinB (pieces s).dropLast).size ≤ 1000000000000
    omega
  · decide
theorem check_l (K B : Nat) (l : List S31) (hB : B ≤ 1000000) (hK : 2 * B + 600 ≤ K) (hl : ∀ x ∈ l, x.f0.size ≤ B ∧ fits x = true) : ∀ (k : Nat) (i : Int) (M : ByteArray → Int) (last : ByteArray) (size : Int), 0 ≤ i → i ≤ (l.length : Int) → (l.length : Int) - i + 1 ≤ k → last.size ≤ B → 0 ≤ size → size ≤ 1048576 → ∃ r, tree_Check.l0 K l k i M last size = some r
  | 0, i, M, last, size, h0, hi, h1, _, _, _ => by omega
  | k + 1, i, M, last, size, h0, hi, h1, h2, h3, h4 => by
    unfold tree_Check.l0
    by_cases c1 : i < (l.length : Int)
    · have hm : rd_T31 l i ∈ l := by
        unfold rd_T31
        have h2 : i.toNat < l.length := by omega
        rw [List.getD_eq_getElem?_getD, List.getElem?_eq_getElem h2]
        exact List.getElem_mem h2
      obtain ⟨q1, q2⟩ := hl _ hm
      have q3 := q2
      simp only [fits, Bool.and_eq_true, decide_eq_true_eq] at q3
      rw [if_pos c1, PM.good_f _ K (by omega), Option.bind_some, fields_f K (by omega) _ _ _ _ _ _ _ _ (by omega), Option.bind_some, PM.cmp_f _ _ K (by omega) (by omega) (by omega), Option.bind_some, PM.parent_f _ K (by omega) (by omega), Option.bind_some, if_pos ⟨q2, parentB_size _, h3, h4⟩]
      cases hR : entryR (decide (PM.GoodP (rd_T31 l i).f0)) (fieldsB (rd_T31 l i).f1 (rd_T31 l i).f2 (rd_T31 l i).f3 (rd_T31 l i).f4 (rd_T31 l i).f5 (rd_T31 l i).f6 (rd_T31 l i).f7) (i.toNat != 0) (PM.cQ last (rd_T31 l i).f0) (PM.parentB (rd_T31 l i).f0).2 (M (PM.parentB (rd_T31 l i).f0).1) (rd_T31 l i).f1 (M (rd_T31 l i).f6) size ((rd_T31 l i).f7.length : Int) with
      | some c => exact ⟨_, rfl⟩
      | none =>
        refine check_l K B l hB hK hl k (i + 1) _ _ _ (by omega) (by omega) (by omega) q1 (by omega) ?_
        unfold entryR at hR
        repeat' (split at hR)
        all_goals first | (cases hR; done) | omega
    · rw [if_neg c1]
      exact ⟨_, rfl⟩
theorem check_total (K B : Nat) (l : List S31) (hB : B ≤ 1000000) (hK : 2 * B + 600 ≤ K) (hl : ∀ x ∈ l, x.f0.size ≤ B ∧ fits x = true) : ∃ r, tree_Check.f K l = some r := by
  unfold tree_Check.f
  by_cases c : (l.length : Int) > 200
  · rw [if_pos c]
    exact ⟨_, rfl⟩
  · rw [if_neg c]
    exact check_l K B l hB hK hl (l.length + 1) 0 _ _ 0 (by omega) (by omega) (by omega) (Nat.zero_le _) (by omega) (by omega)
end Go.Proofs.YtfkbmjfhakooiaaDoor.TR

/- What a list that passes tree.Check is. Conditions: as each theorem says. -/
namespace Go.Proofs.YtfkbmjfhakooiaaDoor.TR
open Go.RowKit Go.Proofs.YtfkbmjfhakooiaaDoor.PTree Go.Proofs.YtfkbmjfhakooiaaDoorW.PrintWords Go.Proofs.YtfkbmjfhakooiaaDoorW.PrintLast Go.Proofs.YtfkbmjfhakooiaaDoorW.PrintMore
set_option linter.unusedVariables false
set_option linter.unusedSimpArgs false
def fieldsE (e : S31) : Bool := fieldsB e.f1 e.f2 e.f3 e.f4 e.f5 e.f6 e.f7
/-- Entry j of a tree. -/
def OkAt (l : List S31) (j : Int) : Prop := PM.GoodP (rd_T31 l j).f0 ∧ fieldsE (rd_T31 l j) = true ∧ (0 < j → PM.cQ (rd_T31 l (j - 1)).f0 (rd_T31 l j).f0 < 0) ∧ ((PM.parentB (rd_T31 l j).f0).2 = true → ∃ m, 0 ≤ m ∧ m < j ∧ (rd_T31 l m).f0 = (PM.parentB (rd_T31 l j).f0).1 ∧ (rd_T31 l m).f1 = 1)
theorem ok_l (K B : Nat) (l : List S31) (hB : B ≤ 1000000) (hK : 2 * B + 600 ≤ K) (hl : ∀ x ∈ l, x.f0.size ≤ B ∧ fits x = true) : ∀ (k : Nat) (i : Int) (M : ByteArray → Int) (last : ByteArray) (size : Int), 0 ≤ i → last.size ≤ B → (0 < i → last = (rd_T31 l (i - 1)).f0) → (∀ s, M s ≠ 0 → ∃ m, 0 ≤ m ∧ m < i ∧ (rd_T31 l m).f0 = s ∧ (rd_T31 l m).f1 = M s) → tree_Check.l0 K l k i M last size = some (-1, none) → ∀ j, i ≤ j → j < (l.length : Int) → OkAt l j
  | 0, i, M, last, size, _, _, _, _, h, j, _, _ => by simp [tree_Check.l0] at h
  | k + 1, i, M, last, size, h0, h2, h5, h6, h, j, hj, hj2 => by
    unfold tree_Check.l0 at h
    have c1 : i < (l.length : Int) := by omega
    have hm : rd_T31 l i ∈ l := by
      unfold rd_T31
      have h2 : i.toNat < l.length := by omega
      rw [List.getD_eq_getElem?_getD, List.getElem?_eq_getElem h2]
      exact List.getElem_mem h2
    obtain ⟨q1, q2⟩ := hl _ hm
    have q3 := q2
    simp only [fits, Bool.and_eq_true, decide_eq_true_eq] at q3
    rw [if_pos c1, PM.good_f _ K (by omega), Option.bind_some, fields_f K (by omega) _ _ _ _ _ _ _ _ (by omega), Option.bind_some, PM.cmp_f _ _ K (by omega) (by omega) (by omega), Option.bind_some, PM.parent_f _ K (by omega) (by omega), Option.bind_some] at h
    by_cases c2 : fits (rd_T31 l i) = true ∧ (PM.parentB (rd_T31 l i).f0).1.size ≤ 1000000000000 ∧ 0 ≤ size ∧ size ≤ 1048576
    · rw [if_pos c2] at h
      cases hR : entryR (decide (PM.GoodP (rd_T31 l i).f0)) (fieldsB (rd_T31 l i).f1 (rd_T31 l i).f2 (rd_T31 l i).f3 (rd_T31 l i).f4 (rd_T31 l i).f5 (rd_T31 l i).f6 (rd_T31 l i).f7) (i.toNat != 0) (PM.cQ last (rd_T31 l i).f0) (PM.parentB (rd_T31 l i).f0).2 (M (PM.parentB (rd_T31 l i).f0).1) (rd_T31 l i).f1 (M (rd_T31 l i).f6) size ((rd_T31 l i).f7.length : Int) with
      | some c =>
        rw [hR] at h
        simp at h
      | none =>
        rw [hR] at h
        have hE := hR
        unfold entryR at hE
        have g1 : PM.GoodP (rd_T31 l i).f0 := by
          by_cases g : PM.GoodP (rd_T31 l i).f0
          · exact g
          · rw [decide_eq_false g, if_pos rfl] at hE; cases hE
        rw [if_neg (by rw [decide_eq_true g1]; simp)] at hE
        by_cases g2 : (!(fieldsB (rd_T31 l i).f1 (rd_T31 l i).f2 (rd_T31 l i).f3 (rd_T31 l i).f4 (rd_T31 l i).f5 (rd_T31 l i).f6 (rd_T31 l i).f7) || ((i.toNat != 0) && decide (PM.cQ last (rd_T31 l i).f0 ≥ 0))) = true
        · rw [if_pos g2] at hE; cases hE
        · rw [if_neg g2] at hE
          by_cases g3 : ((PM.parentB (rd_T31 l i).f0).2 && (M (PM.parentB (rd_T31 l i).f0).1 != 1)) = true
          · rw [if_pos g3] at hE; cases hE
          · have hi : OkAt l i := by
              simp only [Bool.or_eq_true, Bool.not_eq_true', Bool.and_eq_true, bne_iff_ne, decide_eq_true_eq, not_or, not_and, ne_eq] at g2 g3
              refine ⟨g1, by unfold fieldsE; simpa using g2.1, fun hp => ?_, fun hp => ?_⟩
              · rw [← h5 hp]
                have := g2.2 (by omega)
                omega
              · have h7 : M (PM.parentB (rd_T31 l i).f0).1 = 1 := by
                  by_cases e : M (PM.parentB (rd_T31 l i).f0).1 = 1
                  · exact e
                  · exact absurd e (g3 hp)
                obtain ⟨m, m0, m1, m2, m3⟩ := h6 _ (by rw [h7]; decide)
                exact ⟨m, m0, m1, m2, by rw [m3, h7]⟩
            by_cases e : j = i
            · rw [e]; exact hi
            · refine ok_l K B l hB hK hl k (i + 1) _ _ _ (by omega) q1 (fun _ => by rw [show i + 1 - 1 = i by omega]) (fun s hs => ?_) h j (by omega) hj2
              by_cases e2 : s = (rd_T31 l i).f0
              · exact ⟨i, h0, by omega, e2.symm, by unfold upd; rw [if_pos e2]⟩
              · unfold upd at hs
                rw [if_neg e2] at hs
                obtain ⟨m, m0, m1, m2, m3⟩ := h6 s hs
                exact ⟨m, m0, by omega, m2, by unfold upd; rw [if_neg e2]; exact m3⟩
    · rw [if_neg c2] at h
      cases h
theorem none_l (K : Nat) (l : List S31) : ∀ (k : Nat) (i : Int) (M : ByteArray → Int) (last : ByteArray) (size : Int) (r : Int × Option Int), tree_Check.l0 K l k i M last size = some r → r.2 = none → r = (-1, none)
  | 0, i, M, last, size, r, h, _ => by simp [tree_Check.l0] at h
  | k + 1, i, M, last, size, r, h, hr => by
    unfold tree_Check.l0 at h
    by_cases c1 : i < (l.length : Int)
    · rw [if_pos c1] at h
      obtain ⟨g, _, h⟩ := Option.bind_eq_some_iff.mp h
      obtain ⟨gf, _, h⟩ := Option.bind_eq_some_iff.mp h
      obtain ⟨c, _, h⟩ := Option.bind_eq_some_iff.mp h
      obtain ⟨pr, _, h⟩ := Option.bind_eq_some_iff.mp h
      split at h
      · split at h
        · obtain rfl := Option.some.inj h
          cases hr
        · exact none_l K l k _ _ _ _ r h hr
      · cases h
    · rw [if_neg c1] at h
      exact (Option.some.inj h).symm
theorem check_ok (K B : Nat) (l : List S31) (hB : B ≤ 1000000) (hK : 2 * B + 600 ≤ K) (hl : ∀ x ∈ l, x.f0.size ≤ B ∧ fits x = true) (r : Int × Option Int) (h : tree_Check.f K l = some r) (hr : r.2 = none) : l.length ≤ 200 ∧ ∀ j, 0 ≤ j → j < (l.length : Int) → OkAt l j := by
  unfold tree_Check.f at h
  by_cases c : (l.length : Int) > 200
  · rw [if_pos c] at h
    obtain rfl := Option.some.inj h
    cases hr
  · rw [if_neg c] at h
    obtain rfl := none_l K l _ _ _ _ _ r h hr
    exact ⟨by omega, fun j hj hj2 => ok_l K B l hB hK hl (l.length + 1) 0 _ _ 0 (by omega) (Nat.zero_le _) (fun h => by omega) (fun s hs => absurd rfl hs) h j hj hj2⟩
end Go.Proofs.YtfkbmjfhakooiaaDoor.TR

/- A tree's entries are as they are meant. Conditions: as each theorem says. -/
namespace Go.Proofs.YtfkbmjfhakooiaaDoor.TR
open Go.RowKit Go.Proofs.YtfkbmjfhakooiaaDoor.PTree Go.Proofs.YtfkbmjfhakooiaaDoorW.PrintWords Go.Proofs.YtfkbmjfhakooiaaDoorW.PrintLast Go.Proofs.YtfkbmjfhakooiaaDoorW.PrintMore
set_option linter.unusedVariables false
set_option linter.unusedSimpArgs false
theorem fields_hard {e : S31} (h : fieldsE e = true) (hk : e.f1 = 4) : PM.GoodP e.f6 := by
  unfold fieldsE fieldsB at h
  rw [hk] at h
  by_cases g : PM.GoodP e.f6
  · exact g
  · rw [decide_eq_false g] at h
    simp at h
theorem normOf_good (K : Nat) (x : S31) (hK : 1000 ≤ K) (hg : PM.GoodP x.f0) (hf : fieldsE x = true) (hd : x.f7.length ≤ 1000000000000) : normOf K x = some (x.f0, x.f1, x.f2, x.f3, x.f4, x.f5, x.f6, x.f7, none) := by
  unfold normOf tree_normal.f
  have h1 := hg.1
  rw [PM.normal_f x.f0 K (by omega) (by omega), PM.norm_good hg, Option.bind_some, if_pos (by rfl)]
  have hc : bytes_Clone.f x.f7 = some x.f7 := by unfold bytes_Clone.f; rw [if_pos hd]
  by_cases c : x.f1 = 4
  · have hl := fields_hard hf c
    have h2 := hl.1
    rw [if_pos c, PM.normal_f x.f6 K (by omega) (by omega), PM.norm_good hl, Option.bind_some, if_pos (by rfl), hc]
    rfl
  · rw [if_neg c, hc]
    rfl
end Go.Proofs.YtfkbmjfhakooiaaDoor.TR

/- What an entry is as it is meant. Conditions: as each theorem says. -/
namespace Go.Proofs.YtfkbmjfhakooiaaDoor.TR
open Go.RowKit Go.Proofs.YtfkbmjfhakooiaaDoor.PTree Go.Proofs.YtfkbmjfhakooiaaDoorW.PrintWords Go.Proofs.YtfkbmjfhakooiaaDoorW.PrintLast Go.Proofs.YtfkbmjfhakooiaaDoorW.PrintMore
set_option linter.unusedVariables false
set_option linter.unusedSimpArgs false
theorem normOf_shape (K : Nat) (x : S31) (n : NormT) (hs : x.f0.size ≤ 1000000000) (hl : x.f6.size ≤ 1000000000) (hK : x.f0.size + x.f6.size + 1000 ≤ K) (h : normOf K x = some n) (he : n.2.2.2.2.2.2.2.2 = none) :
    (PM.normB x.f0).2 = none ∧ (mk31 n).f0 = (PM.normB x.f0).1 ∧ PM.GoodP (mk31 n).f0 ∧ (mk31 n).f1 = x.f1 ∧ (mk31 n).f2 = x.f2 ∧ (mk31 n).f7 = x.f7 ∧ (mk31 n).f6.size ≤ 1000000000 := by
  unfold normOf tree_normal.f at h
  rw [PM.normal_f x.f0 K (by omega) (by omega), Option.bind_some] at h
  cases e0 : (PM.normB x.f0).2 with
  | some c =>
    rw [if_neg (by rw [e0]; simp)] at h
    obtain rfl := Option.some.inj h
    cases he
  | none =>
    rw [if_pos (by rw [e0]; rfl)] at h
    have hg := PM.norm_ok e0
    by_cases c : x.f1 = 4
    · rw [if_pos c, PM.normal_f x.f6 K (by omega) (by omega), Option.bind_some] at h
      cases e1 : (PM.normB x.f6).2 with
      | some c =>
        rw [if_neg (by rw [e1]; simp)] at h
        obtain rfl := Option.some.inj h
        cases he
      | none =>
        rw [if_pos (by rw [e1]; rfl)] at h
        obtain ⟨t, ht, h⟩ := Option.bind_eq_some_iff.mp h
        obtain rfl := Option.some.inj h
        have ht2 : t = x.f7 := by
          unfold bytes_Clone.f at ht
          split at ht
          · exact (Option.some.inj ht).symm
          · cases ht
        have h2 := (PM.norm_ok e1).1
        exact ⟨rfl, rfl, hg, rfl, rfl, ht2, by show (PM.normB x.f6).1.size ≤ _; omega⟩
    · rw [if_neg c] at h
      obtain ⟨t, ht, h⟩ := Option.bind_eq_some_iff.mp h
      obtain rfl := Option.some.inj h
      have ht2 : t = x.f7 := by
        unfold bytes_Clone.f at ht
        split at ht
        · exact (Option.some.inj ht).symm
        · cases ht
      exact ⟨rfl, rfl, hg, rfl, rfl, ht2, hl⟩
end Go.Proofs.YtfkbmjfhakooiaaDoor.TR

/- Rows of entries, one by one. Conditions: as each theorem says. -/
namespace Go.Proofs.YtfkbmjfhakooiaaDoor.TR
open Go.RowKit Go.Proofs.YtfkbmjfhakooiaaDoor.PTree Go.Proofs.YtfkbmjfhakooiaaDoorW.PrintWords Go.Proofs.YtfkbmjfhakooiaaDoorW.PrintLast Go.Proofs.YtfkbmjfhakooiaaDoorW.PrintMore
set_option linter.unusedVariables false
set_option linter.unusedSimpArgs false
theorem take_rd (l : List S31) (i : Int) (h0 : 0 ≤ i) (h1 : i < (l.length : Int)) : l.take (i + 1).toNat = l.take i.toNat ++ [rd_T31 l i] := by
  have h2 : i.toNat < l.length := by omega
  rw [show (i + 1).toNat = i.toNat + 1 by omega, List.take_succ_eq_append_getElem h2]
  unfold rd_T31
  rw [List.getD_eq_getElem?_getD, List.getElem?_eq_getElem h2]
  rfl
end Go.Proofs.YtfkbmjfhakooiaaDoor.TR

/- Build of a tree's entries in any order: ahead of the sort. Conditions: as each theorem says. -/
namespace Go.Proofs.YtfkbmjfhakooiaaDoor.TR
open Go.RowKit Go.Proofs.YtfkbmjfhakooiaaDoor.PTree Go.Proofs.YtfkbmjfhakooiaaDoorW.PrintWords Go.Proofs.YtfkbmjfhakooiaaDoorW.PrintLast Go.Proofs.YtfkbmjfhakooiaaDoorW.PrintMore
set_option linter.unusedVariables false
set_option linter.unusedSimpArgs false
theorem rd_in (l : List S31) (i : Int) (h0 : 0 ≤ i) (h1 : i < (l.length : Int)) : rd_T31 l i ∈ l := by
  unfold rd_T31
  have h2 : i.toNat < l.length := by omega
  rw [List.getD_eq_getElem?_getD, List.getElem?_eq_getElem h2]
  exact List.getElem_mem h2
theorem build1_good (K : Nat) (l : List S31) (hK : 1000 ≤ K) (hl : ∀ x ∈ l, PM.GoodP x.f0 ∧ fieldsE x = true ∧ x.f7.length ≤ 1000000000000) : ∀ (k : Nat) (i : Int), 0 ≤ i → i ≤ (l.length : Int) → (l.length : Int) - i + 1 ≤ k → build1 K l k (l.take i.toNat) i = some (l, none)
  | 0, i, h0, hi, h1 => by omega
  | k + 1, i, h0, hi, h1 => by
    unfold build1
    by_cases c1 : i < (l.length : Int)
    · obtain ⟨q1, q2, q3⟩ := hl _ (rd_in l i h0 c1)
      rw [if_pos c1, normOf_good K _ hK q1 q2 q3, Option.bind_some]
      show build1 K l k (l.take i.toNat ++ [rd_T31 l i]) (i + 1) = _
      rw [← take_rd l i h0 c1]
      exact build1_good K l hK hl k (i + 1) (by omega) (by omega) (by omega)
    · rw [if_neg c1, List.take_of_length_le (by omega)]
/-- Paths that are all unlike. -/
def Unlike (l : List S31) : Prop := ∀ i j : Int, 0 ≤ i → i < j → j < (l.length : Int) → (rd_T31 l i).f0 ≠ (rd_T31 l j).f0
theorem build2_good (l : List S31) (hu : Unlike l) (hl : ∀ x ∈ l, x.f0.size ≤ 1000000000000) : ∀ (k : Nat) (i : Int) (M : ByteArray → Int), 0 ≤ i → i ≤ (l.length : Int) → (l.length : Int) - i + 1 ≤ k → (∀ s, M s ≠ 0 → ∃ m, 0 ≤ m ∧ m < i ∧ (rd_T31 l m).f0 = s) → (∀ m, 0 ≤ m → m < i → M (rd_T31 l m).f0 = 1) →
    ∃ M', build2 l k M i = some (some M') ∧ (∀ m, 0 ≤ m → m < (l.length : Int) → M' (rd_T31 l m).f0 = 1)
  | 0, i, M, h0, hi, h1, _, _ => by omega
  | k + 1, i, M, h0, hi, h1, h2, h3 => by
    unfold build2
    by_cases c1 : i < (l.length : Int)
    · have hz : M (rd_T31 l i).f0 = 0 := by
        by_cases e : M (rd_T31 l i).f0 = 0
        · exact e
        · obtain ⟨m, m0, m1, m2⟩ := h2 _ e
          exact absurd m2 (hu m i m0 m1 c1)
      rw [if_pos c1, if_pos (hl _ (rd_in l i h0 c1)), if_neg (by omega), if_pos hz]
      refine build2_good l hu hl k (i + 1) _ (by omega) (by omega) (by omega) (fun s hs => ?_) (fun m m0 m1 => ?_)
      · by_cases e : s = (rd_T31 l i).f0
        · exact ⟨i, h0, by omega, e.symm⟩
        · unfold upd at hs
          rw [if_neg e] at hs
          obtain ⟨m, m0, m1, m2⟩ := h2 s hs
          exact ⟨m, m0, by omega, m2⟩
      · unfold upd
        by_cases e : m = i
        · rw [e, if_pos rfl]
        · rw [if_neg (hu m i m0 (by omega) c1)]
          exact h3 m m0 (by omega)
    · rw [if_neg c1]
      exact ⟨M, rfl, fun m m0 m1 => h3 m m0 (by omega)⟩
theorem build3_good (K : Nat) (l : List S31) (M : ByteArray → Int) (hK : 1000 ≤ K) (hn : l.length < 1000000) (hz : ∀ x ∈ l, x.f0.size ≤ 1000000000000) (hp : ∀ x ∈ l, (PM.parentB x.f0).2 = true → M (PM.parentB x.f0).1 = 1) : ∀ (k : Nat) (i : Int), 0 ≤ i → i ≤ (l.length : Int) → (l.length : Int) - i + 1 ≤ k → build3 K k l M i = some l
  | 0, i, h0, hi, h1 => by omega
  | k + 1, i, h0, hi, h1 => by
    unfold build3
    by_cases c1 : i < (l.length : Int)
    · have hm := rd_in l i h0 c1
      have h5 := hz _ hm
      rw [if_pos c1, PM.parent_f _ K (by omega) (by omega), Option.bind_some, if_pos ⟨parentB_size _, hn⟩, if_neg (by
        intro h
        simp only [Bool.and_eq_true, beq_iff_eq] at h
        have := hp _ hm h.1
        omega)]
      exact build3_good K l M hK hn hz hp k (i + 1) (by omega) (by omega) (by omega)
    · rw [if_neg c1]
end Go.Proofs.YtfkbmjfhakooiaaDoor.TR

/- Build of a tree's entries in any order. Conditions: as each theorem says. -/
namespace Go.Proofs.YtfkbmjfhakooiaaDoor.TR
open Go.RowKit Go.Proofs.YtfkbmjfhakooiaaDoor.PTree Go.Proofs.YtfkbmjfhakooiaaDoorW.PrintWords Go.Proofs.YtfkbmjfhakooiaaDoorW.PrintLast Go.Proofs.YtfkbmjfhakooiaaDoorW.PrintMore
set_option linter.unusedVariables false
set_option linter.unusedSimpArgs false
theorem rd_ix (l : List S31) (x : S31) (h : x ∈ l) : ∃ j : Int, 0 ≤ j ∧ j < (l.length : Int) ∧ rd_T31 l j = x := by
  obtain ⟨n, hn, rfl⟩ := List.getElem_of_mem h
  refine ⟨(n : Int), by omega, by omega, ?_⟩
  unfold rd_T31
  rw [Int.toNat_natCast, List.getD_eq_getElem?_getD, List.getElem?_eq_getElem hn]
  rfl
theorem rd_get (l : List S31) (n : Nat) (hn : n < l.length) : rd_T31 l (n : Int) = l[n] := by
  unfold rd_T31
  rw [Int.toNat_natCast, List.getD_eq_getElem?_getD, List.getElem?_eq_getElem hn]
  rfl
/-- A tree's paths ascend. -/
theorem asc (b : List S31) (ok : ∀ j, 0 ≤ j → j < (b.length : Int) → OkAt b j) : ∀ (d : Nat) (i : Int), 0 ≤ i → i + 1 + d < (b.length : Int) → PM.cQ (rd_T31 b i).f0 (rd_T31 b (i + 1 + d)).f0 < 0
  | 0, i, h0, h1 => by
    have h := (ok (i + 1) (by omega) (by omega)).2.2.1 (by omega)
    rw [show i + 1 - 1 = i by omega] at h
    rw [show i + 1 + ((0 : Nat) : Int) = i + 1 by omega]
    exact h
  | d + 1, i, h0, h1 => by
    have h := asc b ok d i h0 (by omega)
    have h2 := (ok (i + 1 + (d + 1 : Nat)) (by omega) (by omega)).2.2.1 (by omega)
    rw [show i + 1 + ((d + 1 : Nat) : Int) - 1 = i + 1 + d by omega] at h2
    have t1 := PM.cQ_isCmp.tri (rd_T31 b i).f0 (rd_T31 b (i + 1 + d)).f0
    have := PM.cQ_isCmp.lt (a := (rd_T31 b i).f0) (b := (rd_T31 b (i + 1 + d)).f0) (d := (rd_T31 b (i + 1 + (d + 1 : Nat))).f0) (by omega) (by omega)
    omega
theorem asc_pair (b : List S31) (ok : ∀ j, 0 ≤ j → j < (b.length : Int) → OkAt b j) : b.Pairwise (fun p q => PM.cQ p.f0 q.f0 < 0) := by
  rw [List.pairwise_iff_getElem]
  intro i j hi hj hij
  have h := asc b ok (j - i - 1) (i : Int) (by omega) (by omega)
  rw [show (i : Int) + 1 + ((j - i - 1 : Nat) : Int) = (j : Int) by omega, rd_get b i hi, rd_get b j hj] at h
  exact h
theorem unlike_of (b m : List S31) (ok : ∀ j, 0 ≤ j → j < (b.length : Int) → OkAt b j) (hp : m.Perm b) : Unlike m := by
  have h1 : b.Pairwise (fun p q => p.f0 ≠ q.f0) := (asc_pair b ok).imp (fun {p q} h e => by rw [e, PM.cQ_isCmp.self] at h; omega)
  have h2 : m.Pairwise (fun p q => p.f0 ≠ q.f0) := h1.perm hp.symm (fun {p q} h e => h e.symm)
  intro i j h0 hij hj
  have h3 := List.pairwise_iff_getElem.1 h2 i.toNat j.toNat (by omega) (by omega) (by omega)
  have e1 := rd_get m i.toNat (by omega)
  have e2 := rd_get m j.toNat (by omega)
  rw [show ((i.toNat : Nat) : Int) = i by omega] at e1
  rw [show ((j.toNat : Nat) : Int) = j by omega] at e2
  rw [e1, e2]
  exact h3
theorem buildA_tree (K : Nat) (b m : List S31) (hK : 1000 ≤ K) (hn : b.length ≤ 200) (ok : ∀ j, 0 ≤ j → j < (b.length : Int) → OkAt b j) (hd : ∀ x ∈ b, x.f7.length ≤ 1000000000000) (hp : m.Perm b) : buildA K m = some (m, none) := by
  have hl := hp.length_eq
  have hx : ∀ x ∈ m, PM.GoodP x.f0 ∧ fieldsE x = true ∧ x.f7.length ≤ 1000000000000 ∧ ((PM.parentB x.f0).2 = true → ∃ y ∈ m, y.f0 = (PM.parentB x.f0).1) := by
    intro x hx
    have hb := hp.mem_iff.1 hx
    obtain ⟨j, j0, j1, e⟩ := rd_ix b x hb
    have h := ok j j0 j1
    unfold OkAt at h
    rw [e] at h
    refine ⟨h.1, h.2.1, hd x hb, fun hq => ?_⟩
    obtain ⟨q, q0, q1, q2, _⟩ := h.2.2.2 hq
    exact ⟨rd_T31 b q, hp.mem_iff.2 (rd_in b q q0 (by omega)), q2⟩
  have hsz : ∀ x ∈ m, x.f0.size ≤ 1000000000000 := fun x h => by have := (hx x h).1.1; omega
  unfold buildA
  have h1 := build1_good K m hK (fun x h => ⟨(hx x h).1, (hx x h).2.1, (hx x h).2.2.1⟩) (m.length + 1) 0 (by omega) (by omega) (by omega)
  have h1' : build1 K m (m.length + 1) [] 0 = some (m, none) := h1
  obtain ⟨M', h2, h3⟩ := build2_good m (unlike_of b m ok hp) hsz (m.length + 1) 0 (fun _ => 0) (by omega) (by omega) (by omega) (fun s hs => absurd rfl hs) (fun k k0 k1 => by omega)
  have h4 := build3_good K m M' hK (by omega) hsz (fun x h hq => by
    obtain ⟨y, hy, e⟩ := (hx x h).2.2.2 hq
    obtain ⟨j, j0, j1, ej⟩ := rd_ix m y hy
    have := h3 j j0 j1
    rw [ej, e] at this
    exact this) K 0 (by omega) (by omega) (by omega)
  rw [if_neg (by omega), h1', Option.bind_some]
  simp only [h2, Option.bind_some, h4]
end Go.Proofs.YtfkbmjfhakooiaaDoor.TR

/- What is handed in is there. Conditions: as each theorem says. -/
namespace Go.Proofs.YtfkbmjfhakooiaaDoor.TR
open Go.RowKit Go.Proofs.YtfkbmjfhakooiaaDoor.PTree Go.Proofs.YtfkbmjfhakooiaaDoorW.PrintWords Go.Proofs.YtfkbmjfhakooiaaDoorW.PrintLast Go.Proofs.YtfkbmjfhakooiaaDoorW.PrintMore
set_option linter.unusedVariables false
set_option linter.unusedSimpArgs false
theorem build1_has (K : Nat) (l xs : List S31) : ∀ (k : Nat) (out : List S31) (i : Int), build1 K l k out i = some (xs, none) → (∀ x ∈ out, x ∈ xs) ∧ ∀ j, i ≤ j → j < (l.length : Int) → ∃ n, normOf K (rd_T31 l j) = some n ∧ n.2.2.2.2.2.2.2.2 = none ∧ mk31 n ∈ xs
  | 0, out, i, h => by simp [build1] at h
  | k + 1, out, i, h => by
    unfold build1 at h
    by_cases c1 : i < (l.length : Int)
    · rw [if_pos c1] at h
      obtain ⟨n, hn, h⟩ := Option.bind_eq_some_iff.mp h
      cases e : n.2.2.2.2.2.2.2.2 with
      | some c =>
        rw [e] at h
        simp at h
      | none =>
        rw [e] at h
        obtain ⟨h1, h2⟩ := build1_has K l xs k (out ++ [mk31 n]) (i + 1) h
        refine ⟨fun x hx => h1 x (List.mem_append_left _ hx), fun j hj hj2 => ?_⟩
        by_cases ej : j = i
        · rw [ej]
          exact ⟨n, hn, e, h1 _ (List.mem_append_right _ (List.mem_singleton.2 rfl))⟩
        · exact h2 j (by omega) hj2
    · rw [if_neg c1] at h
      obtain rfl : out = xs := by simpa using h
      exact ⟨fun x hx => hx, fun j hj hj2 => by omega⟩
theorem build3_has (K : Nat) (ys : List S31) : ∀ (k : Nat) (xs : List S31) (M : ByteArray → Int) (i : Int), build3 K k xs M i = some ys → ∀ x ∈ xs, x ∈ ys
  | 0, xs, M, i, h, x, hx => by simp [build3] at h
  | k + 1, xs, M, i, h, x, hx => by
    unfold build3 at h
    by_cases c1 : i < (xs.length : Int)
    · rw [if_pos c1] at h
      obtain ⟨pr, _, h⟩ := Option.bind_eq_some_iff.mp h
      split at h
      · split at h
        · exact build3_has K ys k _ _ _ h x (List.mem_append_left _ hx)
        · exact build3_has K ys k _ _ _ h x hx
      · cases h
    · rw [if_neg c1] at h
      obtain rfl := Option.some.inj h
      exact hx
end Go.Proofs.YtfkbmjfhakooiaaDoor.TR

/- Build's entries ahead of the sort: there always. Conditions: as each theorem says. -/
namespace Go.Proofs.YtfkbmjfhakooiaaDoor.TR
open Go.RowKit Go.Proofs.YtfkbmjfhakooiaaDoor.PTree Go.Proofs.YtfkbmjfhakooiaaDoorW.PrintWords Go.Proofs.YtfkbmjfhakooiaaDoorW.PrintLast Go.Proofs.YtfkbmjfhakooiaaDoorW.PrintMore
set_option linter.unusedVariables false
set_option linter.unusedSimpArgs false
/-- An entry as it is handed in: small. -/
def SmallE (x : S31) : Prop := x.f0.size ≤ 1000000 ∧ x.f6.size ≤ 1000000 ∧ x.f7.length ≤ 1000000 ∧ (Lit.int .i64 x.f1).wf = true
/-- An entry as it is meant. -/
def MeantE (x : S31) : Prop := PM.GoodP x.f0 ∧ x.f6.size ≤ 1000000000 ∧ x.f7.length ≤ 1000000 ∧ (Lit.int .i64 x.f1).wf = true
theorem normOf_total (K : Nat) (x : S31) (h : SmallE x) (hK : 3000000 ≤ K) : ∃ n, normOf K x = some n := by
  obtain ⟨h0, h1, h2, h3⟩ := h
  unfold normOf tree_normal.f
  rw [PM.normal_f x.f0 K (by omega) (by omega), Option.bind_some]
  have hc : bytes_Clone.f x.f7 = some x.f7 := by unfold bytes_Clone.f; rw [if_pos (by omega)]
  by_cases e : (PM.normB x.f0).2 = none
  · rw [if_pos (by rw [e]; rfl)]
    by_cases c : x.f1 = 4
    · rw [if_pos c, PM.normal_f x.f6 K (by omega) (by omega), Option.bind_some]
      by_cases e2 : (PM.normB x.f6).2 = none
      · rw [if_pos (by rw [e2]; rfl), hc]
        exact ⟨_, rfl⟩
      · rw [if_neg (by
          cases hh : (PM.normB x.f6).2 with
          | none => exact absurd hh e2
          | some c => simp)]
        exact ⟨_, rfl⟩
    · rw [if_neg c, hc]
      exact ⟨_, rfl⟩
  · rw [if_neg (by
      cases hh : (PM.normB x.f0).2 with
      | none => exact absurd hh e
      | some c => simp)]
    exact ⟨_, rfl⟩
theorem meant_of (K : Nat) (x : S31) (n : NormT) (h : SmallE x) (hK : 3000000 ≤ K) (hn : normOf K x = some n) (he : n.2.2.2.2.2.2.2.2 = none) : MeantE (mk31 n) := by
  obtain ⟨h0, h1, h2, h3⟩ := h
  obtain ⟨_, _, q2, q3, _, q5, q6⟩ := normOf_shape K x n (by omega) (by omega) (by omega) hn he
  exact ⟨q2, q6, by rw [q5]; exact h2, by rw [q3]; exact h3⟩
theorem build1_total (K : Nat) (l : List S31) (hK : 3000000 ≤ K) (hl : ∀ x ∈ l, SmallE x) : ∀ (k : Nat) (out : List S31) (i : Int), 0 ≤ i → i ≤ (l.length : Int) → (l.length : Int) - i + 1 ≤ k → (∀ x ∈ out, MeantE x) → (out.length : Int) = i →
    ∃ r, build1 K l k out i = some r ∧ (r.2 = none → (∀ x ∈ r.1, MeantE x) ∧ r.1.length = l.length)
  | 0, out, i, h0, hi, h1, _, _ => by omega
  | k + 1, out, i, h0, hi, h1, h2, h3 => by
    unfold build1
    by_cases c1 : i < (l.length : Int)
    · have hs := hl _ (rd_in l i h0 c1)
      obtain ⟨n, hn⟩ := normOf_total K _ hs hK
      rw [if_pos c1, hn, Option.bind_some]
      cases e : n.2.2.2.2.2.2.2.2 with
      | some c => exact ⟨_, rfl, fun h => by cases h⟩
      | none =>
        refine build1_total K l hK hl k (out ++ [mk31 n]) (i + 1) (by omega) (by omega) (by omega) (fun x hx => ?_) (by rw [List.length_append, List.length_singleton]; omega)
        rcases List.mem_append.1 hx with hx | hx
        · exact h2 x hx
        · rw [List.mem_singleton.1 hx]
          exact meant_of K _ n hs hK hn e
    · rw [if_neg c1]
      exact ⟨_, rfl, fun _ => ⟨h2, by show out.length = _; omega⟩⟩
theorem build2_total (xs : List S31) (hl : ∀ x ∈ xs, MeantE x) : ∀ (k : Nat) (M : ByteArray → Int) (i : Int), 0 ≤ i → i ≤ (xs.length : Int) → (xs.length : Int) - i + 1 ≤ k → (∀ s, 0 ≤ M s) → ∃ r, build2 xs k M i = some r
  | 0, M, i, h0, hi, h1, _ => by omega
  | k + 1, M, i, h0, hi, h1, h2 => by
    unfold build2
    by_cases c1 : i < (xs.length : Int)
    · have hs := (hl _ (rd_in xs i h0 c1)).1.1
      rw [if_pos c1, if_pos (by omega)]
      by_cases c2 : M (rd_T31 xs i).f0 > 0
      · rw [if_pos c2]
        exact ⟨_, rfl⟩
      · rw [if_neg c2, if_pos (by have := h2 (rd_T31 xs i).f0; omega)]
        refine build2_total xs hl k _ (i + 1) (by omega) (by omega) (by omega) (fun s => ?_)
        unfold upd
        split
        · omega
        · exact h2 s
    · rw [if_neg c1]
      exact ⟨_, rfl⟩
/-- How deep the entries lie, together. -/
def depths : List S31 → Nat
  | [] => 0
  | x :: r => (pieces x.f0).length + depths r
theorem depths_append : ∀ a b : List S31, depths (a ++ b) = depths a + depths b
  | [], b => by simp [depths]
  | x :: a, b => by rw [List.cons_append, depths, depths, depths_append a b]; omega
theorem depths_le (B : Nat) : ∀ l : List S31, (∀ x ∈ l, (pieces x.f0).length ≤ B) → depths l ≤ l.length * B
  | [], _ => Nat.zero_le _
  | x :: l, h => by
    have h1 := depths_le B l (fun y hy => h y (List.mem_cons_of_mem _ hy))
    have h2 := h x List.mem_cons_self
    rw [depths, List.length_cons, Nat.succ_mul]
    omega
theorem par_pieces {s : ByteArray} (h : (PM.parentB s).2 = true) : PM.GoodP (PM.parentB s).1 ∧ (pieces (PM.parentB s).1).length + 1 = (pieces s).length := by
  unfold PM.parentB at h ⊢
  split at h
  · rename_i hc
    rw [if_pos hc]
    obtain ⟨g1, g2⟩ := PM.good_join (PM.dl_good hc.1 hc.2)
    refine ⟨g1, ?_⟩
    show (pieces (PM.joinB (pieces s).dropLast)).length + 1 = _
    rw [g2, List.length_dropLast]
    omega
  · cases h
theorem build3_total (K : Nat) (hK : 1000 ≤ K) : ∀ (k : Nat) (xs : List S31) (M : ByteArray → Int) (i : Int), (∀ x ∈ xs, MeantE x) → 0 ≤ i → i ≤ (xs.length : Int) → depths (xs.drop i.toNat) + 1 ≤ k → xs.length + depths (xs.drop i.toNat) < 1000000 →
    ∃ ys, build3 K k xs M i = some ys ∧ (∀ x ∈ ys, MeantE x) ∧ ys.length < 1000000
  | 0, xs, M, i, _, h0, hi, h1, _ => by omega
  | k + 1, xs, M, i, hx, h0, hi, h1, h2 => by
    unfold build3
    by_cases c1 : i < (xs.length : Int)
    · have hm := hx _ (rd_in xs i h0 c1)
      have hg := hm.1
      have hz := hg.1
      have hdrop : xs.drop i.toNat = rd_T31 xs i :: xs.drop (i.toNat + 1) := by
        have e := rd_get xs i.toNat (by omega)
        rw [show ((i.toNat : Nat) : Int) = i by omega] at e
        rw [e]
        exact List.drop_eq_getElem_cons (by omega)
      have hpl : 0 < (pieces (rd_T31 xs i).f0).length := List.length_pos_iff.2 (PM.pieces_ne _)
      rw [hdrop, depths] at h1 h2
      have ei : (i + 1).toNat = i.toNat + 1 := by omega
      rw [if_pos c1, PM.parent_f _ K (by omega) (by omega), Option.bind_some, if_pos ⟨parentB_size _, by omega⟩]
      by_cases c2 : ((PM.parentB (rd_T31 xs i).f0).2 && (M (PM.parentB (rd_T31 xs i).f0).1 == 0)) = true
      · rw [if_pos c2]
        have c3 : (PM.parentB (rd_T31 xs i).f0).2 = true := by
          simp only [Bool.and_eq_true] at c2
          exact c2.1
        obtain ⟨p1, p2⟩ := par_pieces c3
        have hd : (xs ++ [(⟨(PM.parentB (rd_T31 xs i).f0).1, 1, 493, 0, 0, 0, ⟨#[]⟩, []⟩ : S31)]).drop (i.toNat + 1) = xs.drop (i.toNat + 1) ++ [(⟨(PM.parentB (rd_T31 xs i).f0).1, 1, 493, 0, 0, 0, ⟨#[]⟩, []⟩ : S31)] := List.drop_append_of_le_length (by omega)
        have hdd : depths ([(⟨(PM.parentB (rd_T31 xs i).f0).1, 1, 493, 0, 0, 0, ⟨#[]⟩, []⟩ : S31)]) + 1 = (pieces (rd_T31 xs i).f0).length := by
          show (pieces (PM.parentB (rd_T31 xs i).f0).1).length + 0 + 1 = _
          omega
        refine build3_total K hK k _ _ (i + 1) (fun x hx2 => ?_) (by omega) (by rw [List.length_append, List.length_singleton]; omega) ?_ ?_
        · rcases List.mem_append.1 hx2 with hx2 | hx2
          · exact hx x hx2
          · rw [List.mem_singleton.1 hx2]
            exact ⟨p1, show (⟨#[]⟩ : ByteArray).size ≤ 1000000000 by decide, Nat.zero_le _, show (Lit.int .i64 1).wf = true by decide⟩
        · rw [ei, hd, depths_append]; omega
        · rw [ei, hd, depths_append, List.length_append, List.length_singleton]; omega
      · rw [if_neg c2]
        exact build3_total K hK k xs M (i + 1) hx (by omega) (by omega) (by rw [ei]; omega) (by rw [ei]; omega)
    · rw [if_neg c1]
      exact ⟨xs, rfl, hx, by omega⟩
theorem pieces_short {s : ByteArray} (h : PM.GoodP s) : (pieces s).length ≤ 401 := by
  have h1 := PM.len_le_tot (pieces s)
  rw [PM.tot_pieces] at h1
  have := h.1
  omega
/-- Build ahead of the sort answers always. -/
theorem buildA_total (K : Nat) (l : List S31) (hK : 3000000 ≤ K) (hl : ∀ x ∈ l, SmallE x) :
    ∃ xs er, buildA K l = some (xs, er) ∧ (er = none → (∀ x ∈ xs, MeantE x) ∧ xs.length < 1000000 ∧ ∀ x ∈ l, ∃ n, normOf K x = some n ∧ n.2.2.2.2.2.2.2.2 = none ∧ mk31 n ∈ xs) := by
  unfold buildA
  by_cases c : (l.length : Int) > 200
  · rw [if_pos c]
    exact ⟨_, _, rfl, fun h => by cases h⟩
  · rw [if_neg c]
    obtain ⟨⟨x1, e1⟩, h1, q1⟩ := build1_total K l hK hl (l.length + 1) [] 0 (by omega) (by omega) (by omega) (fun x hx => by cases hx) rfl
    rw [h1, Option.bind_some]
    cases e1 with
    | some cc => exact ⟨_, _, rfl, fun h => by cases h⟩
    | none =>
      obtain ⟨q2, q3⟩ := q1 rfl
      have q3' : x1.length = l.length := q3
      obtain ⟨_, q4⟩ := build1_has K l x1 _ _ _ h1
      obtain ⟨r2, h2⟩ := build2_total x1 q2 (x1.length + 1) (fun _ => 0) 0 (by omega) (by omega) (by omega) (fun _ => by omega)
      simp only [h2, Option.bind_some]
      cases r2 with
      | none => exact ⟨_, _, rfl, fun h => by cases h⟩
      | some M =>
        have hdl := depths_le 401 x1 (fun x hx => pieces_short (q2 x hx).1)
        have hd2 : x1.length * 401 ≤ 200 * 401 := Nat.mul_le_mul_right _ (by omega)
        obtain ⟨ys, h3, q5, q6⟩ := build3_total K (by omega) K x1 M 0 q2 (by omega) (by omega) (by show depths x1 + 1 ≤ K; omega) (by show x1.length + depths x1 < _; omega)
        simp only [h3, Option.bind_some]
        refine ⟨ys, none, rfl, fun _ => ⟨q5, q6, fun x hx => ?_⟩⟩
        obtain ⟨j, j0, j1, e⟩ := rd_ix l x hx
        obtain ⟨n, n1, n2, n3⟩ := q4 j j0 j1
        rw [e] at n1
        exact ⟨n, n1, n2, build3_has K ys _ _ _ _ h3 _ n3⟩
end Go.Proofs.YtfkbmjfhakooiaaDoor.TR

/- tree.Find, slices.IndexFunc of entries, walked. Conditions: as each theorem says. -/
namespace Go.Proofs.YtfkbmjfhakooiaaDoor.TR
open Go.RowKit Go.Proofs.YtfkbmjfhakooiaaDoor.PTree Go.Proofs.YtfkbmjfhakooiaaDoorW.PrintWords Go.Proofs.YtfkbmjfhakooiaaDoorW.PrintLast Go.Proofs.YtfkbmjfhakooiaaDoorW.PrintMore
set_option linter.unusedVariables false
set_option linter.unusedSimpArgs false
set_option maxHeartbeats 4000000 in
theorem find1_calls (x : S31) (A : Option Addr) (k gp : Nat) (p : ByteArray) (w : World) (hp : w.cell? ⟨gp, 0, none⟩ = some (.string p)) :
    Calls Tryd.prog 41 #[.agg #[.string x.f0, .int .i64 x.f1, .int .i64 x.f2, .int .i64 x.f3, .int .i64 x.f4, .int .i64 x.f5, .string x.f6, .slice A x.f7.length k], .pointer (some ⟨gp, 0, none⟩)] w fun e w' => e = .returned (.bool (x.f0.toList == p.toList)) ∧ Below w.heap.size w w' := by
  have hu31 := Tryd.underlying31
  obtain ⟨x0, x1, x2, x3, x4, x5, x6, x7⟩ := x
  simp only
  have hlt := World.block_lt_of_cell? w _ hp
  have hp2 := (World.cell?_alloc_lt w (.cells #[.string x0, .int .i64 x1, .int .i64 x2, .int .i64 x3, .int .i64 x4, .int .i64 x5, .string x6, .slice A x7.length k] 31) ⟨gp, 0, none⟩ hlt).trans hp
  go_enter Tryd.func41, Tryd.ntmps41
  go_wp2
  go_ret
  exact ⟨rfl, below_alloc (Below.refl _ _) _⟩
def find0 (l : List S31) (p : ByteArray) : Nat → Int → Option Int
  | 0, _ => none
  | k + 1, i => if i < (l.length : Int) then (if ((rd_T31 l i).f0.toList == p.toList) = true then some i else find0 l p k (i + 1)) else some (-1)
set_option maxHeartbeats 8000000 in
set_option maxRecDepth 100000 in
theorem index_calls (l0 : List S31) (p : ByteArray) (A0 : Option Addr) (k0 gp : Nat) (r : Int) (w : World) (h0 : Kd.C k31 w A0 l0.length l0) (hp : w.cell? ⟨gp, 0, none⟩ = some (.string p)) (h : find0 l0 p (l0.length + 1) 0 = some r) :
    Calls Tryd.prog 40 #[.slice A0 l0.length k0, .func (.func 41) #[] #[.pointer (some ⟨gp, 0, none⟩)]] w fun e w' => e = .returned (.int .i64 r) ∧ Below w.heap.size w w' := by
  have hu31 := Tryd.underlying31
  have H0 := Aside0.mk h0
  have HLB := Aside0.mk h0.2.1
  have HPC := Aside0.mk hp
  have H := Aside0.mk h
  clear h0 hp h
  have eg : ∀ args w, (callFunc 41 args).run Tryd.prog w = .ok (.enter 41 args) w := enters_of Tryd.func41 (by kernel_rfl) rfl
  have HB := Aside0.mk (Below.refl w.heap.size w)
  go_enter Tryd.func40, Tryd.ntmps40
  go_wp2
  go_loopg [8] (l0.length + 1) (fun kq v8 w' => ∃ (i : Int), v8 = .int .i64 i ∧ Aside0 (find0 l0 p kq i = some r) ∧ Aside0 (0 ≤ i) ∧ Aside0 (Below w.heap.size w w'))
  case atStart => exact ⟨0, rfl, H, ⟨by omega⟩, HB⟩
  case round =>
    clear HB H
    obtain ⟨i, rfl, HA, HI, HB⟩ := hrel
    cases gk with
    | zero => exact absurd HA.out (by simp [find0])
    | succ k1 =>
      have H := HA.out
      clear HA
      simp only [find0] at H
      by_cases c2 : i < (l0.length : Int)
      · rw [if_pos c2] at H
        have C2 := Aside0.mk c2
        obtain ⟨ad, A7, c7, eA, x0, x1, x2, x3, x4, x5, x6, x7, _, _⟩ := at_T31 H0.out i HI.out c2
        cases eA
        replace x0 := (HB.out.cell (World.block_lt_of_cell? w _ x0)).trans x0
        replace x1 := (HB.out.cell (World.block_lt_of_cell? w _ x1)).trans x1
        replace x2 := (HB.out.cell (World.block_lt_of_cell? w _ x2)).trans x2
        replace x3 := (HB.out.cell (World.block_lt_of_cell? w _ x3)).trans x3
        replace x4 := (HB.out.cell (World.block_lt_of_cell? w _ x4)).trans x4
        replace x5 := (HB.out.cell (World.block_lt_of_cell? w _ x5)).trans x5
        replace x6 := (HB.out.cell (World.block_lt_of_cell? w _ x6)).trans x6
        replace x7 := (HB.out.cell (World.block_lt_of_cell? w _ x7)).trans x7
        have hi0 := HI.out
        have p210 := eq_true hi0
        have q210 := eq_true c2
        clear hi0
        cases hq : ((rd_T31 l0 i).f0.toList == p.toList) with
        | true =>
          rw [hq, if_pos rfl] at H
          obtain rfl := Option.some.inj H
          go_wp2_with (first | (go_at_call 41; refine (find1_calls (rd_T31 l0 i) A7 c7 gp p _ ((HB.out.cell (World.block_lt_of_cell? w _ HPC.out)).trans HPC.out)).mono ?_; rintro e w9 ⟨rfl, hb⟩; have HB9 := Aside0.mk (below_step HB.out hb); rw [hq]; clear hb))
          go_ret
          exact ⟨rfl, HB9.out⟩
        | false =>
          rw [hq, if_neg (by simp)] at H
          replace H := Aside0.mk H
          go_wp2_with (first | (go_at_call 41; refine (find1_calls (rd_T31 l0 i) A7 c7 gp p _ ((HB.out.cell (World.block_lt_of_cell? w _ HPC.out)).trans HPC.out)).mono ?_; rintro e w9 ⟨rfl, hb⟩; have HB9 := Aside0.mk (below_step HB.out hb); rw [hq]; clear hb))
          go_roundg k1
          case measure => omega
          case rel => exact ⟨i + 1, by rw [wr_in _ (by have h1 := HI.out; have h2 := HLB.out; have h3 := C2.out; omega)], H, ⟨by have := HI.out; omega⟩, HB9⟩
      · rw [if_neg c2] at H
        obtain rfl := Option.some.inj H
        go_wp2
        go_ret
        exact ⟨rfl, HB.out⟩
end Go.Proofs.YtfkbmjfhakooiaaDoor.TR

/- tree.Find, walked. Conditions: as each theorem says. -/
namespace Go.Proofs.YtfkbmjfhakooiaaDoor.TR
open Go.RowKit Go.Proofs.YtfkbmjfhakooiaaDoor.PTree Go.Proofs.YtfkbmjfhakooiaaDoorW.PrintWords Go.Proofs.YtfkbmjfhakooiaaDoorW.PrintLast Go.Proofs.YtfkbmjfhakooiaaDoorW.PrintMore
set_option linter.unusedVariables false
set_option linter.unusedSimpArgs false
theorem find0_spec (l : List S31) (p : ByteArray) : ∀ (k : Nat) (i r : Int), 0 ≤ i → find0 l p k i = some r → r = -1 ∨ (0 ≤ r ∧ r < (l.length : Int) ∧ (rd_T31 l r).f0.toList = p.toList)
  | 0, i, r, _, h => by simp [find0] at h
  | k + 1, i, r, h0, h => by
    unfold find0 at h
    by_cases c1 : i < (l.length : Int)
    · rw [if_pos c1] at h
      by_cases c2 : ((rd_T31 l i).f0.toList == p.toList) = true
      · rw [if_pos c2] at h
        obtain rfl := Option.some.inj h
        exact .inr ⟨h0, c1, beq_iff_eq.mp c2⟩
      · rw [if_neg c2] at h
        exact find0_spec l p k (i + 1) r (by omega) h
    · rw [if_neg c1] at h
      exact .inl (Option.some.inj h).symm
theorem rd_memI (l : List S31) (i : Int) (h0 : 0 ≤ i) (h1 : i < (l.length : Int)) : rd_T31 l i ∈ l := by
  unfold rd_T31
  have h2 : i.toNat < l.length := by omega
  rw [List.getD_eq_getElem?_getD, List.getElem?_eq_getElem h2]
  exact List.getElem_mem h2
set_option maxHeartbeats 8000000 in
set_option maxRecDepth 100000 in
theorem Find_calls (l0 : List S31) (p : ByteArray) (A0 : Option Addr) (k0 : Nat) (r : Int) (w : World) (hGl : Gl w) (h0 : Kd.C k31 w A0 l0.length l0) (hd : ∀ x ∈ l0, x.f7.length ≤ 1000000000000) (h : find0 l0 p (l0.length + 1) 0 = some r) :
    Calls Tryd.prog 21 #[.slice A0 l0.length k0, .string p] w fun e w' => Below w.heap.size w w' ∧ ((r = -1 ∧ e = .returned (.tuple #[.agg #[.string (⟨#[]⟩ : ByteArray), .int .i64 0, .int .i64 0, .int .i64 0, .int .i64 0, .int .i64 0, .string (⟨#[]⟩ : ByteArray), .slice none 0 0], .bool false])) ∨ (0 ≤ r ∧ r < (l0.length : Int) ∧ ∃ (Ao : Option Addr) (co : Nat), e = .returned (.tuple #[.agg #[.string (rd_T31 l0 r).f0, .int .i64 (rd_T31 l0 r).f1, .int .i64 (rd_T31 l0 r).f2, .int .i64 (rd_T31 l0 r).f3, .int .i64 (rd_T31 l0 r).f4, .int .i64 (rd_T31 l0 r).f5, .string (rd_T31 l0 r).f6, .slice Ao (rd_T31 l0 r).f7.length co], .bool true]) ∧ Kd.R (Kd.int .u8) 5 w' w.heap.size (fun _ => True) (.slice Ao (rd_T31 l0 r).f7.length co) (rd_T31 l0 r).f7)) := by
  have hu31 := Tryd.underlying31
  have hz31 := info31
  have H0 := Aside0.mk h0
  have HGL := Aside0.mk hGl
  have HF := Aside0.mk h
  rcases find0_spec l0 p _ 0 r (by omega) h with e1 | ⟨r0, r1, _⟩
  · subst e1
    clear h0 hGl h hd
    go_enter Tryd.func21, Tryd.ntmps21
    go_wp2_with (first | ((with_reducible refine gate_dst (N := 3) rfl ?_); refine box_event ?hg (N := 3) ?hd (cs := #[.string p]) (t := 9) ?hr ?_; (case hd => rfl); (case hg => rfl); (case hr => first | (go_simp; done) | (go_simp; rfl)); intro g3 hg w3 hbox hb; have HB3 := Aside0.mk hb; have K3 := Aside0.mk hbox; clear hb hbox hg) | ((with_reducible refine gate_dst (N := 4) rfl ?_); refine box_event ?hg (N := 4) ?hd (cs := #[.string (⟨#[]⟩ : ByteArray), .int .i64 0, .int .i64 0, .int .i64 0, .int .i64 0, .int .i64 0, .string (⟨#[]⟩ : ByteArray), .slice none 0 0]) (t := 31) ?hr ?_; (case hd => rfl); (case hg => rfl); (case hr => first | (go_simp; done) | (go_simp; rfl)); intro g4 hg w4 hbox hb; have HB4 := Aside0.mk (below_step HB3.out hb); have K34 := Aside0.mk (blk_below K3.out hb); have K4 := Aside0.mk hbox; have G4 := Aside0.mk (show w.heap.size ≤ g4 by rw [hg]; exact below_size HB3.out); clear hb hbox hg) | (go_at_call 40; refine (index_calls l0 p _ k0 g3 _ _ (Kd.C_below H0.out HB4.out) (blk_cell K34.out 0) HF.out).mono ?_; rintro e w5 ⟨rfl, hb⟩; have HB5 := Aside0.mk (below_step HB4.out hb); have K5 := Aside0.mk (blk_below K4.out hb); clear hb) | ((with_reducible refine gate_store (t := 31) (p := 4) (v := .tmp 12) rfl ?_); refine ev_set31 _ rfl (.tmp 4) (.tmp 12) rfl rfl g4 _ _ _ _ _ _ _ _ ⟨#[]⟩ ⟨#[]⟩ 0 0 0 0 0 none 0 0 rfl rfl K5.out (fun w8 b1 b2 => ?_)))
    refine bodyPost_ret (results_ct rfl _ _ g4 31 #[.string (⟨#[]⟩ : ByteArray), .int .i64 0, .int .i64 0, .int .i64 0, .int .i64 0, .int .i64 0, .string (⟨#[]⟩ : ByteArray), .slice none 0 0] (0, 0) _ rfl b1 Tryd.underlying31 rfl (by kernel_rfl)) rfl ?_
    exact ⟨below_row_ HB5.out b2 G4.out, .inl ⟨by simp, rfl⟩⟩
  · have HDD := Aside0.mk (hd _ (rd_memI l0 r r0 r1))
    obtain ⟨ad, A7, c7, eA, x0, x1, x2, x3, x4, x5, x6, x7, hl7, hi7⟩ := at_T31 H0.out r r0 r1
    subst eA
    have HL7 := Aside0.mk hl7
    have HI7 := Aside0.mk hi7
    have p210 := eq_true r0
    have q210 := eq_true r1
    have n210 := eq_false (show ¬ r < 0 by omega)
    have m210 : decide (r < 0) = false := decide_eq_false (by omega)
    have HR := Aside0.mk (And.intro r0 r1)
    clear h0 hGl h hd hl7 hi7 r0 r1
    have HCO := Aside0.mk (show tree_copied.f (rd_T31 l0 r).f0 (rd_T31 l0 r).f1 (rd_T31 l0 r).f2 (rd_T31 l0 r).f3 (rd_T31 l0 r).f4 (rd_T31 l0 r).f5 (rd_T31 l0 r).f6 (rd_T31 l0 r).f7 = some ((rd_T31 l0 r).f0, (rd_T31 l0 r).f1, (rd_T31 l0 r).f2, (rd_T31 l0 r).f3, (rd_T31 l0 r).f4, (rd_T31 l0 r).f5, (rd_T31 l0 r).f6, (rd_T31 l0 r).f7) from (by
      unfold tree_copied.f bytes_Clone.f
      rw [if_pos HDD.out]
      rfl))
    go_enter Tryd.func21, Tryd.ntmps21
    go_wp2_with (first | ((with_reducible refine gate_dst (N := 3) rfl ?_); refine box_event ?hg (N := 3) ?hd (cs := #[.string p]) (t := 9) ?hr ?_; (case hd => rfl); (case hg => rfl); (case hr => first | (go_simp; done) | (go_simp; rfl)); intro g3 hg w3 hbox hb; have HB3 := Aside0.mk hb; have K3 := Aside0.mk hbox; clear hb hbox hg) | ((with_reducible refine gate_dst (N := 4) rfl ?_); refine box_event ?hg (N := 4) ?hd (cs := #[.string (⟨#[]⟩ : ByteArray), .int .i64 0, .int .i64 0, .int .i64 0, .int .i64 0, .int .i64 0, .string (⟨#[]⟩ : ByteArray), .slice none 0 0]) (t := 31) ?hr ?_; (case hd => rfl); (case hg => rfl); (case hr => first | (go_simp; done) | (go_simp; rfl)); intro g4 hg w4 hbox hb; have HB4 := Aside0.mk (below_step HB3.out hb); have K34 := Aside0.mk (blk_below K3.out hb); have K4 := Aside0.mk hbox; have G4 := Aside0.mk (show w.heap.size ≤ g4 by rw [hg]; exact below_size HB3.out); clear hb hbox hg) | (go_at_call 40; refine (index_calls l0 p _ k0 g3 _ _ (Kd.C_below H0.out HB4.out) (blk_cell K34.out 0) HF.out).mono ?_; rintro e w5 ⟨rfl, hb⟩; have HB5 := Aside0.mk (below_step HB4.out hb); have K5 := Aside0.mk (blk_below K4.out hb); have z0 := (HB5.out.cell (World.block_lt_of_cell? w _ x0)).trans x0; have z1 := (HB5.out.cell (World.block_lt_of_cell? w _ x1)).trans x1; have z2 := (HB5.out.cell (World.block_lt_of_cell? w _ x2)).trans x2; have z3 := (HB5.out.cell (World.block_lt_of_cell? w _ x3)).trans x3; have z4 := (HB5.out.cell (World.block_lt_of_cell? w _ x4)).trans x4; have z5 := (HB5.out.cell (World.block_lt_of_cell? w _ x5)).trans x5; have z6 := (HB5.out.cell (World.block_lt_of_cell? w _ x6)).trans x6; have z7 := (HB5.out.cell (World.block_lt_of_cell? w _ x7)).trans x7; clear hb) | (go_at_call 30; refine (tree_copied.calls (rd_T31 l0 r).f0 (rd_T31 l0 r).f1 (rd_T31 l0 r).f2 (rd_T31 l0 r).f3 (rd_T31 l0 r).f4 (rd_T31 l0 r).f5 (rd_T31 l0 r).f6 A7 c7 (rd_T31 l0 r).f7 (rd_T31 l0 r).f0 (rd_T31 l0 r).f1 (rd_T31 l0 r).f2 (rd_T31 l0 r).f3 (rd_T31 l0 r).f4 (rd_T31 l0 r).f5 (rd_T31 l0 r).f6 (rd_T31 l0 r).f7 _ (Kd.C_below HI7.out HB5.out) HL7.out (HGL.out.of HB5.out) HCO.out).mono ?_; rintro e w7 ⟨v7, rfl, ho, hb⟩; have HB7 := Aside0.mk (below_step HB5.out hb); have K7 := Aside0.mk (blk_below K5.out hb); have HD := Aside0.mk (Kd.R_types (Kd.R_lower ho (below_size HB5.out)) (blk_below K5.out hb) (by decide)); obtain ⟨Ao, co, eo⟩ := Kd.R_slice ho; subst eo; clear ho hb) | ((with_reducible refine gate_store (t := 31) (p := 4) (v := .tmp 17) rfl ?_); refine ev_set31 _ rfl (.tmp 4) (.tmp 17) rfl rfl g4 _ _ _ _ _ _ _ _ (rd_T31 l0 r).f0 (rd_T31 l0 r).f6 (rd_T31 l0 r).f1 (rd_T31 l0 r).f2 (rd_T31 l0 r).f3 (rd_T31 l0 r).f4 (rd_T31 l0 r).f5 Ao (rd_T31 l0 r).f7.length co rfl rfl K7.out (fun w8 b1 b2 => ?_)))
    refine bodyPost_ret (results_ct rfl _ _ g4 31 #[.string (rd_T31 l0 r).f0, .int .i64 (rd_T31 l0 r).f1, .int .i64 (rd_T31 l0 r).f2, .int .i64 (rd_T31 l0 r).f3, .int .i64 (rd_T31 l0 r).f4, .int .i64 (rd_T31 l0 r).f5, .string (rd_T31 l0 r).f6, .slice Ao (rd_T31 l0 r).f7.length co] (0, 0) _ rfl b1 Tryd.underlying31 rfl (by kernel_rfl)) rfl ?_
    exact ⟨below_row_ HB7.out b2 G4.out, .inr ⟨HR.out.1, HR.out.2, Ao, co, rfl, Kd.R_mono (Kd.R_grown HD.out b2 (fun k hk e => hk.2 (by injection e))) (fun _ _ => trivial)⟩⟩
end Go.Proofs.YtfkbmjfhakooiaaDoor.TR

/- tree.Find in plain Lean. Conditions: as each theorem says. -/
namespace Go.Proofs.YtfkbmjfhakooiaaDoor.TR
open Go.RowKit Go.Proofs.YtfkbmjfhakooiaaDoor.PTree Go.Proofs.YtfkbmjfhakooiaaDoorW.PrintWords Go.Proofs.YtfkbmjfhakooiaaDoorW.PrintLast Go.Proofs.YtfkbmjfhakooiaaDoorW.PrintMore
set_option linter.unusedVariables false
set_option linter.unusedSimpArgs false
theorem find0_total (l : List S31) (p : ByteArray) : ∀ (k : Nat) (i : Int), 0 ≤ i → i ≤ (l.length : Int) → (l.length : Int) - i + 1 ≤ k → ∃ r, find0 l p k i = some r ∧ (r = -1 → ∀ j, i ≤ j → j < (l.length : Int) → (rd_T31 l j).f0.toList ≠ p.toList)
  | 0, i, h0, hi, h1 => by omega
  | k + 1, i, h0, hi, h1 => by
    unfold find0
    by_cases c1 : i < (l.length : Int)
    · rw [if_pos c1]
      by_cases c2 : ((rd_T31 l i).f0.toList == p.toList) = true
      · rw [if_pos c2]
        exact ⟨i, rfl, fun e => by omega⟩
      · rw [if_neg c2]
        obtain ⟨r, hr, hq⟩ := find0_total l p k (i + 1) (by omega) (by omega) (by omega)
        refine ⟨r, hr, fun e j hj hj2 => ?_⟩
        by_cases ej : j = i
        · rw [ej]
          exact fun e2 => c2 (beq_iff_eq.mpr e2)
        · exact hq e j (by omega) hj2
    · rw [if_neg c1]
      exact ⟨-1, rfl, fun _ j hj hj2 => by omega⟩
theorem toList_inj {a b : ByteArray} (h : a.toList = b.toList) : a = b := by
  rw [Lib.toList_data, Lib.toList_data] at h
  exact ba_ext h
/-- What is there is found. -/
theorem find0_there (l : List S31) (hu : Unlike l) (x : S31) (hx : x ∈ l) : ∃ r, find0 l x.f0 (l.length + 1) 0 = some r ∧ 0 ≤ r ∧ r < (l.length : Int) ∧ rd_T31 l r = x := by
  obtain ⟨j, j0, j1, e⟩ := rd_ix l x hx
  obtain ⟨r, hr, hq⟩ := find0_total l x.f0 (l.length + 1) 0 (by omega) (by omega) (by omega)
  rcases find0_spec l x.f0 _ 0 r (by omega) hr with h | ⟨r0, r1, h⟩
  · exact absurd (by rw [e]) (hq h j j0 j1)
  · have h2 : (rd_T31 l r).f0 = (rd_T31 l j).f0 := by rw [e]; exact toList_inj h
    have h3 : r = j := by
      rcases Int.lt_trichotomy r j with h4 | h4 | h4
      · exact absurd h2 (hu r j r0 h4 j1)
      · exact h4
      · exact absurd h2.symm (hu j r j0 h4 r1)
    exact ⟨r, hr, r0, r1, by rw [h3, e]⟩
end Go.Proofs.YtfkbmjfhakooiaaDoor.TR

/- What the law on Build asks, in plain Lean. Conditions: as each theorem says. -/
namespace Go.Proofs.YtfkbmjfhakooiaaDoor.TR
open Go.RowKit Go.Proofs.YtfkbmjfhakooiaaDoor.PTree Go.Proofs.YtfkbmjfhakooiaaDoorW.PrintWords Go.Proofs.YtfkbmjfhakooiaaDoorW.PrintLast Go.Proofs.YtfkbmjfhakooiaaDoorW.PrintMore
set_option linter.unusedVariables false
set_option linter.unusedSimpArgs false
theorem meant_fits {x : S31} (h : MeantE x) : x.f0.size ≤ 400 ∧ fits x = true := by
  obtain ⟨h0, h1, h2, h3⟩ := h
  have := h0.1
  refine ⟨this, ?_⟩
  simp only [fits, Bool.and_eq_true, decide_eq_true_eq]
  exact ⟨⟨⟨by omega, by omega⟩, by omega⟩, h3⟩
theorem sorted_meant {K : Nat} {xs zs : List S31} (hx : ∀ x ∈ xs, MeantE x) (h : SortR K xs zs) : ∀ x ∈ zs, MeantE x := fun x hz => hx x (h.1.mem_iff.1 hz)
theorem sorted_check {K : Nat} (hK : 3000000 ≤ K) {xs zs : List S31} (hx : ∀ x ∈ xs, MeantE x) (h : SortR K xs zs) : ∃ r, tree_Check.f K zs = some r :=
  check_total K 400 zs (by omega) (by omega) (fun x hz => meant_fits (sorted_meant hx h x hz))
theorem check_none {K : Nat} {l : List S31} {r : Int × Option Int} (h : tree_Check.f K l = some r) (hr : r.2 = none) : r = (-1, none) := by
  unfold tree_Check.f at h
  split at h
  · obtain rfl := Option.some.inj h
    cases hr
  · exact none_l K l _ _ _ _ _ r h hr
/-- What is known of what is built. -/
structure Built (K : Nat) (l zs : List S31) : Prop where
  len : zs.length ≤ 200
  ok : ∀ j, 0 ≤ j → j < (zs.length : Int) → OkAt zs j
  meant : ∀ x ∈ zs, MeantE x
  check : tree_Check.f K zs = some (-1, none)
  again : ∀ m : List S31, m.Perm zs → buildA K m = some (m, none)
  sorted : ∀ m qs : List S31, m.Perm zs → SortR K m qs → qs = zs
  find : ∀ x ∈ l, (PM.normB x.f0).2 = none ∧ ∃ r, find0 zs (PM.normB x.f0).1 (zs.length + 1) 0 = some r ∧ 0 ≤ r ∧ r < (zs.length : Int) ∧ (rd_T31 zs r).f1 = x.f1 ∧ (rd_T31 zs r).f2 = x.f2 ∧ (rd_T31 zs r).f7 = x.f7
theorem unlike_eq {zs : List S31} (hu : Unlike zs) {p q : S31} (hp : p ∈ zs) (hq : q ∈ zs) (e : p.f0 = q.f0) : p = q := by
  obtain ⟨i, i0, i1, ei⟩ := rd_ix zs p hp
  obtain ⟨j, j0, j1, ej⟩ := rd_ix zs q hq
  rcases Int.lt_trichotomy i j with h | h | h
  · exact absurd (by rw [ei, ej]; exact e) (hu i j i0 h j1)
  · rw [← ei, ← ej, h]
  · exact absurd (by rw [ei, ej]; exact e.symm) (hu j i j0 h i1)
theorem built (K : Nat) (hK : 3000000 ≤ K) (l xs zs : List S31) (hl : ∀ x ∈ l, SmallE x) (hx : ∀ x ∈ xs, MeantE x) (hf : ∀ x ∈ l, ∃ n, normOf K x = some n ∧ n.2.2.2.2.2.2.2.2 = none ∧ mk31 n ∈ xs) (h : SortR K xs zs) (r : Int × Option Int) (hc : tree_Check.f K zs = some r) (hr : r.2 = none) : Built K l zs := by
  have hm := sorted_meant hx h
  obtain ⟨h1, h2⟩ := check_ok K 400 zs (by omega) (by omega) (fun x hz => meant_fits (hm x hz)) r hc hr
  have hu := unlike_of zs zs h2 (List.Perm.refl _)
  have hd : ∀ x ∈ zs, x.f7.length ≤ 1000000000000 := fun x hz => by have := (hm x hz).2.2.1; omega
  refine ⟨h1, h2, hm, by rw [hc, check_none hc hr], fun m hp => buildA_tree K zs m (by omega) h1 h2 hd hp, fun m qs hp hs => ?_, fun x hxl => ?_⟩
  · refine sortR_uniq (B := 400) (by omega) (by omega) (fun x hz => (hm x (hp.mem_iff.1 hz)).1.1) hs hp.symm ((asc_pair zs h2).imp (fun {p q} h => by omega)) (fun p q hp1 hq1 e => unlike_eq hu (hp.mem_iff.1 hp1) (hp.mem_iff.1 hq1) e)
  · obtain ⟨n, n1, n2, n3⟩ := hf x hxl
    obtain ⟨s0, s1, s2, s3⟩ := hl x hxl
    obtain ⟨q1, q2, _, q3, q4, q5, _⟩ := normOf_shape K x n (by omega) (by omega) (by omega) n1 n2
    obtain ⟨r, r1, r2, r3, r4⟩ := find0_there zs hu (mk31 n) (h.1.mem_iff.2 n3)
    rw [q2] at r1
    exact ⟨q1, r, r1, r2, r3, by rw [r4]; exact q3, by rw [r4]; exact q4, by rw [r4]; exact q5⟩
end Go.Proofs.YtfkbmjfhakooiaaDoor.TR

/- tree.Build, called: what it answers of small entries; of a tree's entries in any order. Conditions: as each theorem says. -/
namespace Go.Proofs.YtfkbmjfhakooiaaDoor.TR
open Go.RowKit Go.Proofs.YtfkbmjfhakooiaaDoor.PTree Go.Proofs.YtfkbmjfhakooiaaDoorW.PrintWords Go.Proofs.YtfkbmjfhakooiaaDoorW.PrintLast Go.Proofs.YtfkbmjfhakooiaaDoorW.PrintMore
set_option linter.unusedVariables false
set_option linter.unusedSimpArgs false
theorem build_goes (K : Nat) (hK : 3000000 ≤ K) (l : List S31) (hl : ∀ x ∈ l, SmallE x) (A : Option Addr) (c : Nat) (w : World) (hC : Kd.C k31 w A l.length l) (hGl : Gl w) :
    Calls Tryd.prog 8 #[.slice A l.length c] w fun e w' => ∃ A' c' ys en, e = .returned (.tuple #[.slice A' ys.length c', errW en]) ∧ ys.length ≤ c' ∧ Kd.C k31 w' A' ys.length ys ∧ Below w.heap.size w w' ∧ (∀ q, en = some q → ys = []) ∧ (en = none → Built K l ys) := by
  obtain ⟨xs, er, h1, h2⟩ := buildA_total K l hK hl
  refine (Build_calls K A c l xs er (fun ys => er = none ∧ SortR K xs ys) w hC hGl h1 (fun e v W hb hR => (sort_goes K 400 (by omega) (by omega) w hGl xs (fun x hx => ((h2 e).1 x hx).1.1) (by have := (h2 e).2.1; omega) v W hb hR).mono fun e' w' ⟨a, ys, b, c, d⟩ => ⟨a, ys, ⟨e, b⟩, c, d⟩) (fun ys hys => sorted_check hK (h2 hys.1).1 hys.2)).mono ?_
  rintro e w' ⟨A', c', ys, en, rfl, q1, q2, q3, q4, q5⟩
  refine ⟨A', c', ys, en, rfl, q1, q2, q3, fun q hq => ?_, fun hn => ?_⟩
  · cases er with
    | some z => exact (q4 z rfl).1
    | none =>
      obtain ⟨zs, r, a1, a2, a3, a4⟩ := q5 rfl
      rw [a4, if_neg (by rw [← a3, hq]; simp)]
  · cases er with
    | some z =>
      have := (q4 z rfl).2
      rw [hn] at this
      cases this
    | none =>
      obtain ⟨zs, r, a1, a2, a3, a4⟩ := q5 rfl
      rw [hn] at a3
      rw [a4, if_pos a3.symm]
      exact built K hK l xs zs hl (h2 rfl).1 (h2 rfl).2.2 a1.2 r a2 a3.symm
theorem build_again (K : Nat) (hK : 3000000 ≤ K) (l zs m : List S31) (hB : Built K l zs) (hp : m.Perm zs) (A : Option Addr) (c : Nat) (w : World) (hC : Kd.C k31 w A m.length m) (hGl : Gl w) :
    Calls Tryd.prog 8 #[.slice A m.length c] w fun e w' => ∃ A' c', e = .returned (.tuple #[.slice A' zs.length c', .nilIface]) ∧ zs.length ≤ c' ∧ Kd.C k31 w' A' zs.length zs ∧ Below w.heap.size w w' := by
  have hx : ∀ x ∈ m, MeantE x := fun x h => hB.meant x (hp.mem_iff.1 h)
  refine (Build_calls K A c m m none (fun ys => SortR K m ys) w hC hGl (hB.again m hp) (fun e v W hb hR => sort_goes K 400 (by omega) (by omega) w hGl m (fun x h => (hx x h).1.1) (by have := hp.length_eq; have := hB.len; omega) v W hb hR) (fun ys hys => sorted_check hK hx hys)).mono ?_
  rintro e w' ⟨A', c', ys, en, rfl, q1, q2, q3, q4, q5⟩
  obtain ⟨qs, r, a1, a2, a3, a4⟩ := q5 rfl
  obtain rfl := hB.sorted m qs hp a1
  rw [hB.check] at a2
  obtain rfl := Option.some.inj a2
  subst a3
  rw [if_pos rfl] at a4
  subst a4
  exact ⟨A', c', by rw [errW_none], q1, q2, q3⟩
end Go.Proofs.YtfkbmjfhakooiaaDoor.TR

/- Two entries of a row are exchanged. Conditions: as each theorem says. -/
namespace Go.Proofs.YtfkbmjfhakooiaaDoor.TR
open Go.RowKit Go.Proofs.YtfkbmjfhakooiaaDoor.PTree Go.Proofs.YtfkbmjfhakooiaaDoorW.PrintWords Go.Proofs.YtfkbmjfhakooiaaDoorW.PrintLast Go.Proofs.YtfkbmjfhakooiaaDoorW.PrintMore
set_option linter.unusedVariables false
set_option linter.unusedSimpArgs false
theorem exec_load31 {o : Oper} {a : Act} {W : World} {p : Operand} {g off : Nat} {cs : List Value} (hop : o.op = Op.load 31 p) (hp : a.eval p = .pointer (some ⟨g, off, none⟩)) (hl : cs.length = 8) (hc : ∀ j v, cs[j]? = some v → W.cell? ⟨g, off + j, none⟩ = some v) :
    (execOp a.eval o).run Tryd.prog W = .ok (.value (.agg cs.toArray)) W := by
  have hu := Tryd.underlying31
  match cs, hl with
  | [v0, v1, v2, v3, v4, v5, v6, v7], _ =>
    have x0 : W.cell? ⟨g, off, none⟩ = some v0 := hc 0 _ rfl
    have x1 : W.cell? ⟨g, off + 1, none⟩ = some v1 := hc 1 _ rfl
    have x2 : W.cell? ⟨g, off + 2, none⟩ = some v2 := hc 2 _ rfl
    have x3 : W.cell? ⟨g, off + 3, none⟩ = some v3 := hc 3 _ rfl
    have x4 : W.cell? ⟨g, off + 4, none⟩ = some v4 := hc 4 _ rfl
    have x5 : W.cell? ⟨g, off + 5, none⟩ = some v5 := hc 5 _ rfl
    have x6 : W.cell? ⟨g, off + 6, none⟩ = some v6 := hc 6 _ rfl
    have x7 : W.cell? ⟨g, off + 7, none⟩ = some v7 := hc 7 _ rfl
    clear hc
    unfold execOp
    simp only [hop, hp]
    go_simp
theorem exec_store31 {o : Oper} {a : Act} {W : World} {p x : Operand} {g off : Nat} {cs : List Value} {cur : Array Value} (hop : o.op = Op.store 31 p x) (hp : a.eval p = .pointer (some ⟨g, off, none⟩)) (hx : a.eval x = .agg cs.toArray) (hl : cs.length = 8) (h1 : ∀ q ∈ cs, q.oneCell' = true)
    (hb : W.heap[g]? = some (.cells cur 31 (0, 0))) (hf : off + 8 ≤ cur.size) : (execOp a.eval o).run Tryd.prog W = .ok .skip (W.setCells g off cs) := by
  have hrun : (Instr.storeAt 31 (.pointer (some ⟨g, off, none⟩)) (.agg cs.toArray)).run Tryd.prog W = .ok () (W.setCells g off cs) :=
    run_store_run 31 _ _ hb (by simp [Value.cells]) (by
      obtain ⟨i, hi, hq⟩ := Option.map_eq_some_iff.1 info31
      rw [hi]
      simp only [Prod.mk.injEq] at hq
      show some i.size = _
      rw [hq.2.1, hl]) (by rw [hl]; exact hf) h1
  unfold execOp
  simp only [hop, hp, hx, Sem.run_bind, Sem.run_pure, Result.andThen_ok, hrun]
theorem fixed_one {wb : World} {x : S31} {cs : List Value} (h : k31.K wb x cs) : cs.length = 8 ∧ ∀ q ∈ cs, q.oneCell' = true := ⟨k31.K_len h, k31.K_one h⟩
/-- Elements i and j of a row are exchanged. -/
theorem swap_row {wb W : World} {base g n cap : Nat} {m : List S31} (h : Kd.R (Kd.fixed k31 wb) 31 W base (fun _ => True) (.slice (some ⟨g, 0, none⟩) n cap) m) (i j : Int) (i0 : 0 ≤ i) (i1 : i < n) (j0 : 0 ≤ j) (j1 : j < n) :
    ∃ ci cj : List Value, (ci.length = 8 ∧ ∀ q ∈ ci, q.oneCell' = true) ∧ (cj.length = 8 ∧ ∀ q ∈ cj, q.oneCell' = true) ∧ (∀ k v, ci[k]? = some v → W.cell? ⟨g, i.toNat * 8 + k, none⟩ = some v) ∧ (∀ k v, cj[k]? = some v → W.cell? ⟨g, j.toNat * 8 + k, none⟩ = some v) ∧
      (∃ cur, W.heap[g]? = some (.cells cur 31 (0, 0)) ∧ n * 8 ≤ cur.size) ∧ (∃ cur, (W.setCells g (i.toNat * 8) cj).heap[g]? = some (.cells cur 31 (0, 0)) ∧ n * 8 ≤ cur.size) ∧
      (∃ m', m'.Perm m ∧ Kd.R (Kd.fixed k31 wb) 31 ((W.setCells g (i.toNat * 8) cj).setCells g (j.toNat * 8) ci) base (fun _ => True) (.slice (some ⟨g, 0, none⟩) n cap) m') ∧ W.grownBy ((W.setCells g (i.toNat * 8) cj).setCells g (j.toNat * 8) ci) (some g) := by
  have hrow : ∀ {W : World} {m : List S31}, Kd.R (Kd.fixed k31 wb) 31 W base (fun _ => True) (.slice (some ⟨g, 0, none⟩) n cap) m → ∃ cur, W.heap[g]? = some (.cells cur 31 (0, 0)) ∧ n * 8 ≤ cur.size := by
    intro W m h
    have hn := Kd.R_reads' h
    obtain ⟨_, inner, hown, hr⟩ := h
    rcases hown.2 with ⟨hv, _⟩ | ⟨g', cap', cur, hv, hb, hh, hnc, hcm, hcs, _⟩
    · cases hv
    injection hv with ha _ hc
    injection ha with ha
    injection ha with hg'
    subst hg'; subst hc
    refine ⟨cur, hh, ?_⟩
    have : n * 8 ≤ cap * 8 := Nat.mul_le_mul_right _ hn.2.1
    have e : (Kd.fixed k31 wb).sz = 8 := rfl
    rw [e] at hcs
    omega
  have hnm := (Kd.R_reads' h).1
  obtain ⟨ci, li, mi, xi, _⟩ := Kd.R_elem h z31 i i0 i1
  obtain ⟨cj, lj, mj, xj, _⟩ := Kd.R_elem h z31 j j0 j1
  have mi' : k31.K wb (m.getD i.toNat z31) ci := mi
  have mj' : k31.K wb (m.getD j.toNat z31) cj := mj
  have fi := fixed_one mi'
  have fj := fixed_one mj'
  have s1 := Kd.R_seg (okp := fun _ => False) (j := 0) (seg := cj) (x' := m.getD j.toNat z31) h i i0 i1 li xi (by rw [fj.1]; exact Nat.le_refl 8) (show k31.K wb (m.getD j.toNat z31) (ci.take 0 ++ cj ++ ci.drop (0 + cj.length)) by rw [List.take_zero, List.nil_append, Nat.zero_add, List.drop_eq_nil_of_le (by rw [fi.1, fj.1]; exact Nat.le_refl _), List.append_nil]; exact mj') (fun _ h => h.elim)
  rw [show i.toNat * (Kd.fixed k31 wb).sz + 0 = i.toNat * 8 from rfl] at s1
  obtain ⟨cj2, lj2, _, xj2, _⟩ := Kd.R_elem s1.1 z31 j j0 j1
  have s2 := Kd.R_seg (okp := fun _ => False) (j := 0) (seg := ci) (x' := m.getD i.toNat z31) s1.1 j j0 j1 lj2 xj2 (by rw [fi.1]; exact Nat.le_refl 8) (show k31.K wb (m.getD i.toNat z31) (cj2.take 0 ++ ci ++ cj2.drop (0 + ci.length)) by rw [List.take_zero, List.nil_append, Nat.zero_add, List.drop_eq_nil_of_le (by rw [fi.1, show cj2.length = 8 from lj2]; exact Nat.le_refl _), List.append_nil]; exact mi') (fun _ h => h.elim)
  rw [show j.toNat * (Kd.fixed k31 wb).sz + 0 = j.toNat * 8 from rfl] at s2
  have hil : i.toNat < m.length := by omega
  have hjl : j.toNat < m.length := by omega
  refine ⟨ci, cj, fi, fj, xi, xj, hrow h, hrow s1.1, ⟨_, ?_, s2.1⟩, ?_⟩
  · have ei : m.getD i.toNat z31 = m[i.toNat] := by rw [List.getD_eq_getElem?_getD, List.getElem?_eq_getElem hil]; rfl
    have ej : m.getD j.toNat z31 = m[j.toNat] := by rw [List.getD_eq_getElem?_getD, List.getElem?_eq_getElem hjl]; rfl
    rw [ei, ej]
    exact List.set_set_perm hil hjl
  · obtain ⟨a1, a2, a3, a4, a5⟩ := s1.2
    obtain ⟨b1, b2, b3, b4, b5⟩ := s2.2
    exact ⟨b1.trans a1, b2.trans a2, b3.trans a3, Nat.le_trans a4 b4, fun k hk hne => (b5 k (Nat.lt_of_lt_of_le hk a4) hne).trans (a5 k hk hne)⟩
theorem fixed_block {wb W : World} {base n cap : Nat} {A : Option Addr} {m : List S31} (h : Kd.R (Kd.fixed k31 wb) 31 W base (fun _ => True) (.slice A n cap) m) (hn : 0 < n) : ∃ g, A = some ⟨g, 0, none⟩ := by
  obtain ⟨_, inner, hown, hr⟩ := h
  rcases hown.2 with ⟨hv, _⟩ | ⟨g', cap', cur, hv, _⟩
  · injection hv with _ h2 _
    omega
  · injection hv with ha _ _
    exact ⟨g', ha⟩
theorem mod_in (o : Int) (n : Nat) (h : 0 < n) (h2 : n ≤ 200) : 0 ≤ wrap64 ((IntKind.u64.wrap o).tmod (n : Int)) ∧ wrap64 ((IntKind.u64.wrap o).tmod (n : Int)) < (n : Int) := by
  have h0 : 0 ≤ IntKind.u64.wrap o := by rw [IntKind.wrap_u64]; omega
  rw [Int.tmod_eq_emod_of_nonneg h0]
  have h3 : 0 ≤ IntKind.u64.wrap o % (n : Int) := Int.emod_nonneg _ (by omega)
  have h4 : IntKind.u64.wrap o % (n : Int) < (n : Int) := Int.emod_lt_of_pos _ (by omega)
  generalize IntKind.u64.wrap o % (n : Int) = q at h3 h4 ⊢
  rw [wr_in q ⟨by omega, by omega⟩]
  exact ⟨h3, h4⟩
theorem mod_in2 (i : Int) (n : Nat) (h : 0 < n) (h0 : 0 ≤ i) : 0 ≤ i.tmod (n : Int) ∧ i.tmod (n : Int) < (n : Int) := by
  rw [Int.tmod_eq_emod_of_nonneg h0]
  exact ⟨Int.emod_nonneg _ (by omega), Int.emod_lt_of_pos _ (by omega)⟩
theorem u64_small (n : Nat) (h : n ≤ 200) : IntKind.u64.wrap (n : Int) = (n : Int) := by rw [IntKind.wrap_u64]; omega
theorem build_again_n (K : Nat) (hK : 3000000 ≤ K) (l zs m : List S31) (n : Nat) (hn : n = m.length) (hB : Built K l zs) (hp : m.Perm zs) (A : Option Addr) (c : Nat) (w : World) (hC : Kd.C k31 w A m.length m) (hGl : Gl w) :
    Calls Tryd.prog 8 #[.slice A n c] w fun e w' => ∃ A' c', e = .returned (.tuple #[.slice A' zs.length c', .nilIface]) ∧ zs.length ≤ c' ∧ Kd.C k31 w' A' zs.length zs ∧ Below w.heap.size w w' := by
  subst hn
  exact build_again K hK l zs m hB hp A c w hC hGl
theorem find_there (l0 : List S31) (p : ByteArray) (A0 : Option Addr) (k0 : Nat) (r : Int) (r0 : 0 ≤ r) (w : World) (hGl : Gl w) (h0 : Kd.C k31 w A0 l0.length l0) (hd : ∀ x ∈ l0, x.f7.length ≤ 1000000000000) (h : find0 l0 p (l0.length + 1) 0 = some r) :
    Calls Tryd.prog 21 #[.slice A0 l0.length k0, .string p] w fun e w' => ∃ (Ao : Option Addr) (co : Nat), e = .returned (.tuple #[.agg #[.string (rd_T31 l0 r).f0, .int .i64 (rd_T31 l0 r).f1, .int .i64 (rd_T31 l0 r).f2, .int .i64 (rd_T31 l0 r).f3, .int .i64 (rd_T31 l0 r).f4, .int .i64 (rd_T31 l0 r).f5, .string (rd_T31 l0 r).f6, .slice Ao (rd_T31 l0 r).f7.length co], .bool true]) ∧ Kd.R (Kd.int .u8) 5 w' w.heap.size (fun _ => True) (.slice Ao (rd_T31 l0 r).f7.length co) (rd_T31 l0 r).f7 ∧ Below w.heap.size w w' := by
  refine (Find_calls l0 p A0 k0 r w hGl h0 hd h).mono fun e w' hh => ?_
  obtain ⟨hb, ⟨e1, _⟩ | ⟨_, _, Ao, co, e2, hR⟩⟩ := hh
  · omega
  · exact ⟨Ao, co, e2, hR, hb⟩
end Go.Proofs.YtfkbmjfhakooiaaDoor.TR

/- tree.Same's closure, walked. Conditions: as each theorem says. -/
namespace Go.Proofs.YtfkbmjfhakooiaaDoor.TR
open Go.RowKit Go.Proofs.YtfkbmjfhakooiaaDoor.PTree Go.Proofs.YtfkbmjfhakooiaaDoorW.PrintWords Go.Proofs.YtfkbmjfhakooiaaDoorW.PrintLast Go.Proofs.YtfkbmjfhakooiaaDoorW.PrintMore
set_option linter.unusedVariables false
set_option linter.unusedSimpArgs false
def sameE (x y : S31) : Bool := (x.f0.toList == y.f0.toList) && (x.f1 == y.f1) && (x.f2 == y.f2) && (x.f3 == y.f3) && (x.f4 == y.f4) && (x.f5 == y.f5) && (x.f6.toList == y.f6.toList) && (Lib.bytesOf x.f7 == Lib.bytesOf y.f7)
theorem C_bytes {w : World} {A : Option Addr} {n : Nat} {xs : List Int} (h : (Kd.int .u8).C w A n xs) : Lib.BytesIn w A n xs := fun hn => by
  obtain ⟨ad, e, _⟩ := h.2.2 hn
  subst e
  refine Lib.BytesIn.of_cells (fun i hi => ?_) hn
  obtain ⟨ad', e, hx⟩ := Kd.at_int h (i : Int) (by omega) (by omega)
  cases e
  exact hx
set_option maxHeartbeats 8000000 in
set_option maxRecDepth 100000 in
theorem same_calls (x y : S31) (A1 A2 : Option Addr) (k1 k2 : Nat) (w : World) (h1 : (Kd.int .u8).C w A1 x.f7.length x.f7) (h2 : (Kd.int .u8).C w A2 y.f7.length y.f7) :
    Calls Tryd.prog 34 #[.agg #[.string x.f0, .int .i64 x.f1, .int .i64 x.f2, .int .i64 x.f3, .int .i64 x.f4, .int .i64 x.f5, .string x.f6, .slice A1 x.f7.length k1], .agg #[.string y.f0, .int .i64 y.f1, .int .i64 y.f2, .int .i64 y.f3, .int .i64 y.f4, .int .i64 y.f5, .string y.f6, .slice A2 y.f7.length k2]] w fun e w' => e = .returned (.bool (sameE x y)) ∧ Below w.heap.size w w' := by
  obtain ⟨x0, x1, x2, x3, x4, x5, x6, x7⟩ := x
  obtain ⟨y0, y1, y2, y3, y4, y5, y6, y7⟩ := y
  have hu31 := Tryd.underlying31
  have H1 := Aside0.mk h1
  have H2 := Aside0.mk h2
  clear h1 h2
  unfold sameE
  simp only
  by_cases c0 : x0.toList = y0.toList
  · have d0 : (x0.toList == y0.toList) = true := beq_iff_eq.mpr c0
    have e0 : (x0.toList != y0.toList) = false := bne_eq_false_iff_eq.mpr c0
    clear c0
    by_cases c1 : x1 = y1
    · have d1 : (x1 == y1) = true := beq_iff_eq.mpr c1
      have e1 : (x1 != y1) = false := bne_eq_false_iff_eq.mpr c1
      clear c1
      by_cases c2 : x2 = y2
      · have d2 : (x2 == y2) = true := beq_iff_eq.mpr c2
        have e2 : (x2 != y2) = false := bne_eq_false_iff_eq.mpr c2
        clear c2
        by_cases c3 : x3 = y3
        · have d3 : (x3 == y3) = true := beq_iff_eq.mpr c3
          have e3 : (x3 != y3) = false := bne_eq_false_iff_eq.mpr c3
          clear c3
          by_cases c4 : x4 = y4
          · have d4 : (x4 == y4) = true := beq_iff_eq.mpr c4
            have e4 : (x4 != y4) = false := bne_eq_false_iff_eq.mpr c4
            clear c4
            by_cases c5 : x5 = y5
            · have d5 : (x5 == y5) = true := beq_iff_eq.mpr c5
              have e5 : (x5 != y5) = false := bne_eq_false_iff_eq.mpr c5
              clear c5
              by_cases c6 : x6.toList = y6.toList
              · have d6 : (x6.toList == y6.toList) = true := beq_iff_eq.mpr c6
                have e6 : (x6.toList != y6.toList) = false := bne_eq_false_iff_eq.mpr c6
                clear c6
                rw [d0, d1, d2, d3, d4, d5, d6]
                simp only [Bool.and_true, Bool.true_and]
                go_enter Tryd.func34, Tryd.ntmps34
                go_wp2_with (first | (go_at_call 35; refine (Tryd.bytes_Equal_all A1 A2 x7.length k1 y7.length k2 x7 y7 _ rfl rfl (C_bytes (Kd.C_alloc (Kd.C_alloc H1.out _) _)) (C_bytes (Kd.C_alloc (Kd.C_alloc H2.out _) _))).mono ?_; rintro e w1 ⟨rfl, rfl⟩))
                go_ret
                exact ⟨rfl, below_alloc (below_alloc (Below.refl _ _) _) _⟩
              · have d6 : (x6.toList == y6.toList) = false := beq_eq_false_iff_ne.mpr c6
                have e6 : (x6.toList != y6.toList) = true := bne_iff_ne.mpr c6
                clear c6
                rw [d0, d1, d2, d3, d4, d5, d6]
                simp only [Bool.and_true, Bool.true_and, Bool.and_false, Bool.false_and]
                go_enter Tryd.func34, Tryd.ntmps34
                go_wp2
                go_ret
                exact ⟨rfl, below_alloc (below_alloc (Below.refl _ _) _) _⟩
            · have d5 : (x5 == y5) = false := beq_eq_false_iff_ne.mpr c5
              have e5 : (x5 != y5) = true := bne_iff_ne.mpr c5
              clear c5
              rw [d0, d1, d2, d3, d4, d5]
              simp only [Bool.and_true, Bool.true_and, Bool.and_false, Bool.false_and]
              go_enter Tryd.func34, Tryd.ntmps34
              go_wp2
              go_ret
              exact ⟨rfl, below_alloc (below_alloc (Below.refl _ _) _) _⟩
          · have d4 : (x4 == y4) = false := beq_eq_false_iff_ne.mpr c4
            have e4 : (x4 != y4) = true := bne_iff_ne.mpr c4
            clear c4
            rw [d0, d1, d2, d3, d4]
            simp only [Bool.and_true, Bool.true_and, Bool.and_false, Bool.false_and]
            go_enter Tryd.func34, Tryd.ntmps34
            go_wp2
            go_ret
            exact ⟨rfl, below_alloc (below_alloc (Below.refl _ _) _) _⟩
        · have d3 : (x3 == y3) = false := beq_eq_false_iff_ne.mpr c3
          have e3 : (x3 != y3) = true := bne_iff_ne.mpr c3
          clear c3
          rw [d0, d1, d2, d3]
          simp only [Bool.and_true, Bool.true_and, Bool.and_false, Bool.false_and]
          go_enter Tryd.func34, Tryd.ntmps34
          go_wp2
          go_ret
          exact ⟨rfl, below_alloc (below_alloc (Below.refl _ _) _) _⟩
      · have d2 : (x2 == y2) = false := beq_eq_false_iff_ne.mpr c2
        have e2 : (x2 != y2) = true := bne_iff_ne.mpr c2
        clear c2
        rw [d0, d1, d2]
        simp only [Bool.and_true, Bool.true_and, Bool.and_false, Bool.false_and]
        go_enter Tryd.func34, Tryd.ntmps34
        go_wp2
        go_ret
        exact ⟨rfl, below_alloc (below_alloc (Below.refl _ _) _) _⟩
    · have d1 : (x1 == y1) = false := beq_eq_false_iff_ne.mpr c1
      have e1 : (x1 != y1) = true := bne_iff_ne.mpr c1
      clear c1
      rw [d0, d1]
      simp only [Bool.and_true, Bool.true_and, Bool.and_false, Bool.false_and]
      go_enter Tryd.func34, Tryd.ntmps34
      go_wp2
      go_ret
      exact ⟨rfl, below_alloc (below_alloc (Below.refl _ _) _) _⟩
  · have d0 : (x0.toList == y0.toList) = false := beq_eq_false_iff_ne.mpr c0
    have e0 : (x0.toList != y0.toList) = true := bne_iff_ne.mpr c0
    clear c0
    rw [d0]
    simp only [Bool.and_true, Bool.true_and, Bool.and_false, Bool.false_and]
    go_enter Tryd.func34, Tryd.ntmps34
    go_wp2
    go_ret
    exact ⟨rfl, below_alloc (below_alloc (Below.refl _ _) _) _⟩
end Go.Proofs.YtfkbmjfhakooiaaDoor.TR

/- slices.EqualFunc of entries, tree.Same, walked. Conditions: as each theorem says. -/
namespace Go.Proofs.YtfkbmjfhakooiaaDoor.TR
open Go.RowKit Go.Proofs.YtfkbmjfhakooiaaDoor.PTree Go.Proofs.YtfkbmjfhakooiaaDoorW.PrintWords Go.Proofs.YtfkbmjfhakooiaaDoorW.PrintLast Go.Proofs.YtfkbmjfhakooiaaDoorW.PrintMore
set_option linter.unusedVariables false
set_option linter.unusedSimpArgs false
def sameL0 (l0 l1 : List S31) : Nat → Int → Option Bool
  | 0, _ => none
  | k + 1, i => if i < (l0.length : Int) then (if sameE (rd_T31 l0 i) (rd_T31 l1 i) = true then sameL0 l0 l1 k (i + 1) else some false) else some true
def sameL (l0 l1 : List S31) : Option Bool := if (l0.length : Int) = (l1.length : Int) then sameL0 l0 l1 (l0.length + 1) 0 else some false
set_option maxHeartbeats 8000000 in
set_option maxRecDepth 100000 in
theorem eqf_calls (l0 l1 : List S31) (A0 A1 : Option Addr) (k0 k1 : Nat) (r : Bool) (w : World) (h0 : Kd.C k31 w A0 l0.length l0) (h1 : Kd.C k31 w A1 l1.length l1) (h : sameL l0 l1 = some r) :
    Calls Tryd.prog 33 #[.slice A0 l0.length k0, .slice A1 l1.length k1, .func (.func 34) #[] #[]] w fun e w' => e = .returned (.bool r) ∧ Below w.heap.size w w' := by
  have hu31 := Tryd.underlying31
  have H0 := Aside0.mk h0
  have H1 := Aside0.mk h1
  have HLB := Aside0.mk h0.2.1
  clear h0 h1
  have eg : ∀ args w, (callFunc 34 args).run Tryd.prog w = .ok (.enter 34 args) w := enters_of Tryd.func34 (by kernel_rfl) rfl
  unfold sameL at h
  by_cases c1 : (l0.length : Int) = (l1.length : Int)
  · rw [if_pos c1] at h
    have C1 := Aside0.mk c1
    have c1b : ((l0.length : Int) != (l1.length : Int)) = false := bne_eq_false_iff_eq.mpr c1
    have H := Aside0.mk h
    clear h c1
    have HB := Aside0.mk (Below.refl w.heap.size w)
    go_enter Tryd.func33, Tryd.ntmps33
    go_wp2
    go_loopg [17] (l0.length + 1) (fun kq v17 w' => ∃ (i : Int), v17 = .int .i64 i ∧ Aside0 (sameL0 l0 l1 kq i = some r) ∧ Aside0 (0 ≤ i) ∧ Aside0 (Below w.heap.size w w'))
    case atStart => exact ⟨0, rfl, H, ⟨by omega⟩, HB⟩
    case round =>
      clear H HB
      obtain ⟨i, rfl, HA, HI, HB⟩ := hrel
      cases gk with
      | zero => exact absurd HA.out (by simp [sameL0])
      | succ k2 =>
        have H := HA.out
        clear HA
        simp only [sameL0] at H
        by_cases c2 : i < (l0.length : Int)
        · rw [if_pos c2] at H
          have C2 := Aside0.mk c2
          have c3 : i < (l1.length : Int) := by have := C1.out; omega
          obtain ⟨ad, A7, c7, eA, x0, x1, x2, x3, x4, x5, x6, x7, _, hi7⟩ := at_T31 H0.out i HI.out c2
          cases eA
          obtain ⟨bd, B7, d7, eA, z0, z1, z2, z3, z4, z5, z6, z7, _, hj7⟩ := at_T31 H1.out i HI.out c3
          cases eA
          have HI7 := Aside0.mk hi7
          have HJ7 := Aside0.mk hj7
          clear hi7 hj7
          replace z0 := Aside0.mk z0
          replace z1 := Aside0.mk z1
          replace z2 := Aside0.mk z2
          replace z3 := Aside0.mk z3
          replace z4 := Aside0.mk z4
          replace z5 := Aside0.mk z5
          replace z6 := Aside0.mk z6
          replace z7 := Aside0.mk z7
          replace x0 := (HB.out.cell (World.block_lt_of_cell? w _ x0)).trans x0
          replace x1 := (HB.out.cell (World.block_lt_of_cell? w _ x1)).trans x1
          replace x2 := (HB.out.cell (World.block_lt_of_cell? w _ x2)).trans x2
          replace x3 := (HB.out.cell (World.block_lt_of_cell? w _ x3)).trans x3
          replace x4 := (HB.out.cell (World.block_lt_of_cell? w _ x4)).trans x4
          replace x5 := (HB.out.cell (World.block_lt_of_cell? w _ x5)).trans x5
          replace x6 := (HB.out.cell (World.block_lt_of_cell? w _ x6)).trans x6
          replace x7 := (HB.out.cell (World.block_lt_of_cell? w _ x7)).trans x7
          have hi0 := HI.out
          have p210 := eq_true hi0
          have q210 := eq_true c2
          have q211 := eq_true c3
          clear hi0 c3
          cases hse : sameE (rd_T31 l0 i) (rd_T31 l1 i) with
          | false =>
            rw [hse] at H
            obtain rfl : false = r := by simpa using H
            go_wp2_with (first | ((with_reducible refine gate_dst (N := 8) rfl ?_); refine box_event ?hg (N := 8) ?hd (cs := #[.string (⟨#[]⟩ : ByteArray), .int .i64 0, .int .i64 0, .int .i64 0, .int .i64 0, .int .i64 0, .string (⟨#[]⟩ : ByteArray), .slice none 0 0]) (t := 31) ?hr ?_; (case hd => rfl); (case hg => rfl); (case hr => first | (go_simp; done) | (go_simp; rfl)); intro g8 hg w8 hbox hb; have HZ8 := Aside0.mk (below_step HB.out hb); have K8 := Aside0.mk hbox; have G8 := Aside0.mk (show w.heap.size ≤ g8 by rw [hg]; exact below_size HB.out); clear hb hbox hg) | ((with_reducible refine gate_store (t := 31) (p := 8) (v := .tmp 21) rfl ?_); refine ev_set31 _ rfl (.tmp 8) (.tmp 21) rfl rfl g8 _ _ _ _ _ _ _ _ (rd_T31 l0 i).f0 (rd_T31 l0 i).f6 (rd_T31 l0 i).f1 (rd_T31 l0 i).f2 (rd_T31 l0 i).f3 (rd_T31 l0 i).f4 (rd_T31 l0 i).f5 A7 (rd_T31 l0 i).f7.length c7 rfl rfl K8.out (fun w10 b1 b2 => ?_); have HZ10 := Aside0.mk (below_row_ HZ8.out b2 G8.out); have K10 := Aside0.mk b1; have y0 := (Aside0.mk ((HZ10.out.cell (World.block_lt_of_cell? w _ z0.out)).trans z0.out)).out; have y1 := (Aside0.mk ((HZ10.out.cell (World.block_lt_of_cell? w _ z1.out)).trans z1.out)).out; have y2 := (Aside0.mk ((HZ10.out.cell (World.block_lt_of_cell? w _ z2.out)).trans z2.out)).out; have y3 := (Aside0.mk ((HZ10.out.cell (World.block_lt_of_cell? w _ z3.out)).trans z3.out)).out; have y4 := (Aside0.mk ((HZ10.out.cell (World.block_lt_of_cell? w _ z4.out)).trans z4.out)).out; have y5 := (Aside0.mk ((HZ10.out.cell (World.block_lt_of_cell? w _ z5.out)).trans z5.out)).out; have y6 := (Aside0.mk ((HZ10.out.cell (World.block_lt_of_cell? w _ z6.out)).trans z6.out)).out; have y7 := (Aside0.mk ((HZ10.out.cell (World.block_lt_of_cell? w _ z7.out)).trans z7.out)).out; clear b1 b2) | ((with_reducible refine gate_dst (N := 9) rfl ?_); refine box_event ?hg (N := 9) ?hd (cs := #[.string (⟨#[]⟩ : ByteArray), .int .i64 0, .int .i64 0, .int .i64 0, .int .i64 0, .int .i64 0, .string (⟨#[]⟩ : ByteArray), .slice none 0 0]) (t := 31) ?hr ?_; (case hd => rfl); (case hg => rfl); (case hr => first | (go_simp; done) | (go_simp; rfl)); intro g9 hg w11 hbox hb; have HZ11 := Aside0.mk (below_step HZ10.out hb); have K9 := Aside0.mk hbox; have K11 := Aside0.mk (blk_below K10.out hb); have G9 := Aside0.mk (show w.heap.size ≤ g9 by rw [hg]; exact below_size HZ10.out); have N9 := Aside0.mk (show g8 ≠ g9 by have := (Array.getElem?_eq_some_iff.1 K10.out).1; omega); clear hb hbox hg) | ((with_reducible refine gate_store (t := 31) (p := 9) (v := .tmp 25) rfl ?_); refine ev_set31 _ rfl (.tmp 9) (.tmp 25) rfl rfl g9 _ _ _ _ _ _ _ _ (rd_T31 l1 i).f0 (rd_T31 l1 i).f6 (rd_T31 l1 i).f1 (rd_T31 l1 i).f2 (rd_T31 l1 i).f3 (rd_T31 l1 i).f4 (rd_T31 l1 i).f5 B7 (rd_T31 l1 i).f7.length d7 rfl rfl K9.out (fun w12 b1 b2 => ?_); have HZ12 := Aside0.mk (below_row_ HZ11.out b2 G9.out); have K12 := Aside0.mk (blk_grown K11.out b2 (fun e => N9.out (by injection e))); have u0 : w12.cell? ⟨g8, 0, none⟩ = some (.string (rd_T31 l0 i).f0) := blk_cell K12.out 0; have u1 : w12.cell? ⟨g8, 1, none⟩ = some (.int .i64 (rd_T31 l0 i).f1) := blk_cell K12.out 1; have u2 : w12.cell? ⟨g8, 2, none⟩ = some (.int .i64 (rd_T31 l0 i).f2) := blk_cell K12.out 2; have u3 : w12.cell? ⟨g8, 3, none⟩ = some (.int .i64 (rd_T31 l0 i).f3) := blk_cell K12.out 3; have u4 : w12.cell? ⟨g8, 4, none⟩ = some (.int .i64 (rd_T31 l0 i).f4) := blk_cell K12.out 4; have u5 : w12.cell? ⟨g8, 5, none⟩ = some (.int .i64 (rd_T31 l0 i).f5) := blk_cell K12.out 5; have u6 : w12.cell? ⟨g8, 6, none⟩ = some (.string (rd_T31 l0 i).f6) := blk_cell K12.out 6; have u7 : w12.cell? ⟨g8, 7, none⟩ = some (.slice A7 (rd_T31 l0 i).f7.length c7) := blk_cell K12.out 7; have v0 : w12.cell? ⟨g9, 0, none⟩ = some (.string (rd_T31 l1 i).f0) := blk_cell b1 0; have v1 : w12.cell? ⟨g9, 1, none⟩ = some (.int .i64 (rd_T31 l1 i).f1) := blk_cell b1 1; have v2 : w12.cell? ⟨g9, 2, none⟩ = some (.int .i64 (rd_T31 l1 i).f2) := blk_cell b1 2; have v3 : w12.cell? ⟨g9, 3, none⟩ = some (.int .i64 (rd_T31 l1 i).f3) := blk_cell b1 3; have v4 : w12.cell? ⟨g9, 4, none⟩ = some (.int .i64 (rd_T31 l1 i).f4) := blk_cell b1 4; have v5 : w12.cell? ⟨g9, 5, none⟩ = some (.int .i64 (rd_T31 l1 i).f5) := blk_cell b1 5; have v6 : w12.cell? ⟨g9, 6, none⟩ = some (.string (rd_T31 l1 i).f6) := blk_cell b1 6; have v7 : w12.cell? ⟨g9, 7, none⟩ = some (.slice B7 (rd_T31 l1 i).f7.length d7) := blk_cell b1 7; clear b1 b2) | (go_at_call 34; refine (same_calls (rd_T31 l0 i) (rd_T31 l1 i) A7 B7 c7 d7 _ (Kd.C_below HI7.out HZ12.out) (Kd.C_below HJ7.out HZ12.out)).mono ?_; rintro e w13 ⟨rfl, hb⟩; have HB13 := Aside0.mk (below_step HZ12.out hb); rw [hse]; clear hb))
            go_ret
            exact ⟨rfl, HB13.out⟩
          | true =>
            rw [hse, if_pos rfl] at H
            replace H := Aside0.mk H
            go_wp2_with (first | ((with_reducible refine gate_dst (N := 8) rfl ?_); refine box_event ?hg (N := 8) ?hd (cs := #[.string (⟨#[]⟩ : ByteArray), .int .i64 0, .int .i64 0, .int .i64 0, .int .i64 0, .int .i64 0, .string (⟨#[]⟩ : ByteArray), .slice none 0 0]) (t := 31) ?hr ?_; (case hd => rfl); (case hg => rfl); (case hr => first | (go_simp; done) | (go_simp; rfl)); intro g8 hg w8 hbox hb; have HZ8 := Aside0.mk (below_step HB.out hb); have K8 := Aside0.mk hbox; have G8 := Aside0.mk (show w.heap.size ≤ g8 by rw [hg]; exact below_size HB.out); clear hb hbox hg) | ((with_reducible refine gate_store (t := 31) (p := 8) (v := .tmp 21) rfl ?_); refine ev_set31 _ rfl (.tmp 8) (.tmp 21) rfl rfl g8 _ _ _ _ _ _ _ _ (rd_T31 l0 i).f0 (rd_T31 l0 i).f6 (rd_T31 l0 i).f1 (rd_T31 l0 i).f2 (rd_T31 l0 i).f3 (rd_T31 l0 i).f4 (rd_T31 l0 i).f5 A7 (rd_T31 l0 i).f7.length c7 rfl rfl K8.out (fun w10 b1 b2 => ?_); have HZ10 := Aside0.mk (below_row_ HZ8.out b2 G8.out); have K10 := Aside0.mk b1; have y0 := (Aside0.mk ((HZ10.out.cell (World.block_lt_of_cell? w _ z0.out)).trans z0.out)).out; have y1 := (Aside0.mk ((HZ10.out.cell (World.block_lt_of_cell? w _ z1.out)).trans z1.out)).out; have y2 := (Aside0.mk ((HZ10.out.cell (World.block_lt_of_cell? w _ z2.out)).trans z2.out)).out; have y3 := (Aside0.mk ((HZ10.out.cell (World.block_lt_of_cell? w _ z3.out)).trans z3.out)).out; have y4 := (Aside0.mk ((HZ10.out.cell (World.block_lt_of_cell? w _ z4.out)).trans z4.out)).out; have y5 := (Aside0.mk ((HZ10.out.cell (World.block_lt_of_cell? w _ z5.out)).trans z5.out)).out; have y6 := (Aside0.mk ((HZ10.out.cell (World.block_lt_of_cell? w _ z6.out)).trans z6.out)).out; have y7 := (Aside0.mk ((HZ10.out.cell (World.block_lt_of_cell? w _ z7.out)).trans z7.out)).out; clear b1 b2) | ((with_reducible refine gate_dst (N := 9) rfl ?_); refine box_event ?hg (N := 9) ?hd (cs := #[.string (⟨#[]⟩ : ByteArray), .int .i64 0, .int .i64 0, .int .i64 0, .int .i64 0, .int .i64 0, .string (⟨#[]⟩ : ByteArray), .slice none 0 0]) (t := 31) ?hr ?_; (case hd => rfl); (case hg => rfl); (case hr => first | (go_simp; done) | (go_simp; rfl)); intro g9 hg w11 hbox hb; have HZ11 := Aside0.mk (below_step HZ10.out hb); have K9 := Aside0.mk hbox; have K11 := Aside0.mk (blk_below K10.out hb); have G9 := Aside0.mk (show w.heap.size ≤ g9 by rw [hg]; exact below_size HZ10.out); have N9 := Aside0.mk (show g8 ≠ g9 by have := (Array.getElem?_eq_some_iff.1 K10.out).1; omega); clear hb hbox hg) | ((with_reducible refine gate_store (t := 31) (p := 9) (v := .tmp 25) rfl ?_); refine ev_set31 _ rfl (.tmp 9) (.tmp 25) rfl rfl g9 _ _ _ _ _ _ _ _ (rd_T31 l1 i).f0 (rd_T31 l1 i).f6 (rd_T31 l1 i).f1 (rd_T31 l1 i).f2 (rd_T31 l1 i).f3 (rd_T31 l1 i).f4 (rd_T31 l1 i).f5 B7 (rd_T31 l1 i).f7.length d7 rfl rfl K9.out (fun w12 b1 b2 => ?_); have HZ12 := Aside0.mk (below_row_ HZ11.out b2 G9.out); have K12 := Aside0.mk (blk_grown K11.out b2 (fun e => N9.out (by injection e))); have u0 : w12.cell? ⟨g8, 0, none⟩ = some (.string (rd_T31 l0 i).f0) := blk_cell K12.out 0; have u1 : w12.cell? ⟨g8, 1, none⟩ = some (.int .i64 (rd_T31 l0 i).f1) := blk_cell K12.out 1; have u2 : w12.cell? ⟨g8, 2, none⟩ = some (.int .i64 (rd_T31 l0 i).f2) := blk_cell K12.out 2; have u3 : w12.cell? ⟨g8, 3, none⟩ = some (.int .i64 (rd_T31 l0 i).f3) := blk_cell K12.out 3; have u4 : w12.cell? ⟨g8, 4, none⟩ = some (.int .i64 (rd_T31 l0 i).f4) := blk_cell K12.out 4; have u5 : w12.cell? ⟨g8, 5, none⟩ = some (.int .i64 (rd_T31 l0 i).f5) := blk_cell K12.out 5; have u6 : w12.cell? ⟨g8, 6, none⟩ = some (.string (rd_T31 l0 i).f6) := blk_cell K12.out 6; have u7 : w12.cell? ⟨g8, 7, none⟩ = some (.slice A7 (rd_T31 l0 i).f7.length c7) := blk_cell K12.out 7; have v0 : w12.cell? ⟨g9, 0, none⟩ = some (.string (rd_T31 l1 i).f0) := blk_cell b1 0; have v1 : w12.cell? ⟨g9, 1, none⟩ = some (.int .i64 (rd_T31 l1 i).f1) := blk_cell b1 1; have v2 : w12.cell? ⟨g9, 2, none⟩ = some (.int .i64 (rd_T31 l1 i).f2) := blk_cell b1 2; have v3 : w12.cell? ⟨g9, 3, none⟩ = some (.int .i64 (rd_T31 l1 i).f3) := blk_cell b1 3; have v4 : w12.cell? ⟨g9, 4, none⟩ = some (.int .i64 (rd_T31 l1 i).f4) := blk_cell b1 4; have v5 : w12.cell? ⟨g9, 5, none⟩ = some (.int .i64 (rd_T31 l1 i).f5) := blk_cell b1 5; have v6 : w12.cell? ⟨g9, 6, none⟩ = some (.string (rd_T31 l1 i).f6) := blk_cell b1 6; have v7 : w12.cell? ⟨g9, 7, none⟩ = some (.slice B7 (rd_T31 l1 i).f7.length d7) := blk_cell b1 7; clear b1 b2) | (go_at_call 34; refine (same_calls (rd_T31 l0 i) (rd_T31 l1 i) A7 B7 c7 d7 _ (Kd.C_below HI7.out HZ12.out) (Kd.C_below HJ7.out HZ12.out)).mono ?_; rintro e w13 ⟨rfl, hb⟩; have HB13 := Aside0.mk (below_step HZ12.out hb); rw [hse]; clear hb))
            go_roundg k2
            case measure => omega
            case rel => exact ⟨i + 1, by rw [wr_in _ (by have h1 := HI.out; have h2 := HLB.out; have h3 := C2.out; omega)], H, ⟨by have := HI.out; omega⟩, HB13⟩
        · rw [if_neg c2] at H
          obtain rfl := Option.some.inj H
          go_wp2
          go_ret
          exact ⟨rfl, HB.out⟩
  · rw [if_neg c1] at h
    obtain rfl := Option.some.inj h
    have c1b : ((l0.length : Int) != (l1.length : Int)) = true := bne_iff_ne.mpr c1
    clear h c1
    go_enter Tryd.func33, Tryd.ntmps33
    go_wp2
    go_ret
    exact ⟨rfl, Below.refl _ _⟩
theorem Same_calls (l0 l1 : List S31) (A0 A1 : Option Addr) (k0 k1 : Nat) (r : Bool) (w : World) (h0 : Kd.C k31 w A0 l0.length l0) (h1 : Kd.C k31 w A1 l1.length l1) (h : sameL l0 l1 = some r) :
    Calls Tryd.prog 15 #[.slice A0 l0.length k0, .slice A1 l1.length k1] w fun e w' => e = .returned (.bool r) ∧ Below w.heap.size w w' := by
  have H := Aside0.mk (eqf_calls l0 l1 A0 A1 k0 k1 r w h0 h1 h)
  clear h0 h1 h
  go_enter Tryd.func15, Tryd.ntmps15
  go_wp2_with (first | (go_at_call 33; refine H.out.mono ?_; rintro e w1 ⟨rfl, hb⟩; have HB := Aside0.mk hb; clear hb))
  go_ret
  exact ⟨rfl, HB.out⟩
end Go.Proofs.YtfkbmjfhakooiaaDoor.TR

/- What amphoralaw09.large answers; a list is the same as itself: plain Lean. Conditions: as each theorem says. -/
namespace Go.Proofs.YtfkbmjfhakooiaaDoor.TR
open Go.RowKit Go.Proofs.YtfkbmjfhakooiaaDoor.PTree Go.Proofs.YtfkbmjfhakooiaaDoorW.PrintWords Go.Proofs.YtfkbmjfhakooiaaDoorW.PrintLast Go.Proofs.YtfkbmjfhakooiaaDoorW.PrintMore
set_option linter.unusedVariables false
set_option linter.unusedSimpArgs false
/-- Sizes that any value has. -/
def Sane (l : List S31) : Prop := ∀ x ∈ l, x.f0.size ≤ 9223372036854775807 ∧ x.f6.size ≤ 9223372036854775807 ∧ x.f7.length ≤ 9223372036854775807
theorem rd_mem' (l : List S31) (i : Int) (h0 : 0 ≤ i) (h1 : i < (l.length : Int)) : rd_T31 l i ∈ l := by
  unfold rd_T31
  have h2 : i.toNat < l.length := by omega
  rw [List.getD_eq_getElem?_getD, List.getElem?_eq_getElem h2]
  exact List.getElem_mem h2
theorem large_l (l : List S31) (hs : Sane l) (hl : (l.length : Int) ≤ 9223372036854775807) : ∀ (k : Nat) (n i : Int), 0 ≤ i → i ≤ (l.length : Int) → 0 ≤ n → n ≤ 400 → (l.length : Int) - i + 1 ≤ k →
    ∃ b, amphoralaw09_large.l0 k n l (l.length : Int) i = some b ∧ (b = false → (l.length : Int) - i ≤ 400 - n ∧ ∀ j, i ≤ j → j < (l.length : Int) → ((rd_T31 l j).f7.length : Int) ≤ 401000 ∧ ((rd_T31 l j).f0.size : Int) ≤ 40100 ∧ ((rd_T31 l j).f6.size : Int) ≤ 40100)
  | 0, n, i, h0, h1, h2, h3, h4 => by omega
  | k + 1, n, i, h0, h1, h2, h3, h4 => by
    unfold amphoralaw09_large.l0
    by_cases c1 : i < (l.length : Int)
    · rw [if_pos c1, if_pos h0, if_pos c1]
      obtain ⟨s1, s2, s3⟩ := hs _ (rd_mem' l i h0 c1)
      have e : wrap64 (n + (wrap64 ((wrap64 ((wrap64 (1 + (wrap64 ((((rd_T31 l i).f7).length : Int) / 1000)))) + (wrap64 ((((rd_T31 l i).f0).size : Int) / 100)))) + (wrap64 ((((rd_T31 l i).f6).size : Int) / 100))))) = n + (1 + ((rd_T31 l i).f7.length : Int) / 1000 + ((rd_T31 l i).f0.size : Int) / 100 + ((rd_T31 l i).f6.size : Int) / 100) := by
        have a0 : 0 ≤ ((rd_T31 l i).f7.length : Int) / 1000 ∧ ((rd_T31 l i).f7.length : Int) / 1000 ≤ 9223372036854776 := by omega
        have b0 : 0 ≤ ((rd_T31 l i).f0.size : Int) / 100 ∧ ((rd_T31 l i).f0.size : Int) / 100 ≤ 92233720368547758 := by omega
        have c0 : 0 ≤ ((rd_T31 l i).f6.size : Int) / 100 ∧ ((rd_T31 l i).f6.size : Int) / 100 ≤ 92233720368547758 := by omega
        generalize ((rd_T31 l i).f7.length : Int) / 1000 = a at a0 ⊢
        generalize ((rd_T31 l i).f0.size : Int) / 100 = b at b0 ⊢
        generalize ((rd_T31 l i).f6.size : Int) / 100 = c at c0 ⊢
        rw [wr_in a ⟨by omega, by omega⟩, wr_in (1 + a) ⟨by omega, by omega⟩, wr_in b ⟨by omega, by omega⟩, wr_in (1 + a + b) ⟨by omega, by omega⟩, wr_in c ⟨by omega, by omega⟩, wr_in (1 + a + b + c) ⟨by omega, by omega⟩, wr_in _ ⟨by omega, by omega⟩]
      rw [e]
      by_cases c2 : n + (1 + ((rd_T31 l i).f7.length : Int) / 1000 + ((rd_T31 l i).f0.size : Int) / 100 + ((rd_T31 l i).f6.size : Int) / 100) > 400
      · rw [if_pos c2]
        exact ⟨true, rfl, fun h => by cases h⟩
      · rw [if_neg c2, show wrap64 (i + 1) = i + 1 from wr_in _ ⟨by omega, by omega⟩]
        obtain ⟨b, hb, hq⟩ := large_l l hs hl k _ (i + 1) (by omega) (by omega) (show 0 ≤ n + (1 + ((rd_T31 l i).f7.length : Int) / 1000 + ((rd_T31 l i).f0.size : Int) / 100 + ((rd_T31 l i).f6.size : Int) / 100) by omega) (by omega) (by omega)
        refine ⟨b, hb, fun h => ?_⟩
        obtain ⟨q1, q2⟩ := hq h
        refine ⟨by omega, fun j hj hj2 => ?_⟩
        by_cases e2 : j = i
        · subst e2; omega
        · exact q2 j (by omega) hj2
    · rw [if_neg c1]
      exact ⟨false, rfl, fun _ => ⟨by omega, fun j hj hj2 => by omega⟩⟩
theorem large_f (l : List S31) (hs : Sane l) (hl : (l.length : Int) ≤ 9223372036854775807) (K : Nat) (hK : l.length + 1 ≤ K) :
    ∃ b, amphoralaw09_large.f K l = some b ∧ (b = false → l.length ≤ 400 ∧ ∀ x ∈ l, x.f7.length ≤ 401000 ∧ x.f0.size ≤ 40100 ∧ x.f6.size ≤ 40100) := by
  obtain ⟨b, hb, hq⟩ := large_l l hs hl K 0 0 (by omega) (by omega) (by omega) (by omega) (by omega)
  refine ⟨b, hb, fun h => ?_⟩
  obtain ⟨q1, q2⟩ := hq h
  refine ⟨by omega, fun x hx => ?_⟩
  obtain ⟨j, hj, rfl⟩ := List.getElem_of_mem hx
  have h1 := q2 (j : Int) (by omega) (by omega)
  have e : rd_T31 l (j : Int) = l[j] := by
    unfold rd_T31
    rw [Int.toNat_natCast, List.getD_eq_getElem?_getD, List.getElem?_eq_getElem hj]
    rfl
  rw [e] at h1
  omega
theorem sameE_self (x : S31) : sameE x x = true := by simp [sameE]
theorem self_l (l : List S31) : ∀ (k : Nat) (i : Int), (l.length : Int) - i + 1 ≤ k → 0 ≤ i → i ≤ (l.length : Int) → sameL0 l l k i = some true
  | 0, i, h, _, h2 => by omega
  | k + 1, i, h, h1, h2 => by
    unfold sameL0
    by_cases c1 : i < (l.length : Int)
    · rw [if_pos c1, sameE_self, if_pos rfl]
      exact self_l l k (i + 1) (by omega) (by omega) (by omega)
    · rw [if_neg c1]
theorem self_f (l : List S31) : sameL l l = some true := by
  unfold sameL
  rw [if_pos rfl]
  exact self_l l (l.length + 1) 0 (by omega) (by omega) (by omega)
end Go.Proofs.YtfkbmjfhakooiaaDoor.TR

/- TreeRebuilds, walked. Conditions: as each theorem says. -/
namespace Go.Proofs.YtfkbmjfhakooiaaDoor.TR
open Go.RowKit Go.Proofs.YtfkbmjfhakooiaaDoor.PTree Go.Proofs.YtfkbmjfhakooiaaDoorW.PrintWords Go.Proofs.YtfkbmjfhakooiaaDoorW.PrintLast Go.Proofs.YtfkbmjfhakooiaaDoorW.PrintMore
set_option linter.unusedVariables false
set_option linter.unusedSimpArgs false
set_option maxHeartbeats 16000000 in
set_option maxRecDepth 100000 in
theorem Rebuilds_calls (K : Nat) (hK : 3000000 ≤ K) (l0 : List S31) (od : List Int) (A0 A1 : Option Addr) (k0 k1 : Nat) (ba : Bool) (w : World) (hGl : Gl w) (h0 : Kd.C k31 w A0 l0.length l0) (h1 : Kd.C (Kd.int .i64) w A1 od.length od) (hc0 : l0.length ≤ k0) (hba : amphoralaw09_large.f K l0 = some ba)
    (hsm : ba = false → l0.length ≤ 1000000 ∧ ∀ x ∈ l0, SmallE x) :
    Calls Tryd.prog 5 #[.slice A0 l0.length k0, .slice A1 od.length k1] w fun e w' => e = .returned (.bool true) ∧ Below w.heap.size w w' := by
  have hu31 := Tryd.underlying31
  have HK := Aside0.mk hK
  have H0 := Aside0.mk h0
  have H1 := Aside0.mk h1
  have HC0 := Aside0.mk hc0
  have HBA := Aside0.mk hba
  have HGL := Aside0.mk hGl
  clear h0 h1 hc0 hba hGl hK
  cases ba with
  | true =>
    clear hsm
    go_enter Tryd.func5, Tryd.ntmps5
    go_wp2_with (first | (go_at_call 6; refine (alive_calls w HGL.out).mono ?_; rintro e w1 ⟨rfl, hb⟩; have HB1 := Aside0.mk hb; clear hb) | (go_at_call 7; refine (amphoralaw09_large.calls K A0 k0 l0 true _ (Kd.C_below H0.out HB1.out) HC0.out (HGL.out.of HB1.out) HBA.out).mono ?_; rintro e w2 ⟨rfl, hb⟩; have HB2 := Aside0.mk (below_step HB1.out hb); clear hb))
    go_ret
    exact ⟨rfl, HB2.out⟩
  | false =>
    obtain ⟨hn, hs⟩ := hsm rfl
    have HN := Aside0.mk hn
    have HSM := Aside0.mk hs
    clear hsm hn hs
    go_enter Tryd.func5, Tryd.ntmps5
    go_upto_region 6 with (first | (go_at_call 6; refine (alive_calls w HGL.out).mono ?_; rintro e w1 ⟨rfl, hb⟩; have HB1 := Aside0.mk hb; clear hb) | (go_at_call 7; refine (amphoralaw09_large.calls K A0 k0 l0 false _ (Kd.C_below H0.out HB1.out) HC0.out (HGL.out.of HB1.out) HBA.out).mono ?_; rintro e w2 ⟨rfl, hb⟩; have HB2 := Aside0.mk (below_step HB1.out hb); clear hb) | (go_at_call 8; refine (build_goes K HK.out l0 HSM.out A0 k0 _ (Kd.C_below H0.out HB2.out) (HGL.out.of HB2.out)).mono ?_; rintro e wb ⟨Ab, cb, zs, en, rfl, hle, hcb, hb, hq, hn⟩; have HLE := Aside0.mk hle; have HCB := Aside0.mk hcb; have HBB := Aside0.mk (below_step HB2.out hb); have HQ := Aside0.mk hq; have HNN := Aside0.mk hn; clear hle hcb hb hq hn))
    cases en with
    | some q =>
      obtain rfl := HQ.out q rfl
      clear HQ HNN
      try simp only [errW_none, errW_some]
      go_wp2
      go_ret
      exact ⟨rfl, HBB.out⟩
    | none =>
      have HBT := Aside0.mk (HNN.out rfl)
      clear HQ HNN
      try simp only [errW_none, errW_some]
      go_upto_region 12 with (first | (go_at_call 19; refine (tree_Check.calls K Ab cb zs (-1, none) _ HCB.out (HGL.out.of HBB.out) HBT.out.check).mono ?_; rintro e w3 ⟨rfl, hb⟩; have HW3 := Aside0.mk (show Below wb.heap.size wb w3 from hb); clear hb; try simp only [errW_none, errW_some]) | ((with_reducible refine gate_dst (N := 46) rfl ?_); refine Kd.R_lit (Kd.fixed k31 wb) (w0 := wb) wb.heap.size 31 rfl rfl (xs := []) (inner := []) (ok := fun _ => True) (okp := fun _ => True) ?lr ⟨rfl, fun j p hj => by cases hj⟩ (fun _ _ => trivial) trivial HW3.out (below_size HW3.out) (by decide) ?_; (case lr => first | (go_simp; done) | (go_simp; rfl)); intro v4 w4 hr4 hb4 hg4 _; obtain ⟨A4, c4, e4⟩ := Kd.R_slice hr4; subst e4; have HR4 := Aside0.mk hr4; have HW4 := Aside0.mk hb4; clear hr4 hb4 hg4) | ((with_reducible refine gate_builtin (b := .append) (xs := #[.tmp 46, .tmp 47]) rfl ?_); at_builtin; refine Kd.R_append_rows (Kd.fixed k31 wb) (Rr := k31.K wb) (w0 := wb) wb.heap.size rfl (.tmp 46) (.tmp 47) 22 31 (.agg #[.string (⟨#[]⟩ : ByteArray), .int .i64 0, .int .i64 0, .int .i64 0, .int .i64 0, .int .i64 0, .string (⟨#[]⟩ : ByteArray), .slice none 0 0]) 96 rfl Tryd.underlying22 info31 rfl (Nat.succ_pos 7) (by omega) _ [] zs Ab zs.length cb (fun _ => True) (fun _ => False) rfl rfl HR4.out (ReadsRow.imp_ HCB.out HW4.out (fun _ _ hp => hp)) (fun _ _ h => h) (fun _ h => h.elim) (fun _ _ => trivial) HW4.out (below_size HW4.out) (by have := HBT.out.len; show (0 + zs.length) * 96 ≤ _; omega) ?_; intro v5 w5 hr5 hb5 hg5 hat5; have HR5 := Aside0.mk (show Kd.R (Kd.fixed k31 wb) 31 w5 wb.heap.size (fun _ => True) v5 zs from hr5); have HW5 := Aside0.mk hb5; clear hr5 hb5 hg5 hat5))
      obtain ⟨A9, c9, e9⟩ := Kd.R_slice HR5.out
      subst e9
      have HB5 := HW5
      clear HW3 HW4 HR4
      go_wp2
      go_loopg [51] (od.length + 1) (fun kq v51 w' => ∃ (i : Int) (m : List S31), v51 = .int .i64 i ∧ Aside0 (0 ≤ i ∧ i ≤ (od.length : Int) ∧ (kq : Int) = (od.length : Int) + 1 - i) ∧ Aside0 (m.Perm zs) ∧ Aside0 (Kd.R (Kd.fixed k31 wb) 31 w' wb.heap.size (fun _ => True) (.slice A9 zs.length c9) m) ∧ Aside0 (Below wb.heap.size wb w'))
      case atStart => exact ⟨0, zs, rfl, ⟨by omega, by omega, by omega⟩, ⟨List.Perm.refl _⟩, HR5, HB5⟩
      case round =>
        clear HR5 HB5 HW5
        obtain ⟨i, m, rfl, HI, HP, HR, HW⟩ := hrel
        cases gk with
        | zero => exact absurd HI.out (fun h => by omega)
        | succ k2 =>
          by_cases c2 : i < (od.length : Int)
          · have C2 := Aside0.mk c2
            obtain ⟨ad, eA, hx⟩ := Kd.at_int H1.out i HI.out.1 c2
            subst eA
            replace hx := ((below_step HBB.out HW.out).cell (World.block_lt_of_cell? w _ hx)).trans hx
            have hi0 := HI.out.1
            have p210 := eq_true hi0
            have q210 := eq_true c2
            clear hi0
            by_cases cz : 0 < zs.length
            · have z210 := eq_true cz
              have z211 := eq_false (show ¬ zs.length = 0 by omega)
              have z212 := eq_false (show ¬ zs = [] from fun e => by rw [e] at cz; exact absurd cz (by decide))
              have z213 := u64_small zs.length HBT.out.len
              have z214 := decide_eq_true cz
              have ZZ := Aside0.mk cz
              clear cz
              go_upto_region 18 with (fail)
              obtain ⟨g, eA⟩ := fixed_block HR.out ZZ.out
              subst eA
              have hj2 := mod_in (rd od i) zs.length ZZ.out HBT.out.len
              have hk2 := mod_in2 i zs.length ZZ.out HI.out.1
              clear z210 z211 z212 z213 z214 p210 q210 hx
              generalize wrap64 ((IntKind.u64.wrap (rd od i)).tmod (zs.length : Int)) = j at hj2 ⊢
              generalize i.tmod (zs.length : Int) = k at hk2 ⊢
              have HRd := Aside0.mk (Kd.R_drew HR.out)
              obtain ⟨cJ, cK, lJ, lK, xJ, xK, ⟨cur1, hh1, f1⟩, ⟨cur2, hh2, f2⟩, ⟨m', hp, hr⟩, hg⟩ := swap_row HRd.out j k hj2.1 hj2.2 hk2.1 hk2.2
              have HP' := Aside0.mk (hp.trans HP.out)
              have HR' := Aside0.mk hr
              have HG' := Aside0.mk hg
              have HJK := Aside0.mk (And.intro hj2 hk2)
              have j0 := eq_true hj2.1
              have j1 := eq_true hj2.2
              have k0' := eq_true hk2.1
              have k1' := eq_true hk2.2
              have ej := add_plain g (j.toNat * 8)
              have ek := add_plain g (k.toNat * 8)
              clear hp hr hg hj2 hk2
              refine start_ (n := 16) (S := fun W' => W' = wr.drew) (ds := [13, 15]) #[false, false, false, false, false, false, false, false, false, false, false, false, false, false, false, false] (by kernel_rfl) rfl rfl rfl (fun _ => ?_)
              refine pure_ (i := 0) (N := some 70) (v := .slice (some ⟨g, 0, none⟩) zs.length c9) #[true, false, false, false, false, false, false, false, false, false, false, false, false, false, false, false] rfl rfl (by kernel_rfl) (fun _ _ _ h => h) (Or.inl ⟨by rfl, fun w => by go_simp⟩) rfl ?_
              simp only [Act.put, List.setIfInBounds_toArray, List.set_cons_zero, List.set_cons_succ]
              refine pure_ (i := 1) (N := some 71) (v := .int .i64 j) #[true, true, false, false, false, false, false, false, false, false, false, false, false, false, false, false] rfl rfl (by kernel_rfl) (fun _ _ _ h => h) (Or.inl ⟨by rfl, fun w => by go_simp⟩) rfl ?_
              simp only [Act.put, List.setIfInBounds_toArray, List.set_cons_zero, List.set_cons_succ]
              refine pure_ (i := 2) (N := some 72) (v := .slice (some ⟨g, 0, none⟩) zs.length c9) #[true, true, true, false, false, false, false, false, false, false, false, false, false, false, false, false] rfl rfl (by kernel_rfl) (fun _ _ _ h => h) (Or.inl ⟨by rfl, fun w => by go_simp⟩) rfl ?_
              simp only [Act.put, List.setIfInBounds_toArray, List.set_cons_zero, List.set_cons_succ]
              refine pure_ (i := 3) (N := some 73) (v := .int .i64 k) #[true, true, true, true, false, false, false, false, false, false, false, false, false, false, false, false] rfl rfl (by kernel_rfl) (fun _ _ _ h => h) (Or.inl ⟨by rfl, fun w => by go_simp⟩) rfl ?_
              simp only [Act.put, List.setIfInBounds_toArray, List.set_cons_zero, List.set_cons_succ]
              refine pure_ (i := 4) (N := some 74) (v := .slice (some ⟨g, 0, none⟩) zs.length c9) #[true, true, true, true, true, false, false, false, false, false, false, false, false, false, false, false] rfl rfl (by kernel_rfl) (fun _ _ _ h => h) (Or.inl ⟨by rfl, fun w => by go_simp⟩) rfl ?_
              simp only [Act.put, List.setIfInBounds_toArray, List.set_cons_zero, List.set_cons_succ]
              refine pure_ (i := 5) (N := some 75) (v := .int .i64 k) #[true, true, true, true, true, true, false, false, false, false, false, false, false, false, false, false] rfl rfl (by kernel_rfl) (fun _ _ _ h => h) (Or.inl ⟨by rfl, fun w => by go_simp⟩) rfl ?_
              simp only [Act.put, List.setIfInBounds_toArray, List.set_cons_zero, List.set_cons_succ]
              refine pure_ (i := 6) (N := some 76) (v := .pointer (some ⟨g, k.toNat * 8, none⟩)) #[true, true, true, true, true, true, true, false, false, false, false, false, false, false, false, false] rfl rfl (by kernel_rfl) (fun _ _ _ h => h) (Or.inl ⟨by rfl, fun w => by go_simp⟩) rfl ?_
              simp only [Act.put, List.setIfInBounds_toArray, List.set_cons_zero, List.set_cons_succ]
              refine take_ (i := 7) (N := some 77) (v := .agg cK.toArray) #[true, true, true, true, true, true, true, true, false, false, false, false, false, false, false, false] rfl rfl (by kernel_rfl) (fun _ _ _ h => h) (Or.inl ⟨by rfl, fun W2 h2 => by subst h2; exact exec_load31 rfl rfl lK.1 xK⟩) rfl rfl ?_
              simp only [Act.put, List.setIfInBounds_toArray, List.set_cons_zero, List.set_cons_succ]
              refine pure_ (i := 8) (N := some 78) (v := .slice (some ⟨g, 0, none⟩) zs.length c9) #[true, true, true, true, true, true, true, true, true, false, false, false, false, false, false, false] rfl rfl (by kernel_rfl) (fun _ _ _ h => h) (Or.inl ⟨by rfl, fun w => by go_simp⟩) rfl ?_
              simp only [Act.put, List.setIfInBounds_toArray, List.set_cons_zero, List.set_cons_succ]
              refine pure_ (i := 9) (N := some 79) (v := .int .i64 j) #[true, true, true, true, true, true, true, true, true, true, false, false, false, false, false, false] rfl rfl (by kernel_rfl) (fun _ _ _ h => h) (Or.inl ⟨by rfl, fun w => by go_simp⟩) rfl ?_
              simp only [Act.put, List.setIfInBounds_toArray, List.set_cons_zero, List.set_cons_succ]
              refine pure_ (i := 10) (N := some 80) (v := .pointer (some ⟨g, j.toNat * 8, none⟩)) #[true, true, true, true, true, true, true, true, true, true, true, false, false, false, false, false] rfl rfl (by kernel_rfl) (fun _ _ _ h => h) (Or.inl ⟨by rfl, fun w => by go_simp⟩) rfl ?_
              simp only [Act.put, List.setIfInBounds_toArray, List.set_cons_zero, List.set_cons_succ]
              refine take_ (i := 11) (N := some 81) (v := .agg cJ.toArray) #[true, true, true, true, true, true, true, true, true, true, true, true, false, false, false, false] rfl rfl (by kernel_rfl) (fun _ _ _ h => h) (Or.inl ⟨by rfl, fun W2 h2 => by subst h2; exact exec_load31 rfl rfl lJ.1 xJ⟩) rfl rfl ?_
              simp only [Act.put, List.setIfInBounds_toArray, List.set_cons_zero, List.set_cons_succ]
              refine pure_ (i := 12) (N := some 82) (v := .pointer (some ⟨g, j.toNat * 8, none⟩)) #[true, true, true, true, true, true, true, true, true, true, true, true, true, false, false, false] rfl rfl (by kernel_rfl) (fun _ _ _ h => h) (Or.inl ⟨by rfl, fun w => by go_simp⟩) rfl ?_
              simp only [Act.put, List.setIfInBounds_toArray, List.set_cons_zero, List.set_cons_succ]
              refine last_ (i := 13) (N := none) #[true, true, true, true, true, true, true, true, true, true, true, true, true, true, false, false] rfl rfl (by kernel_rfl) (by decide) (fun K_ hK_ => ?_)
              refine skip_ (w1 := wr.drew.setCells g (j.toNat * 8) cK) (by rfl) rfl (exec_store31 rfl rfl rfl lK.1 lK.2 hh1 (by have h1 := HJK.out.1; omega)) ?_
              refine hK_.out _ _ ?_
              clear hK_ K_
              refine pure_ (i := 14) (N := some 83) (v := .pointer (some ⟨g, k.toNat * 8, none⟩)) #[true, true, true, true, true, true, true, true, true, true, true, true, true, true, true, false] rfl rfl (by kernel_rfl) (fun _ _ _ h => h) (Or.inl ⟨by rfl, fun w => by go_simp⟩) rfl ?_
              simp only [Act.put, List.setIfInBounds_toArray, List.set_cons_zero, List.set_cons_succ]
              refine last_ (i := 15) (N := none) #[true, true, true, true, true, true, true, true, true, true, true, true, true, true, true, true] rfl rfl (by kernel_rfl) (by decide) (fun K_ hK_ => ?_)
              refine skip_ (w1 := (wr.drew.setCells g (j.toNat * 8) cK).setCells g (k.toNat * 8) cJ) (by rfl) rfl (exec_store31 rfl rfl rfl lJ.1 lJ.2 hh2 (by have h1 := HJK.out.2; omega)) ?_
              refine hK_.out _ _ ?_
              clear hK_ K_
              refine done_ (by kernel_rfl) ?_
              clear j0 j1 k0' k1' ej ek
              have HWn := Aside0.mk (below_row_ (below_drew1 HW.out) HG'.out (Kd.R_base HR.out g (by simp [Value.ownBlock])))
              generalize (wr.drew.setCells g (j.toNat * 8) cK).setCells g (k.toNat * 8) cJ = w9 at HR' HWn ⊢
              go_wp2
              go_roundg k2
              case measure => omega
              case rel => exact ⟨i + 1, m', by rw [wr_in _ (by have h1 := HI.out; have h2 := H1.out.2.1; have h3 := C2.out; omega)], ⟨by have := HI.out; have := C2.out; omega⟩, HP', HR', HWn⟩
            · obtain rfl : zs = [] := List.eq_nil_of_length_eq_zero (by omega)
              clear cz
              go_wp2
              go_roundg k2
              case measure => omega
              case rel => exact ⟨i + 1, m, by rw [wr_in _ (by have h1 := HI.out; have h2 := H1.out.2.1; have h3 := C2.out; omega)], ⟨by have := HI.out; have := C2.out; omega⟩, HP, HR, HW⟩
          · have HCM := Aside0.mk (Kd.C_read (d := k31) (dm := Kd.fixed k31 wb) rfl (fun x cs hp => k31.K_below HW.out hp) (Kd.R_reads' HR.out).2.2)
            have z1 := eq_true (show (zs.length : Int) ≤ 200 by have := HBT.out.len; omega)
            have z2 := decide_eq_true (show (zs.length : Int) ≤ 200 by have := HBT.out.len; omega)
            have z3 := eq_true (show zs.length ≤ 200 from HBT.out.len)
            clear HI
            go_upto_region 23 with (first | (go_at_call 8; refine (build_again_n K HK.out l0 zs m zs.length HP.out.length_eq.symm HBT.out HP.out A9 c9 _ HCM.out (HGL.out.of (below_step HBB.out HW.out))).mono ?_; rintro e w6 ⟨A6, c6, rfl, hle6, hc6, hb6⟩; have HC6 := Aside0.mk hc6; have HW6 := Aside0.mk (below_step HW.out hb6); clear hle6 hc6 hb6) | (go_at_call 15; refine (Same_calls zs zs A6 Ab c6 cb true _ HC6.out (Kd.C_below HCB.out HW6.out) (self_f zs)).mono ?_; rintro e w7 ⟨rfl, hb⟩; have HW7 := Aside0.mk (below_step HW6.out hb); clear hb))
            clear z1 z2 z3 HCM HR HC6 HW6
            go_wp2
            go_loopg [105] (l0.length + 1) (fun kq v105 w' => ∃ (i : Int), v105 = .int .i64 i ∧ Aside0 (0 ≤ i ∧ i ≤ (l0.length : Int) ∧ (kq : Int) = (l0.length : Int) + 1 - i) ∧ Aside0 (Below wb.heap.size wb w'))
            case atStart => exact ⟨0, rfl, ⟨by omega, by omega, by omega⟩, HW7⟩
            case round =>
              clear HW7 HW HP c2
              obtain ⟨i, rfl, HI, HW⟩ := hrel
              cases gk with
              | zero => exact absurd HI.out (fun h => by omega)
              | succ k3 =>
                by_cases c2 : i < (l0.length : Int)
                · have C2 := Aside0.mk c2
                  obtain ⟨ad, A7, c7, eA, x0, x1, x2, x3, x4, x5, x6, x7, hl7, hi7⟩ := at_T31 H0.out i HI.out.1 c2
                  subst eA
                  have HL7 := Aside0.mk hl7
                  have HI7 := Aside0.mk (Kd.C_below hi7 (below_step HBB.out HW.out))
                  have hmem := rd_in l0 i HI.out.1 c2
                  obtain ⟨hnb, r, hfd, r0, r1, e1, e2, e7⟩ := HBT.out.find _ hmem
                  have HSE := Aside0.mk (HSM.out _ hmem)
                  obtain ⟨p, hp⟩ : ∃ p, p = (PM.normB (rd_T31 l0 i).f0).1 := ⟨_, rfl⟩
                  rw [← hp] at hfd
                  have HNF := Aside0.mk (show path_Normal.f K (rd_T31 l0 i).f0 = some (p, none) from (by
                    rw [PM.normal_f _ K (by have := HSE.out.1; omega) (by have := HSE.out.1; have := HK.out; omega), hp]
                    exact congrArg some (Prod.ext rfl hnb)))
                  have HFD := Aside0.mk hfd
                  have HR0 := Aside0.mk r0
                  have HME := Aside0.mk (fun x hx => show (x : S31).f7.length ≤ 1000000000000 by have := (HBT.out.meant x hx).2.2.1; omega)
                  have HBM := HBB
                  clear hl7 hi7 hmem hnb hfd r0 r1 hp
                  replace x0 := ((below_step HBB.out HW.out).cell (World.block_lt_of_cell? w _ x0)).trans x0
                  replace x1 := ((below_step HBB.out HW.out).cell (World.block_lt_of_cell? w _ x1)).trans x1
                  replace x2 := ((below_step HBB.out HW.out).cell (World.block_lt_of_cell? w _ x2)).trans x2
                  replace x3 := ((below_step HBB.out HW.out).cell (World.block_lt_of_cell? w _ x3)).trans x3
                  replace x4 := ((below_step HBB.out HW.out).cell (World.block_lt_of_cell? w _ x4)).trans x4
                  replace x5 := ((below_step HBB.out HW.out).cell (World.block_lt_of_cell? w _ x5)).trans x5
                  replace x6 := ((below_step HBB.out HW.out).cell (World.block_lt_of_cell? w _ x6)).trans x6
                  replace x7 := ((below_step HBB.out HW.out).cell (World.block_lt_of_cell? w _ x7)).trans x7
                  have hi0 := HI.out.1
                  have p210 := eq_true hi0
                  have q210 := eq_true c2
                  clear hi0
                  have b1 : ((rd_T31 zs r).f1 != (rd_T31 l0 i).f1) = false := bne_eq_false_iff_eq.mpr e1
                  have b2 : ((rd_T31 zs r).f2 != (rd_T31 l0 i).f2) = false := bne_eq_false_iff_eq.mpr e2
                  have b7 : ((strOfNums (rd_T31 zs r).f7).toList != (strOfNums (rd_T31 l0 i).f7).toList) = false := bne_eq_false_iff_eq.mpr (by rw [e7])
                  have t7 := Aside0.mk (show (strOfNums (rd_T31 zs r).f7).toList = (strOfNums (rd_T31 l0 i).f7).toList by rw [e7])
                  clear e1 e2 e7
                  have HZ := Aside0.mk (Below.refl wr.heap.size wr)
                  go_wp2_with (first | ((with_reducible refine gate_dst (N := 16) rfl ?_); refine box_event ?hg (N := 16) ?hd (cs := #[.string (⟨#[]⟩ : ByteArray), .int .i64 0, .int .i64 0, .int .i64 0, .int .i64 0, .int .i64 0, .string (⟨#[]⟩ : ByteArray), .slice none 0 0]) (t := 31) ?hr ?_; (case hd => rfl); (case hg => rfl); (case hr => first | (go_simp; done) | (go_simp; rfl)); intro g16 hg w5 hbox hb; have HZ5 := Aside0.mk (below_step HZ.out hb); have K16 := Aside0.mk hbox; have G16 := Aside0.mk (show wr.heap.size ≤ g16 by rw [hg]; exact below_size HZ.out); clear hb hbox hg) | ((with_reducible refine gate_store (t := 31) (p := 16) (v := .tmp 108) rfl ?_); refine ev_set31 _ rfl (.tmp 16) (.tmp 108) rfl rfl g16 _ _ _ _ _ _ _ _ (rd_T31 l0 i).f0 (rd_T31 l0 i).f6 (rd_T31 l0 i).f1 (rd_T31 l0 i).f2 (rd_T31 l0 i).f3 (rd_T31 l0 i).f4 (rd_T31 l0 i).f5 A7 (rd_T31 l0 i).f7.length c7 rfl rfl K16.out (fun w6 b1 b2 => ?_); have HZ6 := Aside0.mk (below_row_ HZ5.out b2 G16.out); have K6 := Aside0.mk b1; have y0 : w6.cell? ⟨g16, 0, none⟩ = some (.string (rd_T31 l0 i).f0) := blk_cell b1 0; have y1 : w6.cell? ⟨g16, 1, none⟩ = some (.int .i64 (rd_T31 l0 i).f1) := blk_cell b1 1; have y2 : w6.cell? ⟨g16, 2, none⟩ = some (.int .i64 (rd_T31 l0 i).f2) := blk_cell b1 2; have y3 : w6.cell? ⟨g16, 3, none⟩ = some (.int .i64 (rd_T31 l0 i).f3) := blk_cell b1 3; have y4 : w6.cell? ⟨g16, 4, none⟩ = some (.int .i64 (rd_T31 l0 i).f4) := blk_cell b1 4; have y5 : w6.cell? ⟨g16, 5, none⟩ = some (.int .i64 (rd_T31 l0 i).f5) := blk_cell b1 5; have y6 : w6.cell? ⟨g16, 6, none⟩ = some (.string (rd_T31 l0 i).f6) := blk_cell b1 6; have y7 : w6.cell? ⟨g16, 7, none⟩ = some (.slice A7 (rd_T31 l0 i).f7.length c7) := blk_cell b1 7; clear b1 b2) | (go_at_call 20; refine (path_Normal.calls K (rd_T31 l0 i).f0 p none _ (HGL.out.of (below_step HBM.out (below_step HW.out HZ6.out))) HNF.out).mono ?_; rintro e w7 ⟨rfl, hb⟩; have HZ7 := Aside0.mk (below_step HZ6.out hb); have K7 := Aside0.mk (blk_below K6.out hb); clear hb y0 y1 y2 y3 y4 y5 y6 y7; try simp only [errW_none, errW_some]) | (go_at_call 21; refine (find_there zs p Ab cb r HR0.out _ (HGL.out.of (below_step HBM.out (below_step HW.out HZ7.out))) (Kd.C_below HCB.out (below_step HW.out HZ7.out)) HME.out HFD.out).mono ?_; rintro e w8 ⟨Ao, co, rfl, hR8, hb⟩; have HZ8 := Aside0.mk (below_step HZ7.out hb); have K8 := Aside0.mk (blk_below K7.out hb); have HR8 := Aside0.mk hR8; clear hb hR8) | ((with_reducible refine gate_dst (N := 19) rfl ?_); refine box_event ?hg (N := 19) ?hd (cs := #[.string (⟨#[]⟩ : ByteArray), .int .i64 0, .int .i64 0, .int .i64 0, .int .i64 0, .int .i64 0, .string (⟨#[]⟩ : ByteArray), .slice none 0 0]) (t := 31) ?hr ?_; (case hd => rfl); (case hg => rfl); (case hr => first | (go_simp; done) | (go_simp; rfl)); intro g19 hg w9 hbox hb; have HZ9 := Aside0.mk (below_step HZ8.out hb); have K9 := Aside0.mk (blk_below K8.out hb); have K19 := Aside0.mk hbox; have HR9 := Aside0.mk (Kd.R_types (Kd.R_below HR8.out hb) hbox (by decide)); have G19 := Aside0.mk (show wr.heap.size ≤ g19 by rw [hg]; exact below_size HZ8.out); have N19 := Aside0.mk (show g16 ≠ g19 by have := (Array.getElem?_eq_some_iff.1 K8.out).1; omega); clear hb hbox hg) | ((with_reducible refine gate_store (t := 31) (p := 19) (v := .tmp 119) rfl ?_); refine ev_set31 _ rfl (.tmp 19) (.tmp 119) rfl rfl g19 _ _ _ _ _ _ _ _ (rd_T31 zs r).f0 (rd_T31 zs r).f6 (rd_T31 zs r).f1 (rd_T31 zs r).f2 (rd_T31 zs r).f3 (rd_T31 zs r).f4 (rd_T31 zs r).f5 Ao (rd_T31 zs r).f7.length co rfl rfl K19.out (fun w10 b1 b2 => ?_); have HZ10 := Aside0.mk (below_row_ HZ9.out b2 G19.out); have K10 := Aside0.mk (blk_grown K9.out b2 (fun e => N19.out (by injection e))); have hcv0 := Kd.C_string (P := Tryd.prog) (A := Ao) (c := co) Tryd.underlying29 Tryd.underlying5 Tryd.underlying9 (Kd.R_reads' (Kd.R_grown HR9.out b2 (fun k hk e => hk.2 (by injection e)))).2.2; have hcv1 := Kd.C_string (P := Tryd.prog) (A := A7) (c := c7) Tryd.underlying29 Tryd.underlying5 Tryd.underlying9 (Kd.C_below HI7.out HZ10.out); have u0 : w10.cell? ⟨g16, 0, none⟩ = some (.string (rd_T31 l0 i).f0) := blk_cell K10.out 0; have u1 : w10.cell? ⟨g16, 1, none⟩ = some (.int .i64 (rd_T31 l0 i).f1) := blk_cell K10.out 1; have u2 : w10.cell? ⟨g16, 2, none⟩ = some (.int .i64 (rd_T31 l0 i).f2) := blk_cell K10.out 2; have u3 : w10.cell? ⟨g16, 3, none⟩ = some (.int .i64 (rd_T31 l0 i).f3) := blk_cell K10.out 3; have u4 : w10.cell? ⟨g16, 4, none⟩ = some (.int .i64 (rd_T31 l0 i).f4) := blk_cell K10.out 4; have u5 : w10.cell? ⟨g16, 5, none⟩ = some (.int .i64 (rd_T31 l0 i).f5) := blk_cell K10.out 5; have u6 : w10.cell? ⟨g16, 6, none⟩ = some (.string (rd_T31 l0 i).f6) := blk_cell K10.out 6; have u7 : w10.cell? ⟨g16, 7, none⟩ = some (.slice A7 (rd_T31 l0 i).f7.length c7) := blk_cell K10.out 7; have v0 : w10.cell? ⟨g19, 0, none⟩ = some (.string (rd_T31 zs r).f0) := blk_cell b1 0; have v1 : w10.cell? ⟨g19, 1, none⟩ = some (.int .i64 (rd_T31 zs r).f1) := blk_cell b1 1; have v2 : w10.cell? ⟨g19, 2, none⟩ = some (.int .i64 (rd_T31 zs r).f2) := blk_cell b1 2; have v3 : w10.cell? ⟨g19, 3, none⟩ = some (.int .i64 (rd_T31 zs r).f3) := blk_cell b1 3; have v4 : w10.cell? ⟨g19, 4, none⟩ = some (.int .i64 (rd_T31 zs r).f4) := blk_cell b1 4; have v5 : w10.cell? ⟨g19, 5, none⟩ = some (.int .i64 (rd_T31 zs r).f5) := blk_cell b1 5; have v6 : w10.cell? ⟨g19, 6, none⟩ = some (.string (rd_T31 zs r).f6) := blk_cell b1 6; have v7 : w10.cell? ⟨g19, 7, none⟩ = some (.slice Ao (rd_T31 zs r).f7.length co) := blk_cell b1 7; clear b1 b2))
                  go_roundg k3
                  case measure => omega
                  case rel => exact ⟨i + 1, by rw [wr_in _ (by have h1 := HI.out; have h2 := HN.out; have h3 := C2.out; omega)], ⟨by have := HI.out; have := C2.out; omega⟩, ⟨below_step HW.out HZ10.out⟩⟩
                  exact absurd t7.out (by assumption)
                · go_wp2
                  go_ret
                  exact ⟨rfl, below_step HBB.out HW.out⟩
end Go.Proofs.YtfkbmjfhakooiaaDoor.TR

/- TreeRebuilds, of any arguments. Conditions: as the theorem says. -/
namespace Go.Proofs.YtfkbmjfhakooiaaDoor.TR
open Go.RowKit Go.Proofs.YtfkbmjfhakooiaaDoor.PTree Go.Proofs.YtfkbmjfhakooiaaDoorW.PrintWords Go.Proofs.YtfkbmjfhakooiaaDoorW.PrintLast Go.Proofs.YtfkbmjfhakooiaaDoorW.PrintMore
set_option linter.unusedVariables false
set_option linter.unusedSimpArgs false
/-- The law. -/
theorem rebuilds_holds (l0 : List S31) (od : List Int) (A0 A1 : Option Addr) (k0 k1 : Nat) (w : World) (hGl : Gl w) (h0 : Kd.C k31 w A0 l0.length l0) (h1 : Kd.C (Kd.int .i64) w A1 od.length od) (hc0 : l0.length ≤ k0) (hs : ∀ x ∈ l0, x.f0.size ≤ 9223372036854775807 ∧ x.f6.size ≤ 9223372036854775807 ∧ x.f7.length ≤ 9223372036854775807 ∧ (Lit.int .i64 x.f1).wf = true) (hl : (l0.length : Int) ≤ 9223372036854775807) :
    Calls Tryd.prog 5 #[.slice A0 l0.length k0, .slice A1 od.length k1] w fun e w' => e = .returned (.bool true) ∧ Below w.heap.size w w' := by
  obtain ⟨K, hK⟩ : ∃ K, K = l0.length + 3000000 := ⟨_, rfl⟩
  obtain ⟨ba, b1, b2⟩ := large_f l0 (fun x hx => ⟨(hs x hx).1, (hs x hx).2.1, (hs x hx).2.2.1⟩) hl K (by omega)
  refine Rebuilds_calls K (by omega) l0 od A0 A1 k0 k1 ba w hGl h0 h1 hc0 b1 (fun e1 => ?_)
  obtain ⟨q1, q2⟩ := b2 e1
  exact ⟨by omega, fun x hx => ⟨by have := q2 x hx; omega, by have := q2 x hx; omega, by have := q2 x hx; omega, (hs x hx).2.2.2⟩⟩
end Go.Proofs.YtfkbmjfhakooiaaDoor.TR
