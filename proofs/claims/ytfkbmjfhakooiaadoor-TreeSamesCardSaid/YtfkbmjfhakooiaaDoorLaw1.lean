/- TreeSames: file, the example, Same, Copy, the law's walk, plain Lean, entries that come in. Conditions: as each theorem says. -/
import Derived.Test.YtfkbmjfhakooiaaDoorEv31
import Derived.Test.YtfkbmjfhakooiaaDoorPTreex2
import Derived.Deep.Cut
import Derived.Test.YtfkbmjfhakooiaaDoorBuild
import Derived.Test.YtfkbmjfhakooiaaDoorPMP5
import Derived.Test.YtfkbmjfhakooiaaDoorOrd
import Derived.Lib.Bytes
import Derived.Test.YtfkbmjfhakooiaaDoorCheck
import Derived.Test.YtfkbmjfhakooiaaDoorPTreex3
import Derived.Test.YtfkbmjfhakooiaaDoorApart2
import Derived.Test.YtfkbmjfhakooiaaDoorPTreex6
import Derived.Deep.Slices
import Derived.ChangeSlices
import Derived.KernelRfl
/- amphoralaw09.file, walked. Conditions: as each theorem says. -/
namespace Go.Proofs.YtfkbmjfhakooiaaDoor.TR
open Go.RowKit Go.Proofs.YtfkbmjfhakooiaaDoor.PTree Go.Proofs.YtfkbmjfhakooiaaDoorW.PrintWords Go.Proofs.YtfkbmjfhakooiaaDoorW.PrintLast Go.Proofs.YtfkbmjfhakooiaaDoorW.PrintMore
set_option linter.unusedVariables false
set_option linter.unusedSimpArgs false
theorem ints_C {w : World} {k : IntKind} {A : Option Addr} {n : Nat} {xs : List Int} (h : ReadsInt w k A n xs) : Kd.C (Kd.int k) w A n xs := by
  refine ⟨h.1, h.2.1, fun hp => ?_⟩
  obtain ⟨ad, e, hc⟩ := h.2.2 hp
  refine ⟨ad, e, fun j p hj => ⟨[.int k p], rfl, rfl, fun i u hu => ?_⟩⟩
  obtain ⟨hl, hv⟩ := List.getElem?_eq_some_iff.1 hj
  cases i with
  | zero =>
    simp only [List.getElem?_cons_zero, Option.some.injEq] at hu
    subst hu
    have h1 := hc j (by rw [← h.1]; exact hl)
    rw [List.getD_eq_getElem?_getD, List.getElem?_eq_getElem hl, hv] at h1
    show w.cell? (ad.add (j * 1 + 0)) = _
    rw [Nat.mul_one, Nat.add_zero]
    simpa using h1
  | succ i => simp at hu
theorem below_row_ {w W W1 : World} {g : Nat} (h : Below w.heap.size w W) (b2 : W.grownBy W1 (some g)) (hg : w.heap.size ≤ g) : Below w.heap.size w W1 :=
  h.trans ⟨b2.os, b2.tape, b2.output, b2.size, fun k hk => b2.block k (Nat.lt_of_lt_of_le hk (below_size h)) (fun e => by injection e with e; omega)⟩
set_option maxHeartbeats 8000000 in
set_option maxRecDepth 100000 in
theorem file_calls (p : ByteArray) (hp : p.size ≤ 1000) (w : World) :
    Calls Tryd.prog 22 #[.string p] w fun e w' => ∃ (A : Option Addr) (c : Nat), e = .returned (.agg #[.string p, .int .i64 2, .int .i64 0, .int .i64 0, .int .i64 0, .int .i64 0, .string ⟨#[]⟩, .slice A (bytesOf p).length c]) ∧ (bytesOf p).length ≤ c ∧ Kd.C (Kd.int .u8) w' A (bytesOf p).length (bytesOf p) ∧ Below w.heap.size w w' := by
  have hu31 := Tryd.underlying31
  have HP := Aside0.mk hp
  clear hp
  have HL := Aside0.mk (bytesOf_length p)
  rw [HL.out]
  have kb := fun W => print_bytes (P := Tryd.prog) 9 29 5 Tryd.underlying9 Tryd.underlying29 Tryd.underlying5 p W
  go_enter Tryd.func22, Tryd.ntmps22
  go_wp2_with (first
    | ((with_reducible refine gate_dst (N := 2) rfl ?_); refine box_event ?hg (N := 2) ?hd (cs := #[.string (⟨#[]⟩ : ByteArray), .int .i64 0, .int .i64 0, .int .i64 0, .int .i64 0, .int .i64 0, .string (⟨#[]⟩ : ByteArray), .slice none 0 0]) (t := 31) ?hr ?_; (case hd => rfl); (case hg => rfl); (case hr => first | (go_simp; done) | (go_simp; rfl)); intro g2 hg w2 hbox hb; have HB := Aside0.mk hb; have K2 := Aside0.mk hbox; have G2 := Aside0.mk (show w.heap.size ≤ g2 by omega); clear hb hbox hg)
    | ((with_reducible refine gate_store (t := 31) (p := 2) (v := .tmp 6) rfl ?_); refine ev_set31 _ rfl (.tmp 2) (.tmp 6) rfl rfl g2 _ _ _ _ _ _ _ _ p ⟨#[]⟩ 2 0 0 0 0 (some ⟨w2.heap.size, 0, none⟩) p.size (grownCap w2 p.size 0 5) rfl rfl (blk_below K2.out (bytes_below (Below.refl _ _) (Nat.le_refl _) 5 p)) (fun w8 b1 b2 => ?_)))
  refine bodyPost_ret (results_cell_row rfl _ _ g2 31 _ (0, 0) _ rfl b1 Tryd.underlying31 rfl (by kernel_rfl)) rfl ?_
  have hlt : w2.heap.size < (Lib.bytesWorld w2 5 p).heap.size := by rw [Lib.bytesWorld_size]; omega
  have hne : some w2.heap.size ≠ some g2 := fun e => by
    injection e with e
    have := (Array.getElem?_eq_some_iff.1 K2.out).1
    omega
  refine ⟨_, _, rfl, grownCap_ge _ _ _ _, ints_C ?_, below_row_ (bytes_below HB.out (below_size HB.out) 5 p) b2 G2.out⟩
  obtain ⟨h1, h2, h3⟩ := bytes_reads w2 5 p (by have := HP.out; omega)
  refine ⟨h1, h2, fun hp => ?_⟩
  obtain ⟨ad, e, hc⟩ := h3 hp
  cases e
  refine ⟨_, rfl, fun j hj => ?_⟩
  rw [← hc j hj, add_plain]
  exact World.cell?_of_block (b2.block _ hlt hne)
end Go.Proofs.YtfkbmjfhakooiaaDoor.TR

/- What the chapter's example is. Conditions: none. -/
namespace Go.Proofs.YtfkbmjfhakooiaaDoor.TR
open Go.RowKit Go.Proofs.YtfkbmjfhakooiaaDoor.PTree Go.Proofs.YtfkbmjfhakooiaaDoorW.PrintWords Go.Proofs.YtfkbmjfhakooiaaDoorW.PrintLast Go.Proofs.YtfkbmjfhakooiaaDoorW.PrintMore
set_option linter.unusedVariables false
set_option linter.unusedSimpArgs false
def ps1 : ByteArray := ⟨#[97, 47, 98, 47, 99]⟩
def ps2 : ByteArray := ⟨#[97, 47, 46, 47, 120]⟩
def fileE (p : ByteArray) : S31 := ⟨p, 2, 0, 0, 0, 0, ⟨#[]⟩, bytesOf p⟩
def dirE (p : ByteArray) : S31 := ⟨p, 1, 493, 0, 0, 0, ⟨#[]⟩, []⟩
def ax : ByteArray := ⟨#[97, 47, 120]⟩
def ab : ByteArray := ⟨#[97, 47, 98]⟩
def a_ : ByteArray := ⟨#[97]⟩
def aliveX : List S31 := [fileE ps1, ⟨ax, 2, 0, 0, 0, 0, ⟨#[]⟩, bytesOf ps2⟩, dirE ab, dirE a_]
def aliveY : List S31 := [dirE a_, dirE ab, fileE ps1, ⟨ax, 2, 0, 0, 0, 0, ⟨#[]⟩, bytesOf ps2⟩]
set_option maxRecDepth 100000 in
theorem alive_buildA : buildA 600 [fileE ps1, fileE ps2] = some (aliveX, none) := by kernel_rfl
set_option maxRecDepth 100000 in
theorem alive_check : tree_Check.f 600 aliveY = some (-1, none) := by kernel_rfl
end Go.Proofs.YtfkbmjfhakooiaaDoor.TR

/- The chapter's example, walked. Conditions: as each theorem says. -/
namespace Go.Proofs.YtfkbmjfhakooiaaDoor.TR
open Go.RowKit Go.Proofs.YtfkbmjfhakooiaaDoor.PTree Go.Proofs.YtfkbmjfhakooiaaDoorW.PrintWords Go.Proofs.YtfkbmjfhakooiaaDoorW.PrintLast Go.Proofs.YtfkbmjfhakooiaaDoorW.PrintMore
set_option linter.unusedVariables false
set_option linter.unusedSimpArgs false
theorem k31_mkK (w : World) (x : S31) (A : Option Addr) (k : Nat) (l : x.f7.length ≤ k) (g : (Kd.int .u8).C w A x.f7.length x.f7) : k31.K w x [.string x.f0, .int .i64 x.f1, .int .i64 x.f2, .int .i64 x.f3, .int .i64 x.f4, .int .i64 x.f5, .string x.f6, .slice A x.f7.length k] := ⟨[.string x.f0], [.int .i64 x.f1, .int .i64 x.f2, .int .i64 x.f3, .int .i64 x.f4, .int .i64 x.f5, .string x.f6, .slice A x.f7.length k], rfl, rfl, ⟨[.int .i64 x.f1], [.int .i64 x.f2, .int .i64 x.f3, .int .i64 x.f4, .int .i64 x.f5, .string x.f6, .slice A x.f7.length k], rfl, rfl, ⟨[.int .i64 x.f2], [.int .i64 x.f3, .int .i64 x.f4, .int .i64 x.f5, .string x.f6, .slice A x.f7.length k], rfl, rfl, ⟨[.int .i64 x.f3], [.int .i64 x.f4, .int .i64 x.f5, .string x.f6, .slice A x.f7.length k], rfl, rfl, ⟨[.int .i64 x.f4], [.int .i64 x.f5, .string x.f6, .slice A x.f7.length k], rfl, rfl, ⟨[.int .i64 x.f5], [.string x.f6, .slice A x.f7.length k], rfl, rfl, ⟨[.string x.f6], [.slice A x.f7.length k], rfl, rfl, ⟨A, k, rfl, l, g⟩⟩⟩⟩⟩⟩⟩⟩
theorem lit2_C (W W1 : World) (b : Nat) (x y : S31) (A1 A2 : Option Addr) (k1 k2 : Nat) (l1 : x.f7.length ≤ k1) (h1 : Kd.C (Kd.int .u8) W1 A1 x.f7.length x.f7) (l2 : y.f7.length ≤ k2) (h2 : Kd.C (Kd.int .u8) W1 A2 y.f7.length y.f7) (hb : W1.heap[b]? = some (.cells #[.string x.f0, .int .i64 x.f1, .int .i64 x.f2, .int .i64 x.f3, .int .i64 x.f4, .int .i64 x.f5, .string x.f6, .slice A1 x.f7.length k1, .string y.f0, .int .i64 y.f1, .int .i64 y.f2, .int .i64 y.f3, .int .i64 y.f4, .int .i64 y.f5, .string y.f6, .slice A2 y.f7.length k2] 31 (0, 0))) : Kd.C k31 W1 (some ⟨b, 0, none⟩) 2 [x, y] := by
  refine ⟨rfl, by decide, fun _ => ⟨_, rfl, fun j p hj => ?_⟩⟩
  match j, hj with
  | 0, hj =>
    obtain rfl := Option.some.inj hj
    refine ⟨_, rfl, k31_mkK W1 x A1 k1 l1 h1, fun i u hu => ?_⟩
    match i, hu with
    | 0, hu => exact (blk_cell hb 0).trans hu
    | 1, hu => exact (blk_cell hb 1).trans hu
    | 2, hu => exact (blk_cell hb 2).trans hu
    | 3, hu => exact (blk_cell hb 3).trans hu
    | 4, hu => exact (blk_cell hb 4).trans hu
    | 5, hu => exact (blk_cell hb 5).trans hu
    | 6, hu => exact (blk_cell hb 6).trans hu
    | 7, hu => exact (blk_cell hb 7).trans hu
    | i + 8, hu => simp at hu
  | 1, hj =>
    obtain rfl := Option.some.inj hj
    refine ⟨_, rfl, k31_mkK W1 y A2 k2 l2 h2, fun i u hu => ?_⟩
    match i, hu with
    | 0, hu => exact (blk_cell hb 8).trans hu
    | 1, hu => exact (blk_cell hb 9).trans hu
    | 2, hu => exact (blk_cell hb 10).trans hu
    | 3, hu => exact (blk_cell hb 11).trans hu
    | 4, hu => exact (blk_cell hb 12).trans hu
    | 5, hu => exact (blk_cell hb 13).trans hu
    | 6, hu => exact (blk_cell hb 14).trans hu
    | 7, hu => exact (blk_cell hb 15).trans hu
    | i + 8, hu => simp at hu
  | j + 2, hj => simp at hj
theorem aliveX_small : ∀ x ∈ aliveX, x.f0.size ≤ 200 := by
  intro x hx
  simp only [aliveX, List.mem_cons, List.not_mem_nil, or_false] at hx
  rcases hx with rfl | rfl | rfl | rfl <;> decide
theorem aliveX_keys : ∀ p q, p ∈ aliveX → q ∈ aliveX → p.f0 = q.f0 → p = q := by
  intro p q hp hq e
  simp only [aliveX, List.mem_cons, List.not_mem_nil, or_false] at hp hq
  rcases hp with rfl | rfl | rfl | rfl <;> rcases hq with rfl | rfl | rfl | rfl <;> first | rfl | exact absurd e (by decide)
theorem alive_sort (ys : List S31) (h : SortR 600 aliveX ys) : ys = aliveY := by
  refine sortR_uniq (B := 200) (by decide) (by decide) aliveX_small h ?_ ?_ aliveX_keys
  · exact ((List.Perm.swap _ _ _).trans (List.perm_append_comm (l₁ := [dirE ab, dirE a_]) (l₂ := [fileE ps1, ⟨ax, 2, 0, 0, 0, 0, ⟨#[]⟩, bytesOf ps2⟩])))
  · refine List.Pairwise.cons ?_ (List.Pairwise.cons ?_ (List.Pairwise.cons ?_ (List.Pairwise.cons ?_ List.Pairwise.nil)))
    all_goals (
      intro q hq
      simp only [List.mem_cons, List.not_mem_nil, or_false] at hq)
    · rcases hq with rfl | rfl | rfl <;> decide +kernel
    · rcases hq with rfl | rfl <;> decide +kernel
    · rcases hq with rfl <;> decide +kernel
theorem build_alive (A : Option Addr) (c : Nat) (w : World) (hC : Kd.C k31 w A 2 [fileE ps1, fileE ps2]) (hGl : Gl w) : Calls Tryd.prog 8 #[.slice A 2 c] w fun e w' => ∃ A c, e = .returned (.tuple #[.slice A 4 c, .nilIface]) ∧ Kd.C k31 w' A 4 aliveY ∧ Below w.heap.size w w' := by
  refine (Build_calls 600 A c [fileE ps1, fileE ps2] aliveX none (SortR 600 aliveX) w hC hGl alive_buildA (fun _ v W h0 hR => sort_goes 600 200 (by decide) (by decide) w hGl aliveX aliveX_small (by decide) v W h0 hR) (fun ys hy => ⟨(-1, none), by rw [alive_sort ys hy]; exact alive_check⟩)).mono ?_
  rintro e w' ⟨A, c, ys, en, rfl, hl, hC, hb, _, h⟩
  obtain ⟨zs, r, hz, hr, rfl, rfl⟩ := h rfl
  obtain rfl := alive_sort zs hz
  rw [alive_check] at hr
  obtain rfl := Option.some.inj hr
  exact ⟨A, c, rfl, hC, hb⟩

set_option maxHeartbeats 8000000 in
set_option maxRecDepth 100000 in
theorem alive_calls (w : World) (hGl : Gl w) : Calls Tryd.prog 6 #[] w fun e w' => e = .returned (.bool true) ∧ Below w.heap.size w w' := by
  have hu31 := Tryd.underlying31
  have hu26 := Tryd.underlying26
  have hu56 := Tryd.underlying56
  have HGL := Aside0.mk hGl
  clear hGl
  go_enter Tryd.func6, Tryd.ntmps6
  go_upto_region 2 with (first
    | (go_at_call 22; refine (file_calls (⟨#[97, 47, 98, 47, 99]⟩ : ByteArray) (by decide) w).mono ?_; rintro e w1 ⟨A1, k1, rfl, hl, hc, hb⟩; have L1 := Aside0.mk hl; have D1 := Aside0.mk hc; have HB1 := Aside0.mk hb; clear hl hc hb)
    | (go_at_call 22; refine (file_calls (⟨#[97, 47, 46, 47, 120]⟩ : ByteArray) (by decide) _).mono ?_; rintro e w2 ⟨A2, k2, rfl, hl, hc, hb⟩; have L2 := Aside0.mk hl; have D2 := Aside0.mk hc; have D1b := Aside0.mk (Kd.C_below D1.out hb); have HB2 := Aside0.mk (below_step HB1.out hb); clear hl hc hb)
    | (go_at_call 8; refine (build_alive _ _ _ (lit2_C w2 _ w2.heap.size (fileE ps1) (fileE ps2) A1 A2 k1 k2 L1.out (Kd.C_alloc D1b.out _) L2.out (Kd.C_alloc D2.out _) (heap_alloc_new w2 _)) (HGL.out.of (below_alloc HB2.out _))).mono ?_; rintro e w3 ⟨A3, k3, rfl, hc, hb⟩; have D3 := Aside0.mk hc; have HB3 := Aside0.mk (below_step (below_alloc HB2.out _) hb); clear hc hb))
  obtain ⟨ad, A7, c7, eA, _⟩ := at_T31 D3.out 0 (by decide) (by decide)
  subst eA
  go_upto_region 3 with (first
    | (go_at_call 19; refine (tree_Check.calls 600 (some ad) k3 aliveY (-1, none) _ D3.out (HGL.out.of HB3.out) alive_check).mono ?_; rintro e w4 ⟨rfl, hb⟩; have D4 := Aside0.mk (Kd.C_below D3.out hb); have HB4 := Aside0.mk (below_step HB3.out hb); clear hb; try simp only [errW_none, errW_some]))
  obtain ⟨_, A8, c8, eA, x0, x1, _⟩ := at_T31 D4.out 0 (by decide) (by decide)
  cases eA
  obtain ⟨_, A9, c9, eA, y0, _⟩ := at_T31 D4.out 3 (by decide) (by decide)
  cases eA
  replace x0 : w4.cell? ad = some (.string ⟨#[97]⟩) := by
    have h : ad.add ((0 : Int).toNat * 8) = ad := by unfold Addr.add; simp
    rw [h] at x0
    exact x0
  replace x1 : w4.cell? ⟨ad.block, ad.off + 1, none⟩ = some (.int .i64 1) := by
    have h : ad.add ((0 : Int).toNat * 8) = ad := by unfold Addr.add; simp
    rw [h] at x1
    exact x1
  replace y0 : w4.cell? ⟨ad.block, ad.off + 24, none⟩ = some (.string ⟨#[97, 47, 120]⟩) := by
    have h : ad.add ((3 : Int).toNat * 8) = ⟨ad.block, ad.off + 24, none⟩ := by unfold Addr.add; simp
    rw [h] at y0
    exact y0
  go_wp2
  go_ret
  exact ⟨rfl, HB4.out⟩
end Go.Proofs.YtfkbmjfhakooiaaDoor.TR

/- tree.Same's closure, walked. Conditions: as each theorem says. -/
namespace Go.Proofs.YtfkbmjfhakooiaaDoor.TR
open Go.RowKit Go.Proofs.YtfkbmjfhakooiaaDoor.PTree Go.Proofs.YtfkbmjfhakooiaaDoorW.PrintWords Go.Proofs.YtfkbmjfhakooiaaDoorW.PrintLast Go.Proofs.YtfkbmjfhakooiaaDoorW.PrintMore
set_option linter.unusedVariables false
set_option linter.unusedSimpArgs false
def sameE (x y : S31) : Bool := (x.f0.toList == y.f0.toList) && (x.f1 == y.f1) && (x.f2 == y.f2) && (x.f3 == y.f3) && (x.f4 == y.f4) && (x.f5 == y.f5) && (x.f6.toList == y.f6.toList) && (Lib.bytesOf x.f7 == Lib.bytesOf y.f7)
theorem C_bytes {w : World} {A : Option Addr} {n : Nat} {xs : List Int} (h : (Kd.int .u8).C w A n xs) : Lib.BytesIn w A n xs := fun hn => by
  obtain ⟨ad, e, _⟩ := h.2.2 hn
  subst e
  refine Lib.BytesIn.of_cells (fun i hi => ?_) hn
  obtain ⟨ad', e, hx⟩ := Kd.at_int h (i : Int) (by omega) (by omega)
  cases e
  exact hx
set_option maxHeartbeats 8000000 in
set_option maxRecDepth 100000 in
theorem same_calls (x y : S31) (A1 A2 : Option Addr) (k1 k2 : Nat) (w : World) (h1 : (Kd.int .u8).C w A1 x.f7.length x.f7) (h2 : (Kd.int .u8).C w A2 y.f7.length y.f7) :
    Calls Tryd.prog 34 #[.agg #[.string x.f0, .int .i64 x.f1, .int .i64 x.f2, .int .i64 x.f3, .int .i64 x.f4, .int .i64 x.f5, .string x.f6, .slice A1 x.f7.length k1], .agg #[.string y.f0, .int .i64 y.f1, .int .i64 y.f2, .int .i64 y.f3, .int .i64 y.f4, .int .i64 y.f5, .string y.f6, .slice A2 y.f7.length k2]] w fun e w' => e = .returned (.bool (sameE x y)) ∧ Below w.heap.size w w' := by
  obtain ⟨x0, x1, x2, x3, x4, x5, x6, x7⟩ := x
  obtain ⟨y0, y1, y2, y3, y4, y5, y6, y7⟩ := y
  have hu31 := Tryd.underlying31
  have H1 := Aside0.mk h1
  have H2 := Aside0.mk h2
  clear h1 h2
  unfold sameE
  simp only
  by_cases c0 : x0.toList = y0.toList
  · have d0 : (x0.toList == y0.toList) = true := beq_iff_eq.mpr c0
    have e0 : (x0.toList != y0.toList) = false := bne_eq_false_iff_eq.mpr c0
    clear c0
    by_cases c1 : x1 = y1
    · have d1 : (x1 == y1) = true := beq_iff_eq.mpr c1
      have e1 : (x1 != y1) = false := bne_eq_false_iff_eq.mpr c1
      clear c1
      by_cases c2 : x2 = y2
      · have d2 : (x2 == y2) = true := beq_iff_eq.mpr c2
        have e2 : (x2 != y2) = false := bne_eq_false_iff_eq.mpr c2
        clear c2
        by_cases c3 : x3 = y3
        · have d3 : (x3 == y3) = true := beq_iff_eq.mpr c3
          have e3 : (x3 != y3) = false := bne_eq_false_iff_eq.mpr c3
          clear c3
          by_cases c4 : x4 = y4
          · have d4 : (x4 == y4) = true := beq_iff_eq.mpr c4
            have e4 : (x4 != y4) = false := bne_eq_false_iff_eq.mpr c4
            clear c4
            by_cases c5 : x5 = y5
            · have d5 : (x5 == y5) = true := beq_iff_eq.mpr c5
              have e5 : (x5 != y5) = false := bne_eq_false_iff_eq.mpr c5
              clear c5
              by_cases c6 : x6.toList = y6.toList
              · have d6 : (x6.toList == y6.toList) = true := beq_iff_eq.mpr c6
                have e6 : (x6.toList != y6.toList) = false := bne_eq_false_iff_eq.mpr c6
                clear c6
                rw [d0, d1, d2, d3, d4, d5, d6]
                simp only [Bool.and_true, Bool.true_and]
                go_enter Tryd.func34, Tryd.ntmps34
                go_wp2_with (first | (go_at_call 35; refine (Tryd.bytes_Equal_all A1 A2 x7.length k1 y7.length k2 x7 y7 _ rfl rfl (C_bytes (Kd.C_alloc (Kd.C_alloc H1.out _) _)) (C_bytes (Kd.C_alloc (Kd.C_alloc H2.out _) _))).mono ?_; rintro e w1 ⟨rfl, rfl⟩))
                go_ret
                exact ⟨rfl, below_alloc (below_alloc (Below.refl _ _) _) _⟩
              · have d6 : (x6.toList == y6.toList) = false := beq_eq_false_iff_ne.mpr c6
                have e6 : (x6.toList != y6.toList) = true := bne_iff_ne.mpr c6
                clear c6
                rw [d0, d1, d2, d3, d4, d5, d6]
                simp only [Bool.and_true, Bool.true_and, Bool.and_false, Bool.false_and]
                go_enter Tryd.func34, Tryd.ntmps34
                go_wp2
                go_ret
                exact ⟨rfl, below_alloc (below_alloc (Below.refl _ _) _) _⟩
            · have d5 : (x5 == y5) = false := beq_eq_false_iff_ne.mpr c5
              have e5 : (x5 != y5) = true := bne_iff_ne.mpr c5
              clear c5
              rw [d0, d1, d2, d3, d4, d5]
              simp only [Bool.and_true, Bool.true_and, Bool.and_false, Bool.false_and]
              go_enter Tryd.func34, Tryd.ntmps34
              go_wp2
              go_ret
              exact ⟨rfl, below_alloc (below_alloc (Below.refl _ _) _) _⟩
          · have d4 : (x4 == y4) = false := beq_eq_false_iff_ne.mpr c4
            have e4 : (x4 != y4) = true := bne_iff_ne.mpr c4
            clear c4
            rw [d0, d1, d2, d3, d4]
            simp only [Bool.and_true, Bool.true_and, Bool.and_false, Bool.false_and]
            go_enter Tryd.func34, Tryd.ntmps34
            go_wp2
            go_ret
            exact ⟨rfl, below_alloc (below_alloc (Below.refl _ _) _) _⟩
        · have d3 : (x3 == y3) = false := beq_eq_false_iff_ne.mpr c3
          have e3 : (x3 != y3) = true := bne_iff_ne.mpr c3
          clear c3
          rw [d0, d1, d2, d3]
          simp only [Bool.and_true, Bool.true_and, Bool.and_false, Bool.false_and]
          go_enter Tryd.func34, Tryd.ntmps34
          go_wp2
          go_ret
          exact ⟨rfl, below_alloc (below_alloc (Below.refl _ _) _) _⟩
      · have d2 : (x2 == y2) = false := beq_eq_false_iff_ne.mpr c2
        have e2 : (x2 != y2) = true := bne_iff_ne.mpr c2
        clear c2
        rw [d0, d1, d2]
        simp only [Bool.and_true, Bool.true_and, Bool.and_false, Bool.false_and]
        go_enter Tryd.func34, Tryd.ntmps34
        go_wp2
        go_ret
        exact ⟨rfl, below_alloc (below_alloc (Below.refl _ _) _) _⟩
    · have d1 : (x1 == y1) = false := beq_eq_false_iff_ne.mpr c1
      have e1 : (x1 != y1) = true := bne_iff_ne.mpr c1
      clear c1
      rw [d0, d1]
      simp only [Bool.and_true, Bool.true_and, Bool.and_false, Bool.false_and]
      go_enter Tryd.func34, Tryd.ntmps34
      go_wp2
      go_ret
      exact ⟨rfl, below_alloc (below_alloc (Below.refl _ _) _) _⟩
  · have d0 : (x0.toList == y0.toList) = false := beq_eq_false_iff_ne.mpr c0
    have e0 : (x0.toList != y0.toList) = true := bne_iff_ne.mpr c0
    clear c0
    rw [d0]
    simp only [Bool.and_true, Bool.true_and, Bool.and_false, Bool.false_and]
    go_enter Tryd.func34, Tryd.ntmps34
    go_wp2
    go_ret
    exact ⟨rfl, below_alloc (below_alloc (Below.refl _ _) _) _⟩
end Go.Proofs.YtfkbmjfhakooiaaDoor.TR

/- slices.EqualFunc of entries, tree.Same, walked. Conditions: as each theorem says. -/
namespace Go.Proofs.YtfkbmjfhakooiaaDoor.TR
open Go.RowKit Go.Proofs.YtfkbmjfhakooiaaDoor.PTree Go.Proofs.YtfkbmjfhakooiaaDoorW.PrintWords Go.Proofs.YtfkbmjfhakooiaaDoorW.PrintLast Go.Proofs.YtfkbmjfhakooiaaDoorW.PrintMore
set_option linter.unusedVariables false
set_option linter.unusedSimpArgs false
def sameL0 (l0 l1 : List S31) : Nat → Int → Option Bool
  | 0, _ => none
  | k + 1, i => if i < (l0.length : Int) then (if sameE (rd_T31 l0 i) (rd_T31 l1 i) = true then sameL0 l0 l1 k (i + 1) else some false) else some true
def sameL (l0 l1 : List S31) : Option Bool := if (l0.length : Int) = (l1.length : Int) then sameL0 l0 l1 (l0.length + 1) 0 else some false
set_option maxHeartbeats 8000000 in
set_option maxRecDepth 100000 in
theorem eqf_calls (l0 l1 : List S31) (A0 A1 : Option Addr) (k0 k1 : Nat) (r : Bool) (w : World) (h0 : Kd.C k31 w A0 l0.length l0) (h1 : Kd.C k31 w A1 l1.length l1) (h : sameL l0 l1 = some r) :
    Calls Tryd.prog 33 #[.slice A0 l0.length k0, .slice A1 l1.length k1, .func (.func 34) #[] #[]] w fun e w' => e = .returned (.bool r) ∧ Below w.heap.size w w' := by
  have hu31 := Tryd.underlying31
  have H0 := Aside0.mk h0
  have H1 := Aside0.mk h1
  have HLB := Aside0.mk h0.2.1
  clear h0 h1
  have eg : ∀ args w, (callFunc 34 args).run Tryd.prog w = .ok (.enter 34 args) w := enters_of Tryd.func34 (by kernel_rfl) rfl
  unfold sameL at h
  by_cases c1 : (l0.length : Int) = (l1.length : Int)
  · rw [if_pos c1] at h
    have C1 := Aside0.mk c1
    have c1b : ((l0.length : Int) != (l1.length : Int)) = false := bne_eq_false_iff_eq.mpr c1
    have H := Aside0.mk h
    clear h c1
    have HB := Aside0.mk (Below.refl w.heap.size w)
    go_enter Tryd.func33, Tryd.ntmps33
    go_wp2
    go_loopg [17] (l0.length + 1) (fun kq v17 w' => ∃ (i : Int), v17 = .int .i64 i ∧ Aside0 (sameL0 l0 l1 kq i = some r) ∧ Aside0 (0 ≤ i) ∧ Aside0 (Below w.heap.size w w'))
    case atStart => exact ⟨0, rfl, H, ⟨by omega⟩, HB⟩
    case round =>
      clear H HB
      obtain ⟨i, rfl, HA, HI, HB⟩ := hrel
      cases gk with
      | zero => exact absurd HA.out (by simp [sameL0])
      | succ k2 =>
        have H := HA.out
        clear HA
        simp only [sameL0] at H
        by_cases c2 : i < (l0.length : Int)
        · rw [if_pos c2] at H
          have C2 := Aside0.mk c2
          have c3 : i < (l1.length : Int) := by have := C1.out; omega
          obtain ⟨ad, A7, c7, eA, x0, x1, x2, x3, x4, x5, x6, x7, _, hi7⟩ := at_T31 H0.out i HI.out c2
          cases eA
          obtain ⟨bd, B7, d7, eA, z0, z1, z2, z3, z4, z5, z6, z7, _, hj7⟩ := at_T31 H1.out i HI.out c3
          cases eA
          have HI7 := Aside0.mk hi7
          have HJ7 := Aside0.mk hj7
          clear hi7 hj7
          replace z0 := Aside0.mk z0
          replace z1 := Aside0.mk z1
          replace z2 := Aside0.mk z2
          replace z3 := Aside0.mk z3
          replace z4 := Aside0.mk z4
          replace z5 := Aside0.mk z5
          replace z6 := Aside0.mk z6
          replace z7 := Aside0.mk z7
          replace x0 := (HB.out.cell (World.block_lt_of_cell? w _ x0)).trans x0
          replace x1 := (HB.out.cell (World.block_lt_of_cell? w _ x1)).trans x1
          replace x2 := (HB.out.cell (World.block_lt_of_cell? w _ x2)).trans x2
          replace x3 := (HB.out.cell (World.block_lt_of_cell? w _ x3)).trans x3
          replace x4 := (HB.out.cell (World.block_lt_of_cell? w _ x4)).trans x4
          replace x5 := (HB.out.cell (World.block_lt_of_cell? w _ x5)).trans x5
          replace x6 := (HB.out.cell (World.block_lt_of_cell? w _ x6)).trans x6
          replace x7 := (HB.out.cell (World.block_lt_of_cell? w _ x7)).trans x7
          have hi0 := HI.out
          have p210 := eq_true hi0
          have q210 := eq_true c2
          have q211 := eq_true c3
          clear hi0 c3
          cases hse : sameE (rd_T31 l0 i) (rd_T31 l1 i) with
          | false =>
            rw [hse] at H
            obtain rfl : false = r := by simpa using H
            go_wp2_with (first | ((with_reducible refine gate_dst (N := 8) rfl ?_); refine box_event ?hg (N := 8) ?hd (cs := #[.string (⟨#[]⟩ : ByteArray), .int .i64 0, .int .i64 0, .int .i64 0, .int .i64 0, .int .i64 0, .string (⟨#[]⟩ : ByteArray), .slice none 0 0]) (t := 31) ?hr ?_; (case hd => rfl); (case hg => rfl); (case hr => first | (go_simp; done) | (go_simp; rfl)); intro g8 hg w8 hbox hb; have HZ8 := Aside0.mk (below_step HB.out hb); have K8 := Aside0.mk hbox; have G8 := Aside0.mk (show w.heap.size ≤ g8 by rw [hg]; exact below_size HB.out); clear hb hbox hg) | ((with_reducible refine gate_store (t := 31) (p := 8) (v := .tmp 21) rfl ?_); refine ev_set31 _ rfl (.tmp 8) (.tmp 21) rfl rfl g8 _ _ _ _ _ _ _ _ (rd_T31 l0 i).f0 (rd_T31 l0 i).f6 (rd_T31 l0 i).f1 (rd_T31 l0 i).f2 (rd_T31 l0 i).f3 (rd_T31 l0 i).f4 (rd_T31 l0 i).f5 A7 (rd_T31 l0 i).f7.length c7 rfl rfl K8.out (fun w10 b1 b2 => ?_); have HZ10 := Aside0.mk (below_row_ HZ8.out b2 G8.out); have K10 := Aside0.mk b1; have y0 := (Aside0.mk ((HZ10.out.cell (World.block_lt_of_cell? w _ z0.out)).trans z0.out)).out; have y1 := (Aside0.mk ((HZ10.out.cell (World.block_lt_of_cell? w _ z1.out)).trans z1.out)).out; have y2 := (Aside0.mk ((HZ10.out.cell (World.block_lt_of_cell? w _ z2.out)).trans z2.out)).out; have y3 := (Aside0.mk ((HZ10.out.cell (World.block_lt_of_cell? w _ z3.out)).trans z3.out)).out; have y4 := (Aside0.mk ((HZ10.out.cell (World.block_lt_of_cell? w _ z4.out)).trans z4.out)).out; have y5 := (Aside0.mk ((HZ10.out.cell (World.block_lt_of_cell? w _ z5.out)).trans z5.out)).out; have y6 := (Aside0.mk ((HZ10.out.cell (World.block_lt_of_cell? w _ z6.out)).trans z6.out)).out; have y7 := (Aside0.mk ((HZ10.out.cell (World.block_lt_of_cell? w _ z7.out)).trans z7.out)).out; clear b1 b2) | ((with_reducible refine gate_dst (N := 9) rfl ?_); refine box_event ?hg (N := 9) ?hd (cs := #[.string (⟨#[]⟩ : ByteArray), .int .i64 0, .int .i64 0, .int .i64 0, .int .i64 0, .int .i64 0, .string (⟨#[]⟩ : ByteArray), .slice none 0 0]) (t := 31) ?hr ?_; (case hd => rfl); (case hg => rfl); (case hr => first | (go_simp; done) | (go_simp; rfl)); intro g9 hg w11 hbox hb; have HZ11 := Aside0.mk (below_step HZ10.out hb); have K9 := Aside0.mk hbox; have K11 := Aside0.mk (blk_below K10.out hb); have G9 := Aside0.mk (show w.heap.size ≤ g9 by rw [hg]; exact below_size HZ10.out); have N9 := Aside0.mk (show g8 ≠ g9 by have := (Array.getElem?_eq_some_iff.1 K10.out).1; omega); clear hb hbox hg) | ((with_reducible refine gate_store (t := 31) (p := 9) (v := .tmp 25) rfl ?_); refine ev_set31 _ rfl (.tmp 9) (.tmp 25) rfl rfl g9 _ _ _ _ _ _ _ _ (rd_T31 l1 i).f0 (rd_T31 l1 i).f6 (rd_T31 l1 i).f1 (rd_T31 l1 i).f2 (rd_T31 l1 i).f3 (rd_T31 l1 i).f4 (rd_T31 l1 i).f5 B7 (rd_T31 l1 i).f7.length d7 rfl rfl K9.out (fun w12 b1 b2 => ?_); have HZ12 := Aside0.mk (below_row_ HZ11.out b2 G9.out); have K12 := Aside0.mk (blk_grown K11.out b2 (fun e => N9.out (by injection e))); have u0 : w12.cell? ⟨g8, 0, none⟩ = some (.string (rd_T31 l0 i).f0) := blk_cell K12.out 0; have u1 : w12.cell? ⟨g8, 1, none⟩ = some (.int .i64 (rd_T31 l0 i).f1) := blk_cell K12.out 1; have u2 : w12.cell? ⟨g8, 2, none⟩ = some (.int .i64 (rd_T31 l0 i).f2) := blk_cell K12.out 2; have u3 : w12.cell? ⟨g8, 3, none⟩ = some (.int .i64 (rd_T31 l0 i).f3) := blk_cell K12.out 3; have u4 : w12.cell? ⟨g8, 4, none⟩ = some (.int .i64 (rd_T31 l0 i).f4) := blk_cell K12.out 4; have u5 : w12.cell? ⟨g8, 5, none⟩ = some (.int .i64 (rd_T31 l0 i).f5) := blk_cell K12.out 5; have u6 : w12.cell? ⟨g8, 6, none⟩ = some (.string (rd_T31 l0 i).f6) := blk_cell K12.out 6; have u7 : w12.cell? ⟨g8, 7, none⟩ = some (.slice A7 (rd_T31 l0 i).f7.length c7) := blk_cell K12.out 7; have v0 : w12.cell? ⟨g9, 0, none⟩ = some (.string (rd_T31 l1 i).f0) := blk_cell b1 0; have v1 : w12.cell? ⟨g9, 1, none⟩ = some (.int .i64 (rd_T31 l1 i).f1) := blk_cell b1 1; have v2 : w12.cell? ⟨g9, 2, none⟩ = some (.int .i64 (rd_T31 l1 i).f2) := blk_cell b1 2; have v3 : w12.cell? ⟨g9, 3, none⟩ = some (.int .i64 (rd_T31 l1 i).f3) := blk_cell b1 3; have v4 : w12.cell? ⟨g9, 4, none⟩ = some (.int .i64 (rd_T31 l1 i).f4) := blk_cell b1 4; have v5 : w12.cell? ⟨g9, 5, none⟩ = some (.int .i64 (rd_T31 l1 i).f5) := blk_cell b1 5; have v6 : w12.cell? ⟨g9, 6, none⟩ = some (.string (rd_T31 l1 i).f6) := blk_cell b1 6; have v7 : w12.cell? ⟨g9, 7, none⟩ = some (.slice B7 (rd_T31 l1 i).f7.length d7) := blk_cell b1 7; clear b1 b2) | (go_at_call 34; refine (same_calls (rd_T31 l0 i) (rd_T31 l1 i) A7 B7 c7 d7 _ (Kd.C_below HI7.out HZ12.out) (Kd.C_below HJ7.out HZ12.out)).mono ?_; rintro e w13 ⟨rfl, hb⟩; have HB13 := Aside0.mk (below_step HZ12.out hb); rw [hse]; clear hb))
            go_ret
            exact ⟨rfl, HB13.out⟩
          | true =>
            rw [hse, if_pos rfl] at H
            replace H := Aside0.mk H
            go_wp2_with (first | ((with_reducible refine gate_dst (N := 8) rfl ?_); refine box_event ?hg (N := 8) ?hd (cs := #[.string (⟨#[]⟩ : ByteArray), .int .i64 0, .int .i64 0, .int .i64 0, .int .i64 0, .int .i64 0, .string (⟨#[]⟩ : ByteArray), .slice none 0 0]) (t := 31) ?hr ?_; (case hd => rfl); (case hg => rfl); (case hr => first | (go_simp; done) | (go_simp; rfl)); intro g8 hg w8 hbox hb; have HZ8 := Aside0.mk (below_step HB.out hb); have K8 := Aside0.mk hbox; have G8 := Aside0.mk (show w.heap.size ≤ g8 by rw [hg]; exact below_size HB.out); clear hb hbox hg) | ((with_reducible refine gate_store (t := 31) (p := 8) (v := .tmp 21) rfl ?_); refine ev_set31 _ rfl (.tmp 8) (.tmp 21) rfl rfl g8 _ _ _ _ _ _ _ _ (rd_T31 l0 i).f0 (rd_T31 l0 i).f6 (rd_T31 l0 i).f1 (rd_T31 l0 i).f2 (rd_T31 l0 i).f3 (rd_T31 l0 i).f4 (rd_T31 l0 i).f5 A7 (rd_T31 l0 i).f7.length c7 rfl rfl K8.out (fun w10 b1 b2 => ?_); have HZ10 := Aside0.mk (below_row_ HZ8.out b2 G8.out); have K10 := Aside0.mk b1; have y0 := (Aside0.mk ((HZ10.out.cell (World.block_lt_of_cell? w _ z0.out)).trans z0.out)).out; have y1 := (Aside0.mk ((HZ10.out.cell (World.block_lt_of_cell? w _ z1.out)).trans z1.out)).out; have y2 := (Aside0.mk ((HZ10.out.cell (World.block_lt_of_cell? w _ z2.out)).trans z2.out)).out; have y3 := (Aside0.mk ((HZ10.out.cell (World.block_lt_of_cell? w _ z3.out)).trans z3.out)).out; have y4 := (Aside0.mk ((HZ10.out.cell (World.block_lt_of_cell? w _ z4.out)).trans z4.out)).out; have y5 := (Aside0.mk ((HZ10.out.cell (World.block_lt_of_cell? w _ z5.out)).trans z5.out)).out; have y6 := (Aside0.mk ((HZ10.out.cell (World.block_lt_of_cell? w _ z6.out)).trans z6.out)).out; have y7 := (Aside0.mk ((HZ10.out.cell (World.block_lt_of_cell? w _ z7.out)).trans z7.out)).out; clear b1 b2) | ((with_reducible refine gate_dst (N := 9) rfl ?_); refine box_event ?hg (N := 9) ?hd (cs := #[.string (⟨#[]⟩ : ByteArray), .int .i64 0, .int .i64 0, .int .i64 0, .int .i64 0, .int .i64 0, .string (⟨#[]⟩ : ByteArray), .slice none 0 0]) (t := 31) ?hr ?_; (case hd => rfl); (case hg => rfl); (case hr => first | (go_simp; done) | (go_simp; rfl)); intro g9 hg w11 hbox hb; have HZ11 := Aside0.mk (below_step HZ10.out hb); have K9 := Aside0.mk hbox; have K11 := Aside0.mk (blk_below K10.out hb); have G9 := Aside0.mk (show w.heap.size ≤ g9 by rw [hg]; exact below_size HZ10.out); have N9 := Aside0.mk (show g8 ≠ g9 by have := (Array.getElem?_eq_some_iff.1 K10.out).1; omega); clear hb hbox hg) | ((with_reducible refine gate_store (t := 31) (p := 9) (v := .tmp 25) rfl ?_); refine ev_set31 _ rfl (.tmp 9) (.tmp 25) rfl rfl g9 _ _ _ _ _ _ _ _ (rd_T31 l1 i).f0 (rd_T31 l1 i).f6 (rd_T31 l1 i).f1 (rd_T31 l1 i).f2 (rd_T31 l1 i).f3 (rd_T31 l1 i).f4 (rd_T31 l1 i).f5 B7 (rd_T31 l1 i).f7.length d7 rfl rfl K9.out (fun w12 b1 b2 => ?_); have HZ12 := Aside0.mk (below_row_ HZ11.out b2 G9.out); have K12 := Aside0.mk (blk_grown K11.out b2 (fun e => N9.out (by injection e))); have u0 : w12.cell? ⟨g8, 0, none⟩ = some (.string (rd_T31 l0 i).f0) := blk_cell K12.out 0; have u1 : w12.cell? ⟨g8, 1, none⟩ = some (.int .i64 (rd_T31 l0 i).f1) := blk_cell K12.out 1; have u2 : w12.cell? ⟨g8, 2, none⟩ = some (.int .i64 (rd_T31 l0 i).f2) := blk_cell K12.out 2; have u3 : w12.cell? ⟨g8, 3, none⟩ = some (.int .i64 (rd_T31 l0 i).f3) := blk_cell K12.out 3; have u4 : w12.cell? ⟨g8, 4, none⟩ = some (.int .i64 (rd_T31 l0 i).f4) := blk_cell K12.out 4; have u5 : w12.cell? ⟨g8, 5, none⟩ = some (.int .i64 (rd_T31 l0 i).f5) := blk_cell K12.out 5; have u6 : w12.cell? ⟨g8, 6, none⟩ = some (.string (rd_T31 l0 i).f6) := blk_cell K12.out 6; have u7 : w12.cell? ⟨g8, 7, none⟩ = some (.slice A7 (rd_T31 l0 i).f7.length c7) := blk_cell K12.out 7; have v0 : w12.cell? ⟨g9, 0, none⟩ = some (.string (rd_T31 l1 i).f0) := blk_cell b1 0; have v1 : w12.cell? ⟨g9, 1, none⟩ = some (.int .i64 (rd_T31 l1 i).f1) := blk_cell b1 1; have v2 : w12.cell? ⟨g9, 2, none⟩ = some (.int .i64 (rd_T31 l1 i).f2) := blk_cell b1 2; have v3 : w12.cell? ⟨g9, 3, none⟩ = some (.int .i64 (rd_T31 l1 i).f3) := blk_cell b1 3; have v4 : w12.cell? ⟨g9, 4, none⟩ = some (.int .i64 (rd_T31 l1 i).f4) := blk_cell b1 4; have v5 : w12.cell? ⟨g9, 5, none⟩ = some (.int .i64 (rd_T31 l1 i).f5) := blk_cell b1 5; have v6 : w12.cell? ⟨g9, 6, none⟩ = some (.string (rd_T31 l1 i).f6) := blk_cell b1 6; have v7 : w12.cell? ⟨g9, 7, none⟩ = some (.slice B7 (rd_T31 l1 i).f7.length d7) := blk_cell b1 7; clear b1 b2) | (go_at_call 34; refine (same_calls (rd_T31 l0 i) (rd_T31 l1 i) A7 B7 c7 d7 _ (Kd.C_below HI7.out HZ12.out) (Kd.C_below HJ7.out HZ12.out)).mono ?_; rintro e w13 ⟨rfl, hb⟩; have HB13 := Aside0.mk (below_step HZ12.out hb); rw [hse]; clear hb))
            go_roundg k2
            case measure => omega
            case rel => exact ⟨i + 1, by rw [wr_in _ (by have h1 := HI.out; have h2 := HLB.out; have h3 := C2.out; omega)], H, ⟨by have := HI.out; omega⟩, HB13⟩
        · rw [if_neg c2] at H
          obtain rfl := Option.some.inj H
          go_wp2
          go_ret
          exact ⟨rfl, HB.out⟩
  · rw [if_neg c1] at h
    obtain rfl := Option.some.inj h
    have c1b : ((l0.length : Int) != (l1.length : Int)) = true := bne_iff_ne.mpr c1
    clear h c1
    go_enter Tryd.func33, Tryd.ntmps33
    go_wp2
    go_ret
    exact ⟨rfl, Below.refl _ _⟩
theorem Same_calls (l0 l1 : List S31) (A0 A1 : Option Addr) (k0 k1 : Nat) (r : Bool) (w : World) (h0 : Kd.C k31 w A0 l0.length l0) (h1 : Kd.C k31 w A1 l1.length l1) (h : sameL l0 l1 = some r) :
    Calls Tryd.prog 15 #[.slice A0 l0.length k0, .slice A1 l1.length k1] w fun e w' => e = .returned (.bool r) ∧ Below w.heap.size w w' := by
  have H := Aside0.mk (eqf_calls l0 l1 A0 A1 k0 k1 r w h0 h1 h)
  clear h0 h1 h
  go_enter Tryd.func15, Tryd.ntmps15
  go_wp2_with (first | (go_at_call 33; refine H.out.mono ?_; rintro e w1 ⟨rfl, hb⟩; have HB := Aside0.mk hb; clear hb))
  go_ret
  exact ⟨rfl, HB.out⟩
end Go.Proofs.YtfkbmjfhakooiaaDoor.TR

/- tree.Copy, walked. Conditions: as each theorem says. -/
namespace Go.Proofs.YtfkbmjfhakooiaaDoor.TR
open Go.RowKit Go.Proofs.YtfkbmjfhakooiaaDoor.PTree Go.Proofs.YtfkbmjfhakooiaaDoorW.PrintWords Go.Proofs.YtfkbmjfhakooiaaDoorW.PrintLast Go.Proofs.YtfkbmjfhakooiaaDoorW.PrintMore
set_option linter.unusedVariables false
set_option linter.unusedSimpArgs false
theorem take_rd (l : List S31) (i : Int) (h0 : 0 ≤ i) (h1 : i < (l.length : Int)) : l.take (i + 1).toNat = l.take i.toNat ++ [rd_T31 l i] := by
  have h2 : i.toNat < l.length := by omega
  rw [show (i + 1).toNat = i.toNat + 1 by omega, List.take_succ_eq_append_getElem h2]
  unfold rd_T31
  rw [List.getD_eq_getElem?_getD, List.getElem?_eq_getElem h2]
  rfl
set_option maxHeartbeats 8000000 in
set_option maxRecDepth 100000 in
theorem Copy_calls (l0 : List S31) (A0 : Option Addr) (k0 : Nat) (w : World) (hGl : Gl w) (h0 : Kd.C k31 w A0 l0.length l0) (hn : l0.length ≤ 1000000) (hd : ∀ x ∈ l0, x.f7.length ≤ 1000000000000) :
    Calls Tryd.prog 14 #[.slice A0 l0.length k0] w fun e w' => ∃ v, e = .returned v ∧ Kd.S k31 31 w' w.heap.size (fun _ => True) v l0 ∧ Below w.heap.size w w' := by
  have hu31 := Tryd.underlying31
  have H0 := Aside0.mk h0
  have HN := Aside0.mk hn
  have HDD := Aside0.mk hd
  have HGL := Aside0.mk hGl
  clear h0 hn hd hGl
  have HB := Aside0.mk (Below.refl w.heap.size w)
  go_enter Tryd.func14, Tryd.ntmps14
  go_wp2
  go_loopg [3, 8] (l0.length + 1) (fun kq v3 v8 w' => ∃ (i : Int), v8 = .int .i64 i ∧ Aside0 (0 ≤ i ∧ i ≤ (l0.length : Int) ∧ (kq : Int) = (l0.length : Int) + 1 - i) ∧ Aside0 (Kd.S k31 31 w' w.heap.size (fun _ => True) v3 (l0.take i.toNat)) ∧ Aside0 (Below w.heap.size w w'))
  case atStart => exact ⟨0, rfl, ⟨by omega, by omega, by omega⟩, ⟨Kd.S_nil _ _ _ _ _⟩, HB⟩
  case round =>
    clear HB
    obtain ⟨i, rfl, HI, HO, HB⟩ := hrel
    cases gk with
    | zero => exact absurd HI.out (fun h => by omega)
    | succ k1 =>
      by_cases c2 : i < (l0.length : Int)
      · have C2 := Aside0.mk c2
        obtain ⟨ad, A7, c7, eA, x0, x1, x2, x3, x4, x5, x6, x7, hl7, hi7⟩ := at_T31 H0.out i HI.out.1 c2
        cases eA
        have HL7 := Aside0.mk hl7
        have HI7 := Aside0.mk (Kd.C_below hi7 HB.out)
        clear hl7 hi7
        replace x0 := (HB.out.cell (World.block_lt_of_cell? w _ x0)).trans x0
        replace x1 := (HB.out.cell (World.block_lt_of_cell? w _ x1)).trans x1
        replace x2 := (HB.out.cell (World.block_lt_of_cell? w _ x2)).trans x2
        replace x3 := (HB.out.cell (World.block_lt_of_cell? w _ x3)).trans x3
        replace x4 := (HB.out.cell (World.block_lt_of_cell? w _ x4)).trans x4
        replace x5 := (HB.out.cell (World.block_lt_of_cell? w _ x5)).trans x5
        replace x6 := (HB.out.cell (World.block_lt_of_cell? w _ x6)).trans x6
        replace x7 := (HB.out.cell (World.block_lt_of_cell? w _ x7)).trans x7
        have hi0 := HI.out.1
        have p210 := eq_true hi0
        have q210 := eq_true c2
        clear hi0
        have HZ := Aside0.mk (Below.refl wr.heap.size wr)
        have HCO := Aside0.mk (show tree_copied.f (rd_T31 l0 i).f0 (rd_T31 l0 i).f1 (rd_T31 l0 i).f2 (rd_T31 l0 i).f3 (rd_T31 l0 i).f4 (rd_T31 l0 i).f5 (rd_T31 l0 i).f6 (rd_T31 l0 i).f7 = some ((rd_T31 l0 i).f0, (rd_T31 l0 i).f1, (rd_T31 l0 i).f2, (rd_T31 l0 i).f3, (rd_T31 l0 i).f4, (rd_T31 l0 i).f5, (rd_T31 l0 i).f6, (rd_T31 l0 i).f7) from (by
          unfold tree_copied.f bytes_Clone.f
          rw [if_pos (HDD.out (rd_T31 l0 i) (by
            unfold rd_T31
            have h2 : i.toNat < l0.length := by have := C2.out; have := HI.out.1; omega
            rw [List.getD_eq_getElem?_getD, List.getElem?_eq_getElem h2]
            exact List.getElem_mem h2))]
          rfl))
        go_wp2_with (first | ((with_reducible refine gate_dst (N := 5) rfl ?_); refine box_event ?hg (N := 5) ?hd (cs := #[.string (⟨#[]⟩ : ByteArray), .int .i64 0, .int .i64 0, .int .i64 0, .int .i64 0, .int .i64 0, .string (⟨#[]⟩ : ByteArray), .slice none 0 0]) (t := 31) ?hr ?_; (case hd => rfl); (case hg => rfl); (case hr => first | (go_simp; done) | (go_simp; rfl)); intro g5 hg w5 hbox hb; have HZ5 := Aside0.mk (below_step HZ.out hb); have K5 := Aside0.mk hbox; have G5 := Aside0.mk (show wr.heap.size ≤ g5 by rw [hg]; exact below_size HZ.out); clear hb hbox hg) | ((with_reducible refine gate_store (t := 31) (p := 5) (v := .tmp 11) rfl ?_); refine ev_set31 _ rfl (.tmp 5) (.tmp 11) rfl rfl g5 _ _ _ _ _ _ _ _ (rd_T31 l0 i).f0 (rd_T31 l0 i).f6 (rd_T31 l0 i).f1 (rd_T31 l0 i).f2 (rd_T31 l0 i).f3 (rd_T31 l0 i).f4 (rd_T31 l0 i).f5 A7 (rd_T31 l0 i).f7.length c7 rfl rfl K5.out (fun w6 b1 b2 => ?_); have HZ6 := Aside0.mk (below_row_ HZ5.out b2 G5.out); have y0 : w6.cell? ⟨g5, 0, none⟩ = some (.string (rd_T31 l0 i).f0) := blk_cell b1 0; have y1 : w6.cell? ⟨g5, 1, none⟩ = some (.int .i64 (rd_T31 l0 i).f1) := blk_cell b1 1; have y2 : w6.cell? ⟨g5, 2, none⟩ = some (.int .i64 (rd_T31 l0 i).f2) := blk_cell b1 2; have y3 : w6.cell? ⟨g5, 3, none⟩ = some (.int .i64 (rd_T31 l0 i).f3) := blk_cell b1 3; have y4 : w6.cell? ⟨g5, 4, none⟩ = some (.int .i64 (rd_T31 l0 i).f4) := blk_cell b1 4; have y5 : w6.cell? ⟨g5, 5, none⟩ = some (.int .i64 (rd_T31 l0 i).f5) := blk_cell b1 5; have y6 : w6.cell? ⟨g5, 6, none⟩ = some (.string (rd_T31 l0 i).f6) := blk_cell b1 6; have y7 : w6.cell? ⟨g5, 7, none⟩ = some (.slice A7 (rd_T31 l0 i).f7.length c7) := blk_cell b1 7; clear b1 b2) | (go_at_call 30; refine (tree_copied.calls (rd_T31 l0 i).f0 (rd_T31 l0 i).f1 (rd_T31 l0 i).f2 (rd_T31 l0 i).f3 (rd_T31 l0 i).f4 (rd_T31 l0 i).f5 (rd_T31 l0 i).f6 A7 c7 (rd_T31 l0 i).f7 (rd_T31 l0 i).f0 (rd_T31 l0 i).f1 (rd_T31 l0 i).f2 (rd_T31 l0 i).f3 (rd_T31 l0 i).f4 (rd_T31 l0 i).f5 (rd_T31 l0 i).f6 (rd_T31 l0 i).f7 _ (Kd.C_below HI7.out HZ6.out) HL7.out (HGL.out.of (below_step HB.out HZ6.out)) HCO.out).mono ?_; rintro e w7 ⟨v7, rfl, ho, hb⟩; have HZ7 := Aside0.mk (below_step HZ6.out hb); have HD := Aside0.mk (Kd.R_lower ho (show wr.heap.size ≤ w6.heap.size from below_size HZ6.out)); obtain ⟨Ao, co, eo⟩ := Kd.R_slice ho; subst eo; clear ho hb y0 y1 y2 y3 y4 y5 y6 y7) | ((with_reducible refine gate_builtin (b := .append) (xs := #[.tmp 12, .tmp 15]) rfl ?_); at_builtin; refine Kd.S_append k31 (w0 := w) w.heap.size rfl (.tmp 12) (.tmp 15) 22 31 (.agg #[.string (⟨#[]⟩ : ByteArray), .int .i64 0, .int .i64 0, .int .i64 0, .int .i64 0, .int .i64 0, .string (⟨#[]⟩ : ByteArray), .slice none 0 0]) 96 rfl Tryd.underlying22 info31 rfl (by decide) (by omega) u3 (l0.take i.toNat) (rd_T31 l0 i) [.string (rd_T31 l0 i).f0, .int .i64 (rd_T31 l0 i).f1, .int .i64 (rd_T31 l0 i).f2, .int .i64 (rd_T31 l0 i).f3, .int .i64 (rd_T31 l0 i).f4, .int .i64 (rd_T31 l0 i).f5, .string (rd_T31 l0 i).f6, .slice Ao (rd_T31 l0 i).f7.length co] (fun _ => True) (fun k_ => wr.heap.size ≤ k_) rfl rfl ?aP (fun k_ hk_ => ⟨trivial, fun e_ => by have := Kd.S_lt HO.out k_ e_.symm; omega⟩) (fun _ _ => trivial) ?aO ?aB ?aS ?aL ?_; (case aP => exact k31_mkM _ _ _ (rd_T31 l0 i) (Kd.R_lower (Kd.R_mono (Kd.R_bound HD.out) (fun k_ hk_ => hk_.2.1)) (below_size HB.out))); (case aO => exact Kd.S_mono (Kd.S_old HO.out HZ7.out) (fun k_ hk_ => ⟨trivial, by have := hk_.2; omega⟩)); (case aB => exact below_step HB.out HZ7.out); (case aS => exact below_size (below_step HB.out HZ7.out)); (case aL => have h1 := HN.out; rw [List.length_take]; omega); intro v11 w11 ho hb hg hat; have HO11 := Aside0.mk ho; have HB11 := Aside0.mk hb; clear ho hb hg hat))
        go_roundg k1
        case measure => omega
        case rel => exact ⟨i + 1, by rw [wr_in _ (by have h1 := HI.out; have h2 := HN.out; have h3 := C2.out; omega)], ⟨by have := HI.out; have := C2.out; omega⟩, ⟨by rw [take_rd l0 i HI.out.1 C2.out]; exact HO11.out⟩, HB11⟩
      · have e1 : l0.take i.toNat = l0 := List.take_of_length_le (by have := HI.out; omega)
        rw [e1] at HO
        clear e1
        go_wp2
        go_ret
        exact ⟨_, rfl, HO.out, HB.out⟩
end Go.Proofs.YtfkbmjfhakooiaaDoor.TR

/- The data of entries that lie apart. Conditions: as each theorem says. -/
namespace Go.Proofs.YtfkbmjfhakooiaaDoor.TR
open Go.RowKit Go.Proofs.YtfkbmjfhakooiaaDoor.PTree Go.Proofs.YtfkbmjfhakooiaaDoorW.PrintWords Go.Proofs.YtfkbmjfhakooiaaDoorW.PrintLast Go.Proofs.YtfkbmjfhakooiaaDoorW.PrintMore
set_option linter.unusedVariables false
set_option linter.unusedSimpArgs false
abbrev Sl := Option Addr × Nat × Nat
def encS (x : Sl) : Value := .slice x.1 x.2.1 x.2.2
theorem encS_one (x : Sl) : (encS x).oneCell' = true := rfl
/-- The data slices of a row whose elements lie apart. -/
theorem data_of_S {W : World} {base : Nat} {v : Value} {xs : List S31} (h : Kd.S k31 31 W base (fun _ => True) v xs) (hp : 0 < xs.length) :
    ∃ (g cap : Nat) (D : Nat → Sl), v = .slice (some ⟨g, 0, none⟩) xs.length cap ∧ (∀ j, j < xs.length → W.cell? ⟨g, j * 8 + 7, none⟩ = some (encS (D j)) ∧ W.ownsRow base 5 1 (encS (D j)) (rd_T31 xs (j : Int)).f7.length (nums .u8 (rd_T31 xs (j : Int)).f7)) ∧ (∀ i j, i < xs.length → j < xs.length → i ≠ j → Apart.Ne (encS (D i)) (encS (D j))) := by
  obtain ⟨f, _, inner, ho, hr⟩ := h
  rw [List.length_zipIdx] at ho
  rcases ho.2 with ⟨_, hz⟩ | ⟨g, cap, cur, rfl, hbg, hh, hnc, hcm, hcs, htake⟩
  · omega
  have hlen : inner.length = xs.length * 8 := by have := hr.1; rw [List.length_zipIdx] at this; exact this
  have hcs8 : cur.size = cap * 8 := hcs
  have htake8 : cur.toList.take (xs.length * 8) = inner := htake
  have key : ∀ j, ∃ d : Sl, j < xs.length → W.cell? ⟨g, j * 8 + 7, none⟩ = some (encS d) ∧ (Kd.int .u8).R 5 W base (fun k => f k = j) (encS d) (rd_T31 xs (j : Int)).f7 := by
    intro j
    by_cases hj : j < xs.length
    · have hx : xs[j]? = some (rd_T31 xs (j : Int)) := by
        unfold rd_T31
        rw [Int.toNat_natCast, List.getD_eq_getElem?_getD, List.getElem?_eq_getElem hj]
        rfl
      obtain ⟨v7, hc, hv⟩ := k31_openM (hr.2 j (rd_T31 xs (j : Int), j) (by rw [List.getElem?_zipIdx, hx, Nat.zero_add]; rfl))
      obtain ⟨A, c, rfl⟩ := Kd.R_slice hv
      refine ⟨(A, (rd_T31 xs (j : Int)).f7.length, c), fun _ => ⟨?_, Kd.R_mono hv (fun k hk => hk.2)⟩⟩
      have hj2 : j * 8 + 7 < cur.size := by rw [hcs8]; omega
      have h1 : ((inner.drop (j * 8)).take 8)[7]? = some (encS (A, (rd_T31 xs (j : Int)).f7.length, c)) := by
        have hc2 : (inner.drop (j * 8)).take 8 = _ := hc
        rw [hc2]; rfl
      rw [List.getElem?_take, if_pos (by omega), List.getElem?_drop, ← htake8, List.getElem?_take, if_pos (by omega), Array.getElem?_toList] at h1
      exact (blk_cell hh (j * 8 + 7)).trans h1
    · exact ⟨(none, 0, 0), fun h => absurd h hj⟩
  obtain ⟨D, hD⟩ := Classical.axiomOfChoice key
  refine ⟨g, cap, D, rfl, fun j hj => ⟨(hD j hj).1, Kd.own_of_R (enc := Value.int .u8) (hD j hj).2⟩, fun i j hi hj hij k h1 h2 => ?_⟩
  have e1 := (hD i hi).2.1 k h1
  have e2 := (hD j hj).2.1 k h2
  exact hij (e1.symm.trans e2)
end Go.Proofs.YtfkbmjfhakooiaaDoor.TR

/- TreeSames, walked. Conditions: as each theorem says. -/
namespace Go.Proofs.YtfkbmjfhakooiaaDoor.TR
open Go.RowKit Go.Proofs.YtfkbmjfhakooiaaDoor.PTree Go.Proofs.YtfkbmjfhakooiaaDoorW.PrintWords Go.Proofs.YtfkbmjfhakooiaaDoorW.PrintLast Go.Proofs.YtfkbmjfhakooiaaDoorW.PrintMore
set_option linter.unusedVariables false
set_option linter.unusedSimpArgs false
theorem data_of {W : World} {base : Nat} {A : Option Addr} {k : Nat} {xs : List S31} (h : Kd.S k31 31 W base (fun _ => True) (.slice A xs.length k) xs) :
    ∃ (g : Nat) (D : Nat → Sl), (∀ j, j < xs.length → A = some ⟨g, 0, none⟩ ∧ W.cell? ⟨g, j * 8 + 7, none⟩ = some (encS (D j)) ∧ W.ownsRow base 5 1 (encS (D j)) (rd_T31 xs (j : Int)).f7.length (nums .u8 (rd_T31 xs (j : Int)).f7)) ∧ (∀ i j, i < xs.length → j < xs.length → i ≠ j → Apart.Ne (encS (D i)) (encS (D j))) := by
  rcases Nat.eq_zero_or_pos xs.length with hz | hp
  · exact ⟨0, fun _ => (none, 0, 0), fun j hj => by omega, fun i j hi => by omega⟩
  · obtain ⟨g, cap, D, e, h1, h2⟩ := data_of_S h hp
    injection e with e _ _
    exact ⟨g, D, fun j hj => ⟨e, (h1 j hj).1, (h1 j hj).2⟩, h2⟩
theorem rd_mem (l : List S31) (j : Nat) (hj : j < l.length) : rd_T31 l (j : Int) ∈ l := by
  unfold rd_T31
  rw [Int.toNat_natCast, List.getD_eq_getElem?_getD, List.getElem?_eq_getElem hj]
  exact List.getElem_mem hj
theorem row_of {W : World} {base e n m : Nat} {D : Nat → Sl} {v : Value} {ok : Nat → Prop} (h : Kd.R (Kd.scalar encS encS_one) e W base ok v ((List.range m).map D)) (hm : m = n) : W.ownsRow base e 1 v n ((List.range n).map (fun j => encS (D j))) := by
  subst hm
  have h1 := Kd.own_of_R (enc := encS) (h1 := encS_one) h
  rw [List.length_map, List.length_range] at h1
  unfold encs at h1
  rw [List.map_map] at h1
  exact h1
set_option maxHeartbeats 16000000 in
set_option maxRecDepth 100000 in
theorem Sames_calls (K : Nat) (l0 l1 : List S31) (A0 A1 : Option Addr) (k0 k1 : Nat) (ba bb s : Bool) (w : World) (hGl : Gl w) (h0 : Kd.C k31 w A0 l0.length l0) (h1 : Kd.C k31 w A1 l1.length l1) (hc0 : l0.length ≤ k0) (hc1 : l1.length ≤ k1) (hba : amphoralaw09_large.f K l0 = some ba) (hbb : amphoralaw09_large.f K l1 = some bb)
    (hsm : ba = false → bb = false → l0.length ≤ 1000000 ∧ (∀ x ∈ l0, x.f7.length ≤ 1000000000000) ∧ sameL l0 l1 = some s ∧ amphoraref09_Same.f K l0 l1 = some s ∧ sameL l0 l0 = some true ∧ amphoraref09_Copy.f K l0 = some l0) :
    Calls Tryd.prog 4 #[.slice A0 l0.length k0, .slice A1 l1.length k1] w fun e w' => e = .returned (.bool true) ∧ Below w.heap.size w w' := by
  have hu31 := Tryd.underlying31
  have H0 := Aside0.mk h0
  have H1 := Aside0.mk h1
  have HC0 := Aside0.mk hc0
  have HC1 := Aside0.mk hc1
  have HBA := Aside0.mk hba
  have HBB := Aside0.mk hbb
  have HGL := Aside0.mk hGl
  clear h0 h1 hc0 hc1 hba hbb hGl
  cases ba with
  | true =>
    clear hsm
    go_enter Tryd.func4, Tryd.ntmps4
    go_wp2_with (first
      | (go_at_call 6; refine (alive_calls w HGL.out).mono ?_; rintro e w1 ⟨rfl, hb⟩; have HB1 := Aside0.mk hb; clear hb)
      | (go_at_call 7; refine (amphoralaw09_large.calls K A0 k0 l0 true _ (Kd.C_below H0.out HB1.out) HC0.out (HGL.out.of HB1.out) HBA.out).mono ?_; rintro e w2 ⟨rfl, hb⟩; have HB2 := Aside0.mk (below_step HB1.out hb); clear hb))
    go_ret
    exact ⟨rfl, HB2.out⟩
  | false =>
    cases bb with
    | true =>
      clear hsm
      go_enter Tryd.func4, Tryd.ntmps4
      go_wp2_with (first
        | (go_at_call 6; refine (alive_calls w HGL.out).mono ?_; rintro e w1 ⟨rfl, hb⟩; have HB1 := Aside0.mk hb; clear hb)
        | (go_at_call 7; first | (refine (amphoralaw09_large.calls K A1 k1 l1 true _ (Kd.C_below H1.out HB2.out) HC1.out (HGL.out.of HB2.out) HBB.out).mono ?_; rintro e w3 ⟨rfl, hb⟩; have HB3 := Aside0.mk (below_step HB2.out hb); clear hb) | (refine (amphoralaw09_large.calls K A0 k0 l0 false _ (Kd.C_below H0.out HB1.out) HC0.out (HGL.out.of HB1.out) HBA.out).mono ?_; rintro e w2 ⟨rfl, hb⟩; have HB2 := Aside0.mk (below_step HB1.out hb); clear hb)))
      go_ret
      exact ⟨rfl, HB3.out⟩
    | false =>
      obtain ⟨hn, hd, q1, q2, q3, q4⟩ := hsm rfl rfl
      have HN := Aside0.mk hn
      have HDD := Aside0.mk hd
      have Q1 := Aside0.mk q1
      have Q2 := Aside0.mk q2
      have Q3 := Aside0.mk q3
      have Q4 := Aside0.mk q4
      clear hsm hn hd q1 q2 q3 q4
      go_enter Tryd.func4, Tryd.ntmps4
      go_upto_region 6 with (first
        | (go_at_call 6; refine (alive_calls w HGL.out).mono ?_; rintro e w1 ⟨rfl, hb⟩; have HB1 := Aside0.mk hb; clear hb)
        | (go_at_call 7; first | (refine (amphoralaw09_large.calls K A1 k1 l1 false _ (Kd.C_below H1.out HB2.out) HC1.out (HGL.out.of HB2.out) HBB.out).mono ?_; rintro e w3 ⟨rfl, hb⟩; have HB3 := Aside0.mk (below_step HB2.out hb); clear hb) | (refine (amphoralaw09_large.calls K A0 k0 l0 false _ (Kd.C_below H0.out HB1.out) HC0.out (HGL.out.of HB1.out) HBA.out).mono ?_; rintro e w2 ⟨rfl, hb⟩; have HB2 := Aside0.mk (below_step HB1.out hb); clear hb))
        | (go_at_call 14; refine (Copy_calls l0 A0 k0 _ (HGL.out.of HB3.out) (Kd.C_below H0.out HB3.out) HN.out HDD.out).mono ?_; rintro e wc ⟨vc, rfl, hs, hb⟩; have HSC := Aside0.mk (Kd.S_lower hs (below_size HB3.out)); have HBC := Aside0.mk (below_step HB3.out hb); clear hb hs))
      obtain ⟨A5, k5, e5⟩ := Kd.S_slice HSC.out
      subst e5
      obtain ⟨g, D, hD, hNE⟩ := data_of HSC.out
      have HDT := Aside0.mk hD
      have HNE := Aside0.mk hNE
      clear hD hNE
      have HCC := Aside0.mk (Kd.S_reads' HSC.out).2.2
      have HW := Aside0.mk (Below.refl wc.heap.size wc)
      go_upto_region 8 with (first
        | (go_at_call 15; first | (refine (Same_calls l0 l1 A0 A1 k0 k1 s _ (Kd.C_below H0.out HBC.out) (Kd.C_below H1.out HBC.out) Q1.out).mono ?_; rintro e w4 ⟨rfl, hb⟩; have HW4 := Aside0.mk (show Below wc.heap.size wc w4 from hb); clear hb) | (refine (Same_calls l0 l0 A0 A5 k0 k5 true _ (Kd.C_below H0.out (below_step HBC.out HW5.out)) (Kd.C_below HCC.out HW5.out) Q3.out).mono ?_; rintro e w6 ⟨rfl, hb⟩; have HW6 := Aside0.mk (below_step HW5.out hb); clear hb))
        | (go_at_call 16; refine (amphoraref09_Same.calls K A0 k0 l0 A1 k1 l1 s _ (Kd.C_below H0.out (below_step HBC.out HW4.out)) HC0.out (Kd.C_below H1.out (below_step HBC.out HW4.out)) HC1.out (HGL.out.of (below_step HBC.out HW4.out)) Q2.out).mono ?_; rintro e w5 ⟨rfl, hb⟩; have HW5 := Aside0.mk (below_step HW4.out hb); clear hb))
      go_upto_region 9 with (fail)
      obtain ⟨w7, hw7⟩ : ∃ w7, w7 = w6.alloc (.cells #[] 29) := ⟨_, rfl⟩
      have HW7 := Aside0.mk (show Below wc.heap.size wc w7 by rw [hw7]; exact below_alloc HW6.out _)
      have HLI := Aside0.mk (show Kd.R (Kd.scalar encS encS_one) 29 w7 wc.heap.size (fun _ => True) (.slice (some ⟨w6.heap.size, 0, none⟩) 0 0) ((List.range (0 : Int).toNat).map D) by rw [hw7]; exact Kd.R_of_own (enc := encS) (xs := []) (World.ownsRow_made w6 #[] 0 (below_size HW6.out) (Nat.zero_le _) rfl) (fun _ _ => trivial))
      rw [← hw7]
      clear hw7
      generalize w6.heap.size = z6 at HLI ⊢
      have HBW := HW7
      clear HW HW4 HW5 HW6 HW7 HB1 HB2 HB3
      go_wp2
      go_loopg [6, 36] (l0.length + 1) (fun kq v6 v36 w' => ∃ (i : Int), v36 = .int .i64 i ∧ Aside0 (0 ≤ i ∧ i ≤ (l0.length : Int) ∧ (kq : Int) = (l0.length : Int) + 1 - i) ∧ Aside0 (Kd.R (Kd.scalar encS encS_one) 29 w' wc.heap.size (fun _ => True) v6 ((List.range i.toNat).map D)) ∧ Aside0 (Below wc.heap.size wc w'))
      case atStart => exact ⟨0, rfl, ⟨by omega, by omega, by omega⟩, HLI, HBW⟩
      case round =>
        clear HLI HBW
        obtain ⟨i, rfl, HI, HLI, HBW⟩ := hrel
        cases gk with
        | zero => exact absurd HI.out (fun h => by omega)
        | succ k2 =>
          by_cases c2 : i < (l0.length : Int)
          · have C2 := Aside0.mk c2
            obtain ⟨ad, A7, c7, eA, x0, x1, x2, x3, x4, x5, x6, x7, hl7, hi7⟩ := at_T31 HCC.out i HI.out.1 c2
            subst eA
            have HDE := Aside0.mk (show encS (D i.toNat) = .slice A7 (rd_T31 l0 i).f7.length c7 from (by
              obtain ⟨e1, e2, _⟩ := HDT.out i.toNat (by have h1 := C2.out; have h2 := HI.out.1; omega)
              injection e1 with e1
              subst e1
              have e3 : wc.cell? ⟨g, i.toNat * 8 + 7, none⟩ = some (.slice A7 (rd_T31 l0 i).f7.length c7) := by
                have e4 : (Addr.add ⟨g, 0, none⟩ (i.toNat * 8)).off = i.toNat * 8 := by simp [add_plain]
                have e5 : (Addr.add ⟨g, 0, none⟩ (i.toNat * 8)).block = g := by rw [add_plain]
                rw [e4, e5] at x7
                exact x7
              rw [e3] at e2
              exact (Option.some.inj e2).symm))
            clear hl7 hi7
            replace x0 := (HBW.out.cell (World.block_lt_of_cell? wc _ x0)).trans x0
            replace x1 := (HBW.out.cell (World.block_lt_of_cell? wc _ x1)).trans x1
            replace x2 := (HBW.out.cell (World.block_lt_of_cell? wc _ x2)).trans x2
            replace x3 := (HBW.out.cell (World.block_lt_of_cell? wc _ x3)).trans x3
            replace x4 := (HBW.out.cell (World.block_lt_of_cell? wc _ x4)).trans x4
            replace x5 := (HBW.out.cell (World.block_lt_of_cell? wc _ x5)).trans x5
            replace x6 := (HBW.out.cell (World.block_lt_of_cell? wc _ x6)).trans x6
            replace x7 := (HBW.out.cell (World.block_lt_of_cell? wc _ x7)).trans x7
            have hi0 := HI.out.1
            have p210 := eq_true hi0
            have q210 := eq_true c2
            clear hi0
            have HZ := Aside0.mk (Below.refl wr.heap.size wr)
            go_wp2_with (first | ((with_reducible refine gate_dst (N := 8) rfl ?_); refine box_event ?hg (N := 8) ?hd (cs := #[.string (⟨#[]⟩ : ByteArray), .int .i64 0, .int .i64 0, .int .i64 0, .int .i64 0, .int .i64 0, .string (⟨#[]⟩ : ByteArray), .slice none 0 0]) (t := 31) ?hr ?_; (case hd => rfl); (case hg => rfl); (case hr => first | (go_simp; done) | (go_simp; rfl)); intro g8 hg w8 hbox hb; have HZ8 := Aside0.mk (below_step HZ.out hb); have K8 := Aside0.mk hbox; have G8 := Aside0.mk (show wr.heap.size ≤ g8 by rw [hg]; exact below_size HZ.out); clear hb hbox hg) | ((with_reducible refine gate_store (t := 31) (p := 8) (v := .tmp 39) rfl ?_); refine ev_set31 _ rfl (.tmp 8) (.tmp 39) rfl rfl g8 _ _ _ _ _ _ _ _ (rd_T31 l0 i).f0 (rd_T31 l0 i).f6 (rd_T31 l0 i).f1 (rd_T31 l0 i).f2 (rd_T31 l0 i).f3 (rd_T31 l0 i).f4 (rd_T31 l0 i).f5 A7 (rd_T31 l0 i).f7.length c7 rfl rfl K8.out (fun w10 b1 b2 => ?_); have HZ10 := Aside0.mk (below_row_ HZ8.out b2 G8.out); have y0 : w10.cell? ⟨g8, 0, none⟩ = some (.string (rd_T31 l0 i).f0) := blk_cell b1 0; have y1 : w10.cell? ⟨g8, 1, none⟩ = some (.int .i64 (rd_T31 l0 i).f1) := blk_cell b1 1; have y2 : w10.cell? ⟨g8, 2, none⟩ = some (.int .i64 (rd_T31 l0 i).f2) := blk_cell b1 2; have y3 : w10.cell? ⟨g8, 3, none⟩ = some (.int .i64 (rd_T31 l0 i).f3) := blk_cell b1 3; have y4 : w10.cell? ⟨g8, 4, none⟩ = some (.int .i64 (rd_T31 l0 i).f4) := blk_cell b1 4; have y5 : w10.cell? ⟨g8, 5, none⟩ = some (.int .i64 (rd_T31 l0 i).f5) := blk_cell b1 5; have y6 : w10.cell? ⟨g8, 6, none⟩ = some (.string (rd_T31 l0 i).f6) := blk_cell b1 6; have y7 : w10.cell? ⟨g8, 7, none⟩ = some (.slice A7 (rd_T31 l0 i).f7.length c7) := blk_cell b1 7; clear b1 b2) | ((with_reducible refine gate_builtin (b := .append) (xs := #[.tmp 40, .tmp 43]) rfl ?_); at_builtin; refine Kd.R_append (Kd.scalar encS encS_one) (w0 := wc) wc.heap.size rfl (.tmp 40) (.tmp 43) 44 29 (.slice none 0 0) 24 rfl Tryd.underlying44 Apart.infoSL rfl (by decide) (by omega) u6 ((List.range i.toNat).map D) (D i.toNat) [.slice A7 (rd_T31 l0 i).f7.length c7] (fun _ => True) (fun _ => False) rfl rfl ?aP (fun k_ hk_ => hk_.elim) (fun _ _ => trivial) ?aO ?aB ?aS ?aL ?_; (case aP => exact (show [_] = [encS (D i.toNat)] from by rw [HDE.out])); (case aO => exact Kd.R_below HLI.out HZ10.out); (case aB => exact below_step HBW.out HZ10.out); (case aS => exact below_size (below_step HBW.out HZ10.out)); (case aL => have h1 := HN.out; have h2 := C2.out; rw [List.length_map, List.length_range]; omega); intro v11 w11 ho hb hg hat; have HL11 := Aside0.mk ho; have HB11 := Aside0.mk hb; have HG11 := Aside0.mk hg; clear ho hb hg hat))
            go_roundg k2
            case measure => omega
            case rel => exact ⟨i + 1, by rw [wr_in _ (by have h1 := HI.out; have h2 := HN.out; have h3 := C2.out; omega)], ⟨by have := HI.out; have := C2.out; omega⟩, ⟨by rw [show (i + 1).toNat = i.toNat + 1 by have := HI.out.1; omega, List.range_succ, List.map_append]; exact HL11.out⟩, HB11⟩
          · have HE := Aside0.mk (show i.toNat = l0.length by have := HI.out; omega)
            obtain ⟨A6, k6, e6⟩ := Kd.R_slice HLI.out
            rw [show ((List.range i.toNat).map D).length = l0.length by rw [List.length_map, List.length_range]; exact HE.out] at e6
            subst e6
            have HB := Aside0.mk (below_step HBC.out HBW.out)
            have HOW := Aside0.mk (fun (j : Nat) (hj : j < l0.length) => (HDT.out j hj).2.2)
            go_wp2_with (first
              | (go_at_call 17; refine (amphoraref09_Copy.calls K A0 k0 l0 l0 _ (Kd.C_below H0.out HB.out) HC0.out (HGL.out.of HB.out) Q4.out).mono ?_; rintro e w12 ⟨v9, rfl, hs, hb⟩; obtain ⟨A9, k9, e9⟩ := Kd.S_slice hs; subst e9; have HS9 := Aside0.mk hs; have HW12 := Aside0.mk (below_step HBW.out hb); have HZ12 := Aside0.mk hb; clear hs hb)
              | (go_at_call 18; refine (Apart.calls w.heap.size A6 l0.length k6 (fun j => encS (D j)) (fun j => (rd_T31 l0 (j : Int)).f7) w12 (below_size (below_step HBC.out HW12.out)) (by have := HN.out; omega) ?aL ?aR ?aO ?aN).mono ?_; (case aL => exact fun j hj => Nat.le_trans (HDD.out _ (rd_mem l0 j hj)) (by decide)); (case aR => exact row_of (Kd.R_lower (Kd.R_below HLI.out HZ12.out) (below_size HBC.out)) HE.out); (case aO => exact fun j hj => own_move (HOW.out j hj) (fun k hk => HW12.out.block k (own_lt (HOW.out j hj) k hk))); (case aN => exact fun a b ha hb hab => HNE.out a b ha hb hab); rintro e w13 ⟨rfl, hfr⟩; have HFR := Aside0.mk hfr; clear hfr)
              | (go_at_call 15; refine (Same_calls l0 l0 A0 A9 k0 k9 true _ (Kd.C_below H0.out ((below_step HBC.out HW12.out).trans (HFR.out.below w.heap.size (below_size (below_step HBC.out HW12.out)) (fun j hj k hk => own_base (HOW.out j hj) k hk)))) (Kd.S_reads' (Kd.S_step (Kd.S_bound HS9.out) (fun k hk hlt => HFR.out.block k hlt (fun j hj e => by have h1 := own_lt (HOW.out j hj) k e; have h2 := hk.2.1; have h3 := below_size HBW.out; omega)))).2.2 Q3.out).mono ?_; rintro e w14 ⟨rfl, hb⟩; have HB14 := Aside0.mk hb; clear hb))
            go_ret
            exact ⟨rfl, below_step ((below_step HBC.out HW12.out).trans (HFR.out.below w.heap.size (below_size (below_step HBC.out HW12.out)) (fun j hj k hk => own_base (HOW.out j hj) k hk))) HB14.out⟩
end Go.Proofs.YtfkbmjfhakooiaaDoor.TR

/- TreeSames in plain Lean. Conditions: as each theorem says. -/
namespace Go.Proofs.YtfkbmjfhakooiaaDoor.TR
open Go.RowKit Go.Proofs.YtfkbmjfhakooiaaDoor.PTree Go.Proofs.YtfkbmjfhakooiaaDoorW.PrintWords Go.Proofs.YtfkbmjfhakooiaaDoorW.PrintLast Go.Proofs.YtfkbmjfhakooiaaDoorW.PrintMore
set_option linter.unusedVariables false
set_option linter.unusedSimpArgs false
/-- Sizes that any value has. -/
def Sane (l : List S31) : Prop := ∀ x ∈ l, x.f0.size ≤ 9223372036854775807 ∧ x.f6.size ≤ 9223372036854775807 ∧ x.f7.length ≤ 9223372036854775807
theorem rd_mem' (l : List S31) (i : Int) (h0 : 0 ≤ i) (h1 : i < (l.length : Int)) : rd_T31 l i ∈ l := by
  have := rd_mem l i.toNat (by omega)
  rwa [show ((i.toNat : Nat) : Int) = i by omega] at this
theorem large_l (l : List S31) (hs : Sane l) (hl : (l.length : Int) ≤ 9223372036854775807) : ∀ (k : Nat) (n i : Int), 0 ≤ i → i ≤ (l.length : Int) → 0 ≤ n → n ≤ 400 → (l.length : Int) - i + 1 ≤ k →
    ∃ b, amphoralaw09_large.l0 k n l (l.length : Int) i = some b ∧ (b = false → (l.length : Int) - i ≤ 400 - n ∧ ∀ j, i ≤ j → j < (l.length : Int) → ((rd_T31 l j).f7.length : Int) ≤ 401000 ∧ ((rd_T31 l j).f0.size : Int) ≤ 40100 ∧ ((rd_T31 l j).f6.size : Int) ≤ 40100)
  | 0, n, i, h0, h1, h2, h3, h4 => by omega
  | k + 1, n, i, h0, h1, h2, h3, h4 => by
    unfold amphoralaw09_large.l0
    by_cases c1 : i < (l.length : Int)
    · rw [if_pos c1, if_pos h0, if_pos c1]
      obtain ⟨s1, s2, s3⟩ := hs _ (rd_mem' l i h0 c1)
      have e : wrap64 (n + (wrap64 ((wrap64 ((wrap64 (1 + (wrap64 ((((rd_T31 l i).f7).length : Int) / 1000)))) + (wrap64 ((((rd_T31 l i).f0).size : Int) / 100)))) + (wrap64 ((((rd_T31 l i).f6).size : Int) / 100))))) = n + (1 + ((rd_T31 l i).f7.length : Int) / 1000 + ((rd_T31 l i).f0.size : Int) / 100 + ((rd_T31 l i).f6.size : Int) / 100) := by
        have a0 : 0 ≤ ((rd_T31 l i).f7.length : Int) / 1000 ∧ ((rd_T31 l i).f7.length : Int) / 1000 ≤ 9223372036854776 := by omega
        have b0 : 0 ≤ ((rd_T31 l i).f0.size : Int) / 100 ∧ ((rd_T31 l i).f0.size : Int) / 100 ≤ 92233720368547758 := by omega
        have c0 : 0 ≤ ((rd_T31 l i).f6.size : Int) / 100 ∧ ((rd_T31 l i).f6.size : Int) / 100 ≤ 92233720368547758 := by omega
        generalize ((rd_T31 l i).f7.length : Int) / 1000 = a at a0 ⊢
        generalize ((rd_T31 l i).f0.size : Int) / 100 = b at b0 ⊢
        generalize ((rd_T31 l i).f6.size : Int) / 100 = c at c0 ⊢
        rw [wr_in a ⟨by omega, by omega⟩, wr_in (1 + a) ⟨by omega, by omega⟩, wr_in b ⟨by omega, by omega⟩, wr_in (1 + a + b) ⟨by omega, by omega⟩, wr_in c ⟨by omega, by omega⟩, wr_in (1 + a + b + c) ⟨by omega, by omega⟩, wr_in _ ⟨by omega, by omega⟩]
      rw [e]
      by_cases c2 : n + (1 + ((rd_T31 l i).f7.length : Int) / 1000 + ((rd_T31 l i).f0.size : Int) / 100 + ((rd_T31 l i).f6.size : Int) / 100) > 400
      · rw [if_pos c2]
        exact ⟨true, rfl, fun h => by cases h⟩
      · rw [if_neg c2, show wrap64 (i + 1) = i + 1 from wr_in _ ⟨by omega, by omega⟩]
        obtain ⟨b, hb, hq⟩ := large_l l hs hl k _ (i + 1) (by omega) (by omega) (show 0 ≤ n + (1 + ((rd_T31 l i).f7.length : Int) / 1000 + ((rd_T31 l i).f0.size : Int) / 100 + ((rd_T31 l i).f6.size : Int) / 100) by omega) (by omega) (by omega)
        refine ⟨b, hb, fun h => ?_⟩
        obtain ⟨q1, q2⟩ := hq h
        refine ⟨by omega, fun j hj hj2 => ?_⟩
        by_cases e2 : j = i
        · subst e2; omega
        · exact q2 j (by omega) hj2
    · rw [if_neg c1]
      exact ⟨false, rfl, fun _ => ⟨by omega, fun j hj hj2 => by omega⟩⟩
theorem large_f (l : List S31) (hs : Sane l) (hl : (l.length : Int) ≤ 9223372036854775807) (K : Nat) (hK : l.length + 1 ≤ K) :
    ∃ b, amphoralaw09_large.f K l = some b ∧ (b = false → l.length ≤ 400 ∧ ∀ x ∈ l, x.f7.length ≤ 401000 ∧ x.f0.size ≤ 40100 ∧ x.f6.size ≤ 40100) := by
  obtain ⟨b, hb, hq⟩ := large_l l hs hl K 0 0 (by omega) (by omega) (by omega) (by omega) (by omega)
  refine ⟨b, hb, fun h => ?_⟩
  obtain ⟨q1, q2⟩ := hq h
  refine ⟨by omega, fun x hx => ?_⟩
  obtain ⟨j, hj, rfl⟩ := List.getElem_of_mem hx
  have h1 := q2 (j : Int) (by omega) (by omega)
  have e : rd_T31 l (j : Int) = l[j] := by
    unfold rd_T31
    rw [Int.toNat_natCast, List.getD_eq_getElem?_getD, List.getElem?_eq_getElem hj]
    rfl
  rw [e] at h1
  omega
theorem entry_f (x y : S31) : amphoraref09_SameEntry.f x.f0 x.f1 x.f2 x.f3 x.f4 x.f5 x.f6 x.f7 y.f0 y.f1 y.f2 y.f3 y.f4 y.f5 y.f6 y.f7 = some (sameE x y) := by
  unfold amphoraref09_SameEntry.f sameE
  rw [Lib.strOfNums_toList, Lib.strOfNums_toList]
  by_cases c0 : x.f0.toList = y.f0.toList <;> by_cases c1 : x.f1 = y.f1 <;> by_cases c2 : x.f2 = y.f2 <;> by_cases c3 : x.f3 = y.f3 <;> simp [c0, c1, c2, c3]
  by_cases c4 : x.f4 = y.f4 <;> by_cases c5 : x.f5 = y.f5 <;> by_cases c6 : x.f6.toList = y.f6.toList <;> simp [c4, c5, c6]
theorem same_l (l m : List S31) (hl : (l.length : Int) ≤ 9223372036854775807) (he : (l.length : Int) = (m.length : Int)) : ∀ (n : Nat) (i : Int) (k k' : Nat), 0 ≤ i → (l.length : Int) - i ≤ n → n + 1 ≤ k → n + 1 ≤ k' → ∃ b, sameL0 l m k i = some b ∧ amphoraref09_Same.l0 k' l m i = some b
  | n, i, 0, k', _, _, h, _ => by omega
  | n, i, k, 0, _, _, _, h => by omega
  | n, i, k + 1, k' + 1, h0, h1, h2, h3 => by
    unfold sameL0 amphoraref09_Same.l0
    by_cases c1 : i < (l.length : Int)
    · rw [if_pos c1, if_pos c1, if_pos h0, if_pos (show i < (m.length : Int) by omega), entry_f, Option.bind_some]
      cases sameE (rd_T31 l i) (rd_T31 m i) with
      | true =>
        rw [if_pos rfl, if_pos rfl, show wrap64 (i + 1) = i + 1 from wr_in _ ⟨by omega, by omega⟩]
        cases n with
        | zero => omega
        | succ n => exact same_l l m hl he n (i + 1) k k' (by omega) (by omega) (by omega) (by omega)
      | false => exact ⟨false, rfl, rfl⟩
    · rw [if_neg c1, if_neg c1]
      exact ⟨true, rfl, rfl⟩
theorem same_f (l m : List S31) (hl : (l.length : Int) ≤ 9223372036854775807) (K : Nat) (hK : l.length + 1 ≤ K) : ∃ b, sameL l m = some b ∧ amphoraref09_Same.f K l m = some b := by
  unfold sameL amphoraref09_Same.f
  by_cases c : (l.length : Int) = (m.length : Int)
  · rw [if_pos c, if_pos c]
    exact same_l l m hl c l.length 0 (l.length + 1) K (by omega) (by omega) (by omega) hK
  · rw [if_neg c, if_neg c]
    exact ⟨false, rfl, rfl⟩
theorem sameE_self (x : S31) : sameE x x = true := by simp [sameE]
theorem self_l (l : List S31) : ∀ (k : Nat) (i : Int), (l.length : Int) - i + 1 ≤ k → 0 ≤ i → i ≤ (l.length : Int) → sameL0 l l k i = some true
  | 0, i, h, _, h2 => by omega
  | k + 1, i, h, h1, h2 => by
    unfold sameL0
    by_cases c1 : i < (l.length : Int)
    · rw [if_pos c1, sameE_self, if_pos rfl]
      exact self_l l k (i + 1) (by omega) (by omega) (by omega)
    · rw [if_neg c1]
theorem self_f (l : List S31) : sameL l l = some true := by
  unfold sameL
  rw [if_pos rfl]
  exact self_l l (l.length + 1) 0 (by omega) (by omega) (by omega)
theorem copy_l (l : List S31) (hl : l.length ≤ 1000000) (hd : ∀ x ∈ l, x.f7.length ≤ 1000000000000) : ∀ (k : Nat) (i : Int), (l.length : Int) - i + 1 ≤ k → 0 ≤ i → i ≤ (l.length : Int) → amphoraref09_Copy.l0 k l (l.take i.toNat) i = some l
  | 0, i, h, _, h2 => by omega
  | k + 1, i, h, h1, h2 => by
    unfold amphoraref09_Copy.l0
    by_cases c1 : i < (l.length : Int)
    · have hm := hd _ (rd_mem' l i h1 c1)
      rw [if_pos c1, if_pos h1, Option.bind_some, if_pos (by simp only [List.length_nil]; omega), if_pos (by rw [List.length_take]; omega), show wrap64 (i + 1) = i + 1 from wr_in _ ⟨by omega, by omega⟩]
      have e := take_rd l i h1 c1
      have e2 : (⟨(rd_T31 l i).f0, (rd_T31 l i).f1, (rd_T31 l i).f2, (rd_T31 l i).f3, (rd_T31 l i).f4, (rd_T31 l i).f5, (rd_T31 l i).f6, ([] : List Int) ++ (rd_T31 l i).f7⟩ : S31) = rd_T31 l i := rfl
      rw [e2, ← e]
      exact copy_l l hl hd k (i + 1) (by omega) (by omega) (by omega)
    · rw [if_neg c1, List.take_of_length_le (by omega)]
theorem copy_f (l : List S31) (hl : l.length ≤ 1000000) (hd : ∀ x ∈ l, x.f7.length ≤ 1000000000000) (K : Nat) (hK : l.length + 1 ≤ K) : amphoraref09_Copy.f K l = some l := by
  have := copy_l l hl hd K 0 (by omega) (by omega) (by omega)
  simpa [amphoraref09_Copy.f] using this
/-- The law. -/
theorem sames_holds (l0 l1 : List S31) (A0 A1 : Option Addr) (k0 k1 : Nat) (w : World) (hGl : Gl w) (h0 : Kd.C k31 w A0 l0.length l0) (h1 : Kd.C k31 w A1 l1.length l1) (hc0 : l0.length ≤ k0) (hc1 : l1.length ≤ k1) (hs0 : Sane l0) (hs1 : Sane l1) (hl0 : (l0.length : Int) ≤ 9223372036854775807) (hl1 : (l1.length : Int) ≤ 9223372036854775807) :
    Calls Tryd.prog 4 #[.slice A0 l0.length k0, .slice A1 l1.length k1] w fun e w' => e = .returned (.bool true) ∧ Below w.heap.size w w' := by
  obtain ⟨K, hK⟩ : ∃ K, K = l0.length + l1.length + 1 := ⟨_, rfl⟩
  obtain ⟨ba, b1, b2⟩ := large_f l0 hs0 hl0 K (by omega)
  obtain ⟨bb, b3, b4⟩ := large_f l1 hs1 hl1 K (by omega)
  obtain ⟨s, s1, s2⟩ := same_f l0 l1 hl0 K (by omega)
  refine Sames_calls K l0 l1 A0 A1 k0 k1 ba bb s w hGl h0 h1 hc0 hc1 b1 b3 (fun e1 e2 => ?_)
  obtain ⟨q1, q2⟩ := b2 e1
  exact ⟨by omega, fun x hx => by have := q2 x hx; omega, s1, s2, self_f l0, copy_f l0 (by omega) (fun x hx => by have := q2 x hx; omega) K (by omega)⟩
end Go.Proofs.YtfkbmjfhakooiaaDoor.TR

/- A slice of entries that comes in, opened. Conditions: none. -/
namespace Go.Proofs.YtfkbmjfhakooiaaDoor.TR
open Go.RowKit Go.Proofs.YtfkbmjfhakooiaaDoor.PTree Go.Proofs.YtfkbmjfhakooiaaDoorW.PrintWords Go.Proofs.YtfkbmjfhakooiaaDoorW.PrintLast
set_option linter.unusedVariables false
set_option linter.unusedSimpArgs false
namespace Ents
open Go.ChangeShapes Go.WideShapes Go.Deep
def Fit (l : List S31) : Prop := (l.length : Int) ≤ 9223372036854775807 ∧ ∀ x ∈ l, x.f0.size ≤ 9223372036854775807 ∧ x.f6.size ≤ 9223372036854775807 ∧ x.f7.length ≤ 9223372036854775807 ∧ (Lit.int .i64 x.f1).wf = true
theorem cof31 : Tryd.prog.cellsOf 31 = 8 := by kernel_rfl
theorem cof9 : Tryd.prog.cellsOf 9 = 1 := by kernel_rfl
theorem cof3 : Tryd.prog.cellsOf 3 = 1 := by kernel_rfl
theorem cof29 : Tryd.prog.cellsOf 29 = 1 := by kernel_rfl
theorem cof5 : Tryd.prog.cellsOf 5 = 1 := by kernel_rfl
set_option maxRecDepth 100000 in
theorem entry_open {H : Type} {enc : TypeId × Value → H} {w : World} {base : Nat} {spare : Nat → Bool} {held : Bool} {n : Nat} {cs : List Value} {x : DataW H × List MemPlace} (h : DataW.trod enc Tryd.prog w base spare held n 31 cs = some x) :
    ∃ e : S31, k31.K w e cs ∧ e.f0.size ≤ 9223372036854775807 ∧ e.f6.size ≤ 9223372036854775807 ∧ e.f7.length ≤ 9223372036854775807 ∧ (Lit.int .i64 e.f1).wf = true := by
  obtain ⟨xs, m, _, _, hcl, hxl, hf⟩ := DataW.trod_struct Tryd.underlying31 h
  rw [cof31] at hcl
  have hm : maxLen = 9223372036854775807 := rfl
  match xs, hxl, cs, hcl with
  | [y0, y1, y2, y3, y4, y5, y6, y7], _, [v0, v1, v2, v3, v4, v5, v6, v7], _ =>
    have g0 : DataW.trod enc Tryd.prog w base spare held m 9 [v0] = some y0 := by have := hf 0 _ rfl; simpa [cof9] using this
    have g1 : DataW.trod enc Tryd.prog w base spare held m 3 [v1] = some y1 := by have := hf 1 _ rfl; simpa [cof3] using this
    have g2 : DataW.trod enc Tryd.prog w base spare held m 3 [v2] = some y2 := by have := hf 2 _ rfl; simpa [cof3] using this
    have g3 : DataW.trod enc Tryd.prog w base spare held m 3 [v3] = some y3 := by have := hf 3 _ rfl; simpa [cof3] using this
    have g4 : DataW.trod enc Tryd.prog w base spare held m 3 [v4] = some y4 := by have := hf 4 _ rfl; simpa [cof3] using this
    have g5 : DataW.trod enc Tryd.prog w base spare held m 3 [v5] = some y5 := by have := hf 5 _ rfl; simpa [cof3] using this
    have g6 : DataW.trod enc Tryd.prog w base spare held m 9 [v6] = some y6 := by have := hf 6 _ rfl; simpa [cof9] using this
    have g7 : DataW.trod enc Tryd.prog w base spare held m 29 [v7] = some y7 := by have := hf 7 _ rfl; simpa [cof29] using this
    obtain ⟨a0, e0, _, z0⟩ := DataW.trod_string Tryd.underlying9 g0
    obtain ⟨a1, e1, _, z1⟩ := DataW.trod_int Tryd.underlying3 g1
    obtain ⟨a2, e2, _, z2⟩ := DataW.trod_int Tryd.underlying3 g2
    obtain ⟨a3, e3, _, z3⟩ := DataW.trod_int Tryd.underlying3 g3
    obtain ⟨a4, e4, _, z4⟩ := DataW.trod_int Tryd.underlying3 g4
    obtain ⟨a5, e5, _, z5⟩ := DataW.trod_int Tryd.underlying3 g5
    obtain ⟨a6, e6, _, z6⟩ := DataW.trod_string Tryd.underlying9 g6
    obtain rfl : v0 = .string a0 := by simpa using e0
    obtain rfl : v1 = .int .i64 a1 := by simpa using e1
    obtain rfl : v2 = .int .i64 a2 := by simpa using e2
    obtain rfl : v3 = .int .i64 a3 := by simpa using e3
    obtain rfl : v4 = .int .i64 a4 := by simpa using e4
    obtain rfl : v5 = .int .i64 a5 := by simpa using e5
    obtain rfl : v6 = .string a6 := by simpa using e6
    rw [hm] at z0 z6
    rcases open_ints Tryd.underlying29 Tryd.underlying5 cof5 g7 with ⟨hcs, _⟩ | ⟨a, len, cap, zs, hcs, _, hl, hmx, hz, _, hcell, _⟩
    · obtain rfl : v7 = .slice none 0 0 := by simpa using hcs
      exact ⟨⟨a0, a1, a2, a3, a4, a5, a6, []⟩, k31_mkK w ⟨a0, a1, a2, a3, a4, a5, a6, []⟩ none 0 (Nat.le_refl _) ⟨rfl, by simp, fun h => absurd h (by simp)⟩, z0, z6, by simp, z1⟩
    · obtain rfl : v7 = .slice (some a) len cap := by simpa using hcs
      rw [hm] at hmx
      have hzl : len ≤ zs.length := by rw [hz]; split <;> omega
      have htl : (zs.take len).length = len := by rw [List.length_take]; omega
      have hC : (Kd.int .u8).C w (some a) (zs.take len).length (zs.take len) := by
        refine ⟨rfl, by rw [htl]; omega, fun _ => ⟨a, rfl, fun j p hp => ⟨[.int .u8 p], rfl, rfl, fun i u hu => ?_⟩⟩⟩
        have hj : j < (zs.take len).length := (List.getElem?_eq_some_iff.1 hp).1
        rw [htl] at hj
        cases i with
        | zero =>
          simp only [List.getElem?_cons_zero, Option.some.injEq] at hu
          subst hu
          show w.cell? (a.add (j * 1 + 0)) = _
          rw [Nat.mul_one, Nat.add_zero, hcell j (by omega)]
          rw [List.getElem?_take_of_lt hj] at hp
          rw [List.getD_eq_getElem?_getD, hp]
          rfl
        | succ i => simp at hu
      have hK := k31_mkK w ⟨a0, a1, a2, a3, a4, a5, a6, zs.take len⟩ (some a) cap (by show (zs.take len).length ≤ cap; omega) hC
      refine ⟨⟨a0, a1, a2, a3, a4, a5, a6, zs.take len⟩, ?_, z0, z6, by show (zs.take len).length ≤ _; omega, z1⟩
      have e : (zs.take len).length = len := htl
      simp only [e] at hK
      exact hK
theorem opened {H : Type} {enc : TypeId × Value → H} {w : World} {base : Nat} {spare : Nat → Bool} {held : Bool} {A : Option Addr} {len cap : Nat} {d : DataW H} {ps : List MemPlace}
    (hd : DataW.Trod enc Tryd.prog w base spare held 22 (.slice A len cap) d ps) : ∃ l : List S31, Kd.C k31 w A l.length l ∧ l.length = len ∧ len ≤ cap ∧ Fit l := by
  obtain ⟨fuel, hf⟩ := hd
  have hm : maxLen = 9223372036854775807 := rfl
  rcases open_slice Tryd.underlying22 hf with ⟨hcs, _⟩ | ⟨a, len', cap', m, n, D, Pl, hcs, _, hl, hmx, hmm, _, hx⟩
  · simp [Value.cells] at hcs
    obtain ⟨rfl, rfl, rfl⟩ := hcs
    exact ⟨[], ⟨rfl, by simp, fun h => absurd h (by simp)⟩, rfl, Nat.le_refl _, by simp, fun x hx => by cases hx⟩
  · simp [Value.cells] at hcs
    obtain ⟨rfl, rfl, rfl⟩ := hcs
    rw [hm] at hmx
    have hle : len ≤ m := by rw [hmm]; split <;> omega
    have each : ∀ i, i < len → ∃ e : S31, (∃ cs, cs.length = 8 ∧ k31.K w e cs ∧ ∀ j u, cs[j]? = some u → w.cell? (a.add (i * 8 + j)) = some u) ∧ e.f0.size ≤ 9223372036854775807 ∧ e.f6.size ≤ 9223372036854775807 ∧ e.f7.length ≤ 9223372036854775807 ∧ (Lit.int .i64 e.f1).wf = true := by
      intro i hi
      obtain ⟨cs', h1, h2⟩ := hx i (by omega)
      rw [cof31] at h1
      obtain ⟨_, hlen, hcell⟩ := World.cells?_some h1
      obtain ⟨e, hK, h3⟩ := entry_open h2
      refine ⟨e, ⟨cs', hlen, hK, fun j u hu => ?_⟩, h3⟩
      have hj : j < 8 := by rw [← hlen]; exact (List.getElem?_eq_some_iff.1 hu).1
      rw [← Go.Deep.add_add, hcell j hj, hu]
    haveI : Inhabited S31 := ⟨z31⟩
    obtain ⟨F, hF⟩ := choose_lt each
    have hg : ∀ (j : Nat) (p : S31), ((List.range len).map F)[j]? = some p → j < len ∧ p = F j := by
      intro j p hp
      rw [List.getElem?_map, Option.map_eq_some_iff] at hp
      obtain ⟨q, hq, rfl⟩ := hp
      obtain ⟨hj, rfl⟩ := List.getElem?_eq_some_iff.1 hq
      rw [List.length_range] at hj
      rw [List.getElem_range]
      exact ⟨hj, rfl⟩
    refine ⟨(List.range len).map F, ⟨rfl, by rw [List.length_map, List.length_range]; omega, fun _ => ⟨a, rfl, fun j p hp => ?_⟩⟩, by rw [List.length_map, List.length_range], hl, by rw [List.length_map, List.length_range]; omega, fun x hx => ?_⟩
    · obtain ⟨hj, rfl⟩ := hg j p hp
      exact (hF j hj).1
    · obtain ⟨j, hq⟩ := List.mem_iff_getElem?.1 hx
      obtain ⟨hj, e⟩ := hg j x hq
      rw [e]
      exact (hF j hj).2
end Ents
end Go.Proofs.YtfkbmjfhakooiaaDoor.TR
