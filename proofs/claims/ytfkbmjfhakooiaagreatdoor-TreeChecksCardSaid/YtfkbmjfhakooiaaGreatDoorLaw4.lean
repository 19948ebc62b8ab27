/- TreeChecks: file, the example, entries that come in, marked copies, what a tree is, the reference's Check, the law's walk, plain Lean. Conditions: as each theorem says. -/
import Derived.Test.YtfkbmjfhakooiaaGreatDoorBuild
import Derived.Test.YtfkbmjfhakooiaaGreatDoorPMP45
import Derived.Test.YtfkbmjfhakooiaaGreatDoorChecks1
import Derived.Test.YtfkbmjfhakooiaaGreatDoorPTreex2
import Derived.Deep.Cut
import Derived.Test.YtfkbmjfhakooiaaGreatDoorSorts
import Derived.Deep.Slices
import Derived.ChangeSlices
import Derived.KernelRfl
import Derived.SizedLaws
import Derived.Test.YtfkbmjfhakooiaaGreatDoorPTreex3
import Derived.Test.YtfkbmjfhakooiaaGreatDoorPTreex0
import Derived.Deep.AppendSrc
import Derived.Test.YtfkbmjfhakooiaaGreatDoorPTreex9
import Derived.Deep.RegionWith
import Derived.Test.YtfkbmjfhakooiaaGreatDoorPTreex12
/- What the chapter's example is. Conditions: none. -/
namespace Go.Proofs.YtfkbmjfhakooiaaGreatDoor.TR
open Go.RowKit Go.Proofs.YtfkbmjfhakooiaaGreatDoor.PTree Go.Proofs.YtfkbmjfhakooiaaGreatDoorW.PrintWords Go.Proofs.YtfkbmjfhakooiaaGreatDoorW.PrintLast Go.Proofs.YtfkbmjfhakooiaaGreatDoorW.PrintMore
set_option linter.unusedVariables false
set_option linter.unusedSimpArgs false
def ps1 : ByteArray := ⟨#[97, 47, 98, 47, 99]⟩
def ps2 : ByteArray := ⟨#[97, 47, 46, 47, 120]⟩
def fileE (p : ByteArray) : S28 := ⟨p, 2, 0, 0, 0, 0, ⟨#[]⟩, bytesOf p⟩
def dirE (p : ByteArray) : S28 := ⟨p, 1, 493, 0, 0, 0, ⟨#[]⟩, []⟩
def ax : ByteArray := ⟨#[97, 47, 120]⟩
def ab : ByteArray := ⟨#[97, 47, 98]⟩
def a_ : ByteArray := ⟨#[97]⟩
def aliveX : List S28 := [fileE ps1, ⟨ax, 2, 0, 0, 0, 0, ⟨#[]⟩, bytesOf ps2⟩, dirE ab, dirE a_]
def aliveY : List S28 := [dirE a_, dirE ab, fileE ps1, ⟨ax, 2, 0, 0, 0, 0, ⟨#[]⟩, bytesOf ps2⟩]
set_option maxRecDepth 100000 in
theorem alive_buildA : buildA 600 [fileE ps1, fileE ps2] = some (aliveX, none) := by kernel_rfl
set_option maxRecDepth 100000 in
theorem alive_check : tree_Check.f 600 aliveY = some (-1, none) := by kernel_rfl
end Go.Proofs.YtfkbmjfhakooiaaGreatDoor.TR

/- amphoralaw09.file, walked. Conditions: as each theorem says. -/
namespace Go.Proofs.YtfkbmjfhakooiaaGreatDoor.TR
open Go.RowKit Go.Proofs.YtfkbmjfhakooiaaGreatDoor.PTree Go.Proofs.YtfkbmjfhakooiaaGreatDoorW.PrintWords Go.Proofs.YtfkbmjfhakooiaaGreatDoorW.PrintLast Go.Proofs.YtfkbmjfhakooiaaGreatDoorW.PrintMore
set_option linter.unusedVariables false
set_option linter.unusedSimpArgs false
theorem ints_C {w : World} {k : IntKind} {A : Option Addr} {n : Nat} {xs : List Int} (h : ReadsInt w k A n xs) : Kd.C (Kd.int k) w A n xs := by
  refine ⟨h.1, h.2.1, fun hp => ?_⟩
  obtain ⟨ad, e, hc⟩ := h.2.2 hp
  refine ⟨ad, e, fun j p hj => ⟨[.int k p], rfl, rfl, fun i u hu => ?_⟩⟩
  obtain ⟨hl, hv⟩ := List.getElem?_eq_some_iff.1 hj
  cases i with
  | zero =>
    simp only [List.getElem?_cons_zero, Option.some.injEq] at hu
    subst hu
    have h1 := hc j (by rw [← h.1]; exact hl)
    rw [List.getD_eq_getElem?_getD, List.getElem?_eq_getElem hl, hv] at h1
    show w.cell? (ad.add (j * 1 + 0)) = _
    rw [Nat.mul_one, Nat.add_zero]
    simpa using h1
  | succ i => simp at hu
theorem below_row_ {w W W1 : World} {g : Nat} (h : Below w.heap.size w W) (b2 : W.grownBy W1 (some g)) (hg : w.heap.size ≤ g) : Below w.heap.size w W1 :=
  h.trans ⟨b2.os, b2.tape, b2.output, b2.size, fun k hk => b2.block k (Nat.lt_of_lt_of_le hk (below_size h)) (fun e => by injection e with e; omega)⟩
set_option maxHeartbeats 8000000 in
set_option maxRecDepth 100000 in
theorem file_calls (p : ByteArray) (hp : p.size ≤ 1000) (w : World) :
    Calls Tryz.prog 24 #[.string p] w fun e w' => ∃ (A : Option Addr) (c : Nat), e = .returned (.agg #[.string p, .int .i64 2, .int .i64 0, .int .i64 0, .int .i64 0, .int .i64 0, .string ⟨#[]⟩, .slice A (bytesOf p).length c]) ∧ (bytesOf p).length ≤ c ∧ Kd.C (Kd.int .u8) w' A (bytesOf p).length (bytesOf p) ∧ Below w.heap.size w w' := by
  have hu31 := Tryz.underlying28
  have HP := Aside0.mk hp
  clear hp
  have HL := Aside0.mk (bytesOf_length p)
  rw [HL.out]
  have kb := fun W => print_bytes (P := Tryz.prog) 9 26 5 Tryz.underlying9 Tryz.underlying26 Tryz.underlying5 p W
  go_enter Tryz.func24, Tryz.ntmps24
  go_wp2_with (first
    | ((with_reducible refine gate_dst (N := 2) rfl ?_); refine box_event ?hg (N := 2) ?hd (cs := #[.string (⟨#[]⟩ : ByteArray), .int .i64 0, .int .i64 0, .int .i64 0, .int .i64 0, .int .i64 0, .string (⟨#[]⟩ : ByteArray), .slice none 0 0]) (t := 28) ?hr ?_; (case hd => rfl); (case hg => rfl); (case hr => first | (go_simp; done) | (go_simp; rfl)); intro g2 hg w2 hbox hb; have HB := Aside0.mk hb; have K2 := Aside0.mk hbox; have G2 := Aside0.mk (show w.heap.size ≤ g2 by omega); clear hb hbox hg)
    | ((with_reducible refine gate_store (t := 28) (p := 2) (v := .tmp 6) rfl ?_); refine ev_set31 _ rfl (.tmp 2) (.tmp 6) rfl rfl g2 _ _ _ _ _ _ _ _ p ⟨#[]⟩ 2 0 0 0 0 (some ⟨w2.heap.size, 0, none⟩) p.size (grownCap w2 p.size 0 5) rfl rfl (blk_below K2.out (bytes_below (Below.refl _ _) (Nat.le_refl _) 5 p)) (fun w8 b1 b2 => ?_)))
  refine bodyPost_ret (results_cell_row rfl _ _ g2 28 _ (0, 0) _ rfl b1 Tryz.underlying28 rfl (by kernel_rfl)) rfl ?_
  have hlt : w2.heap.size < (Lib.bytesWorld w2 5 p).heap.size := by rw [Lib.bytesWorld_size]; omega
  have hne : some w2.heap.size ≠ some g2 := fun e => by
    injection e with e
    have := (Array.getElem?_eq_some_iff.1 K2.out).1
    omega
  refine ⟨_, _, rfl, grownCap_ge _ _ _ _, ints_C ?_, below_row_ (bytes_below HB.out (below_size HB.out) 5 p) b2 G2.out⟩
  obtain ⟨h1, h2, h3⟩ := bytes_reads w2 5 p (by have := HP.out; omega)
  refine ⟨h1, h2, fun hp => ?_⟩
  obtain ⟨ad, e, hc⟩ := h3 hp
  cases e
  refine ⟨_, rfl, fun j hj => ?_⟩
  rw [← hc j hj, add_plain]
  exact World.cell?_of_block (b2.block _ hlt hne)
end Go.Proofs.YtfkbmjfhakooiaaGreatDoor.TR

/- The chapter's example, walked. Conditions: as each theorem says. -/
namespace Go.Proofs.YtfkbmjfhakooiaaGreatDoor.TR
open Go.RowKit Go.Proofs.YtfkbmjfhakooiaaGreatDoor.PTree Go.Proofs.YtfkbmjfhakooiaaGreatDoorW.PrintWords Go.Proofs.YtfkbmjfhakooiaaGreatDoorW.PrintLast Go.Proofs.YtfkbmjfhakooiaaGreatDoorW.PrintMore
set_option linter.unusedVariables false
set_option linter.unusedSimpArgs false
theorem k28_mkK (w : World) (x : S28) (A : Option Addr) (k : Nat) (l : x.f7.length ≤ k) (g : (Kd.int .u8).C w A x.f7.length x.f7) : k28.K w x [.string x.f0, .int .i64 x.f1, .int .i64 x.f2, .int .i64 x.f3, .int .i64 x.f4, .int .i64 x.f5, .string x.f6, .slice A x.f7.length k] := ⟨[.string x.f0], [.int .i64 x.f1, .int .i64 x.f2, .int .i64 x.f3, .int .i64 x.f4, .int .i64 x.f5, .string x.f6, .slice A x.f7.length k], rfl, rfl, ⟨[.int .i64 x.f1], [.int .i64 x.f2, .int .i64 x.f3, .int .i64 x.f4, .int .i64 x.f5, .string x.f6, .slice A x.f7.length k], rfl, rfl, ⟨[.int .i64 x.f2], [.int .i64 x.f3, .int .i64 x.f4, .int .i64 x.f5, .string x.f6, .slice A x.f7.length k], rfl, rfl, ⟨[.int .i64 x.f3], [.int .i64 x.f4, .int .i64 x.f5, .string x.f6, .slice A x.f7.length k], rfl, rfl, ⟨[.int .i64 x.f4], [.int .i64 x.f5, .string x.f6, .slice A x.f7.length k], rfl, rfl, ⟨[.int .i64 x.f5], [.string x.f6, .slice A x.f7.length k], rfl, rfl, ⟨[.string x.f6], [.slice A x.f7.length k], rfl, rfl, ⟨A, k, rfl, l, g⟩⟩⟩⟩⟩⟩⟩⟩
theorem lit2_C (W W1 : World) (b : Nat) (x y : S28) (A1 A2 : Option Addr) (k1 k2 : Nat) (l1 : x.f7.length ≤ k1) (h1 : Kd.C (Kd.int .u8) W1 A1 x.f7.length x.f7) (l2 : y.f7.length ≤ k2) (h2 : Kd.C (Kd.int .u8) W1 A2 y.f7.length y.f7) (hb : W1.heap[b]? = some (.cells #[.string x.f0, .int .i64 x.f1, .int .i64 x.f2, .int .i64 x.f3, .int .i64 x.f4, .int .i64 x.f5, .string x.f6, .slice A1 x.f7.length k1, .string y.f0, .int .i64 y.f1, .int .i64 y.f2, .int .i64 y.f3, .int .i64 y.f4, .int .i64 y.f5, .string y.f6, .slice A2 y.f7.length k2] 28 (0, 0))) : Kd.C k28 W1 (some ⟨b, 0, none⟩) 2 [x, y] := by
  refine ⟨rfl, by decide, fun _ => ⟨_, rfl, fun j p hj => ?_⟩⟩
  match j, hj with
  | 0, hj =>
    obtain rfl := Option.some.inj hj
    refine ⟨_, rfl, k28_mkK W1 x A1 k1 l1 h1, fun i u hu => ?_⟩
    match i, hu with
    | 0, hu => exact (blk_cell hb 0).trans hu
    | 1, hu => exact (blk_cell hb 1).trans hu
    | 2, hu => exact (blk_cell hb 2).trans hu
    | 3, hu => exact (blk_cell hb 3).trans hu
    | 4, hu => exact (blk_cell hb 4).trans hu
    | 5, hu => exact (blk_cell hb 5).trans hu
    | 6, hu => exact (blk_cell hb 6).trans hu
    | 7, hu => exact (blk_cell hb 7).trans hu
    | i + 8, hu => simp at hu
  | 1, hj =>
    obtain rfl := Option.some.inj hj
    refine ⟨_, rfl, k28_mkK W1 y A2 k2 l2 h2, fun i u hu => ?_⟩
    match i, hu with
    | 0, hu => exact (blk_cell hb 8).trans hu
    | 1, hu => exact (blk_cell hb 9).trans hu
    | 2, hu => exact (blk_cell hb 10).trans hu
    | 3, hu => exact (blk_cell hb 11).trans hu
    | 4, hu => exact (blk_cell hb 12).trans hu
    | 5, hu => exact (blk_cell hb 13).trans hu
    | 6, hu => exact (blk_cell hb 14).trans hu
    | 7, hu => exact (blk_cell hb 15).trans hu
    | i + 8, hu => simp at hu
  | j + 2, hj => simp at hj
theorem aliveX_small : ∀ x ∈ aliveX, x.f0.size ≤ 200 := by
  intro x hx
  simp only [aliveX, List.mem_cons, List.not_mem_nil, or_false] at hx
  rcases hx with rfl | rfl | rfl | rfl <;> decide
theorem aliveX_keys : ∀ p q, p ∈ aliveX → q ∈ aliveX → p.f0 = q.f0 → p = q := by
  intro p q hp hq e
  simp only [aliveX, List.mem_cons, List.not_mem_nil, or_false] at hp hq
  rcases hp with rfl | rfl | rfl | rfl <;> rcases hq with rfl | rfl | rfl | rfl <;> first | rfl | exact absurd e (by decide)
theorem alive_sort (ys : List S28) (h : SortR 600 aliveX ys) : ys = aliveY := by
  refine sortR_uniq (B := 200) (by decide) (by decide) aliveX_small h ?_ ?_ aliveX_keys
  · exact ((List.Perm.swap _ _ _).trans (List.perm_append_comm (l₁ := [dirE ab, dirE a_]) (l₂ := [fileE ps1, ⟨ax, 2, 0, 0, 0, 0, ⟨#[]⟩, bytesOf ps2⟩])))
  · refine List.Pairwise.cons ?_ (List.Pairwise.cons ?_ (List.Pairwise.cons ?_ (List.Pairwise.cons ?_ List.Pairwise.nil)))
    all_goals (
      intro q hq
      simp only [List.mem_cons, List.not_mem_nil, or_false] at hq)
    · rcases hq with rfl | rfl | rfl <;> decide +kernel
    · rcases hq with rfl | rfl <;> decide +kernel
    · rcases hq with rfl <;> decide +kernel
theorem build_alive (A : Option Addr) (c : Nat) (w : World) (hC : Kd.C k28 w A 2 [fileE ps1, fileE ps2]) (hGl : Gl w) : Calls Tryz.prog 23 #[.slice A 2 c] w fun e w' => ∃ A c, e = .returned (.tuple #[.slice A 4 c, .nilIface]) ∧ Kd.C k28 w' A 4 aliveY ∧ Below w.heap.size w w' := by
  refine (Build_calls 600 A c [fileE ps1, fileE ps2] aliveX none (SortR 600 aliveX) w hC hGl alive_buildA (fun _ v W h0 hR => sort_goes 600 200 (by decide) (by decide) w hGl aliveX aliveX_small (by decide) v W h0 hR) (fun ys hy => ⟨(-1, none), by rw [alive_sort ys hy]; exact alive_check⟩)).mono ?_
  rintro e w' ⟨A, c, ys, en, rfl, hl, hC, hb, _, h⟩
  obtain ⟨zs, r, hz, hr, rfl, rfl⟩ := h rfl
  obtain rfl := alive_sort zs hz
  rw [alive_check] at hr
  obtain rfl := Option.some.inj hr
  exact ⟨A, c, rfl, hC, hb⟩

set_option maxHeartbeats 8000000 in
set_option maxRecDepth 100000 in
theorem alive_calls (w : World) (hGl : Gl w) : Calls Tryz.prog 5 #[] w fun e w' => e = .returned (.bool true) ∧ Below w.heap.size w w' := by
  have hu31 := Tryz.underlying28
  have hu26 := Tryz.underlying44
  have hu56 := Tryz.underlying63
  have HGL := Aside0.mk hGl
  clear hGl
  go_enter Tryz.func5, Tryz.ntmps5
  go_upto_region 2 with (first
    | (go_at_call 24; refine (file_calls (⟨#[97, 47, 98, 47, 99]⟩ : ByteArray) (by decide) w).mono ?_; rintro e w1 ⟨A1, k1, rfl, hl, hc, hb⟩; have L1 := Aside0.mk hl; have D1 := Aside0.mk hc; have HB1 := Aside0.mk hb; clear hl hc hb)
    | (go_at_call 24; refine (file_calls (⟨#[97, 47, 46, 47, 120]⟩ : ByteArray) (by decide) _).mono ?_; rintro e w2 ⟨A2, k2, rfl, hl, hc, hb⟩; have L2 := Aside0.mk hl; have D2 := Aside0.mk hc; have D1b := Aside0.mk (Kd.C_below D1.out hb); have HB2 := Aside0.mk (below_step HB1.out hb); clear hl hc hb)
    | (go_at_call 23; refine (build_alive _ _ _ (lit2_C w2 _ w2.heap.size (fileE ps1) (fileE ps2) A1 A2 k1 k2 L1.out (Kd.C_alloc D1b.out _) L2.out (Kd.C_alloc D2.out _) (heap_alloc_new w2 _)) (HGL.out.of (below_alloc HB2.out _))).mono ?_; rintro e w3 ⟨A3, k3, rfl, hc, hb⟩; have D3 := Aside0.mk hc; have HB3 := Aside0.mk (below_step (below_alloc HB2.out _) hb); clear hc hb))
  obtain ⟨ad, A7, c7, eA, _⟩ := at_T28 D3.out 0 (by decide) (by decide)
  subst eA
  go_upto_region 3 with (first
    | (go_at_call 19; refine (tree_Check.calls 600 (some ad) k3 aliveY (-1, none) _ D3.out (HGL.out.of HB3.out) alive_check).mono ?_; rintro e w4 ⟨rfl, hb⟩; have D4 := Aside0.mk (Kd.C_below D3.out hb); have HB4 := Aside0.mk (below_step HB3.out hb); clear hb; try simp only [errW_none, errW_some]))
  obtain ⟨_, A8, c8, eA, x0, x1, _⟩ := at_T28 D4.out 0 (by decide) (by decide)
  cases eA
  obtain ⟨_, A9, c9, eA, y0, _⟩ := at_T28 D4.out 3 (by decide) (by decide)
  cases eA
  replace x0 : w4.cell? ad = some (.string ⟨#[97]⟩) := by
    have h : ad.add ((0 : Int).toNat * 8) = ad := by unfold Addr.add; simp
    rw [h] at x0
    exact x0
  replace x1 : w4.cell? ⟨ad.block, ad.off + 1, none⟩ = some (.int .i64 1) := by
    have h : ad.add ((0 : Int).toNat * 8) = ad := by unfold Addr.add; simp
    rw [h] at x1
    exact x1
  replace y0 : w4.cell? ⟨ad.block, ad.off + 24, none⟩ = some (.string ⟨#[97, 47, 120]⟩) := by
    have h : ad.add ((3 : Int).toNat * 8) = ⟨ad.block, ad.off + 24, none⟩ := by unfold Addr.add; simp
    rw [h] at y0
    exact y0
  go_wp2
  go_ret
  exact ⟨rfl, HB4.out⟩
end Go.Proofs.YtfkbmjfhakooiaaGreatDoor.TR

/- A slice of entries that comes in, opened, with what the sizes of the row give. Conditions: none. -/
namespace Go.Proofs.YtfkbmjfhakooiaaGreatDoor.TR
open Go.RowKit Go.Proofs.YtfkbmjfhakooiaaGreatDoor.PTree Go.Proofs.YtfkbmjfhakooiaaGreatDoorW.PrintWords Go.Proofs.YtfkbmjfhakooiaaGreatDoorW.PrintLast
set_option linter.unusedVariables false
set_option linter.unusedSimpArgs false
namespace EntsZ
open Go.ChangeShapes Go.WideShapes Go.Deep
def Fit (l : List S28) : Prop := (l.length : Int) ≤ 9223372036854775807 ∧ ∀ x ∈ l, x.f0.size ≤ 9223372036854775807 ∧ x.f6.size ≤ 9223372036854775807 ∧ x.f7.length ≤ 9223372036854775807 ∧ (Lit.int .i64 x.f1).wf = true
theorem cof31 : Tryz.prog.cellsOf 28 = 8 := by kernel_rfl
theorem cof9 : Tryz.prog.cellsOf 9 = 1 := by kernel_rfl
theorem cof3 : Tryz.prog.cellsOf 3 = 1 := by kernel_rfl
theorem cof29 : Tryz.prog.cellsOf 26 = 1 := by kernel_rfl
theorem cof5 : Tryz.prog.cellsOf 5 = 1 := by kernel_rfl
theorem weights_all {H : Type} {P : Program} {e : TypeId} : ∀ {ds : List (DataW H)} {d : DataW H}, d ∈ ds → ∀ n ∈ d.weights P e, n ∈ DataW.weightsAll P e ds
  | [], _, h, _, _ => by cases h
  | a :: r, d, h, n, hn => by
    simp only [DataW.weightsAll, List.mem_append]
    rcases List.mem_cons.1 h with rfl | h
    · exact .inl hn
    · exact .inr (weights_all h n hn)
theorem agg_w {H : Type} {ds es sp : List (DataW H)} (h : ∀ n ∈ DataW.weights Tryz.prog 28 (.agg ds), n ≤ reachBytes) (h7 : ds[7]? = some (.slice es sp)) : es.length ≤ reachBytes := by
  have := h ((es.length + sp.length) * Tryz.prog.bytesOf 5) (by simp only [DataW.weights, Tryz.underlying28]; exact DataW.weights_mem_each (j := 7) (t := 26) rfl h7 _ (by simp [DataW.weights, Tryz.underlying26]))
  have hb : Tryz.prog.bytesOf 5 = 1 := by kernel_rfl
  rw [hb] at this
  omega
def Sized (l : List S28) : Prop := l.length * 96 ≤ reachBytes ∧ ∀ x ∈ l, x.f7.length ≤ reachBytes
set_option maxRecDepth 100000 in
theorem entry_open {H : Type} {enc : TypeId × Value → H} {w : World} {base : Nat} {spare : Nat → Bool} {held : Bool} {n : Nat} {cs : List Value} {x : DataW H × List MemPlace} (h : DataW.trod enc Tryz.prog w base spare held n 28 cs = some x) :
    ∃ e : S28, k28.K w e cs ∧ e.f0.size ≤ 9223372036854775807 ∧ e.f6.size ≤ 9223372036854775807 ∧ e.f7.length ≤ 9223372036854775807 ∧ (Lit.int .i64 e.f1).wf = true ∧ ((∀ n ∈ DataW.weights Tryz.prog 28 x.1, n ≤ reachBytes) → e.f7.length ≤ reachBytes) := by
  obtain ⟨xs, m, _, hxx, hcl, hxl, hf⟩ := DataW.trod_struct Tryz.underlying28 h
  rw [cof31] at hcl
  have hm : maxLen = 9223372036854775807 := rfl
  match xs, hxl, cs, hcl with
  | [y0, y1, y2, y3, y4, y5, y6, y7], _, [v0, v1, v2, v3, v4, v5, v6, v7], _ =>
    have g0 : DataW.trod enc Tryz.prog w base spare held m 9 [v0] = some y0 := by have := hf 0 _ rfl; simpa [cof9] using this
    have g1 : DataW.trod enc Tryz.prog w base spare held m 3 [v1] = some y1 := by have := hf 1 _ rfl; simpa [cof3] using this
    have g2 : DataW.trod enc Tryz.prog w base spare held m 3 [v2] = some y2 := by have := hf 2 _ rfl; simpa [cof3] using this
    have g3 : DataW.trod enc Tryz.prog w base spare held m 3 [v3] = some y3 := by have := hf 3 _ rfl; simpa [cof3] using this
    have g4 : DataW.trod enc Tryz.prog w base spare held m 3 [v4] = some y4 := by have := hf 4 _ rfl; simpa [cof3] using this
    have g5 : DataW.trod enc Tryz.prog w base spare held m 3 [v5] = some y5 := by have := hf 5 _ rfl; simpa [cof3] using this
    have g6 : DataW.trod enc Tryz.prog w base spare held m 9 [v6] = some y6 := by have := hf 6 _ rfl; simpa [cof9] using this
    have g7 : DataW.trod enc Tryz.prog w base spare held m 26 [v7] = some y7 := by have := hf 7 _ rfl; simpa [cof29] using this
    obtain ⟨a0, e0, _, z0⟩ := DataW.trod_string Tryz.underlying9 g0
    obtain ⟨a1, e1, _, z1⟩ := DataW.trod_int Tryz.underlying3 g1
    obtain ⟨a2, e2, _, z2⟩ := DataW.trod_int Tryz.underlying3 g2
    obtain ⟨a3, e3, _, z3⟩ := DataW.trod_int Tryz.underlying3 g3
    obtain ⟨a4, e4, _, z4⟩ := DataW.trod_int Tryz.underlying3 g4
    obtain ⟨a5, e5, _, z5⟩ := DataW.trod_int Tryz.underlying3 g5
    obtain ⟨a6, e6, _, z6⟩ := DataW.trod_string Tryz.underlying9 g6
    obtain rfl : v0 = .string a0 := by simpa using e0
    obtain rfl : v1 = .int .i64 a1 := by simpa using e1
    obtain rfl : v2 = .int .i64 a2 := by simpa using e2
    obtain rfl : v3 = .int .i64 a3 := by simpa using e3
    obtain rfl : v4 = .int .i64 a4 := by simpa using e4
    obtain rfl : v5 = .int .i64 a5 := by simpa using e5
    obtain rfl : v6 = .string a6 := by simpa using e6
    rw [hm] at z0 z6
    rcases open_ints Tryz.underlying26 Tryz.underlying5 cof5 g7 with ⟨hcs, _⟩ | ⟨a, len, cap, zs, hcs, _, hl, hmx, hz, hy7, hcell, _⟩
    · obtain rfl : v7 = .slice none 0 0 := by simpa using hcs
      exact ⟨⟨a0, a1, a2, a3, a4, a5, a6, []⟩, k28_mkK w ⟨a0, a1, a2, a3, a4, a5, a6, []⟩ none 0 (Nat.le_refl _) ⟨rfl, by simp, fun h => absurd h (by simp)⟩, z0, z6, by simp, z1, fun _ => Nat.zero_le _⟩
    · obtain rfl : v7 = .slice (some a) len cap := by simpa using hcs
      rw [hm] at hmx
      have hzl : len ≤ zs.length := by rw [hz]; split <;> omega
      have htl : (zs.take len).length = len := by rw [List.length_take]; omega
      have hC : (Kd.int .u8).C w (some a) (zs.take len).length (zs.take len) := by
        refine ⟨rfl, by rw [htl]; omega, fun _ => ⟨a, rfl, fun j p hp => ⟨[.int .u8 p], rfl, rfl, fun i u hu => ?_⟩⟩⟩
        have hj : j < (zs.take len).length := (List.getElem?_eq_some_iff.1 hp).1
        rw [htl] at hj
        cases i with
        | zero =>
          simp only [List.getElem?_cons_zero, Option.some.injEq] at hu
          subst hu
          show w.cell? (a.add (j * 1 + 0)) = _
          rw [Nat.mul_one, Nat.add_zero, hcell j (by omega)]
          rw [List.getElem?_take_of_lt hj] at hp
          rw [List.getD_eq_getElem?_getD, hp]
          rfl
        | succ i => simp at hu
      have hK := k28_mkK w ⟨a0, a1, a2, a3, a4, a5, a6, zs.take len⟩ (some a) cap (by show (zs.take len).length ≤ cap; omega) hC
      refine ⟨⟨a0, a1, a2, a3, a4, a5, a6, zs.take len⟩, ?_, z0, z6, by show (zs.take len).length ≤ _; omega, z1, fun hw => ?_⟩
      · have e : (zs.take len).length = len := htl
        simp only [e] at hK
        exact hK
      · rw [show x.1 = _ from congrArg Prod.fst hxx] at hw
        have h7 := agg_w (es := lits .u8 (zs.take len)) (sp := lits .u8 (zs.drop len)) hw (by rw [hy7]; rfl)
        show (zs.take len).length ≤ _
        simpa [lits] using h7
theorem opened {H : Type} {enc : TypeId × Value → H} {w : World} {base : Nat} {spare : Nat → Bool} {held : Bool} {A : Option Addr} {len cap : Nat} {d : DataW H} {ps : List MemPlace}
    (hd : DataW.Trod enc Tryz.prog w base spare held 22 (.slice A len cap) d ps) : ∃ l : List S28, Kd.C k28 w A l.length l ∧ l.length = len ∧ len ≤ cap ∧ Fit l ∧ ((∀ n ∈ DataW.weights Tryz.prog 22 d, n ≤ reachBytes) → Sized l) := by
  obtain ⟨fuel, hf⟩ := hd
  have hm : maxLen = 9223372036854775807 := rfl
  rcases open_slice Tryz.underlying22 hf with ⟨hcs, _⟩ | ⟨a, len', cap', m, n, D, Pl, hcs, _, hl, hmx, hmm, hxx, hx⟩
  · simp [Value.cells] at hcs
    obtain ⟨rfl, rfl, rfl⟩ := hcs
    exact ⟨[], ⟨rfl, by simp, fun h => absurd h (by simp)⟩, rfl, Nat.le_refl _, ⟨by simp, fun x hx => by cases hx⟩, fun _ => ⟨by simp, fun x hx => by cases hx⟩⟩
  · simp [Value.cells] at hcs
    obtain ⟨rfl, rfl, rfl⟩ := hcs
    rw [hm] at hmx
    have hle : len ≤ m := by rw [hmm]; split <;> omega
    have each : ∀ i, i < len → ∃ e : S28, (∃ cs, cs.length = 8 ∧ k28.K w e cs ∧ ∀ j u, cs[j]? = some u → w.cell? (a.add (i * 8 + j)) = some u) ∧ e.f0.size ≤ 9223372036854775807 ∧ e.f6.size ≤ 9223372036854775807 ∧ e.f7.length ≤ 9223372036854775807 ∧ (Lit.int .i64 e.f1).wf = true ∧ ((∀ n ∈ DataW.weights Tryz.prog 28 (D i), n ≤ reachBytes) → e.f7.length ≤ reachBytes) := by
      intro i hi
      obtain ⟨cs', h1, h2⟩ := hx i (by omega)
      rw [cof31] at h1
      obtain ⟨_, hlen, hcell⟩ := World.cells?_some h1
      obtain ⟨e, hK, h3⟩ := entry_open h2
      refine ⟨e, ⟨cs', hlen, hK, fun j u hu => ?_⟩, h3⟩
      have hj : j < 8 := by rw [← hlen]; exact (List.getElem?_eq_some_iff.1 hu).1
      rw [← Go.Deep.add_add, hcell j hj, hu]
    haveI : Inhabited S28 := ⟨z28⟩
    obtain ⟨F, hF⟩ := choose_lt each
    have hg : ∀ (j : Nat) (p : S28), ((List.range len).map F)[j]? = some p → j < len ∧ p = F j := by
      intro j p hp
      rw [List.getElem?_map, Option.map_eq_some_iff] at hp
      obtain ⟨q, hq, rfl⟩ := hp
      obtain ⟨hj, rfl⟩ := List.getElem?_eq_some_iff.1 hq
      rw [List.length_range] at hj
      rw [List.getElem_range]
      exact ⟨hj, rfl⟩
    refine ⟨(List.range len).map F, ⟨rfl, by rw [List.length_map, List.length_range]; omega, fun _ => ⟨a, rfl, fun j p hp => ?_⟩⟩, by rw [List.length_map, List.length_range], hl, ⟨by rw [List.length_map, List.length_range]; omega, fun x hx => ?_⟩, fun hw => ⟨?_, fun x hx => ?_⟩⟩
    · obtain ⟨hj, rfl⟩ := hg j p hp
      exact (hF j hj).1
    · obtain ⟨j, hq⟩ := List.mem_iff_getElem?.1 hx
      obtain ⟨hj, e⟩ := hg j x hq
      rw [e]
      exact ⟨(hF j hj).2.1, (hF j hj).2.2.1, (hF j hj).2.2.2.1, (hF j hj).2.2.2.2.1⟩
    · rw [show d = _ from congrArg Prod.fst hxx] at hw
      simp only [DataW.weights, Tryz.underlying22] at hw
      have h1 := hw _ List.mem_cons_self
      have hb : Tryz.prog.bytesOf 28 = 96 := by kernel_rfl
      rw [hb, List.length_map, List.length_range] at h1
      rw [List.length_map, List.length_range]
      exact Nat.le_trans (Nat.mul_le_mul_right 96 (Nat.le_add_right _ _)) h1
    · obtain ⟨j, hq⟩ := List.mem_iff_getElem?.1 hx
      obtain ⟨hj, e⟩ := hg j x hq
      rw [e]
      refine (hF j hj).2.2.2.2.2 (fun n hn => hw n ?_)
      rw [show d = _ from congrArg Prod.fst hxx]
      simp only [DataW.weights, Tryz.underlying22]
      exact List.mem_cons_of_mem _ (List.mem_append_left _ (weights_all (List.mem_map.2 ⟨j, List.mem_range.2 hj, rfl⟩) n hn))
end EntsZ
end Go.Proofs.YtfkbmjfhakooiaaGreatDoor.TR

/- Rows of entries, one by one. Conditions: as each theorem says. -/
namespace Go.Proofs.YtfkbmjfhakooiaaGreatDoor.TR
open Go.RowKit Go.Proofs.YtfkbmjfhakooiaaGreatDoor.PTree Go.Proofs.YtfkbmjfhakooiaaGreatDoorW.PrintWords Go.Proofs.YtfkbmjfhakooiaaGreatDoorW.PrintLast Go.Proofs.YtfkbmjfhakooiaaGreatDoorW.PrintMore
set_option linter.unusedVariables false
set_option linter.unusedSimpArgs false
theorem take_rd (l : List S28) (i : Int) (h0 : 0 ≤ i) (h1 : i < (l.length : Int)) : l.take (i + 1).toNat = l.take i.toNat ++ [rd_T28 l i] := by
  have h2 : i.toNat < l.length := by omega
  rw [show (i + 1).toNat = i.toNat + 1 by omega, List.take_succ_eq_append_getElem h2]
  unfold rd_T28
  rw [List.getD_eq_getElem?_getD, List.getElem?_eq_getElem h2]
  rfl
end Go.Proofs.YtfkbmjfhakooiaaGreatDoor.TR

/- amphoranum: Copy and Kept, walked. Conditions: as each theorem says. -/
namespace Go.Proofs.YtfkbmjfhakooiaaGreatDoor.PTree
open Go.RowKit Go.Proofs.YtfkbmjfhakooiaaGreatDoorW.PrintWords Go.Proofs.YtfkbmjfhakooiaaGreatDoorW.PrintLast Go.Proofs.YtfkbmjfhakooiaaGreatDoorW.PrintMore
set_option linter.unusedVariables false
set_option linter.unusedSimpArgs false
/-! ### amphoranum's Copy and Kept: a copy of bytes with two marks in its spare room -/
namespace Marks
open Go.RowKit
/-- append(v, x...) where there is room, x anything that yields cells. -/
theorem run_room {P : Program} {w : World} (t tx ty e : TypeId) (i : TypeInfo) (ht : P.underlying t = some (.slice e)) (hi : P.info? e = some i) (hs1 : i.size = 1)
    (g sLen sCap : Nat) (cur : Array Value) (hg : w.heap[g]? = some (.cells cur e (0, 0))) (x : Value) (n : Nat) (news : List Value) (hs : Src P 1 tx x n news w)
    (hroom : sLen + n ≤ sCap) (hfit : sLen + n ≤ cur.size) :
    (Builtin.append_ #[t, tx] ty #[.slice (some ⟨g, 0, none⟩) sLen sCap, x]).run P w =
      .ok (.slice (some ⟨g, 0, none⟩) (sLen + n) sCap) (w.setRow g (cur.toList.take sLen ++ news ++ cur.toList.drop (sLen + n)).toArray) := by
  have hl : news.length = n := by simpa using hs.newsLen
  have hst := run_storeCells_at P g sLen e news 0 cur w hg (by omega) hs.one
  simp only [Nat.add_zero, hl] at hst
  rcases hs.kind with ⟨e', hk⟩ | hk <;>
    simp [Builtin.append_, run_underlying ht, run_underlying hk, sizeOf, typeInfo, hi, hs1, hs.len, hroom, hs.cells, Addr.add_lit, hst]
theorem ev_room {P : Program} {ops : Array Oper} {rest : List Oper} {o : Oper} {a : Act} {Q : Exit → Act → World → Prop} {W : World} (hgd : o.guard = none) (s x : Operand) (t tx e : TypeId)
    (ho : o.op = .call { callee := .builtin .append, args := #[s, x], argTypes := #[t, tx] })
    (ht : P.underlying t = some (.slice e)) (hinfo : (P.info? e).map (fun i => (i.zero, i.size, i.bytes)) = some (some (.int .u8 0), 1, 1))
    (g sLen sCap : Nat) (cur : Array Value) (hg : W.heap[g]? = some (.cells cur e (0, 0))) (vx : Value) (n : Nat) (news : List Value)
    (hs : a.eval s = .slice (some ⟨g, 0, none⟩) sLen sCap) (hx : a.eval x = vx) (hsrc : Src P 1 tx vx n news W) (hroom : sLen + n ≤ sCap) (hfit : sLen + n ≤ cur.size)
    (h : ∀ w1, w1 = W.setRow g (cur.toList.take sLen ++ news ++ cur.toList.drop (sLen + n)).toArray → wpList P ops Q rest (a.put o.dst (.slice (some ⟨g, 0, none⟩) (sLen + n) sCap)) w1) :
    wpList P ops Q (o :: rest) a W := by
  obtain ⟨i0, hi, hzz⟩ := Option.map_eq_some_iff.1 hinfo
  simp only [Prod.mk.injEq] at hzz
  obtain ⟨hz0, hz1, hz2⟩ := hzz
  refine wpList_plain hgd fun K hK => ?_
  have hr := run_room t tx o.type e i0 ht hi hz1 g sLen sCap cur hg vx n news hsrc hroom hfit
  have hw := h _ rfl
  unfold Oper.wp execOp
  simp only [ho, resolve, invoke, builtin, Sem.run_bind, Sem.run_pure, Result.andThen_ok, List.map_toArray, List.map_cons, List.map_nil, hs, hx, hr]
  exact hK _ _ hw
/-- The row of a copy with its marks. -/
def At (w : World) (g : Nat) (l : List Int) : Prop := w.heap[g]? = some (.cells (nums .u8 (l ++ [165, 90])).toArray 5 (0, 0))
theorem At.below {w w1 : World} {g : Nat} {l : List Int} (h : At w g l) (hb : Below w.heap.size w w1) : At w1 g l := (hb.block g (blk_lt h)).trans h
theorem cell_nums {w : World} {g : Nat} {l m : List Int} {e : TypeId} (h : w.heap[g]? = some (.cells (nums .u8 (l ++ m)).toArray e (0, 0))) (j : Nat) (hj : j < (l ++ m).length) : w.cell? ⟨g, j, none⟩ = some (.int .u8 ((l ++ m)[j])) := by
  rw [blk_cell h j]
  have : (nums .u8 (l ++ m)).toArray[j]? = (nums .u8 (l ++ m))[j]? := by simp
  rw [this]
  unfold nums
  rw [List.getElem?_map, List.getElem?_eq_getElem hj]; rfl
theorem cellsC {w : World} {g : Nat} {l m : List Int} {e : TypeId} (hl : l.length ≤ 9223372036854775807) (h : w.heap[g]? = some (.cells (nums .u8 (l ++ m)).toArray e (0, 0))) : Kd.C (Kd.int .u8) w (some ⟨g, 0, none⟩) l.length l := by
  refine Kd.C_of_reads (enc := Value.int .u8) (d := (0 : Int)) (h1 := fun _ => rfl) ⟨rfl, hl, fun _ => ⟨⟨g, 0, none⟩, rfl, fun j hj => ?_⟩⟩
  rw [add_plain, cell_nums h j (by rw [List.length_append]; omega), List.getElem_append_left hj, List.getD_eq_getElem?_getD, List.getElem?_eq_getElem hj]; rfl
theorem srcC {P : Program} {w : World} {A : Option Addr} {l : List Int} {t e : TypeId} (ht : P.underlying t = some (.slice e)) (h : Kd.C (Kd.int .u8) w A l.length l) (c : Nat) : Src P 1 t (.slice A l.length c) l.length (nums .u8 l) w := by
  have hr := Kd.reads_of_C (enc := Value.int .u8) (d := (0 : Int)) (h1 := fun _ => rfl) h
  rcases Nat.eq_zero_or_pos l.length with h0 | h0
  · have hl : l = [] := List.eq_nil_of_length_eq_zero h0
    subst hl
    refine ⟨.inl ⟨e, ht⟩, fun _ => rfl, ?_, ?_, rfl, fun u hu => by cases hu⟩
    · cases A <;> (simp [Builtin.firstCells, nums]) <;> rfl
    · cases A <;> (simp [Builtin.firstCells, nums]) <;> rfl
  · obtain ⟨ad, rfl, hc⟩ := hr.2.2 h0
    refine Src.ofSlice w ht ad l.length c _ (by rw [nums_length, Nat.mul_one]) (fun j u hu => ?_) (fun u hu => ?_)
    · have hj : j < l.length := by have := (List.getElem?_eq_some_iff.1 hu).1; rwa [nums_length] at this
      rw [hc j hj]
      rw [← hu]; simp [nums, hj]
    · unfold nums at hu; obtain ⟨x, _, rfl⟩ := List.mem_map.1 hu; rfl
theorem below_setRow {b : Nat} {w W : World} (h : Below b w W) (hb : b ≤ W.heap.size) (g : Nat) (cs : Array Value) (hg : b ≤ g) : Below b w (W.setRow g cs) :=
  by
  have hg2 : W.grownBy (W.setRow g cs) (some g) := ⟨rfl, rfl, rfl, by simp, fun k _ hk => setRow_other W g k _ (fun e => hk (by rw [e]))⟩
  exact pw_below_grown h (some g) hb hg2 (fun k hk => by injection hk with hk; omega)
theorem alloc_at (w : World) (o : Obj) : (w.alloc o).heap[w.heap.size]? = some o := by
  show (w.heap.push o)[w.heap.size]? = some o
  exact Array.getElem?_push_size
theorem make_run (c : Nat) (hc : c ≤ 140737488355328) (W : World) : (Instr.makeSlice 26 (.int .i64 0) (.int .i64 (c : Int))).run Tryz.prog W = .ok (.slice (some ⟨W.heap.size, 0, none⟩) 0 c) (W.alloc (.cells (madeCells #[.int .u8 0] c) 5)) := by
  obtain ⟨i, hi, h⟩ := Option.map_eq_some_iff.1 info5
  simp only [Prod.mk.injEq] at h
  have := run_make (P := Tryz.prog) W 26 5 i (.int .u8 0) Tryz.underlying26 hi h.1 .i64 .i64 0 (c : Int) (Int.le_refl _) (by omega) (by rw [h.2.2]; omega) (by omega)
  rw [h.2.1, Nat.mul_one] at this
  exact this
theorem made_size (c : Nat) : (madeCells #[Value.int .u8 0] c).size = c := by simp [madeCells]
set_option maxHeartbeats 4000000 in
theorem copy_calls (A : Option Addr) (c : Nat) (l : List Int) (w : World) (hC : Kd.C (Kd.int .u8) w A l.length l) (hc : l.length ≤ c) (hl : l.length ≤ 140737488355000) :
    Calls Tryz.prog 25 #[.slice A l.length c] w fun e w' => ∃ g, e = .returned (.slice (some ⟨g, 0, none⟩) l.length (l.length + 2)) ∧ w.heap.size ≤ g ∧ At w' g l ∧ Below w.heap.size w w' := by
  have HC := Aside0.mk hC
  obtain ⟨n, hn⟩ : ∃ n, n = l.length := ⟨_, rfl⟩
  have HN := Aside0.mk hn
  have hw : wrap64 ((n : Int) + 2) = (n : Int) + 2 := by unfold wrap64; omega
  have hmk : ∀ W, (Instr.makeSlice 26 (.int .i64 0) (.int .i64 ((n : Int) + 2))).run Tryz.prog W = .ok (.slice (some ⟨W.heap.size, 0, none⟩) 0 (n + 2)) (W.alloc (.cells (madeCells #[.int .u8 0] (n + 2)) 5)) := fun W => make_run (n + 2) (by omega) W
  rw [← hn]
  have hcc : n ≤ c := by omega
  have hl' : n ≤ 140737488355000 := by omega
  clear hC hn hc hl
  go_enter Tryz.func25, Tryz.ntmps25
  obtain ⟨cur0, hcur0⟩ : ∃ x, x = madeCells #[Value.int .u8 0] (n + 2) := ⟨_, rfl⟩
  have hs0 : cur0.size = n + 2 := by rw [hcur0]; exact made_size _
  obtain ⟨cur1, hcur1⟩ : ∃ x, x = (cur0.toList.take 0 ++ nums .u8 l ++ cur0.toList.drop (0 + n)).toArray := ⟨_, rfl⟩
  have hs1 : cur1.size = n + 2 := by rw [hcur1]; simp [nums_length, ← HN.out, hs0]
  have hcur2 : (cur1.toList.take n ++ nums .u8 [165, 90] ++ cur1.toList.drop (n + 2)).toArray = (nums .u8 (l ++ [165, 90])).toArray := by
    have e1 : cur1.toList.take n = nums .u8 l := by
      rw [hcur1]
      show ((cur0.toList.take 0 ++ nums .u8 l ++ cur0.toList.drop (0 + n))).take n = _
      rw [List.take_zero, List.nil_append]
      exact List.take_left' (by rw [nums_length, HN.out])
    have e2 : cur1.toList.drop (n + 2) = [] := List.drop_eq_nil_of_le (by rw [Array.length_toList, hs1]; exact Nat.le_refl _)
    rw [e1, e2, List.append_nil, nums_append]
  rw [← hcur0] at hmk
  obtain ⟨W0, hW0⟩ : ∃ W0, W0 = w.alloc (.cells cur0 5) := ⟨_, rfl⟩
  have hr0 : W0.heap[w.heap.size]? = some (.cells cur0 5 (0, 0)) := by rw [hW0]; exact alloc_at _ _
  have hb0 : Below w.heap.size w W0 := by rw [hW0]; exact below_alloc (Below.refl _ _) _
  obtain ⟨w1, hw1⟩ : ∃ w1, w1 = W0.setRow w.heap.size cur1 := ⟨_, rfl⟩
  have hr1 : w1.heap[w.heap.size]? = some (.cells cur1 5 (0, 0)) := by rw [hw1]; exact setRow_heap _ _ _ _ _ _ hr0
  have hb1 : Below w.heap.size w w1 := by rw [hw1]; exact below_setRow hb0 hb0.size _ _ (Nat.le_refl _)
  obtain ⟨W2, hW2⟩ : ∃ W2, W2 = w1.alloc (.cells #[.int .u8 165, .int .u8 90] 5) := ⟨_, rfl⟩
  have hr2 : W2.heap[w.heap.size]? = some (.cells cur1 5 (0, 0)) := by rw [hW2]; exact blk_alloc hr1 _
  have hb2 : Below w.heap.size w W2 := by rw [hW2]; exact below_alloc hb1 _
  have hC2 : Kd.C (Kd.int .u8) W2 (some ⟨w1.heap.size, 0, none⟩) 2 [165, 90] := by rw [hW2]; exact cellsC (l := [165, 90]) (m := []) (by decide) (alloc_at w1 _)
  have hr3 : (W2.setRow w.heap.size (nums .u8 (l ++ [165, 90])).toArray).heap[w.heap.size]? = some (.cells (nums .u8 (l ++ [165, 90])).toArray 5 (0, 0)) := setRow_heap _ _ _ _ _ _ hr2
  have hb3 : Below w.heap.size w (W2.setRow w.heap.size (nums .u8 (l ++ [165, 90])).toArray) := below_setRow hb2 hb2.size _ _ (Nat.le_refl _)
  have X0 := Aside0.mk hr0
  have X2 := Aside0.mk hr2
  have XC := Aside0.mk hC2
  have X3 := Aside0.mk hr3
  have XB := Aside0.mk hb3
  have XW1 := Aside0.mk hw1
  have XW0 := Aside0.mk hW0
  have XW2 := Aside0.mk hW2
  have Xc1 := Aside0.mk hcur1
  have Xc2 := Aside0.mk hcur2
  have Xs0 := Aside0.mk hs0
  have Xs1 := Aside0.mk hs1
  have XL := Aside0.mk hl'
  obtain ⟨ix, hix, _, hszx, _⟩ := info_parts info5
  have hcut := (print_take_of (P := Tryz.prog) (Value.int .u8) 0 26 5 .i64 Tryz.underlying26 hix hszx (some ⟨w.heap.size, 0, none⟩) (n + 2) (l ++ [165, 90]) (n : Int) (by omega) (by rw [List.length_append, ← HN.out]; simp; omega) (by rw [List.length_append, ← HN.out]; simp)).1
  have hln : ((l ++ [165, 90]).take (n : Int).toNat).length = n := by rw [List.length_take, List.length_append, ← HN.out]; simp
  have hll : (l ++ [165, 90]).length = n + 2 := by rw [List.length_append, ← HN.out]; rfl
  rw [hln, hll] at hcut
  clear hr0 hb0 hr1 hb1 hr2 hb2 hC2 hr3 hb3 hw1 hW0 hW2 hcur0 hcur1 hcur2 hs0 hs1 hl' hln hll hix hszx
  go_wp2_with (first
    | (at_builtin; refine ev_room rfl (.tmp 6) (.tmp 7) 26 26 5 rfl Tryz.underlying26 info5 w.heap.size 0 (n + 2) cur0 ?row (.slice A n c) n (nums .u8 l) rfl rfl ?src ?room ?fit ?_; (case row => (rw [← XW0.out]; exact X0.out)); (case src => (rw [HN.out]; exact srcC Tryz.underlying26 (Kd.C_alloc HC.out _) c)); (case room => omega); (case fit => (rw [Xs0.out]; omega)); intro wz hwz; rw [← XW0.out, ← Xc1.out, ← XW1.out] at hwz; subst hwz)
    | (at_builtin; refine ev_room rfl (.tmp 8) (.tmp 9) 26 26 5 rfl Tryz.underlying26 info5 w.heap.size n (n + 2) cur1 ?row (.slice (some ⟨wz.heap.size, 0, none⟩) 2 2) 2 (nums .u8 [165, 90]) rfl rfl ?src ?room ?fit ?_; (case row => (rw [← XW2.out]; exact X2.out)); (case src => (rw [← XW2.out]; exact srcC (l := [165, 90]) Tryz.underlying26 XC.out 2)); (case room => omega); (case fit => (rw [Xs1.out]; omega)); intro wy hwy; rw [← XW2.out, Xc2.out] at hwy; subst hwy))
  go_ret
  exact ⟨w.heap.size, rfl, Nat.le_refl _, X3.out, XB.out⟩
theorem cut_to (W : World) (A : Option Addr) (n c : Nat) (j : Nat) (hj : j ≤ c) : (Instr.slice 26 (.slice A n c) none (some (.int .i64 (j : Int))) none).run Tryz.prog W = .ok (.slice A j c) W := by
  obtain ⟨i, hi, _, hsz, _⟩ := info_parts info5
  have hel : Tryz.prog.elem 26 = 5 := by simp [Program.elem, Tryz.underlying26]
  have hu : Tryz.prog.underlying 26 = some (.slice (Tryz.prog.elem 26)) := by rw [hel]; exact Tryz.underlying26
  have ha : (A.map fun x => x.add 0) = A := by cases A <;> simp [Addr.add]
  rw [run_slice_h W 26 A n c hu .i64 (j : Int) (by omega) (by omega), hel]
  simp [sizeOf, typeInfo, hi, hsz, sliced, Result.andThen, ha]
set_option maxHeartbeats 4000000 in
theorem kept_calls (g c : Nat) (A : Option Addr) (l : List Int) (w : World) (hA : At w g l) (hC : Kd.C (Kd.int .u8) w A l.length l) (hc : l.length ≤ c) (hl : l.length ≤ 140737488355000) :
    Calls Tryz.prog 42 #[.slice (some ⟨g, 0, none⟩) l.length (l.length + 2), .slice A l.length c] w fun e w' => e = .returned (.bool true) ∧ Drawn0 w w' := by
  have hM := cellsC (l := l) (m := [165, 90]) (by omega) hA
  have hcv1 : ∀ m : Nat, (convert 26 9 (.slice (some ⟨g, 0, none⟩) l.length (l.length + 2))).run Tryz.prog (w.drewN m) = .ok (.string (strOfNums l)) (w.drewN m) := fun m => Kd.C_string (P := Tryz.prog) Tryz.underlying26 Tryz.underlying5 Tryz.underlying9 (Kd.C_drewN hM m)
  have hcv2 : ∀ m : Nat, (convert 26 9 (.slice A l.length c)).run Tryz.prog (w.drewN m) = .ok (.string (strOfNums l)) (w.drewN m) := fun m => Kd.C_string (P := Tryz.prog) Tryz.underlying26 Tryz.underlying5 Tryz.underlying9 (Kd.C_drewN hC m)
  have hcv3 := Kd.C_string (P := Tryz.prog) (c := l.length + 2) Tryz.underlying26 Tryz.underlying5 Tryz.underlying9 hM
  have hcv4 := Kd.C_string (P := Tryz.prog) (c := c) Tryz.underlying26 Tryz.underlying5 Tryz.underlying9 hC
  have hc1 : w.cell? ⟨g, l.length, none⟩ = some (.int .u8 165) := by
    rw [cell_nums hA l.length (by rw [List.length_append]; simp)]; simp
  have hc2 : w.cell? ⟨g, l.length + 1, none⟩ = some (.int .u8 90) := by
    rw [cell_nums hA (l.length + 1) (by rw [List.length_append]; simp)]; simp
  have hcut : ∀ W : World, (Instr.slice 26 (.slice (some ⟨g, 0, none⟩) l.length (l.length + 2)) none (some (.int .i64 ((l.length : Int) + 2))) none).run Tryz.prog W = .ok (.slice (some ⟨g, 0, none⟩) (l.length + 2) (l.length + 2)) W := fun W => cut_to W _ _ _ (l.length + 2) (Nat.le_refl _)
  clear hM hA hC
  generalize strOfNums l = st at *
  generalize l.length = n at *
  have hw : wrap64 ((n : Int) + 2) = (n : Int) + 2 := by unfold wrap64; omega
  have hw1 : wrap64 ((n : Int) + 1) = (n : Int) + 1 := by unfold wrap64; omega
  go_enter Tryz.func42, Tryz.ntmps42
  go_wp2
  go_ret
  exact ⟨by first | rfl | (simp; done), by repeat (first | exact Drawn0.refl _ | apply Drawn0.step)⟩
end Marks
end Go.Proofs.YtfkbmjfhakooiaaGreatDoor.PTree

/- amphoralaw09.mine, walked: a copy with marks. Conditions: as each theorem says. -/
namespace Go.Proofs.YtfkbmjfhakooiaaGreatDoor.TR
open Go.RowKit Go.Proofs.YtfkbmjfhakooiaaGreatDoor.PTree Go.Proofs.YtfkbmjfhakooiaaGreatDoorW.PrintWords Go.Proofs.YtfkbmjfhakooiaaGreatDoorW.PrintLast Go.Proofs.YtfkbmjfhakooiaaGreatDoorW.PrintMore
set_option linter.unusedVariables false
set_option linter.unusedSimpArgs false
/-- Eight cells, as they are. -/
abbrev Raw := {cs : List Value // cs.length = 8 ∧ ∀ q ∈ cs, q.oneCell' = true}
def kRaw : Kd Raw where
  sz := 8
  E := []
  K := fun _ x cs => cs = x.1
  M := fun _ _ _ x cs => cs = x.1
  K_len := fun {_ x _} h => by rw [h]; exact x.2.1
  K_one := fun {_ x _} h => by rw [h]; exact x.2.2
  K_below := fun _ h => h
  K_of_M := fun h => h
  M_mono := fun _ h => h
  M_bound := fun h => h
  M_move := fun _ h => h
  M_lower := fun _ h => h
def encM (x : S28) (g : Nat) : List Value := [.string x.f0, .int .i64 x.f1, .int .i64 x.f2, .int .i64 x.f3, .int .i64 x.f4, .int .i64 x.f5, .string x.f6, .slice (some ⟨g, 0, none⟩) x.f7.length (x.f7.length + 2)]
def rawOf (x : S28) (g : Nat) : Raw := ⟨encM x g, rfl, by simp [encM, Value.oneCell']⟩
def encMark : List Value := [.string ⟨#[109, 97, 114, 107]⟩, .int .i64 0, .int .i64 0, .int .i64 0, .int .i64 0, .int .i64 0, .string ⟨#[]⟩, .slice none 0 0]
def rawMark : Raw := ⟨encMark, rfl, by simp [encMark, Value.oneCell']⟩
/-- Row A, of capacity c, holds l's copies with marks, an entry 'mark' behind. -/
structure MineAt (W : World) (base : Nat) (ga c : Nat) (l : List S28) : Prop where
  cap : l.length + 1 ≤ c
  size : l.length + 1 ≤ 9223372036854775807
  own : base ≤ ga
  blk : ∃ cs, W.heap[ga]? = some (.cells cs 28 (0, 0))
  each : ∀ j x, l[j]? = some x → ∃ g, base ≤ g ∧ Marks.At W g x.f7 ∧ ∀ k u, (encM x g)[k]? = some u → W.cell? ⟨ga, j * 8 + k, none⟩ = some u
  mark : ∀ k u, encMark[k]? = some u → W.cell? ⟨ga, l.length * 8 + k, none⟩ = some u
theorem MineAt.below {W W1 : World} {base ga c : Nat} {l : List S28} (h : MineAt W base ga c l) (hb : Below W.heap.size W W1) : MineAt W1 base ga c l := by
  refine ⟨h.cap, h.size, h.own, ?_, fun j x hx => ?_, fun k u hu => (hb.cell (World.block_lt_of_cell? W _ (h.mark k u hu))).trans (h.mark k u hu)⟩
  · obtain ⟨cs, h1⟩ := h.blk
    exact ⟨cs, blk_below h1 hb⟩
  · obtain ⟨g, g0, g1, g2⟩ := h.each j x hx
    exact ⟨g, g0, g1.below hb, fun k u hu => (hb.cell (World.block_lt_of_cell? W _ (g2 k u hu))).trans (g2 k u hu)⟩
theorem MineAt.reads {W : World} {base ga c : Nat} {l : List S28} (h : MineAt W base ga c l) (hd : ∀ x ∈ l, x.f7.length ≤ 9223372036854775807) : Kd.C k28 W (some ⟨ga, 0, none⟩) l.length l := by
  refine ⟨rfl, by have := h.size; omega, fun _ => ⟨_, rfl, fun j x hx => ?_⟩⟩
  obtain ⟨g, _, g1, g2⟩ := h.each j x hx
  refine ⟨encM x g, rfl, k28_mkK W x (some ⟨g, 0, none⟩) _ (by omega) (Marks.cellsC (hd x (List.mem_of_getElem? hx)) g1), fun k u hu => ?_⟩
  rw [add_plain]
  exact g2 k u hu
theorem cut22 (W : World) (A : Option Addr) (n c j : Nat) (hj : j ≤ c) : (Instr.slice 22 (.slice A n c) none (some (.int .i64 (j : Int))) none).run Tryz.prog W = .ok (.slice A j c) W := by
  obtain ⟨i, hi, _, hsz, _⟩ := info_parts info28
  have hel : Tryz.prog.elem 22 = 28 := by simp [Program.elem, Tryz.underlying22]
  have hu : Tryz.prog.underlying 22 = some (.slice (Tryz.prog.elem 22)) := by rw [hel]; exact Tryz.underlying22
  have ha : (A.map fun x => x.add 0) = A := by cases A <;> simp [Addr.add]
  rw [run_slice_h W 22 A n c hu .i64 (j : Int) (by omega) (by omega), hel]
  simp [sizeOf, typeInfo, hi, hsz, sliced, Result.andThen, ha]
theorem make22 (n : Nat) (hn : n * 96 ≤ 281474976710656) (W : World) : ∃ cs : Array Value, cs.size = n * 8 ∧ (Instr.makeSlice 22 (.int .i64 0) (.int .i64 (n : Int))).run Tryz.prog W = .ok (.slice (some ⟨W.heap.size, 0, none⟩) 0 n) (W.alloc (.cells cs 28)) := by
  obtain ⟨i, hi, h⟩ := Option.map_eq_some_iff.1 info28
  simp only [Prod.mk.injEq] at h
  have := run_make (P := Tryz.prog) W 22 28 i _ Tryz.underlying22 hi h.1 .i64 .i64 0 (n : Int) (Int.le_refl _) (by omega) (by rw [h.2.2]; omega) (by omega)
  rw [h.2.1] at this
  exact ⟨_, size_madeCells _ _, this⟩
set_option maxHeartbeats 8000000 in
set_option maxRecDepth 100000 in
theorem mine_calls (l0 : List S28) (A0 : Option Addr) (k0 : Nat) (w : World) (h0 : Kd.C k28 w A0 l0.length l0) (hn : l0.length * 96 ≤ 140737488355000) (hd : ∀ x ∈ l0, x.f7.length ≤ 140737488355000) :
    Calls Tryz.prog 7 #[.slice A0 l0.length k0] w fun e w' => ∃ ga c, e = .returned (.slice (some ⟨ga, 0, none⟩) l0.length c) ∧ MineAt w' w.heap.size ga c l0 ∧ Below w.heap.size w w' := by
  have hu31 := Tryz.underlying28
  have H0 := Aside0.mk h0
  have HN := Aside0.mk hn
  have HDD := Aside0.mk hd
  obtain ⟨cs0, hcs, hmk⟩ := make22 (l0.length + 1) (by omega) w
  have hw1 : wrap64 ((l0.length : Int) + 1) = (l0.length : Int) + 1 := by unfold wrap64; omega
  rw [show ((l0.length + 1 : Nat) : Int) = (l0.length : Int) + 1 by omega] at hmk
  clear h0 hn hd
  obtain ⟨w1, hw⟩ : ∃ w1, w1 = w.alloc (.cells cs0 28) := ⟨_, rfl⟩
  have HB := Aside0.mk (show Below w.heap.size w w1 by rw [hw]; exact below_alloc (Below.refl _ _) _)
  have HO := Aside0.mk (show Kd.R kRaw 28 w1 w.heap.size (fun _ => True) (.slice (some ⟨w.heap.size, 0, none⟩) 0 (l0.length + 1)) [] from ⟨fun _ _ => trivial, [], by rw [hw]; exact World.ownsRow_made w cs0 (l0.length + 1) (Nat.le_refl _) (by unfold maxLen; have := HN.out; omega) hcs, rfl, fun j p hj => by cases hj⟩)
  rw [← hw] at hmk
  clear hw hcs
  go_enter Tryz.func7, Tryz.ntmps7
  go_wp2
  clear hmk hw1
  generalize (.slice (some ⟨w.heap.size, 0, none⟩) 0 (l0.length + 1) : Value) = v30 at HO ⊢
  go_loopg [3, 12] (l0.length + 1) (fun kq v3 v12 w' => ∃ (i : Int) (rs : List Raw), v12 = .int .i64 i ∧ Aside0 (0 ≤ i ∧ i ≤ (l0.length : Int) ∧ (kq : Int) = (l0.length : Int) + 1 - i) ∧ Aside0 ((rs.length : Int) = i) ∧ Aside0 (Kd.R kRaw 28 w' w.heap.size (fun _ => True) v3 rs) ∧ Aside0 (∀ (j : Nat) (r : Raw), rs[j]? = some r → ∃ g, w.heap.size ≤ g ∧ Marks.At w' g (rd_T28 l0 (j : Int)).f7 ∧ r.1 = encM (rd_T28 l0 (j : Int)) g) ∧ Aside0 (Below w.heap.size w w'))
  case atStart => exact ⟨0, [], rfl, ⟨by omega, by omega, by omega⟩, ⟨rfl⟩, HO, ⟨fun j r hj => by cases hj⟩, HB⟩
  case round =>
    clear HB HO
    obtain ⟨i, rs, rfl, HI, HL, HO, HE, HB⟩ := hrel
    cases gk with
    | zero => exact absurd HI.out (fun h => by omega)
    | succ k1 =>
      by_cases c2 : i < (l0.length : Int)
      · have C2 := Aside0.mk c2
        obtain ⟨ad, A7, c7, eA, x0, x1, x2, x3, x4, x5, x6, x7, hl7, hi7⟩ := at_T28 H0.out i HI.out.1 c2
        subst eA
        have HL7 := Aside0.mk hl7
        have HI7 := Aside0.mk (Kd.C_below hi7 HB.out)
        have HS7 := Aside0.mk (HDD.out (rd_T28 l0 i) (by
          unfold rd_T28
          have h2 : i.toNat < l0.length := by have := C2.out; have := HI.out.1; omega
          rw [List.getD_eq_getElem?_getD, List.getElem?_eq_getElem h2]
          exact List.getElem_mem h2))
        clear hl7 hi7
        replace x0 := (HB.out.cell (World.block_lt_of_cell? w _ x0)).trans x0
        replace x1 := (HB.out.cell (World.block_lt_of_cell? w _ x1)).trans x1
        replace x2 := (HB.out.cell (World.block_lt_of_cell? w _ x2)).trans x2
        replace x3 := (HB.out.cell (World.block_lt_of_cell? w _ x3)).trans x3
        replace x4 := (HB.out.cell (World.block_lt_of_cell? w _ x4)).trans x4
        replace x5 := (HB.out.cell (World.block_lt_of_cell? w _ x5)).trans x5
        replace x6 := (HB.out.cell (World.block_lt_of_cell? w _ x6)).trans x6
        replace x7 := (HB.out.cell (World.block_lt_of_cell? w _ x7)).trans x7
        have hi0 := HI.out.1
        have p210 := eq_true hi0
        have q210 := eq_true c2
        clear hi0
        have HZ := Aside0.mk (Below.refl wr.heap.size wr)
        go_upto_region 6 with (first | ((with_reducible refine gate_dst (N := 5) rfl ?_); refine box_event ?hg (N := 5) ?hd (cs := #[.string (⟨#[]⟩ : ByteArray), .int .i64 0, .int .i64 0, .int .i64 0, .int .i64 0, .int .i64 0, .string (⟨#[]⟩ : ByteArray), .slice none 0 0]) (t := 28) ?hr ?_; (case hd => rfl); (case hg => rfl); (case hr => first | (go_simp; done) | (go_simp; rfl)); intro g5 hg w5 hbox hb; have HZ5 := Aside0.mk (below_step HZ.out hb); have K5 := Aside0.mk hbox; have G5 := Aside0.mk (show wr.heap.size ≤ g5 by rw [hg]; exact below_size HZ.out); clear hb hbox hg) | ((with_reducible refine gate_store (t := 28) (p := 5) (v := .tmp 15) rfl ?_); refine ev_set31 _ rfl (.tmp 5) (.tmp 15) rfl rfl g5 _ _ _ _ _ _ _ _ (rd_T28 l0 i).f0 (rd_T28 l0 i).f6 (rd_T28 l0 i).f1 (rd_T28 l0 i).f2 (rd_T28 l0 i).f3 (rd_T28 l0 i).f4 (rd_T28 l0 i).f5 A7 (rd_T28 l0 i).f7.length c7 rfl rfl K5.out (fun w6 b1 b2 => ?_); have HZ6 := Aside0.mk (below_row_ HZ5.out b2 G5.out); have K6 := Aside0.mk b1; have y0 : w6.cell? ⟨g5, 0, none⟩ = some (.string (rd_T28 l0 i).f0) := blk_cell b1 0; have y1 : w6.cell? ⟨g5, 1, none⟩ = some (.int .i64 (rd_T28 l0 i).f1) := blk_cell b1 1; have y2 : w6.cell? ⟨g5, 2, none⟩ = some (.int .i64 (rd_T28 l0 i).f2) := blk_cell b1 2; have y3 : w6.cell? ⟨g5, 3, none⟩ = some (.int .i64 (rd_T28 l0 i).f3) := blk_cell b1 3; have y4 : w6.cell? ⟨g5, 4, none⟩ = some (.int .i64 (rd_T28 l0 i).f4) := blk_cell b1 4; have y5 : w6.cell? ⟨g5, 5, none⟩ = some (.int .i64 (rd_T28 l0 i).f5) := blk_cell b1 5; have y6 : w6.cell? ⟨g5, 6, none⟩ = some (.string (rd_T28 l0 i).f6) := blk_cell b1 6; have y7 : w6.cell? ⟨g5, 7, none⟩ = some (.slice A7 (rd_T28 l0 i).f7.length c7) := blk_cell b1 7; clear b1 b2) | (go_at_call 25; refine (Marks.copy_calls A7 c7 (rd_T28 l0 i).f7 _ (Kd.C_below HI7.out HZ6.out) HL7.out HS7.out).mono ?_; rintro e w7 ⟨gd, rfl, hgd, hat, hb⟩; have HZ7 := Aside0.mk (below_step HZ6.out hb); have K7 := Aside0.mk (blk_below K6.out hb); have HAT := Aside0.mk hat; have HGD := Aside0.mk (show wr.heap.size ≤ gd by have := below_size HZ6.out; omega); clear hgd hat hb y0 y1 y2 y3 y4 y5 y6 y7; have f7 := blk_frozen K7.out 7; have z7 := blk_cell K7.out 7))
        clear z7 f7
        have K8n := Aside0.mk (show (w7.setCell ⟨g5, 7, none⟩ (.slice (some ⟨gd, 0, none⟩) (rd_T28 l0 i).f7.length ((rd_T28 l0 i).f7.length + 2))).heap[g5]? = some (.cells #[.string (rd_T28 l0 i).f0, .int .i64 (rd_T28 l0 i).f1, .int .i64 (rd_T28 l0 i).f2, .int .i64 (rd_T28 l0 i).f3, .int .i64 (rd_T28 l0 i).f4, .int .i64 (rd_T28 l0 i).f5, .string (rd_T28 l0 i).f6, .slice (some ⟨gd, 0, none⟩) (rd_T28 l0 i).f7.length ((rd_T28 l0 i).f7.length + 2)] 28 (0, 0)) from blk_set K7.out 7 _)
        have HZ8 := Aside0.mk (show Below wr.heap.size wr (w7.setCell ⟨g5, 7, none⟩ (.slice (some ⟨gd, 0, none⟩) (rd_T28 l0 i).f7.length ((rd_T28 l0 i).f7.length + 2))) from below_set HZ7.out G5.out)
        have HA8 := Aside0.mk (show Marks.At (w7.setCell ⟨g5, 7, none⟩ (.slice (some ⟨gd, 0, none⟩) (rd_T28 l0 i).f7.length ((rd_T28 l0 i).f7.length + 2))) gd (rd_T28 l0 i).f7 from (Below.heap_setCell _ _ _ _ (fun e => by
          have h1 : w7.heap[gd]? = some _ := HAT.out
          have h2 := K7.out
          rw [e] at h1
          rw [show (⟨g5, 7, none⟩ : Addr).block = g5 from rfl, h2] at h1
          injection h1 with h1
          injection h1 with _ h1
          exact absurd h1 (by decide))).trans HAT.out)
        clear HAT K7 HZ7
        generalize w7.setCell ⟨g5, 7, none⟩ (.slice (some ⟨gd, 0, none⟩) (rd_T28 l0 i).f7.length ((rd_T28 l0 i).f7.length + 2)) = w8 at K8n HZ8 HA8 ⊢
        have y0 : w8.cell? ⟨g5, 0, none⟩ = some (.string (rd_T28 l0 i).f0) := blk_cell K8n.out 0; have y1 : w8.cell? ⟨g5, 1, none⟩ = some (.int .i64 (rd_T28 l0 i).f1) := blk_cell K8n.out 1; have y2 : w8.cell? ⟨g5, 2, none⟩ = some (.int .i64 (rd_T28 l0 i).f2) := blk_cell K8n.out 2; have y3 : w8.cell? ⟨g5, 3, none⟩ = some (.int .i64 (rd_T28 l0 i).f3) := blk_cell K8n.out 3; have y4 : w8.cell? ⟨g5, 4, none⟩ = some (.int .i64 (rd_T28 l0 i).f4) := blk_cell K8n.out 4; have y5 : w8.cell? ⟨g5, 5, none⟩ = some (.int .i64 (rd_T28 l0 i).f5) := blk_cell K8n.out 5; have y6 : w8.cell? ⟨g5, 6, none⟩ = some (.string (rd_T28 l0 i).f6) := blk_cell K8n.out 6; have y7 : w8.cell? ⟨g5, 7, none⟩ = some (.slice (some ⟨gd, 0, none⟩) (rd_T28 l0 i).f7.length ((rd_T28 l0 i).f7.length + 2)) := blk_cell K8n.out 7
        go_wp2_with ((with_reducible refine gate_builtin (b := .append) (xs := #[.tmp 20, .tmp 22]) rfl ?_); at_builtin; go_loud (refine Kd.R_append kRaw (w0 := w) w.heap.size rfl (.tmp 20) (.tmp 22) 22 28 (.agg #[.string (⟨#[]⟩ : ByteArray), .int .i64 0, .int .i64 0, .int .i64 0, .int .i64 0, .int .i64 0, .string (⟨#[]⟩ : ByteArray), .slice none 0 0]) 96 rfl Tryz.underlying22 info28 rfl (by decide) (by omega) u3 rs (rawOf (rd_T28 l0 i) gd) [.string (rd_T28 l0 i).f0, .int .i64 (rd_T28 l0 i).f1, .int .i64 (rd_T28 l0 i).f2, .int .i64 (rd_T28 l0 i).f3, .int .i64 (rd_T28 l0 i).f4, .int .i64 (rd_T28 l0 i).f5, .string (rd_T28 l0 i).f6, .slice (some ⟨gd, 0, none⟩) (rd_T28 l0 i).f7.length ((rd_T28 l0 i).f7.length + 2)] (fun _ => True) (fun _ => False) rfl rfl ?aP (fun k_ hk_ => hk_.elim) (fun _ _ => trivial) ?aO ?aB ?aS ?aL ?_); (case aP => exact rfl); (case aO => exact Kd.R_below HO.out HZ8.out); (case aB => exact below_step HB.out HZ8.out); (case aS => exact below_size (below_step HB.out HZ8.out)); (case aL => have h1 := HN.out; have h2 := HL.out; have h3 := C2.out; have h4 := HI.out; omega); intro v11 w11 ho hb hg hat; have HO11 := Aside0.mk ho; have HB11 := Aside0.mk hb; have HG11 := Aside0.mk hg; clear ho hb hg hat)
        go_roundg k1
        case measure => omega
        case rel =>
          refine ⟨i + 1, rs ++ [rawOf (rd_T28 l0 i) gd], by rw [wr_in _ (by have h1 := HI.out; have h2 := HN.out; have h3 := C2.out; omega)], ⟨by have := HI.out; have := C2.out; omega⟩, ⟨by have := HL.out; rw [List.length_append, List.length_singleton]; omega⟩, HO11, ⟨fun j r hj => ?_⟩, HB11⟩
          have hat : ∀ {g : Nat} {d : List Int}, Marks.At w8 g d → Marks.At w11 g d := fun {g d} h => by
            refine (HG11.out.block g (blk_lt h) (fun e => ?_)).trans h
            obtain ⟨cs, hc⟩ := Kd.R_typed (Kd.R_below HO.out HZ8.out) g e.symm
            have h1 : w8.heap[g]? = some _ := h
            rw [hc] at h1
            injection h1 with h1
            injection h1 with _ h1
            exact absurd h1 (by decide)
          by_cases hjl : j < rs.length
          · rw [List.getElem?_append_left hjl] at hj
            obtain ⟨g, g0, g1, g2⟩ := HE.out j r hj
            exact ⟨g, g0, hat (g1.below HZ8.out), g2⟩
          · have hj2 : j = rs.length := by
              have := (List.getElem?_eq_some_iff.1 hj).1
              rw [List.length_append, List.length_singleton] at this
              omega
            subst hj2
            rw [List.getElem?_append_right (Nat.le_refl _), Nat.sub_self] at hj
            obtain rfl := Option.some.inj hj
            have he : ((rs.length : Nat) : Int) = i := HL.out
            rw [he]
            exact ⟨gd, by have := HGD.out; have := below_size HB.out; omega, hat HA8.out, rfl⟩
      · have hil : rs.length = l0.length := by have := HI.out; have := HL.out; omega
        have HIL := Aside0.mk hil
        clear hil
        go_wp2_with ((with_reducible refine gate_builtin (b := .append) (xs := #[.tmp 25, .tmp 27]) rfl ?_); at_builtin; refine Kd.R_append kRaw (w0 := w) w.heap.size rfl (.tmp 25) (.tmp 27) 22 28 (.agg #[.string (⟨#[]⟩ : ByteArray), .int .i64 0, .int .i64 0, .int .i64 0, .int .i64 0, .int .i64 0, .string (⟨#[]⟩ : ByteArray), .slice none 0 0]) 96 rfl Tryz.underlying22 info28 rfl (by decide) (by omega) u3 rs rawMark encMark (fun _ => True) (fun _ => False) rfl rfl ?aP (fun k_ hk_ => hk_.elim) (fun _ _ => trivial) ?aO ?aB ?aS ?aL ?_; (case aP => exact rfl); (case aO => exact HO.out); (case aB => exact HB.out); (case aS => exact below_size HB.out); (case aL => have h1 := HN.out; have h2 := HL.out; have h4 := HI.out; omega); intro v11 w11 ho hb hg hat; have HO11 := Aside0.mk ho; have HB11 := Aside0.mk hb; have HG11 := Aside0.mk hg; obtain ⟨Ax, cx, ex⟩ := Kd.R_slice ho; subst ex; have hcut := cut22 w11 Ax (rs.length + 1) cx l0.length (by have h1 := (Kd.R_reads' ho).2.1; rw [List.length_append, List.length_singleton, HIL.out] at h1; omega); clear ho hb hg hat)
        go_ret
        obtain ⟨ga, eg⟩ : ∃ ga, Ax = some ⟨ga, 0, none⟩ := by
          obtain ⟨_, inner, hown, _⟩ := HO11.out
          rcases hown.2 with ⟨hv, _⟩ | ⟨g', cap', cur, hv, _⟩
          · injection hv with _ h2 _
            rw [List.length_append, List.length_singleton] at h2
            omega
          · injection hv with ha _ _
            exact ⟨g', ha⟩
        subst eg
        obtain ⟨_, r2, r3⟩ := Kd.R_reads' HO11.out
        have hln : (rs ++ [rawMark]).length = l0.length + 1 := by rw [List.length_append, List.length_singleton, HIL.out]
        have hat : ∀ {g : Nat} {d : List Int}, Marks.At wr g d → Marks.At w11 g d := fun {g d} h => by
          refine (HG11.out.block g (blk_lt h) (fun e => ?_)).trans h
          obtain ⟨cs, hc⟩ := Kd.R_typed HO.out g e.symm
          have h1 : wr.heap[g]? = some _ := h
          rw [hc] at h1
          injection h1 with h1
          injection h1 with _ h1
          exact absurd h1 (by decide)
        have hcell : ∀ (j : Nat) (r : Raw), (rs ++ [rawMark])[j]? = some r → ∀ k u, r.1[k]? = some u → w11.cell? ⟨ga, j * 8 + k, none⟩ = some u := fun j r hj k u hu => by
          obtain ⟨ad, ead, hx⟩ := r3.2.2 (by omega)
          injection ead with ead
          subst ead
          obtain ⟨cs, _, hk, hc⟩ := hx j r hj
          have hk2 : cs = r.1 := hk
          rw [← hk2] at hu
          have h5 := hc k u hu
          rw [add_plain] at h5
          exact h5
        refine ⟨ga, cx, by simp, ⟨by omega, by have := r3.2.1; omega, Kd.R_base HO11.out ga (by simp [Value.ownBlock]), Kd.R_typed HO11.out ga (by simp [Value.ownBlock]), fun j x hx => ?_, fun k u hu => ?_⟩, HB11.out⟩
        · have hj := (List.getElem?_eq_some_iff.1 hx).1
          have hjr : j < rs.length := by have := HIL.out; omega
          obtain ⟨g, g0, g1, g2⟩ := HE.out j _ (List.getElem?_eq_getElem hjr)
          have e1 : rd_T28 l0 (j : Int) = x := by
            unfold rd_T28
            rw [Int.toNat_natCast, List.getD_eq_getElem?_getD, hx]
            rfl
          rw [e1] at g1 g2
          refine ⟨g, g0, hat g1, fun k u hu => hcell j rs[j] ?_ k u (by rw [g2]; exact hu)⟩
          rw [List.getElem?_append_left hjr, List.getElem?_eq_getElem hjr]
        · refine hcell l0.length rawMark ?_ k u hu
          rw [List.getElem?_append_right (by have := HIL.out; omega), HIL.out, Nat.sub_self]
          rfl
end Go.Proofs.YtfkbmjfhakooiaaGreatDoor.TR

/- amphoralaw09.kept, walked. Conditions: as each theorem says. -/
namespace Go.Proofs.YtfkbmjfhakooiaaGreatDoor.TR
open Go.RowKit Go.Proofs.YtfkbmjfhakooiaaGreatDoor.PTree Go.Proofs.YtfkbmjfhakooiaaGreatDoorW.PrintWords Go.Proofs.YtfkbmjfhakooiaaGreatDoorW.PrintLast Go.Proofs.YtfkbmjfhakooiaaGreatDoorW.PrintMore
set_option linter.unusedVariables false
set_option linter.unusedSimpArgs false
theorem below_drawn {w w1 w2 : World} (h : Below w.heap.size w w1) (hd : Drawn0 w1 w2) : Below w.heap.size w w2 := by
  obtain ⟨n, e⟩ := hd.out
  subst e
  exact below_step h (pw_below_drewN (Below.refl _ _) n)
set_option maxHeartbeats 8000000 in
set_option maxRecDepth 100000 in
theorem kept_all (K : Nat) (l0 : List S28) (ga c base : Nat) (A0 : Option Addr) (k0 : Nat) (w : World) (hGl : Gl w) (hM : MineAt w base ga c l0) (h0 : Kd.C k28 w A0 l0.length l0) (hc0 : l0.length ≤ k0) (hd : ∀ x ∈ l0, x.f7.length ≤ 140737488355000) (hsm : amphoraref09_Same.f K l0 l0 = some true) :
    Calls Tryz.prog 22 #[.slice (some ⟨ga, 0, none⟩) l0.length c, .slice A0 l0.length k0] w fun e w' => e = .returned (.bool true) ∧ Below w.heap.size w w' := by
  have hu31 := Tryz.underlying28
  have HM := Aside0.mk hM
  have H0 := Aside0.mk h0
  have HC0 := Aside0.mk hc0
  have HDD := Aside0.mk hd
  have HD9 := Aside0.mk (fun x (hx : x ∈ l0) => show (x : S28).f7.length ≤ 9223372036854775807 by have := hd x hx; omega)
  have HSM := Aside0.mk hsm
  have HGL := Aside0.mk hGl
  have HN := Aside0.mk (show l0.length + 1 ≤ 9223372036854775807 from hM.size)
  have HMK := Aside0.mk (show w.cell? ⟨ga, l0.length * 8, none⟩ = some (.string ⟨#[109, 97, 114, 107]⟩) from hM.mark 0 _ rfl)
  have hw1 : wrap64 ((l0.length : Int) + 1) = (l0.length : Int) + 1 := by unfold wrap64; have := hM.size; omega
  have hcut : ∀ W, (Instr.slice 22 (.slice (some ⟨ga, 0, none⟩) l0.length c) none (some (.int .i64 ((l0.length : Int) + 1))) none).run Tryz.prog W = .ok (.slice (some ⟨ga, 0, none⟩) (l0.length + 1) c) W := fun W => cut22 W _ l0.length c (l0.length + 1) hM.cap
  have hap := add_plain ga (l0.length * 8)
  clear hM h0 hc0 hd hsm hGl
  go_enter Tryz.func22, Tryz.ntmps22
  go_upto_region 3 with (first | (go_at_call 18; refine (amphoraref09_Same.calls K (some ⟨ga, 0, none⟩) c l0 A0 k0 l0 true _ (HM.out.reads HD9.out) (by have := HM.out.cap; omega) H0.out HC0.out HGL.out HSM.out).mono ?_; rintro e w1 ⟨rfl, hb⟩; have HB := Aside0.mk hb; have hmk := (hb.cell (World.block_lt_of_cell? w _ HMK.out)).trans HMK.out; clear hb))
  clear hw1 hcut hap hmk
  go_wp2
  go_loopg [25] (l0.length + 1) (fun kq v25 w' => ∃ (i : Int), v25 = .int .i64 i ∧ Aside0 (0 ≤ i ∧ i ≤ (l0.length : Int) ∧ (kq : Int) = (l0.length : Int) + 1 - i) ∧ Aside0 (Below w.heap.size w w'))
  case atStart => exact ⟨0, rfl, ⟨by omega, by omega, by omega⟩, HB⟩
  case round =>
    clear HB
    obtain ⟨i, rfl, HI, HB⟩ := hrel
    cases gk with
    | zero => exact absurd HI.out (fun h => by omega)
    | succ k1 =>
      by_cases c2 : i < (l0.length : Int)
      · have C2 := Aside0.mk c2
        obtain ⟨ad, A7, c7, eA, x0, x1, x2, x3, x4, x5, x6, x7, hl7, hi7⟩ := at_T28 H0.out i HI.out.1 c2
        subst eA
        have hin : i.toNat < l0.length := by have := HI.out.1; omega
        have hrd : l0[i.toNat]? = some (rd_T28 l0 i) := by
          rw [List.getElem?_eq_getElem hin]
          unfold rd_T28
          rw [List.getD_eq_getElem?_getD, List.getElem?_eq_getElem hin]
          rfl
        obtain ⟨g, _, hat, hce⟩ := HM.out.each i.toNat _ hrd
        have m7 : w.cell? ⟨ga, i.toNat * 8 + 7, none⟩ = some (.slice (some ⟨g, 0, none⟩) (rd_T28 l0 i).f7.length ((rd_T28 l0 i).f7.length + 2)) := hce 7 _ rfl
        have HAT := Aside0.mk (hat.below HB.out)
        have HL7 := Aside0.mk hl7
        have HI7 := Aside0.mk (Kd.C_below hi7 HB.out)
        have HS7 := Aside0.mk (HDD.out _ (List.mem_of_getElem? hrd))
        replace m7 := (HB.out.cell (World.block_lt_of_cell? w _ m7)).trans m7
        replace x7 := (HB.out.cell (World.block_lt_of_cell? w _ x7)).trans x7
        clear hl7 hi7 hat hce hin hrd x0 x1 x2 x3 x4 x5 x6
        have hi0 := HI.out.1
        have p210 := eq_true hi0
        have q210 := eq_true c2
        have hap := add_plain ga (i.toNat * 8)
        clear hi0
        go_upto_region 6 with (fail)
        go_region_with (go_at_call 42; refine (Marks.kept_calls g c7 A7 (rd_T28 l0 i).f7 _ (HAT.out.below (below_drew1 (Below.refl _ _))) (Kd.C_below HI7.out (below_drew1 (Below.refl _ _))) HL7.out HS7.out).mono ?_; rintro e w2 ⟨rfl, hdr⟩)
        all_goals go_wp2
        all_goals
          go_roundg k1
          case measure => omega
          case rel => exact ⟨i + 1, by rw [wr_in _ (by have h1 := HI.out; have h2 := HN.out; have h3 := C2.out; omega)], ⟨by have := HI.out; have := C2.out; omega⟩, ⟨below_drawn (below_drew1 HB.out) hdr⟩⟩
      · go_wp2
        go_ret
        exact ⟨rfl, HB.out⟩
end Go.Proofs.YtfkbmjfhakooiaaGreatDoor.TR

/- tree.Check answers of any entries of bounded sizes. Conditions: as each theorem says. -/
namespace Go.Proofs.YtfkbmjfhakooiaaGreatDoor.TR
open Go.RowKit Go.Proofs.YtfkbmjfhakooiaaGreatDoor.PTree Go.Proofs.YtfkbmjfhakooiaaGreatDoorW.PrintWords Go.Proofs.YtfkbmjfhakooiaaGreatDoorW.PrintLast Go.Proofs.YtfkbmjfhakooiaaGreatDoorW.PrintMore
set_option linter.unusedVariables false
set_option linter.unusedSimpArgs false
/-- Is an entry good, its path aside? -/
def fieldsB (kd md u g t : Int) (ln : ByteArray) (d : List Int) : Bool := (if md < 0 then false else (if md > 4095 then false else (if metaB u (0) = true then (if metaB g (0) = true then (if metaB t (-1099511627776) = true then (if kd = 1 then (if ln.toList = ([] : List UInt8) then (if (d.length : Int) = 0 then true else false) else false) else (if kd = 2 then (if ln.toList = ([] : List UInt8) then (if (d.length : Int) ≤ 65536 then true else false) else false) else (if kd = 3 then (if decide (PM.TextP ln 400) = true then (if (d.length : Int) = 0 then true else false) else false) else (if kd = 4 then (if decide (PM.GoodP ln) = true then (if (d.length : Int) = 0 then (if md = 0 then (if u = 0 then (if g = 0 then (if t = 0 then true else false) else false) else false) else false) else false) else false) else false)))) else false) else false) else false)))
theorem fields_f (K : Nat) (hK : 500 ≤ K) (p : ByteArray) (kd md u g t : Int) (ln : ByteArray) (d : List Int) (hl : ln.size ≤ 9223372036854775807) : tree_goodFields.f K p kd md u g t ln d = some (fieldsB kd md u g t ln d) := by
  unfold tree_goodFields.f fieldsB
  rw [PM.text_f ln 400 hl, PM.good_f ln K hK]
  simp only [apply_ite (some : Bool → Option Bool), Option.bind_some]
theorem parentB_size (s : ByteArray) : (PM.parentB s).1.size ≤ 1000000000000 := by
  unfold PM.parentB
  split
  · rename_i h
    have hj := PM.dl_good h.1 h.2
    have h1 := PM.joinB_size hj.1
    have h2 := hj.2.2
    show (PM.joinB (pieces s).dropLast).size ≤ 1000000000000
    omega
  · decide
theorem check_l (K B : Nat) (l : List S28) (hB : B ≤ 1000000) (hK : 2 * B + 600 ≤ K) (hl : ∀ x ∈ l, x.f0.size ≤ B ∧ fits x = true) : ∀ (k : Nat) (i : Int) (M : ByteArray → Int) (last : ByteArray) (size : Int), 0 ≤ i → i ≤ (l.length : Int) → (l.length : Int) - i + 1 ≤ k → last.size ≤ B → 0 ≤ size → size ≤ 1048576 → ∃ r, tree_Check.l0 K l k i M last size = some r
  | 0, i, M, last, size, h0, hi, h1, _, _, _ => by omega
  | k + 1, i, M, last, size, h0, hi, h1, h2, h3, h4 => by
    unfold tree_Check.l0
    by_cases c1 : i < (l.length : Int)
    · have hm : rd_T28 l i ∈ l := by
        unfold rd_T28
        have h2 : i.toNat < l.length := by omega
        rw [List.getD_eq_getElem?_getD, List.getElem?_eq_getElem h2]
        exact List.getElem_mem h2
      obtain ⟨q1, q2⟩ := hl _ hm
      have q3 := q2
      simp only [fits, Bool.and_eq_true, decide_eq_true_eq] at q3
      rw [if_pos c1, PM.good_f _ K (by omega), Option.bind_some, fields_f K (by omega) _ _ _ _ _ _ _ _ (by omega), Option.bind_some, PM.cmp_f _ _ K (by omega) (by omega) (by omega), Option.bind_some, PM.parent_f _ K (by omega) (by omega), Option.bind_some, if_pos ⟨q2, parentB_size _, h3, h4⟩]
      cases hR : entryR (decide (PM.GoodP (rd_T28 l i).f0)) (fieldsB (rd_T28 l i).f1 (rd_T28 l i).f2 (rd_T28 l i).f3 (rd_T28 l i).f4 (rd_T28 l i).f5 (rd_T28 l i).f6 (rd_T28 l i).f7) (i.toNat != 0) (PM.cQ last (rd_T28 l i).f0) (PM.parentB (rd_T28 l i).f0).2 (M (PM.parentB (rd_T28 l i).f0).1) (rd_T28 l i).f1 (M (rd_T28 l i).f6) size ((rd_T28 l i).f7.length : Int) with
      | some c => exact ⟨_, rfl⟩
      | none =>
        refine check_l K B l hB hK hl k (i + 1) _ _ _ (by omega) (by omega) (by omega) q1 (by omega) ?_
        unfold entryR at hR
        repeat' (split at hR)
        all_goals first | (cases hR; done) | omega
    · rw [if_neg c1]
      exact ⟨_, rfl⟩
theorem check_total (K B : Nat) (l : List S28) (hB : B ≤ 1000000) (hK : 2 * B + 600 ≤ K) (hl : ∀ x ∈ l, x.f0.size ≤ B ∧ fits x = true) : ∃ r, tree_Check.f K l = some r := by
  unfold tree_Check.f
  by_cases c : (l.length : Int) > 200
  · rw [if_pos c]
    exact ⟨_, rfl⟩
  · rw [if_neg c]
    exact check_l K B l hB hK hl (l.length + 1) 0 _ _ 0 (by omega) (by omega) (by omega) (Nat.zero_le _) (by omega) (by omega)
end Go.Proofs.YtfkbmjfhakooiaaGreatDoor.TR

/- What a list that passes tree.Check is. Conditions: as each theorem says. -/
namespace Go.Proofs.YtfkbmjfhakooiaaGreatDoor.TR
open Go.RowKit Go.Proofs.YtfkbmjfhakooiaaGreatDoor.PTree Go.Proofs.YtfkbmjfhakooiaaGreatDoorW.PrintWords Go.Proofs.YtfkbmjfhakooiaaGreatDoorW.PrintLast Go.Proofs.YtfkbmjfhakooiaaGreatDoorW.PrintMore
set_option linter.unusedVariables false
set_option linter.unusedSimpArgs false
def fieldsE (e : S28) : Bool := fieldsB e.f1 e.f2 e.f3 e.f4 e.f5 e.f6 e.f7
/-- Entry j of a tree. -/
def OkAt (l : List S28) (j : Int) : Prop := PM.GoodP (rd_T28 l j).f0 ∧ fieldsE (rd_T28 l j) = true ∧ (0 < j → PM.cQ (rd_T28 l (j - 1)).f0 (rd_T28 l j).f0 < 0) ∧ ((PM.parentB (rd_T28 l j).f0).2 = true → ∃ m, 0 ≤ m ∧ m < j ∧ (rd_T28 l m).f0 = (PM.parentB (rd_T28 l j).f0).1 ∧ (rd_T28 l m).f1 = 1)
theorem ok_l (K B : Nat) (l : List S28) (hB : B ≤ 1000000) (hK : 2 * B + 600 ≤ K) (hl : ∀ x ∈ l, x.f0.size ≤ B ∧ fits x = true) : ∀ (k : Nat) (i : Int) (M : ByteArray → Int) (last : ByteArray) (size : Int), 0 ≤ i → last.size ≤ B → (0 < i → last = (rd_T28 l (i - 1)).f0) → (∀ s, M s ≠ 0 → ∃ m, 0 ≤ m ∧ m < i ∧ (rd_T28 l m).f0 = s ∧ (rd_T28 l m).f1 = M s) → tree_Check.l0 K l k i M last size = some (-1, none) → ∀ j, i ≤ j → j < (l.length : Int) → OkAt l j
  | 0, i, M, last, size, _, _, _, _, h, j, _, _ => by simp [tree_Check.l0] at h
  | k + 1, i, M, last, size, h0, h2, h5, h6, h, j, hj, hj2 => by
    unfold tree_Check.l0 at h
    have c1 : i < (l.length : Int) := by omega
    have hm : rd_T28 l i ∈ l := by
      unfold rd_T28
      have h2 : i.toNat < l.length := by omega
      rw [List.getD_eq_getElem?_getD, List.getElem?_eq_getElem h2]
      exact List.getElem_mem h2
    obtain ⟨q1, q2⟩ := hl _ hm
    have q3 := q2
    simp only [fits, Bool.and_eq_true, decide_eq_true_eq] at q3
    rw [if_pos c1, PM.good_f _ K (by omega), Option.bind_some, fields_f K (by omega) _ _ _ _ _ _ _ _ (by omega), Option.bind_some, PM.cmp_f _ _ K (by omega) (by omega) (by omega), Option.bind_some, PM.parent_f _ K (by omega) (by omega), Option.bind_some] at h
    by_cases c2 : fits (rd_T28 l i) = true ∧ (PM.parentB (rd_T28 l i).f0).1.size ≤ 1000000000000 ∧ 0 ≤ size ∧ size ≤ 1048576
    · rw [if_pos c2] at h
      cases hR : entryR (decide (PM.GoodP (rd_T28 l i).f0)) (fieldsB (rd_T28 l i).f1 (rd_T28 l i).f2 (rd_T28 l i).f3 (rd_T28 l i).f4 (rd_T28 l i).f5 (rd_T28 l i).f6 (rd_T28 l i).f7) (i.toNat != 0) (PM.cQ last (rd_T28 l i).f0) (PM.parentB (rd_T28 l i).f0).2 (M (PM.parentB (rd_T28 l i).f0).1) (rd_T28 l i).f1 (M (rd_T28 l i).f6) size ((rd_T28 l i).f7.length : Int) with
      | some c =>
        rw [hR] at h
        simp at h
      | none =>
        rw [hR] at h
        have hE := hR
        unfold entryR at hE
        have g1 : PM.GoodP (rd_T28 l i).f0 := by
          by_cases g : PM.GoodP (rd_T28 l i).f0
          · exact g
          · rw [decide_eq_false g, if_pos rfl] at hE; cases hE
        rw [if_neg (by rw [decide_eq_true g1]; simp)] at hE
        by_cases g2 : (!(fieldsB (rd_T28 l i).f1 (rd_T28 l i).f2 (rd_T28 l i).f3 (rd_T28 l i).f4 (rd_T28 l i).f5 (rd_T28 l i).f6 (rd_T28 l i).f7) || ((i.toNat != 0) && decide (PM.cQ last (rd_T28 l i).f0 ≥ 0))) = true
        · rw [if_pos g2] at hE; cases hE
        · rw [if_neg g2] at hE
          by_cases g3 : ((PM.parentB (rd_T28 l i).f0).2 && (M (PM.parentB (rd_T28 l i).f0).1 != 1)) = true
          · rw [if_pos g3] at hE; cases hE
          · have hi : OkAt l i := by
              simp only [Bool.or_eq_true, Bool.not_eq_true', Bool.and_eq_true, bne_iff_ne, decide_eq_true_eq, not_or, not_and, ne_eq] at g2 g3
              refine ⟨g1, by unfold fieldsE; simpa using g2.1, fun hp => ?_, fun hp => ?_⟩
              · rw [← h5 hp]
                have := g2.2 (by omega)
                omega
              · have h7 : M (PM.parentB (rd_T28 l i).f0).1 = 1 := by
                  by_cases e : M (PM.parentB (rd_T28 l i).f0).1 = 1
                  · exact e
                  · exact absurd e (g3 hp)
                obtain ⟨m, m0, m1, m2, m3⟩ := h6 _ (by rw [h7]; decide)
                exact ⟨m, m0, m1, m2, by rw [m3, h7]⟩
            by_cases e : j = i
            · rw [e]; exact hi
            · refine ok_l K B l hB hK hl k (i + 1) _ _ _ (by omega) q1 (fun _ => by rw [show i + 1 - 1 = i by omega]) (fun s hs => ?_) h j (by omega) hj2
              by_cases e2 : s = (rd_T28 l i).f0
              · exact ⟨i, h0, by omega, e2.symm, by unfold upd; rw [if_pos e2]⟩
              · unfold upd at hs
                rw [if_neg e2] at hs
                obtain ⟨m, m0, m1, m2, m3⟩ := h6 s hs
                exact ⟨m, m0, by omega, m2, by unfold upd; rw [if_neg e2]; exact m3⟩
    · rw [if_neg c2] at h
      cases h
theorem none_l (K : Nat) (l : List S28) : ∀ (k : Nat) (i : Int) (M : ByteArray → Int) (last : ByteArray) (size : Int) (r : Int × Option Int), tree_Check.l0 K l k i M last size = some r → r.2 = none → r = (-1, none)
  | 0, i, M, last, size, r, h, _ => by simp [tree_Check.l0] at h
  | k + 1, i, M, last, size, r, h, hr => by
    unfold tree_Check.l0 at h
    by_cases c1 : i < (l.length : Int)
    · rw [if_pos c1] at h
      obtain ⟨g, _, h⟩ := Option.bind_eq_some_iff.mp h
      obtain ⟨gf, _, h⟩ := Option.bind_eq_some_iff.mp h
      obtain ⟨c, _, h⟩ := Option.bind_eq_some_iff.mp h
      obtain ⟨pr, _, h⟩ := Option.bind_eq_some_iff.mp h
      split at h
      · split at h
        · obtain rfl := Option.some.inj h
          cases hr
        · exact none_l K l k _ _ _ _ r h hr
      · cases h
    · rw [if_neg c1] at h
      exact (Option.some.inj h).symm
theorem check_ok (K B : Nat) (l : List S28) (hB : B ≤ 1000000) (hK : 2 * B + 600 ≤ K) (hl : ∀ x ∈ l, x.f0.size ≤ B ∧ fits x = true) (r : Int × Option Int) (h : tree_Check.f K l = some r) (hr : r.2 = none) : l.length ≤ 200 ∧ ∀ j, 0 ≤ j → j < (l.length : Int) → OkAt l j := by
  unfold tree_Check.f at h
  by_cases c : (l.length : Int) > 200
  · rw [if_pos c] at h
    obtain rfl := Option.some.inj h
    cases hr
  · rw [if_neg c] at h
    obtain rfl := none_l K l _ _ _ _ _ r h hr
    exact ⟨by omega, fun j hj hj2 => ok_l K B l hB hK hl (l.length + 1) 0 _ _ 0 (by omega) (Nat.zero_le _) (fun h => by omega) (fun s hs => absurd rfl hs) h j hj hj2⟩
end Go.Proofs.YtfkbmjfhakooiaaGreatDoor.TR

/- What amphoralaw09.large answers: plain Lean. Conditions: as each theorem says. -/
namespace Go.Proofs.YtfkbmjfhakooiaaGreatDoor.TR
open Go.RowKit Go.Proofs.YtfkbmjfhakooiaaGreatDoor.PTree Go.Proofs.YtfkbmjfhakooiaaGreatDoorW.PrintWords Go.Proofs.YtfkbmjfhakooiaaGreatDoorW.PrintLast Go.Proofs.YtfkbmjfhakooiaaGreatDoorW.PrintMore
set_option linter.unusedVariables false
set_option linter.unusedSimpArgs false
/-- Sizes that any value has. -/
def Sane (l : List S28) : Prop := ∀ x ∈ l, x.f0.size ≤ 9223372036854775807 ∧ x.f6.size ≤ 9223372036854775807 ∧ x.f7.length ≤ 9223372036854775807
theorem rd_mem' (l : List S28) (i : Int) (h0 : 0 ≤ i) (h1 : i < (l.length : Int)) : rd_T28 l i ∈ l := by
  unfold rd_T28
  have h2 : i.toNat < l.length := by omega
  rw [List.getD_eq_getElem?_getD, List.getElem?_eq_getElem h2]
  exact List.getElem_mem h2
theorem large_l (l : List S28) (hs : Sane l) (hl : (l.length : Int) ≤ 9223372036854775807) : ∀ (k : Nat) (n i : Int), 0 ≤ i → i ≤ (l.length : Int) → 0 ≤ n → n ≤ 400 → (l.length : Int) - i + 1 ≤ k →
    ∃ b, amphoralaw09_large.l0 k n l (l.length : Int) i = some b ∧ (b = false → (l.length : Int) - i ≤ 400 - n ∧ ∀ j, i ≤ j → j < (l.length : Int) → ((rd_T28 l j).f7.length : Int) ≤ 401000 ∧ ((rd_T28 l j).f0.size : Int) ≤ 40100 ∧ ((rd_T28 l j).f6.size : Int) ≤ 40100)
  | 0, n, i, h0, h1, h2, h3, h4 => by omega
  | k + 1, n, i, h0, h1, h2, h3, h4 => by
    unfold amphoralaw09_large.l0
    by_cases c1 : i < (l.length : Int)
    · rw [if_pos c1, if_pos h0, if_pos c1]
      obtain ⟨s1, s2, s3⟩ := hs _ (rd_mem' l i h0 c1)
      have e : wrap64 (n + (wrap64 ((wrap64 ((wrap64 (1 + (wrap64 ((((rd_T28 l i).f7).length : Int) / 1000)))) + (wrap64 ((((rd_T28 l i).f0).size : Int) / 100)))) + (wrap64 ((((rd_T28 l i).f6).size : Int) / 100))))) = n + (1 + ((rd_T28 l i).f7.length : Int) / 1000 + ((rd_T28 l i).f0.size : Int) / 100 + ((rd_T28 l i).f6.size : Int) / 100) := by
        have a0 : 0 ≤ ((rd_T28 l i).f7.length : Int) / 1000 ∧ ((rd_T28 l i).f7.length : Int) / 1000 ≤ 9223372036854776 := by omega
        have b0 : 0 ≤ ((rd_T28 l i).f0.size : Int) / 100 ∧ ((rd_T28 l i).f0.size : Int) / 100 ≤ 92233720368547758 := by omega
        have c0 : 0 ≤ ((rd_T28 l i).f6.size : Int) / 100 ∧ ((rd_T28 l i).f6.size : Int) / 100 ≤ 92233720368547758 := by omega
        generalize ((rd_T28 l i).f7.length : Int) / 1000 = a at a0 ⊢
        generalize ((rd_T28 l i).f0.size : Int) / 100 = b at b0 ⊢
        generalize ((rd_T28 l i).f6.size : Int) / 100 = c at c0 ⊢
        rw [wr_in a ⟨by omega, by omega⟩, wr_in (1 + a) ⟨by omega, by omega⟩, wr_in b ⟨by omega, by omega⟩, wr_in (1 + a + b) ⟨by omega, by omega⟩, wr_in c ⟨by omega, by omega⟩, wr_in (1 + a + b + c) ⟨by omega, by omega⟩, wr_in _ ⟨by omega, by omega⟩]
      rw [e]
      by_cases c2 : n + (1 + ((rd_T28 l i).f7.length : Int) / 1000 + ((rd_T28 l i).f0.size : Int) / 100 + ((rd_T28 l i).f6.size : Int) / 100) > 400
      · rw [if_pos c2]
        exact ⟨true, rfl, fun h => by cases h⟩
      · rw [if_neg c2, show wrap64 (i + 1) = i + 1 from wr_in _ ⟨by omega, by omega⟩]
        obtain ⟨b, hb, hq⟩ := large_l l hs hl k _ (i + 1) (by omega) (by omega) (show 0 ≤ n + (1 + ((rd_T28 l i).f7.length : Int) / 1000 + ((rd_T28 l i).f0.size : Int) / 100 + ((rd_T28 l i).f6.size : Int) / 100) by omega) (by omega) (by omega)
        refine ⟨b, hb, fun h => ?_⟩
        obtain ⟨q1, q2⟩ := hq h
        refine ⟨by omega, fun j hj hj2 => ?_⟩
        by_cases e2 : j = i
        · subst e2; omega
        · exact q2 j (by omega) hj2
    · rw [if_neg c1]
      exact ⟨false, rfl, fun _ => ⟨by omega, fun j hj hj2 => by omega⟩⟩
theorem large_f (l : List S28) (hs : Sane l) (hl : (l.length : Int) ≤ 9223372036854775807) (K : Nat) (hK : l.length + 1 ≤ K) :
    ∃ b, amphoralaw09_large.f K l = some b ∧ (b = false → l.length ≤ 400 ∧ ∀ x ∈ l, x.f7.length ≤ 401000 ∧ x.f0.size ≤ 40100 ∧ x.f6.size ≤ 40100) := by
  obtain ⟨b, hb, hq⟩ := large_l l hs hl K 0 0 (by omega) (by omega) (by omega) (by omega) (by omega)
  refine ⟨b, hb, fun h => ?_⟩
  obtain ⟨q1, q2⟩ := hq h
  refine ⟨by omega, fun x hx => ?_⟩
  obtain ⟨j, hj, rfl⟩ := List.getElem_of_mem hx
  have h1 := q2 (j : Int) (by omega) (by omega)
  have e : rd_T28 l (j : Int) = l[j] := by
    unfold rd_T28
    rw [Int.toNat_natCast, List.getD_eq_getElem?_getD, List.getElem?_eq_getElem hj]
    rfl
  rw [e] at h1
  omega
end Go.Proofs.YtfkbmjfhakooiaaGreatDoor.TR

/- Printed for this claim by a copy of the kit's print.py that takes functions walked by our own texts. Conditions: none. -/
namespace Go.Proofs.YtfkbmjfhakooiaaGreatDoor.PTree
open Go.RowKit Go.Proofs.YtfkbmjfhakooiaaGreatDoorW.PrintWords Go.Proofs.YtfkbmjfhakooiaaGreatDoorW.PrintLast Go.Proofs.YtfkbmjfhakooiaaGreatDoorW.PrintMore
attribute [local go_sem] max2_int min2_int max_two min_two max_three min_three max_four min_four   -- for this text's walks alone
set_option linter.unusedVariables false
set_option linter.unusedSimpArgs false

/-! ### amphoranum_Num: function 21 -/
def amphoranum_Num.f (a0 : Option Int) : Option (Int) := if a0.isNone = true then (some 0) else (if (a0.getD 0) = 0 then (some (-1)) else (some (a0.getD 0)))
set_option maxHeartbeats 8000000 in
set_option maxRecDepth 100000 in
theorem amphoranum_Num.calls (a0 : Option Int) (r : Int) (w : World) (hGl : Gl w) (h : amphoranum_Num.f a0 = some r) :
    Calls Tryz.prog 21 #[errW a0] w fun e w' => e = .returned (.int .i64 r) ∧ Drawn0 w w' := by
  have hu44 := Tryz.underlying44
  have hu63 := Tryz.underlying63
  have hta : ∀ (v : Value) (W : World), (Instr.typeAssert (.iface 63 v) 44 63 true).run Tryz.prog W = .ok (.tuple #[v, .bool true]) W := fun v W => by rfl
  have HGL := Aside0.mk hGl
  clear hGl
  have H : (if a0.isNone = true then (some 0) else (if (a0.getD 0) = 0 then (some (-1)) else (some (a0.getD 0)))) = some r := h
  clear h
  rcases a0 with _ | q290
  · have H1 : (some 0) = some r := by rw [if_pos (show (none : Option Int).isNone = true by rfl)] at H; exact H
    clear H
    have H := H1
    clear H1
    simp only [errW_none, errW_some]
    obtain rfl := Option.some.inj H
    go_enter Tryz.func21, Tryz.ntmps21
    go_wp2
    go_ret
    exact ⟨by first | rfl | (simp; done) | (simp [*]; done), by repeat (first | exact Drawn0.refl _ | apply Drawn0.step)⟩
  · have H1 : (if q290 = 0 then (some (-1)) else (some q290)) = some r := by rw [if_neg (show ¬ (some q290).isNone = true by simp)] at H; exact H
    clear H
    have H := H1
    clear H1
    simp only [errW_none, errW_some]
    by_cases c2 : q290 = 0
    · rw [if_pos c2] at H
      have c2b0 : (q290 == 0) = true := beq_iff_eq.mpr c2
      have c2b1 : (q290 != 0) = false := bne_eq_false_iff_eq.mpr c2
      clear c2
      obtain rfl := Option.some.inj H
      go_enter Tryz.func21, Tryz.ntmps21
      go_wp2
      go_ret
      exact ⟨by first | rfl | (simp; done) | (simp [*]; done), by repeat (first | exact Drawn0.refl _ | apply Drawn0.step)⟩
    · rw [if_neg c2] at H
      have c2b0 : (q290 == 0) = false := beq_eq_false_iff_ne.mpr c2
      have c2b1 : (q290 != 0) = true := bne_iff_ne.mpr c2
      obtain rfl := Option.some.inj H
      go_enter Tryz.func21, Tryz.ntmps21
      go_wp2
      go_ret
      exact ⟨by first | rfl | (simp; done) | (simp [*]; done), by repeat (first | exact Drawn0.refl _ | apply Drawn0.step)⟩

-- NOT PRINTED: function 42 (amphoranum_Kept)

-- NOT PRINTED: function 22 (amphoralaw09_kept)

-- NOT PRINTED: function 4 (amphoralaw09_TreeChecks)

end Go.Proofs.YtfkbmjfhakooiaaGreatDoor.PTree

/- The reference's Check answers as tree.Check: plain Lean. Conditions: as each theorem says. -/
namespace Go.Proofs.YtfkbmjfhakooiaaGreatDoor.TR
open Go.RowKit Go.Proofs.YtfkbmjfhakooiaaGreatDoor.PTree Go.Proofs.YtfkbmjfhakooiaaGreatDoorW.PrintWords Go.Proofs.YtfkbmjfhakooiaaGreatDoorW.PrintLast Go.Proofs.YtfkbmjfhakooiaaGreatDoorW.PrintMore
set_option linter.unusedVariables false
set_option linter.unusedSimpArgs false
theorem rfields_j (k : Nat) (hk : 600000 ≤ k) (p : ByteArray) (kd md u g t : Int) (ln : ByteArray) (d : List Int) (hl : ln.size ≤ 40100) (b : Bool) (hb : b = false) (h0 : ¬ md < 0) (h1 : ¬ md > 4095) (h2 : metaB u 0 = true) (h3 : metaB g 0 = true) (h4 : metaB t (-1099511627776) = true) :
    amphoraref09_fields.j0 k b p kd md u g t ln d = some (fieldsB kd md u g t ln d) := by
  obtain ⟨k, rfl⟩ : ∃ j, k = j + 1 := ⟨k - 1, by omega⟩
  subst hb
  simp only [amphoraref09_fields.j0]
  unfold fieldsB
  rw [if_neg (by simp), if_neg h0, if_neg h1, if_pos h2, if_pos h3, if_pos h4, PM.rtext_f ln 400 k (by omega) (by omega), PM.rgood_f ln k (by omega)]
  by_cases e5 : (d.length : Int) = 0
  · have e6 : ¬ (d.length : Int) > 0 := by omega
    have e7 : (d.length : Int) ≤ 65536 := by omega
    rw [if_neg e6, if_pos e5, if_pos e7, decide_eq_true e7]
    have hd : d = [] := List.eq_nil_of_length_eq_zero (by omega)
    by_cases k1 : kd = 1
    · subst k1
      by_cases e3 : ln.toList = ([] : List UInt8) <;> simp [e3]
    · by_cases k2 : kd = 2
      · subst k2
        by_cases e3 : ln.toList = ([] : List UInt8) <;> simp [e3]
      · by_cases k3 : kd = 3
        · subst k3
          by_cases e3 : PM.TextP ln 400 <;> simp [e3]
        · by_cases k4 : kd = 4
          · subst k4
            by_cases e3 : PM.GoodP ln
            · by_cases a1 : md = 0 <;> by_cases a2 : u = 0 <;> by_cases a3 : g = 0 <;> by_cases a4 : t = 0 <;> simp [e3, a1, a2, a3, a4, hd]
            · simp [e3]
          · simp [k1, k2, k3, k4]
  · have e6 : (d.length : Int) > 0 := by omega
    rw [if_pos e6, if_neg e5]
    have hd : ¬ d = [] := fun h => by rw [h] at e5; exact e5 rfl
    by_cases k2 : kd = 2
    · subst k2
      by_cases e3 : ln.toList = ([] : List UInt8) <;> by_cases e7 : (d.length : Int) ≤ 65536 <;> simp [e3, e7]
    · rw [if_neg k2]
      by_cases k1 : kd = 1
      · subst k1
        by_cases e3 : ln.toList = ([] : List UInt8) <;> simp [e3]
      · by_cases k3 : kd = 3
        · subst k3
          by_cases e3 : PM.TextP ln 400 <;> simp [e3]
        · by_cases k4 : kd = 4
          · subst k4
            by_cases e3 : PM.GoodP ln <;> simp [e3, hd]
          · simp [k1, k2, k3, k4, hd]
theorem rfields_j1 (k : Nat) (hk : 1 ≤ k) (p : ByteArray) (kd md u g t : Int) (ln : ByteArray) (d : List Int) (b : Bool) (hb : b = true) : amphoraref09_fields.j0 k b p kd md u g t ln d = some false := by
  obtain ⟨k, rfl⟩ : ∃ j, k = j + 1 := ⟨k - 1, by omega⟩
  subst hb
  simp only [amphoraref09_fields.j0]
  rw [if_pos trivial]
theorem rfields_f (k : Nat) (hk : 600000 ≤ k) (p : ByteArray) (kd md u g t : Int) (ln : ByteArray) (d : List Int) (hl : ln.size ≤ 40100) : amphoraref09_fields.f k p kd md u g t ln d = some (fieldsB kd md u g t ln d) := by
  unfold amphoraref09_fields.f
  have F : ∀ b, b = true → amphoraref09_fields.j0 k b p kd md u g t ln d = some false := fun b hb => rfields_j1 k (by omega) p kd md u g t ln d b hb
  by_cases h0 : md < 0
  · rw [if_pos h0, F true rfl]
    unfold fieldsB
    rw [if_pos h0]
  · by_cases h1 : md > 4095
    · rw [if_neg h0, if_pos h1, F true rfl]
      unfold fieldsB
      rw [if_neg h0, if_pos h1]
    · rw [if_neg h0, if_neg h1]
      by_cases h2 : metaB u 0 = true
      · have h2' := h2
        unfold metaB at h2'
        simp only [Bool.and_eq_true, decide_eq_true_eq] at h2'
        rw [if_neg (by omega), if_neg (by omega)]
        by_cases h3 : metaB g 0 = true
        · have h3' := h3
          unfold metaB at h3'
          simp only [Bool.and_eq_true, decide_eq_true_eq] at h3'
          rw [if_neg (by omega), if_neg (by omega)]
          by_cases h4 : metaB t (-1099511627776) = true
          · have h4' := h4
            unfold metaB at h4'
            simp only [Bool.and_eq_true, decide_eq_true_eq] at h4'
            rw [if_neg (by omega)]
            exact rfields_j k hk p kd md u g t ln d hl _ (decide_eq_false (by omega)) h0 h1 h2 h3 h4
          · have e : fieldsB kd md u g t ln d = false := by unfold fieldsB; rw [if_neg h0, if_neg h1, if_pos h2, if_pos h3, if_neg h4]
            unfold metaB at h4
            simp only [Bool.and_eq_true, decide_eq_true_eq] at h4
            rw [e]
            split
            · exact F true rfl
            · exact F _ (decide_eq_true (by omega))
        · have e : fieldsB kd md u g t ln d = false := by unfold fieldsB; rw [if_neg h0, if_neg h1, if_pos h2, if_neg h3]
          unfold metaB at h3
          simp only [Bool.and_eq_true, decide_eq_true_eq] at h3
          rw [e]
          by_cases h5 : g < 0
          · rw [if_pos h5, F true rfl]
          · rw [if_neg h5, if_pos (by omega), F true rfl]
      · have e : fieldsB kd md u g t ln d = false := by unfold fieldsB; rw [if_neg h0, if_neg h1, if_neg h2]
        unfold metaB at h2
        simp only [Bool.and_eq_true, decide_eq_true_eq] at h2
        rw [e]
        by_cases h5 : u < 0
        · rw [if_pos h5, F true rfl]
        · rw [if_neg h5, if_pos (by omega), F true rfl]
theorem toList_inj2 {a b : ByteArray} (h : a.toList = b.toList) : a = b := by
  rw [Lib.toList_data, Lib.toList_data] at h
  exact ba_ext h
theorem kind_l (l : List S28) (i : Int) (s : ByteArray) (v : Int) (hi : i ≤ (l.length : Int)) (hb : (l.length : Int) ≤ 1000000) (h1 : ∀ m, 0 ≤ m → m < i → (rd_T28 l m).f0 = s → (rd_T28 l m).f1 = v) : ∀ (n k : Nat) (j : Int), 0 ≤ j → i - j ≤ n → n + 1 ≤ k → (v ≠ 0 → ∃ m, j ≤ m ∧ m < i ∧ (rd_T28 l m).f0 = s) → amphoraref09_kind.l0 k l i s j = some v
  | n, 0, j, _, _, h, _ => by omega
  | n, k + 1, j, h0, h2, h3, h4 => by
    unfold amphoraref09_kind.l0
    by_cases c1 : j < i
    · rw [if_pos c1, if_pos h0, if_pos (by omega)]
      by_cases c2 : (rd_T28 l j).f0.toList = s.toList
      · rw [if_pos c2, h1 j h0 c1 (toList_inj2 c2)]
      · rw [if_neg c2, wr_in (j + 1) ⟨by omega, by omega⟩]
        cases n with
        | zero => omega
        | succ n =>
          refine kind_l l i s v hi hb h1 n k (j + 1) (by omega) (by omega) (by omega) (fun hv => ?_)
          obtain ⟨m, m0, m1, m2⟩ := h4 hv
          refine ⟨m, ?_, m1, m2⟩
          by_cases e : m = j
          · rw [e] at m2
            exact absurd (by rw [m2]) c2
          · omega
    · rw [if_neg c1]
      by_cases hv : v = 0
      · rw [hv]
      · obtain ⟨m, m0, m1, _⟩ := h4 hv
        omega
theorem kind_f (l : List S28) (i : Int) (s : ByteArray) (v : Int) (h0 : 0 ≤ i) (hi : i ≤ (l.length : Int)) (hb : (l.length : Int) ≤ 1000000) (k : Nat) (hk : 1000001 ≤ k) (h1 : ∀ m, 0 ≤ m → m < i → (rd_T28 l m).f0 = s → (rd_T28 l m).f1 = v) (h4 : v ≠ 0 → ∃ m, 0 ≤ m ∧ m < i ∧ (rd_T28 l m).f0 = s) : amphoraref09_kind.f k l i s = some v := by
  unfold amphoraref09_kind.f
  exact kind_l l i s v hi hb h1 i.toNat k 0 (by omega) (by omega) (by omega) h4
theorem cQ_cases (a b : ByteArray) : PM.cQ a b = -1 ∨ PM.cQ a b = 0 ∨ PM.cQ a b = 1 := PM.cQ_isCmp.tri a b
theorem rcheck_l (K : Nat) (l : List S28) (hK : 2000000 ≤ K) (hb : (l.length : Int) ≤ 200) (hl : ∀ x ∈ l, x.f0.size ≤ 40100 ∧ x.f6.size ≤ 40100 ∧ fits x = true) : ∀ (k : Nat) (q : Nat) (i : Int) (M : ByteArray → Int) (last : ByteArray) (size : Int), 0 ≤ i → i ≤ (l.length : Int) → (l.length : Int) - i + 1 ≤ k → 2000000 + 4 * k ≤ q → last.size ≤ 40100 → 0 ≤ size → size ≤ 1048576 →
    (0 < i → last = (rd_T28 l (i - 1)).f0) → (∀ a b, 0 ≤ a → a < b → b < i → PM.cQ (rd_T28 l a).f0 (rd_T28 l b).f0 < 0) → (∀ m, 0 ≤ m → m < i → M (rd_T28 l m).f0 = (rd_T28 l m).f1) → (∀ s, M s ≠ 0 → ∃ m, 0 ≤ m ∧ m < i ∧ (rd_T28 l m).f0 = s) →
    ∃ r, tree_Check.l0 K l k i M last size = some r ∧ amphoraref09_Check.l0 q l size i = some (r.1, r.2.getD 0) ∧ ∀ c, r.2 = some c → c ≠ 0
  | 0, q, i, M, last, size, h0, hi, h1, _, _, _, _, _, _, _, _ => by omega
  | k + 1, q, i, M, last, size, h0, hi, h1, hq, h2, h3, h4, hla, hasc, hM1, hM2 => by
    obtain ⟨q, rfl⟩ : ∃ j, q = j + 4 := ⟨q - 4, by omega⟩
    unfold tree_Check.l0
    simp only [amphoraref09_Check.l0]
    by_cases c1 : i < (l.length : Int)
    · have hm := rd_mem' l i h0 c1
      obtain ⟨s0, s6, hf⟩ := hl _ hm
      have hf2 := hf
      simp only [fits, Bool.and_eq_true, decide_eq_true_eq] at hf2
      have hK1 : ∀ s, amphoraref09_kind.f (q + 2) l i s = some (M s) ∧ amphoraref09_kind.f (q + 1) l i s = some (M s) := fun s =>
        ⟨kind_f l i s (M s) h0 hi (by omega) (q + 2) (by omega) (fun m m0 m1 e => by rw [← e]; exact (hM1 m m0 m1).symm) (hM2 s), kind_f l i s (M s) h0 hi (by omega) (q + 1) (by omega) (fun m m0 m1 e => by rw [← e]; exact (hM1 m m0 m1).symm) (hM2 s)⟩
      rw [if_pos c1, if_pos c1, if_pos h0, PM.good_f _ K (by omega), Option.bind_some, fields_f K (by omega) _ _ _ _ _ _ _ _ (by omega), Option.bind_some, PM.cmp_f _ _ K (by omega) (by omega) (by omega), Option.bind_some, PM.parent_f _ K (by omega) (by omega), Option.bind_some, if_pos ⟨hf, parentB_size _, h3, h4⟩]
      rw [PM.rgood_f _ (q + 3) (by omega), Option.bind_some]
      by_cases g : PM.GoodP (rd_T28 l i).f0
      · rw [decide_eq_true g, if_pos rfl, PM.rparent_f _ (q + 3) (by omega), Option.bind_some, rfields_f (q + 3) (by omega) _ _ _ _ _ _ _ _ s6, Option.bind_some]
        generalize hfe : fieldsB (rd_T28 l i).f1 (rd_T28 l i).f2 (rd_T28 l i).f3 (rd_T28 l i).f4 (rd_T28 l i).f5 (rd_T28 l i).f6 (rd_T28 l i).f7 = fe
        -- the end of a round, by what is bad
        have J3 : ∀ b : Bool, b = true → amphoraref09_Check.j3 (q + 1) l size i b (rd_T28 l i).f0 (rd_T28 l i).f1 (rd_T28 l i).f2 (rd_T28 l i).f3 (rd_T28 l i).f4 (rd_T28 l i).f5 (rd_T28 l i).f6 (rd_T28 l i).f7 = some (i, 13) := fun b hb => by
          subst hb
          simp only [amphoraref09_Check.j3]
          rw [if_pos trivial]
        have J2 : ∀ b : Bool, b = true → amphoraref09_Check.j2 (q + 2) l size i b (rd_T28 l i).f0 (rd_T28 l i).f1 (rd_T28 l i).f2 (rd_T28 l i).f3 (rd_T28 l i).f4 (rd_T28 l i).f5 (rd_T28 l i).f6 (rd_T28 l i).f7 = some (i, 13) := fun b hb => by
          subst hb
          simp only [amphoraref09_Check.j2]
          rw [if_pos trivial]
          exact J3 true rfl
        have J1 : ∀ b : Bool, b = true → amphoraref09_Check.j1 (q + 3) l size i (PM.parentB (rd_T28 l i).f0).1 (PM.parentB (rd_T28 l i).f0).2 b (rd_T28 l i).f0 (rd_T28 l i).f1 (rd_T28 l i).f2 (rd_T28 l i).f3 (rd_T28 l i).f4 (rd_T28 l i).f5 (rd_T28 l i).f6 (rd_T28 l i).f7 = some (i, 13) := fun b hb => by
          subst hb
          simp only [amphoraref09_Check.j1]
          rw [if_pos trivial]
          exact J2 true rfl
        cases fe with
        | false =>
          rw [if_neg (by simp), J1 true rfl]
          have he : entryR true false (i.toNat != 0) (PM.cQ last (rd_T28 l i).f0) (PM.parentB (rd_T28 l i).f0).2 (M (PM.parentB (rd_T28 l i).f0).1) (rd_T28 l i).f1 (M (rd_T28 l i).f6) size ((rd_T28 l i).f7.length : Int) = some 13 := by unfold entryR; rw [if_neg (by simp), if_pos (by simp)]
          rw [he]
          exact ⟨(i, some 13), rfl, rfl, fun c hc => by cases hc; decide⟩
        | true =>
          rw [if_pos rfl]
          -- the order
          have ord : (if i > 0 then (if 0 ≤ wrap64 (i - 1) then (if wrap64 (i - 1) < (l.length : Int) then ((amphoraref08_Compare.f (q + 3) (rd_T28 l (wrap64 (i - 1))).f0 (rd_T28 l i).f0).bind fun t => amphoraref09_Check.j1 (q + 3) l size i (PM.parentB (rd_T28 l i).f0).1 (PM.parentB (rd_T28 l i).f0).2 (t != (-1)) (rd_T28 l i).f0 (rd_T28 l i).f1 (rd_T28 l i).f2 (rd_T28 l i).f3 (rd_T28 l i).f4 (rd_T28 l i).f5 (rd_T28 l i).f6 (rd_T28 l i).f7) else none) else none) else amphoraref09_Check.j1 (q + 3) l size i (PM.parentB (rd_T28 l i).f0).1 (PM.parentB (rd_T28 l i).f0).2 false (rd_T28 l i).f0 (rd_T28 l i).f1 (rd_T28 l i).f2 (rd_T28 l i).f3 (rd_T28 l i).f4 (rd_T28 l i).f5 (rd_T28 l i).f6 (rd_T28 l i).f7) =
              amphoraref09_Check.j1 (q + 3) l size i (PM.parentB (rd_T28 l i).f0).1 (PM.parentB (rd_T28 l i).f0).2 ((i.toNat != 0) && decide (PM.cQ last (rd_T28 l i).f0 ≥ 0)) (rd_T28 l i).f0 (rd_T28 l i).f1 (rd_T28 l i).f2 (rd_T28 l i).f3 (rd_T28 l i).f4 (rd_T28 l i).f5 (rd_T28 l i).f6 (rd_T28 l i).f7 := by
            by_cases hp : i > 0
            · obtain ⟨sp, _, _⟩ := hl _ (rd_mem' l (i - 1) (by omega) (by omega))
              rw [if_pos hp, wr_in (i - 1) ⟨by omega, by omega⟩, if_pos (by omega), if_pos (by omega), PM.rcmp_f _ _ (q + 3) (by omega) (by omega) (by omega), Option.bind_some, ← hla hp]
              have e1 : (i.toNat != 0) = true := by rw [bne_iff_ne]; omega
              rw [e1, Bool.true_and]
              congr 1
              rcases cQ_cases last (rd_T28 l i).f0 with e | e | e <;> rw [e] <;> decide
            · have e1 : (i.toNat != 0) = false := by rw [bne_eq_false_iff_eq]; omega
              rw [if_neg hp, e1, Bool.false_and]
          rw [ord]
          generalize hbo : ((i.toNat != 0) && decide (PM.cQ last (rd_T28 l i).f0 ≥ 0)) = bo
          cases bo with
          | true =>
            rw [J1 true rfl]
            have he : entryR true true (i.toNat != 0) (PM.cQ last (rd_T28 l i).f0) (PM.parentB (rd_T28 l i).f0).2 (M (PM.parentB (rd_T28 l i).f0).1) (rd_T28 l i).f1 (M (rd_T28 l i).f6) size ((rd_T28 l i).f7.length : Int) = some 13 := by unfold entryR; rw [if_neg (by simp), if_pos (by rw [hbo]; rfl)]
            rw [he]
            exact ⟨(i, some 13), rfl, rfl, fun c hc => by cases hc; decide⟩
          | false =>
            simp only [amphoraref09_Check.j1]
            rw [if_neg (by simp)]
            have par : (if (PM.parentB (rd_T28 l i).f0).2 = true then ((amphoraref09_kind.f (q + 2) l i (PM.parentB (rd_T28 l i).f0).1).bind fun t => amphoraref09_Check.j2 (q + 2) l size i (t != 1) (rd_T28 l i).f0 (rd_T28 l i).f1 (rd_T28 l i).f2 (rd_T28 l i).f3 (rd_T28 l i).f4 (rd_T28 l i).f5 (rd_T28 l i).f6 (rd_T28 l i).f7) else amphoraref09_Check.j2 (q + 2) l size i false (rd_T28 l i).f0 (rd_T28 l i).f1 (rd_T28 l i).f2 (rd_T28 l i).f3 (rd_T28 l i).f4 (rd_T28 l i).f5 (rd_T28 l i).f6 (rd_T28 l i).f7) =
                amphoraref09_Check.j2 (q + 2) l size i ((PM.parentB (rd_T28 l i).f0).2 && (M (PM.parentB (rd_T28 l i).f0).1 != 1)) (rd_T28 l i).f0 (rd_T28 l i).f1 (rd_T28 l i).f2 (rd_T28 l i).f3 (rd_T28 l i).f4 (rd_T28 l i).f5 (rd_T28 l i).f6 (rd_T28 l i).f7 := by
              cases hpb : (PM.parentB (rd_T28 l i).f0).2 with
              | true => rw [if_pos rfl, (hK1 _).1, Option.bind_some, Bool.true_and]
              | false => rw [if_neg (by simp), Bool.false_and]
            rw [par]
            generalize hbp : ((PM.parentB (rd_T28 l i).f0).2 && (M (PM.parentB (rd_T28 l i).f0).1 != 1)) = bp
            cases bp with
            | true =>
              rw [J2 true rfl]
              have he : entryR true true (i.toNat != 0) (PM.cQ last (rd_T28 l i).f0) (PM.parentB (rd_T28 l i).f0).2 (M (PM.parentB (rd_T28 l i).f0).1) (rd_T28 l i).f1 (M (rd_T28 l i).f6) size ((rd_T28 l i).f7.length : Int) = some 13 := by unfold entryR; rw [if_neg (by simp), if_neg (by rw [hbo]; simp), if_pos hbp]
              rw [he]
              exact ⟨(i, some 13), rfl, rfl, fun c hc => by cases hc; decide⟩
            | false =>
              simp only [amphoraref09_Check.j2]
              rw [if_neg (by simp)]
              have lnk : (if (rd_T28 l i).f1 = 4 then ((amphoraref09_kind.f (q + 1) l i (rd_T28 l i).f6).bind fun t => amphoraref09_Check.j3 (q + 1) l size i (t != 2) (rd_T28 l i).f0 (rd_T28 l i).f1 (rd_T28 l i).f2 (rd_T28 l i).f3 (rd_T28 l i).f4 (rd_T28 l i).f5 (rd_T28 l i).f6 (rd_T28 l i).f7) else amphoraref09_Check.j3 (q + 1) l size i false (rd_T28 l i).f0 (rd_T28 l i).f1 (rd_T28 l i).f2 (rd_T28 l i).f3 (rd_T28 l i).f4 (rd_T28 l i).f5 (rd_T28 l i).f6 (rd_T28 l i).f7) =
                  amphoraref09_Check.j3 (q + 1) l size i (((rd_T28 l i).f1 == 4) && (M (rd_T28 l i).f6 != 2)) (rd_T28 l i).f0 (rd_T28 l i).f1 (rd_T28 l i).f2 (rd_T28 l i).f3 (rd_T28 l i).f4 (rd_T28 l i).f5 (rd_T28 l i).f6 (rd_T28 l i).f7 := by
                by_cases hk4 : (rd_T28 l i).f1 = 4
                · rw [if_pos hk4, (hK1 _).2, Option.bind_some, beq_iff_eq.mpr hk4, Bool.true_and]
                · rw [if_neg hk4, beq_eq_false_iff_ne.mpr hk4, Bool.false_and]
              rw [lnk]
              generalize hbl : (((rd_T28 l i).f1 == 4) && (M (rd_T28 l i).f6 != 2)) = bl
              cases bl with
              | true =>
                rw [J3 true rfl]
                have he : entryR true true (i.toNat != 0) (PM.cQ last (rd_T28 l i).f0) (PM.parentB (rd_T28 l i).f0).2 (M (PM.parentB (rd_T28 l i).f0).1) (rd_T28 l i).f1 (M (rd_T28 l i).f6) size ((rd_T28 l i).f7.length : Int) = some 13 := by unfold entryR; rw [if_neg (by simp), if_neg (by rw [hbo]; simp), if_neg (by rw [hbp]; simp), if_pos hbl]
                rw [he]
                exact ⟨(i, some 13), rfl, rfl, fun c hc => by cases hc; decide⟩
              | false =>
                simp only [amphoraref09_Check.j3]
                rw [if_neg (by simp), wr_in (size + ((rd_T28 l i).f7.length : Int)) ⟨by omega, by omega⟩, wr_in (i + 1) ⟨by omega, by omega⟩]
                by_cases hz : size + ((rd_T28 l i).f7.length : Int) > 1048576
                · have he : entryR true true (i.toNat != 0) (PM.cQ last (rd_T28 l i).f0) (PM.parentB (rd_T28 l i).f0).2 (M (PM.parentB (rd_T28 l i).f0).1) (rd_T28 l i).f1 (M (rd_T28 l i).f6) size ((rd_T28 l i).f7.length : Int) = some 18 := by
                    unfold entryR
                    rw [if_neg (by simp), if_neg (by rw [hbo]; simp), if_neg (by rw [hbp]; simp), if_neg (by rw [hbl]; simp), if_pos hz]
                  rw [he, if_pos hz]
                  exact ⟨(i, some 18), rfl, rfl, fun c hc => by cases hc; decide⟩
                · have he : entryR true true (i.toNat != 0) (PM.cQ last (rd_T28 l i).f0) (PM.parentB (rd_T28 l i).f0).2 (M (PM.parentB (rd_T28 l i).f0).1) (rd_T28 l i).f1 (M (rd_T28 l i).f6) size ((rd_T28 l i).f7.length : Int) = none := by
                    unfold entryR
                    rw [if_neg (by simp), if_neg (by rw [hbo]; simp), if_neg (by rw [hbp]; simp), if_neg (by rw [hbl]; simp), if_neg hz]
                  rw [he, if_neg hz]
                  have hlt : ∀ a, 0 ≤ a → a < i → PM.cQ (rd_T28 l a).f0 (rd_T28 l i).f0 < 0 := fun a a0 a1 => by
                    have hlast : PM.cQ (rd_T28 l (i - 1)).f0 (rd_T28 l i).f0 < 0 := by
                      rw [← hla (by omega)]
                      have e1 : (i.toNat != 0) = true := by rw [bne_iff_ne]; omega
                      rw [e1, Bool.true_and] at hbo
                      have := of_decide_eq_false hbo
                      omega
                    by_cases ea : a = i - 1
                    · rw [ea]; exact hlast
                    · have h5 := hasc a (i - 1) a0 (by omega) (by omega)
                      have t1 := cQ_cases (rd_T28 l a).f0 (rd_T28 l (i - 1)).f0
                      have := PM.cQ_isCmp.lt (a := (rd_T28 l a).f0) (b := (rd_T28 l (i - 1)).f0) (d := (rd_T28 l i).f0) (by omega) (by omega)
                      omega
                  have hne : ∀ a, 0 ≤ a → a < i → (rd_T28 l a).f0 ≠ (rd_T28 l i).f0 := fun a a0 a1 e => by
                    have := hlt a a0 a1
                    rw [e, PM.cQ_isCmp.self] at this
                    omega
                  refine rcheck_l K l hK hb hl k q (i + 1) _ _ _ (by omega) (by omega) (by omega) (by omega) s0 (by omega) (by omega) (fun _ => by rw [show i + 1 - 1 = i by omega]) (fun a b a0 ab b1 => ?_) (fun m m0 m1 => ?_) (fun s hs => ?_)
                  · by_cases eb : b = i
                    · rw [eb]; exact hlt a a0 (by omega)
                    · exact hasc a b a0 ab (by omega)
                  · unfold upd
                    by_cases em : m = i
                    · rw [em, if_pos rfl]
                    · rw [if_neg (hne m m0 (by omega))]
                      exact hM1 m m0 (by omega)
                  · unfold upd at hs
                    by_cases es : s = (rd_T28 l i).f0
                    · exact ⟨i, h0, by omega, es.symm⟩
                    · rw [if_neg es] at hs
                      obtain ⟨m, m0, m1, m2⟩ := hM2 s hs
                      exact ⟨m, m0, by omega, m2⟩
      · rw [decide_eq_false g, if_neg (by simp)]
        refine ⟨(i, some 12), ?_, rfl, fun c hc => by cases hc; decide⟩
        unfold entryR
        rw [if_pos rfl]
    · rw [if_neg c1, if_neg c1]
      exact ⟨(-1, none), rfl, rfl, fun c hc => by cases hc⟩
theorem rcheck_f (K : Nat) (l : List S28) (hK : 3000000 ≤ K) (hl : ¬ (l.length : Int) > 200 → ∀ x ∈ l, x.f0.size ≤ 40100 ∧ x.f6.size ≤ 40100 ∧ fits x = true) :
    ∃ r, tree_Check.f K l = some r ∧ amphoraref09_Check.f K l = some (r.1, r.2.getD 0) ∧ amphoranum_Num.f r.2 = some (r.2.getD 0) := by
  unfold tree_Check.f amphoraref09_Check.f
  by_cases c : (l.length : Int) > 200
  · rw [if_pos c, if_pos c]
    exact ⟨_, rfl, rfl, rfl⟩
  · rw [if_neg c, if_neg c]
    obtain ⟨r, r1, r2, r3⟩ := rcheck_l K l (by omega) (by omega) (hl c) (l.length + 1) K 0 (fun _ => 0) ⟨#[]⟩ 0 (by omega) (by omega) (by omega) (by omega) (Nat.zero_le _) (by omega) (by omega) (fun h => by omega) (fun a b _ _ h => by omega) (fun m m0 m1 => by omega) (fun s hs => absurd rfl hs)
    refine ⟨r, r1, r2, ?_⟩
    unfold amphoranum_Num.f
    cases h : r.2 with
    | none => rfl
    | some c => rw [if_neg (by simp), if_neg (by simp; exact r3 c h)]
end Go.Proofs.YtfkbmjfhakooiaaGreatDoor.TR

/- TreeChecks, walked. Conditions: as each theorem says. -/
namespace Go.Proofs.YtfkbmjfhakooiaaGreatDoor.TR
open Go.RowKit Go.Proofs.YtfkbmjfhakooiaaGreatDoor.PTree Go.Proofs.YtfkbmjfhakooiaaGreatDoorW.PrintWords Go.Proofs.YtfkbmjfhakooiaaGreatDoorW.PrintLast Go.Proofs.YtfkbmjfhakooiaaGreatDoorW.PrintMore
set_option linter.unusedVariables false
set_option linter.unusedSimpArgs false
set_option maxHeartbeats 8000000 in
set_option maxRecDepth 100000 in
theorem Checks_calls (K : Nat) (l0 : List S28) (A0 : Option Addr) (k0 : Nat) (bl : Bool) (w : World) (hGl : Gl w) (h0 : Kd.C k28 w A0 l0.length l0) (hc0 : l0.length ≤ k0) (hbl : amphoralaw09_large.f K l0 = some bl)
    (hsm : ¬ (bl = true ∧ (l0.length : Int) ≤ 200) → l0.length * 96 ≤ 140737488355000 ∧ (∀ x ∈ l0, x.f7.length ≤ 140737488355000) ∧ amphoraref09_Same.f K l0 l0 = some true ∧ ∃ r, tree_Check.f K l0 = some r ∧ amphoraref09_Check.f K l0 = some (r.1, r.2.getD 0) ∧ amphoranum_Num.f r.2 = some (r.2.getD 0)) :
    Calls Tryz.prog 4 #[.slice A0 l0.length k0] w fun e w' => e = .returned (.bool true) ∧ Below w.heap.size w w' := by
  have hu31 := Tryz.underlying28
  have H0 := Aside0.mk h0
  have HC0 := Aside0.mk hc0
  have HBL := Aside0.mk hbl
  have HGL := Aside0.mk hGl
  clear h0 hc0 hbl hGl
  by_cases hb2 : bl = true ∧ (l0.length : Int) ≤ 200
  · obtain ⟨rfl, hb3⟩ := hb2
    clear hsm
    have d1 : decide ((l0.length : Int) ≤ 200) = true := decide_eq_true hb3
    have d2 : decide (l0.length ≤ 200) = true := decide_eq_true (by omega)
    clear hb3
    go_enter Tryz.func4, Tryz.ntmps4
    go_wp2_with (first
      | (go_at_call 5; refine (alive_calls w HGL.out).mono ?_; rintro e w1 ⟨rfl, hb⟩; have HB1 := Aside0.mk hb; clear hb)
      | (go_at_call 6; refine (amphoralaw09_large.calls K A0 k0 l0 true _ (Kd.C_below H0.out HB1.out) HC0.out (HGL.out.of HB1.out) HBL.out).mono ?_; rintro e w2 ⟨rfl, hb⟩; have HB2 := Aside0.mk (below_step HB1.out hb); clear hb))
    go_ret
    exact ⟨rfl, HB2.out⟩
  · obtain ⟨hn, hd, q1, r, q2, q3, q4⟩ := hsm hb2
    obtain ⟨at1, en⟩ := r
    have HN := Aside0.mk hn
    have HDD := Aside0.mk hd
    have HD9 := Aside0.mk (fun x (hx : x ∈ l0) => show (x : S28).f7.length ≤ 9223372036854775807 by have := hd x hx; omega)
    have Q1 := Aside0.mk q1
    have Q2 := Aside0.mk q2
    have Q3 := Aside0.mk q3
    have Q4 := Aside0.mk q4
    clear hsm hn hd q1 q2 q3 q4
    cases bl with
    | false =>
      clear hb2
      go_enter Tryz.func4, Tryz.ntmps4
      go_wp2_with (first
        | (go_at_call 5; refine (alive_calls w HGL.out).mono ?_; rintro e w1 ⟨rfl, hb⟩; have HB1 := Aside0.mk hb; clear hb)
        | (go_at_call 6; refine (amphoralaw09_large.calls K A0 k0 l0 false _ (Kd.C_below H0.out HB1.out) HC0.out (HGL.out.of HB1.out) HBL.out).mono ?_; rintro e w2 ⟨rfl, hb⟩; have HB2 := Aside0.mk (below_step HB1.out hb); clear hb)
        | (go_at_call 7; refine (mine_calls l0 A0 k0 _ (Kd.C_below H0.out HB2.out) HN.out HDD.out).mono ?_; rintro e w3 ⟨ga, c, rfl, hm, hb⟩; have HM3 := Aside0.mk hm; have HB3 := Aside0.mk (below_step HB2.out hb); clear hb hm)
        | (go_at_call 19; refine (tree_Check.calls K (some ⟨ga, 0, none⟩) c l0 (at1, en) _ (HM3.out.reads HD9.out) (HGL.out.of HB3.out) Q2.out).mono ?_; rintro e w4 ⟨rfl, hb⟩; have HM4 := Aside0.mk (HM3.out.below hb); have HB4 := Aside0.mk (below_step HB3.out hb); clear hb)
        | (go_at_call 20; refine (amphoraref09_Check.calls K A0 k0 l0 _ _ _ (Kd.C_below H0.out HB4.out) HC0.out (HGL.out.of HB4.out) Q3.out).mono ?_; rintro e w5 ⟨rfl, hb⟩; have HM5 := Aside0.mk (HM4.out.below hb); have HB5 := Aside0.mk (below_step HB4.out hb); clear hb)
        | (go_at_call 21; refine (amphoranum_Num.calls en _ _ (HGL.out.of (by repeat (first | exact HB5.out | exact below_drew1 HB5.out))) Q4.out).mono ?_; rintro e w6 ⟨rfl, hd⟩; have HB5n := Aside0.mk (below_drawn HB5.out hd); have HM5n := Aside0.mk (HM5.out.below (below_drawn (Below.refl _ _) hd)); clear hd)
        | (go_at_call 22; refine (kept_all K l0 ga c _ A0 k0 _ (HGL.out.of HB5n.out) HM5n.out (Kd.C_below H0.out HB5n.out) HC0.out HDD.out Q1.out).mono ?_; rintro e w7 ⟨rfl, hb⟩; have HB6 := Aside0.mk (below_step HB5n.out hb); clear hb))
      go_ret
      exact ⟨rfl, HB6.out⟩
    | true =>
      have d1 : decide ((l0.length : Int) ≤ 200) = false := decide_eq_false (fun h => hb2 ⟨rfl, h⟩)
      have d2 : decide (l0.length ≤ 200) = false := decide_eq_false (fun h => hb2 ⟨rfl, by omega⟩)
      clear hb2
      go_enter Tryz.func4, Tryz.ntmps4
      go_wp2_with (first
        | (go_at_call 5; refine (alive_calls w HGL.out).mono ?_; rintro e w1 ⟨rfl, hb⟩; have HB1 := Aside0.mk hb; clear hb)
        | (go_at_call 6; refine (amphoralaw09_large.calls K A0 k0 l0 true _ (Kd.C_below H0.out HB1.out) HC0.out (HGL.out.of HB1.out) HBL.out).mono ?_; rintro e w2 ⟨rfl, hb⟩; have HB2 := Aside0.mk (below_step HB1.out hb); clear hb)
        | (go_at_call 7; refine (mine_calls l0 A0 k0 _ (Kd.C_below H0.out HB2.out) HN.out HDD.out).mono ?_; rintro e w3 ⟨ga, c, rfl, hm, hb⟩; have HM3 := Aside0.mk hm; have HB3 := Aside0.mk (below_step HB2.out hb); clear hb hm)
        | (go_at_call 19; refine (tree_Check.calls K (some ⟨ga, 0, none⟩) c l0 (at1, en) _ (HM3.out.reads HD9.out) (HGL.out.of HB3.out) Q2.out).mono ?_; rintro e w4 ⟨rfl, hb⟩; have HM4 := Aside0.mk (HM3.out.below hb); have HB4 := Aside0.mk (below_step HB3.out hb); clear hb)
        | (go_at_call 20; refine (amphoraref09_Check.calls K A0 k0 l0 _ _ _ (Kd.C_below H0.out HB4.out) HC0.out (HGL.out.of HB4.out) Q3.out).mono ?_; rintro e w5 ⟨rfl, hb⟩; have HM5 := Aside0.mk (HM4.out.below hb); have HB5 := Aside0.mk (below_step HB4.out hb); clear hb)
        | (go_at_call 21; refine (amphoranum_Num.calls en _ _ (HGL.out.of (by repeat (first | exact HB5.out | exact below_drew1 HB5.out))) Q4.out).mono ?_; rintro e w6 ⟨rfl, hd⟩; have HB5n := Aside0.mk (below_drawn HB5.out hd); have HM5n := Aside0.mk (HM5.out.below (below_drawn (Below.refl _ _) hd)); clear hd)
        | (go_at_call 22; refine (kept_all K l0 ga c _ A0 k0 _ (HGL.out.of HB5n.out) HM5n.out (Kd.C_below H0.out HB5n.out) HC0.out HDD.out Q1.out).mono ?_; rintro e w7 ⟨rfl, hb⟩; have HB6 := Aside0.mk (below_step HB5n.out hb); clear hb))
      go_ret
      exact ⟨rfl, HB6.out⟩
end Go.Proofs.YtfkbmjfhakooiaaGreatDoor.TR

/- TreeChecks, of any arguments. Conditions: as the theorem says. -/
namespace Go.Proofs.YtfkbmjfhakooiaaGreatDoor.TR
open Go.RowKit Go.Proofs.YtfkbmjfhakooiaaGreatDoor.PTree Go.Proofs.YtfkbmjfhakooiaaGreatDoorW.PrintWords Go.Proofs.YtfkbmjfhakooiaaGreatDoorW.PrintLast Go.Proofs.YtfkbmjfhakooiaaGreatDoorW.PrintMore
set_option linter.unusedVariables false
set_option linter.unusedSimpArgs false
theorem entry_self (x : S28) : amphoraref09_SameEntry.f x.f0 x.f1 x.f2 x.f3 x.f4 x.f5 x.f6 x.f7 x.f0 x.f1 x.f2 x.f3 x.f4 x.f5 x.f6 x.f7 = some true := by
  unfold amphoraref09_SameEntry.f
  simp
theorem rsame_l (l : List S28) (hl : (l.length : Int) ≤ 9223372036854775807) : ∀ (n : Nat) (i : Int) (k : Nat), 0 ≤ i → (l.length : Int) - i ≤ n → n + 1 ≤ k → amphoraref09_Same.l0 k l l i = some true
  | n, i, 0, _, _, h => by omega
  | n, i, k + 1, h0, h1, h2 => by
    unfold amphoraref09_Same.l0
    by_cases c1 : i < (l.length : Int)
    · rw [if_pos c1, if_pos h0, if_pos c1, entry_self, Option.bind_some, if_pos rfl, show wrap64 (i + 1) = i + 1 from wr_in _ ⟨by omega, by omega⟩]
      cases n with
      | zero => omega
      | succ n => exact rsame_l l hl n (i + 1) k (by omega) (by omega) (by omega)
    · rw [if_neg c1]
theorem rsame_f (l : List S28) (hl : (l.length : Int) ≤ 9223372036854775807) (K : Nat) (hK : l.length + 1 ≤ K) : amphoraref09_Same.f K l l = some true := by
  unfold amphoraref09_Same.f
  rw [if_pos rfl]
  exact rsame_l l hl l.length 0 K (by omega) (by omega) hK
/-- The law. -/
theorem checks_holds (l0 : List S28) (A0 : Option Addr) (k0 : Nat) (w : World) (hGl : Gl w) (h0 : Kd.C k28 w A0 l0.length l0) (hc0 : l0.length ≤ k0) (hs : ∀ x ∈ l0, x.f0.size ≤ 9223372036854775807 ∧ x.f6.size ≤ 9223372036854775807 ∧ x.f7.length ≤ 9223372036854775807 ∧ (Lit.int .i64 x.f1).wf = true) (hl : (l0.length : Int) ≤ 9223372036854775807)
    (hz : l0.length * 96 ≤ reachBytes ∧ ∀ x ∈ l0, x.f7.length ≤ reachBytes) :
    Calls Tryz.prog 4 #[.slice A0 l0.length k0] w fun e w' => e = .returned (.bool true) ∧ Below w.heap.size w w' := by
  have hr : reachBytes = 140737488351232 := rfl
  rw [hr] at hz
  obtain ⟨K, hK⟩ : ∃ K, K = l0.length + 3000000 := ⟨_, rfl⟩
  obtain ⟨bl, b1, b2⟩ := large_f l0 (fun x hx => ⟨(hs x hx).1, (hs x hx).2.1, (hs x hx).2.2.1⟩) hl K (by omega)
  refine Checks_calls K l0 A0 k0 bl w hGl h0 hc0 b1 (fun e1 => ?_)
  refine ⟨by omega, fun x hx => by have := hz.2 x hx; omega, rsame_f l0 hl K (by omega), rcheck_f K l0 (by omega) (fun hlen x hx => ?_)⟩
  have e2 : bl = false := by
    cases bl with
    | false => rfl
    | true => exact absurd ⟨rfl, by omega⟩ e1
  obtain ⟨q1, q2⟩ := b2 e2
  have q3 := q2 x hx
  refine ⟨by omega, by omega, ?_⟩
  simp only [fits, Bool.and_eq_true, decide_eq_true_eq]
  exact ⟨⟨⟨by omega, by omega⟩, by omega⟩, (hs x hx).2.2.2⟩
end Go.Proofs.YtfkbmjfhakooiaaGreatDoor.TR
