/- tree.Build, walked: what it does ahead of the sort. Conditions: as each theorem says. -/
import Derived.Test.YtfkbmjfhakooiaaGreatDoorChecks1
import Derived.Test.YtfkbmjfhakooiaaGreatDoorNormal
namespace Go.Proofs.YtfkbmjfhakooiaaGreatDoor.TR
open Go.RowKit Go.Proofs.YtfkbmjfhakooiaaGreatDoor.PTree Go.Proofs.YtfkbmjfhakooiaaGreatDoorW.PrintWords Go.Proofs.YtfkbmjfhakooiaaGreatDoorW.PrintLast Go.Proofs.YtfkbmjfhakooiaaGreatDoorW.PrintMore
set_option linter.unusedVariables false
set_option linter.unusedSimpArgs false
theorem R_map {α : Type} {d : Kd α} {e : Nat} {W W1 : World} {base : Nat} {ok : Nat → Prop} {v : Value} {xs : List α} (h : Kd.R d e W base ok v xs) {mb : Nat} (hm : ∃ es cl, W.heap[mb]? = some (.map es cl)) (hg : W.grownBy W1 (some mb)) : Kd.R d e W1 base ok v xs := by
  obtain ⟨es, cl, hm⟩ := hm
  refine Kd.R_mono (Kd.R_grown (Kd.R_mono (ok' := fun k => ok k ∧ k ≠ mb) (Kd.R_bound h) (fun k hk => ⟨hk.1, ?_⟩)) hg (fun k hk e => hk.2 (by injection e))) (fun _ hk => hk.1)
  rintro rfl
  obtain ⟨_, _, _, _, _, cells, hc⟩ := hk
  rw [hm] at hc
  cases hc
theorem below_row {w W W1 : World} {g : Nat} (h : Below w.heap.size w W) (b2 : W.grownBy W1 (some g)) (hg : w.heap.size ≤ g) : Below w.heap.size w W1 :=
  h.trans ⟨b2.os, b2.tape, b2.output, b2.size, fun k hk => b2.block k (Nat.lt_of_lt_of_le hk (below_size h)) (fun e => by injection e with e; omega)⟩
abbrev NormT := ByteArray × Int × Int × Int × Int × Int × ByteArray × List Int × Option Int
def mk31 (n : NormT) : S28 := ⟨n.1, n.2.1, n.2.2.1, n.2.2.2.1, n.2.2.2.2.1, n.2.2.2.2.2.1, n.2.2.2.2.2.2.1, n.2.2.2.2.2.2.2.1⟩
def normOf (K : Nat) (x : S28) : Option NormT := tree_normal.f K x.f0 x.f1 x.f2 x.f3 x.f4 x.f5 x.f6 x.f7
/-- The entries as they are meant, or the first error. -/
def build1 (K : Nat) (l : List S28) : Nat → List S28 → Int → Option (List S28 × Option Int)
  | 0, _, _ => none
  | k + 1, out, i => if i < (l.length : Int) then
      (normOf K (rd_T28 l i)).bind fun n => match n.2.2.2.2.2.2.2.2 with
        | some c => some ([], some c)
        | none => build1 K l k (out ++ [mk31 n]) (i + 1)
    else some (out, none)
/-- Are paths there twice? -/
def build2 (xs : List S28) : Nat → (ByteArray → Int) → Int → Option (Option (ByteArray → Int))
  | 0, _, _ => none
  | k + 1, M, i => if i < (xs.length : Int) then
      (if (rd_T28 xs i).f0.size ≤ 1000000000000 then (if M (rd_T28 xs i).f0 > 0 then some none else if M (rd_T28 xs i).f0 = 0 then build2 xs k (upd M (rd_T28 xs i).f0 1) (i + 1) else none) else none)
    else some (some M)
/-- The directories above. -/
def build3 (K : Nat) : Nat → List S28 → (ByteArray → Int) → Int → Option (List S28)
  | 0, _, _, _ => none
  | k + 1, xs, M, i => if i < (xs.length : Int) then
      (path_Parent.f K (rd_T28 xs i).f0).bind fun pr => if pr.1.size ≤ 1000000000000 ∧ xs.length < 1000000 then
        (if (pr.2 && (M pr.1 == 0)) = true then build3 K k (xs ++ [⟨pr.1, 1, 493, 0, 0, 0, ⟨#[]⟩, []⟩]) (upd M pr.1 1) (i + 1) else build3 K k xs M (i + 1)) else none
    else some xs

/-- Build to where it sorts. -/
def buildA (K : Nat) (l : List S28) : Option (List S28 × Option Int) :=
  if (l.length : Int) > 200 then some ([], some 19) else
  (build1 K l (l.length + 1) [] 0).bind fun q => match q.2 with
    | some c => some ([], some c)
    | none => (build2 q.1 (q.1.length + 1) (fun _ => 0) 0).bind fun m => match m with
      | none => some ([], some 13)
      | some M => (build3 K K q.1 M 0).bind fun xs => some (xs, none)
/-- What is asked of the sort, and of the Check behind it. -/
def SortGoes (xs : List S28) (w0 : World) (R : List S28 → Prop) : Prop :=
  ∀ (v : Value) (w : World), Below w0.heap.size w0 w → Kd.R k28 28 w w0.heap.size (fun _ => True) v xs → Calls Tryz.prog 44 #[v, .func (.func 45) #[] #[]] w fun e w' => e = .returned (.tuple #[]) ∧ ∃ ys, R ys ∧ Kd.R k28 28 w' w0.heap.size (fun _ => True) v ys ∧ Below w0.heap.size w0 w'
set_option maxHeartbeats 16000000 in
set_option maxRecDepth 100000 in
theorem Build_calls (K : Nat) (A0 : Option Addr) (c0 : Nat) (l0 xs : List S28) (er : Option Int) (R : List S28 → Prop) (w : World) (hr0 : Kd.C k28 w A0 l0.length l0) (hGl : Gl w) (h : buildA K l0 = some (xs, er)) (hS : er = none → SortGoes xs w R) (hK : ∀ ys, R ys → ∃ r, tree_Check.f K ys = some r) :
    Calls Tryz.prog 23 #[.slice A0 l0.length c0] w fun e w' => ∃ A c ys en, e = .returned (.tuple #[.slice A ys.length c, errW en]) ∧ ys.length ≤ c ∧ Kd.C k28 w' A ys.length ys ∧ Below w.heap.size w w' ∧
      (∀ q, er = some q → ys = [] ∧ en = some q) ∧ (er = none → ∃ zs r, R zs ∧ tree_Check.f K zs = some r ∧ en = r.2 ∧ ys = if r.2 = none then zs else []) := by
  have hu31 := Tryz.underlying28
  have hu26 := Tryz.underlying44
  have hu56 := Tryz.underlying63
  have HR0 := Aside0.mk hr0
  have HGL := Aside0.mk hGl
  have HS := Aside0.mk hS
  have HK := Aside0.mk hK
  clear hr0 hGl hS hK
  have NILC : ∀ W : World, Kd.C k28 W none ([] : List S28).length [] := fun W => ⟨rfl, by decide, fun h => absurd h (by decide)⟩
  replace NILC := Aside0.mk NILC
  unfold buildA at h
  by_cases c1 : (l0.length : Int) > 200
  · rw [if_pos c1] at h
    simp only [Option.some.injEq, Prod.mk.injEq] at h
    obtain ⟨rfl, rfl⟩ := h
    go_enter Tryz.func23, Tryz.ntmps23
    go_wp2
    go_ret2
    exact ⟨none, 0, [], some 19, rfl, Nat.le_refl _, NILC.out _, Below.refl _ _, fun q e => ⟨rfl, e⟩, fun e => by cases e⟩
  · rw [if_neg c1] at h
    have C1 := Aside0.mk c1
    obtain ⟨⟨x1, e1⟩, h1, h⟩ := Option.bind_eq_some_iff.mp h
    have H1 := Aside0.mk h1
    have H := Aside0.mk h
    clear h1 h
    have HB := Aside0.mk (Below.refl w.heap.size w)
    go_enter Tryz.func23, Tryz.ntmps23
    go_wp2
    go_loopg [4, 23] (l0.length + 1) (fun kq v4 v23 w' => ∃ (out : List S28) (i : Int), v23 = .int .i64 i ∧ Aside0 (build1 K l0 kq out i = some (x1, e1)) ∧ Aside0 (0 ≤ i ∧ (out.length : Int) = i ∧ i ≤ (l0.length : Int)) ∧ Aside0 (Kd.R k28 28 w' w.heap.size (fun _ => True) v4 out) ∧ Aside0 (Below w.heap.size w w'))
    case atStart => exact ⟨[], 0, rfl, H1, ⟨by omega, rfl, by omega⟩, ⟨Kd.R_nil _ _ _ _ _⟩, HB⟩
    case round =>
      clear H1 HB
      obtain ⟨out, i, rfl, HA, HI, HO, HB⟩ := hrel
      cases gk with
      | zero => exact absurd HA.out (by simp [build1])
      | succ k1 =>
        have H1 := HA.out
        clear HA
        simp only [build1] at H1
        by_cases c2 : i < (l0.length : Int)
        · rw [if_pos c2] at H1
          obtain ⟨⟨n0, n1, n2, n3, n4, n5, n6, n7, n8⟩, HN, H1⟩ := Option.bind_eq_some_iff.mp H1
          replace HN := Aside0.mk HN
          have C2 := Aside0.mk c2
          obtain ⟨ad, A7, c7, eA, x0, x1', x2, x3, x4, x5, x6, x7, hl7, hi7⟩ := at_T28 HR0.out i HI.out.1 c2
          cases eA
          have HL7 := Aside0.mk hl7
          have HI7 := Aside0.mk (Kd.C_below hi7 HB.out)
          clear hl7 hi7
          replace x0 := (HB.out.cell (World.block_lt_of_cell? w _ x0)).trans x0
          replace x1' := (HB.out.cell (World.block_lt_of_cell? w _ x1')).trans x1'
          replace x2 := (HB.out.cell (World.block_lt_of_cell? w _ x2)).trans x2
          replace x3 := (HB.out.cell (World.block_lt_of_cell? w _ x3)).trans x3
          replace x4 := (HB.out.cell (World.block_lt_of_cell? w _ x4)).trans x4
          replace x5 := (HB.out.cell (World.block_lt_of_cell? w _ x5)).trans x5
          replace x6 := (HB.out.cell (World.block_lt_of_cell? w _ x6)).trans x6
          replace x7 := (HB.out.cell (World.block_lt_of_cell? w _ x7)).trans x7
          have hi0 := HI.out.1
          have p210 := eq_true hi0
          have q210 := eq_true c2
          clear hi0
          have HZ := Aside0.mk (Below.refl wr.heap.size wr)
          cases n8 with
          | some cc =>
            obtain ⟨rfl, rfl⟩ : [] = x1 ∧ some cc = e1 := by simpa using H1
            clear H1
            obtain ⟨rfl, rfl⟩ : [] = xs ∧ some cc = er := by simpa using H.out
            go_wp2_with (first | ((with_reducible refine gate_dst (N := 6) rfl ?_); refine box_event ?hg (N := 6) ?hd (cs := #[.string (⟨#[]⟩ : ByteArray), .int .i64 0, .int .i64 0, .int .i64 0, .int .i64 0, .int .i64 0, .string (⟨#[]⟩ : ByteArray), .slice none 0 0]) (t := 28) ?hr ?_; (case hd => rfl); (case hg => rfl); (case hr => first | (go_simp; done) | (go_simp; rfl)); intro g6 hg w6 hbox hb; have HZ6 := Aside0.mk (below_step HZ.out hb); have K6 := Aside0.mk hbox; have G6 := Aside0.mk (show wr.heap.size ≤ g6 by rw [hg]; exact below_size HZ.out); clear hb hbox hg) | ((with_reducible refine gate_store (t := 28) (p := 6) (v := .tmp 26) rfl ?_); refine ev_set31 _ rfl (.tmp 6) (.tmp 26) rfl rfl g6 _ _ _ _ _ _ _ _ (rd_T28 l0 i).f0 (rd_T28 l0 i).f6 (rd_T28 l0 i).f1 (rd_T28 l0 i).f2 (rd_T28 l0 i).f3 (rd_T28 l0 i).f4 (rd_T28 l0 i).f5 A7 (rd_T28 l0 i).f7.length c7 rfl rfl K6.out (fun w7 b1 b2 => ?_); have HZ7 := Aside0.mk (show Below wr.heap.size wr w7 from HZ6.out.trans ⟨b2.os, b2.tape, b2.output, b2.size, fun k hk => b2.block k (Nat.lt_of_lt_of_le hk (below_size HZ6.out)) (fun e => by injection e with e; have := G6.out; omega)⟩); clear HZ6 K6; have y0 : w7.cell? ⟨g6, 0, none⟩ = some (.string (rd_T28 l0 i).f0) := blk_cell b1 0; have y1 : w7.cell? ⟨g6, 1, none⟩ = some (.int .i64 (rd_T28 l0 i).f1) := blk_cell b1 1; have y2 : w7.cell? ⟨g6, 2, none⟩ = some (.int .i64 (rd_T28 l0 i).f2) := blk_cell b1 2; have y3 : w7.cell? ⟨g6, 3, none⟩ = some (.int .i64 (rd_T28 l0 i).f3) := blk_cell b1 3; have y4 : w7.cell? ⟨g6, 4, none⟩ = some (.int .i64 (rd_T28 l0 i).f4) := blk_cell b1 4; have y5 : w7.cell? ⟨g6, 5, none⟩ = some (.int .i64 (rd_T28 l0 i).f5) := blk_cell b1 5; have y6 : w7.cell? ⟨g6, 6, none⟩ = some (.string (rd_T28 l0 i).f6) := blk_cell b1 6; have y7 : w7.cell? ⟨g6, 7, none⟩ = some (.slice A7 (rd_T28 l0 i).f7.length c7) := blk_cell b1 7; clear b1 b2) | (go_at_call 43; refine (normal_calls K (rd_T28 l0 i).f0 (rd_T28 l0 i).f1 (rd_T28 l0 i).f2 (rd_T28 l0 i).f3 (rd_T28 l0 i).f4 (rd_T28 l0 i).f5 (rd_T28 l0 i).f6 A7 c7 (rd_T28 l0 i).f7 n0 n1 n2 n3 n4 n5 n6 n7 _ _ (Kd.C_below HI7.out HZ7.out) HL7.out (HGL.out.of (below_step HB.out HZ7.out)) HN.out).mono ?_; rintro e w8 ⟨Ao, co, rfl, hno, hb⟩; have HZ8 := Aside0.mk (below_step HZ7.out hb); have HNO := Aside0.mk hno; have HSZ := Aside0.mk (show wr.heap.size ≤ w7.heap.size from below_size HZ7.out); try simp only [errW_none, errW_some]; clear hb hno y0 y1 y2 y3 y4 y5 y6 y7 HZ7) | ((with_reducible refine gate_dst (N := 7) rfl ?_); refine box_event ?hg (N := 7) ?hd (cs := #[.string (⟨#[]⟩ : ByteArray), .int .i64 0, .int .i64 0, .int .i64 0, .int .i64 0, .int .i64 0, .string (⟨#[]⟩ : ByteArray), .slice none 0 0]) (t := 28) ?hr ?_; (case hd => rfl); (case hg => rfl); (case hr => first | (go_simp; done) | (go_simp; rfl)); intro g7 hg w9 hbox hb; have HZ9 := Aside0.mk (below_step HZ8.out hb); have K7 := Aside0.mk hbox; have G7 := Aside0.mk (show wr.heap.size ≤ g7 by rw [hg]; exact below_size HZ8.out); have HNP := Aside0.mk (fun e => (fun q => And.intro q.1 (Kd.R_below (Kd.R_elderB q.2 g7 (Nat.le_of_eq hg.symm)) hb)) (HNO.out e)); clear HNO; clear hb hbox hg) | ((with_reducible refine gate_store (t := 28) (p := 7) (v := .tmp 30) rfl ?_); refine ev_set31 _ rfl (.tmp 7) (.tmp 30) rfl rfl g7 _ _ _ _ _ _ _ _ n0 n6 n1 n2 n3 n4 n5 Ao n7.length co rfl rfl K7.out (fun w10 b1 b2 => ?_); have HZ10 := Aside0.mk (show Below wr.heap.size wr w10 from HZ9.out.trans ⟨b2.os, b2.tape, b2.output, b2.size, fun k hk => b2.block k (Nat.lt_of_lt_of_le hk (below_size HZ9.out)) (fun e => by injection e with e; have := G7.out; omega)⟩); have HNQ := Aside0.mk (fun e => (fun q => And.intro q.1 (Kd.R_grown q.2 b2 (fun k hk e => hk.2 (by injection e)))) (HNP.out e)); clear HZ9 K7 HNP; have y0 : w10.cell? ⟨g7, 0, none⟩ = some (.string n0) := blk_cell b1 0; have y1 : w10.cell? ⟨g7, 1, none⟩ = some (.int .i64 n1) := blk_cell b1 1; have y2 : w10.cell? ⟨g7, 2, none⟩ = some (.int .i64 n2) := blk_cell b1 2; have y3 : w10.cell? ⟨g7, 3, none⟩ = some (.int .i64 n3) := blk_cell b1 3; have y4 : w10.cell? ⟨g7, 4, none⟩ = some (.int .i64 n4) := blk_cell b1 4; have y5 : w10.cell? ⟨g7, 5, none⟩ = some (.int .i64 n5) := blk_cell b1 5; have y6 : w10.cell? ⟨g7, 6, none⟩ = some (.string n6) := blk_cell b1 6; have y7 : w10.cell? ⟨g7, 7, none⟩ = some (.slice Ao n7.length co) := blk_cell b1 7; clear b1 b2))
            go_ret2
            refine ⟨none, 0, [], some cc, rfl, Nat.le_refl _, NILC.out _, below_step HB.out HZ10.out, ?_⟩
            simp
          | none =>
            replace H1 := Aside0.mk H1
            go_wp2_with (first | ((with_reducible refine gate_dst (N := 6) rfl ?_); refine box_event ?hg (N := 6) ?hd (cs := #[.string (⟨#[]⟩ : ByteArray), .int .i64 0, .int .i64 0, .int .i64 0, .int .i64 0, .int .i64 0, .string (⟨#[]⟩ : ByteArray), .slice none 0 0]) (t := 28) ?hr ?_; (case hd => rfl); (case hg => rfl); (case hr => first | (go_simp; done) | (go_simp; rfl)); intro g6 hg w6 hbox hb; have HZ6 := Aside0.mk (below_step HZ.out hb); have K6 := Aside0.mk hbox; have G6 := Aside0.mk (show wr.heap.size ≤ g6 by rw [hg]; exact below_size HZ.out); clear hb hbox hg) | ((with_reducible refine gate_store (t := 28) (p := 6) (v := .tmp 26) rfl ?_); refine ev_set31 _ rfl (.tmp 6) (.tmp 26) rfl rfl g6 _ _ _ _ _ _ _ _ (rd_T28 l0 i).f0 (rd_T28 l0 i).f6 (rd_T28 l0 i).f1 (rd_T28 l0 i).f2 (rd_T28 l0 i).f3 (rd_T28 l0 i).f4 (rd_T28 l0 i).f5 A7 (rd_T28 l0 i).f7.length c7 rfl rfl K6.out (fun w7 b1 b2 => ?_); have HZ7 := Aside0.mk (show Below wr.heap.size wr w7 from HZ6.out.trans ⟨b2.os, b2.tape, b2.output, b2.size, fun k hk => b2.block k (Nat.lt_of_lt_of_le hk (below_size HZ6.out)) (fun e => by injection e with e; have := G6.out; omega)⟩); clear HZ6 K6; have y0 : w7.cell? ⟨g6, 0, none⟩ = some (.string (rd_T28 l0 i).f0) := blk_cell b1 0; have y1 : w7.cell? ⟨g6, 1, none⟩ = some (.int .i64 (rd_T28 l0 i).f1) := blk_cell b1 1; have y2 : w7.cell? ⟨g6, 2, none⟩ = some (.int .i64 (rd_T28 l0 i).f2) := blk_cell b1 2; have y3 : w7.cell? ⟨g6, 3, none⟩ = some (.int .i64 (rd_T28 l0 i).f3) := blk_cell b1 3; have y4 : w7.cell? ⟨g6, 4, none⟩ = some (.int .i64 (rd_T28 l0 i).f4) := blk_cell b1 4; have y5 : w7.cell? ⟨g6, 5, none⟩ = some (.int .i64 (rd_T28 l0 i).f5) := blk_cell b1 5; have y6 : w7.cell? ⟨g6, 6, none⟩ = some (.string (rd_T28 l0 i).f6) := blk_cell b1 6; have y7 : w7.cell? ⟨g6, 7, none⟩ = some (.slice A7 (rd_T28 l0 i).f7.length c7) := blk_cell b1 7; clear b1 b2) | (go_at_call 43; refine (normal_calls K (rd_T28 l0 i).f0 (rd_T28 l0 i).f1 (rd_T28 l0 i).f2 (rd_T28 l0 i).f3 (rd_T28 l0 i).f4 (rd_T28 l0 i).f5 (rd_T28 l0 i).f6 A7 c7 (rd_T28 l0 i).f7 n0 n1 n2 n3 n4 n5 n6 n7 _ _ (Kd.C_below HI7.out HZ7.out) HL7.out (HGL.out.of (below_step HB.out HZ7.out)) HN.out).mono ?_; rintro e w8 ⟨Ao, co, rfl, hno, hb⟩; have HZ8 := Aside0.mk (below_step HZ7.out hb); have HNO := Aside0.mk hno; have HSZ := Aside0.mk (show wr.heap.size ≤ w7.heap.size from below_size HZ7.out); try simp only [errW_none, errW_some]; clear hb hno y0 y1 y2 y3 y4 y5 y6 y7 HZ7) | ((with_reducible refine gate_dst (N := 7) rfl ?_); refine box_event ?hg (N := 7) ?hd (cs := #[.string (⟨#[]⟩ : ByteArray), .int .i64 0, .int .i64 0, .int .i64 0, .int .i64 0, .int .i64 0, .string (⟨#[]⟩ : ByteArray), .slice none 0 0]) (t := 28) ?hr ?_; (case hd => rfl); (case hg => rfl); (case hr => first | (go_simp; done) | (go_simp; rfl)); intro g7 hg w9 hbox hb; have HZ9 := Aside0.mk (below_step HZ8.out hb); have K7 := Aside0.mk hbox; have G7 := Aside0.mk (show wr.heap.size ≤ g7 by rw [hg]; exact below_size HZ8.out); have HNP := Aside0.mk (fun e => (fun q => And.intro q.1 (Kd.R_below (Kd.R_elderB q.2 g7 (Nat.le_of_eq hg.symm)) hb)) (HNO.out e)); clear HNO; clear hb hbox hg) | ((with_reducible refine gate_store (t := 28) (p := 7) (v := .tmp 30) rfl ?_); refine ev_set31 _ rfl (.tmp 7) (.tmp 30) rfl rfl g7 _ _ _ _ _ _ _ _ n0 n6 n1 n2 n3 n4 n5 Ao n7.length co rfl rfl K7.out (fun w10 b1 b2 => ?_); have HZ10 := Aside0.mk (show Below wr.heap.size wr w10 from HZ9.out.trans ⟨b2.os, b2.tape, b2.output, b2.size, fun k hk => b2.block k (Nat.lt_of_lt_of_le hk (below_size HZ9.out)) (fun e => by injection e with e; have := G7.out; omega)⟩); have HNQ := Aside0.mk (fun e => (fun q => And.intro q.1 (Kd.R_grown q.2 b2 (fun k hk e => hk.2 (by injection e)))) (HNP.out e)); clear HZ9 K7 HNP; have y0 : w10.cell? ⟨g7, 0, none⟩ = some (.string n0) := blk_cell b1 0; have y1 : w10.cell? ⟨g7, 1, none⟩ = some (.int .i64 n1) := blk_cell b1 1; have y2 : w10.cell? ⟨g7, 2, none⟩ = some (.int .i64 n2) := blk_cell b1 2; have y3 : w10.cell? ⟨g7, 3, none⟩ = some (.int .i64 n3) := blk_cell b1 3; have y4 : w10.cell? ⟨g7, 4, none⟩ = some (.int .i64 n4) := blk_cell b1 4; have y5 : w10.cell? ⟨g7, 5, none⟩ = some (.int .i64 n5) := blk_cell b1 5; have y6 : w10.cell? ⟨g7, 6, none⟩ = some (.string n6) := blk_cell b1 6; have y7 : w10.cell? ⟨g7, 7, none⟩ = some (.slice Ao n7.length co) := blk_cell b1 7; clear b1 b2) | ((with_reducible refine gate_builtin (b := .append) (xs := #[.tmp 35, .tmp 37]) rfl ?_); at_builtin; refine Kd.R_append k28 (w0 := w) w.heap.size rfl (.tmp 35) (.tmp 37) 22 28 (.agg #[.string (⟨#[]⟩ : ByteArray), .int .i64 0, .int .i64 0, .int .i64 0, .int .i64 0, .int .i64 0, .string (⟨#[]⟩ : ByteArray), .slice none 0 0]) 96 rfl Tryz.underlying22 info28 rfl (by decide) (by omega) u4 out (⟨n0, n1, n2, n3, n4, n5, n6, n7⟩ : S28) [.string n0, .int .i64 n1, .int .i64 n2, .int .i64 n3, .int .i64 n4, .int .i64 n5, .string n6, .slice Ao n7.length co] (fun _ => True) (fun k_ => wr.heap.size ≤ k_) rfl rfl ?aP (fun k_ hk_ => ⟨trivial, fun e_ => by have := Kd.R_lt HO.out k_ e_.symm; omega⟩) (fun _ _ => trivial) ?aO ?aB ?aS ?aL ?_; (case aP => exact k28_mkM _ _ _ (⟨n0, n1, n2, n3, n4, n5, n6, n7⟩ : S28) (Kd.R_lower (Kd.R_mono (Kd.R_bound (HNQ.out rfl).2) (fun k_ hk_ => by have h1 := hk_.2.1; have h2 := HSZ.out; omega)) (by have := below_size HB.out; have := HSZ.out; omega))); (case aO => exact Kd.R_below HO.out HZ10.out); (case aB => exact below_step HB.out HZ10.out); (case aS => exact below_size (below_step HB.out HZ10.out)); (case aL => have h1 := HI.out; have h2 := C1.out; have h3 := C2.out; omega); intro v11 w11 ho hb hg hat; have HO11 := Aside0.mk ho; have HB11 := Aside0.mk hb; clear ho hb hg hat))
            go_roundg k1
            case measure => omega
            case rel => exact ⟨out ++ [⟨n0, n1, n2, n3, n4, n5, n6, n7⟩], i + 1, by rw [wr_in _ (by have h1 := HI.out.1; have h2 := C1.out; have h3 := C2.out; omega)], H1, ⟨by have h1 := HI.out; have h2 := C2.out; rw [List.length_append, List.length_singleton]; omega⟩, HO11, HB11⟩
        · rw [if_neg c2] at H1
          obtain ⟨rfl, rfl⟩ : out = x1 ∧ none = e1 := by simpa using H1
          clear H1
          have H2 := H.out
          have C2 := Aside0.mk c2
          clear H
          obtain ⟨m2, h2, h3⟩ := Option.bind_eq_some_iff.mp H2
          have H1 := Aside0.mk h2
          have H := Aside0.mk h3
          clear H2 h2 h3
          have hmm := @run_makeMap Tryz.prog
          obtain ⟨A4, c4, e4⟩ := Kd.R_slice HO.out
          subst e4
          go_upto_region 13 with (fail)
          clear hmm
          have HN2 := Aside0.mk (show out.length ≤ 200 by have h1 := HI.out; have h2 := C1.out; have h3 := C2.out; omega)
          obtain ⟨mb, hmb⟩ : ∃ mb, mb = wr.heap.size := ⟨_, rfl⟩
          obtain ⟨w1, hw1⟩ : ∃ w1, w1 = wr.alloc (.map #[] 0) := ⟨_, rfl⟩
          have HB2 := Aside0.mk (show Below w.heap.size w w1 by rw [hw1]; exact below_step HB.out (below_alloc (Below.refl _ _) _))
          have HO2 := Aside0.mk (show Kd.R k28 28 w1 w.heap.size (fun _ => True) (.slice A4 out.length c4) out by rw [hw1]; exact Kd.R_below HO.out (below_alloc (Below.refl _ _) _))
          have HM2 := Aside0.mk (show MapAt w1 mb 0 (fun _ => 0) by rw [hmb, hw1]; exact MapAt.made wr)
          have HMG := Aside0.mk (show w.heap.size ≤ mb by rw [hmb]; exact below_size HB.out)
          rw [← hmb, ← hw1]
          clear hw1 hmb
          clear HB HO HI C2
          go_wp2
          go_loopg [43] (out.length + 1) (fun kq v43 w' => ∃ (M : ByteArray → Int) (i : Int), v43 = .int .i64 i ∧ Aside0 (build2 out kq M i = some m2) ∧ Aside0 (0 ≤ i) ∧ Aside0 (i ≤ (out.length : Int)) ∧ Aside0 (MapAt w' mb i.toNat M) ∧ Aside0 (Kd.R k28 28 w' w.heap.size (fun _ => True) (.slice A4 out.length c4) out) ∧ Aside0 (Below w.heap.size w w'))
          case atStart => exact ⟨_, 0, rfl, H1, ⟨by omega⟩, ⟨by omega⟩, HM2, HO2, HB2⟩
          case round =>
            clear H1 HM2 HO2 HB2
            obtain ⟨M, i, rfl, HA, HI, HI2, HM, HO, HB⟩ := hrel
            cases gk with
            | zero => exact absurd HA.out (by simp [build2])
            | succ k2 =>
              have H1 := HA.out
              clear HA
              simp only [build2] at H1
              by_cases c5 : i < (out.length : Int)
              · rw [if_pos c5] at H1
                have C5 := Aside0.mk c5
                by_cases c6 : (rd_T28 out i).f0.size ≤ 1000000000000
                · rw [if_pos c6] at H1
                  obtain ⟨ad, A8, k8, eA, x0, x1', x2, x3, x4, x5, x6, x7, _, _⟩ := at_T28 (Kd.R_reads' HO.out).2.2 i HI.out c5
                  cases eA
                  have hi0 := HI.out
                  have p210 := eq_true hi0
                  have q210 := eq_true c5
                  clear hi0
                  have HZ := Aside0.mk (Below.refl wr.heap.size wr)
                  by_cases c7 : M (rd_T28 out i).f0 > 0
                  · rw [if_pos c7] at H1
                    obtain rfl := Option.some.inj H1
                    obtain ⟨rfl, rfl⟩ : [] = xs ∧ some 13 = er := by simpa using H.out
                    go_wp2_with (first | ((with_reducible refine gate_dst (N := 11) rfl ?_); refine box_event ?hg (N := 11) ?hd (cs := #[.string (⟨#[]⟩ : ByteArray), .int .i64 0, .int .i64 0, .int .i64 0, .int .i64 0, .int .i64 0, .string (⟨#[]⟩ : ByteArray), .slice none 0 0]) (t := 28) ?hr ?_; (case hd => rfl); (case hg => rfl); (case hr => first | (go_simp; done) | (go_simp; rfl)); intro g11 hg w11 hbox hb; have HZ11 := Aside0.mk (below_step HZ.out hb); have K11 := Aside0.mk hbox; have G11 := Aside0.mk (show wr.heap.size ≤ g11 by rw [hg]; exact below_size HZ.out); clear hb hbox hg) | ((with_reducible refine gate_store (t := 28) (p := 11) (v := .tmp 46) rfl ?_); refine ev_set31 _ rfl (.tmp 11) (.tmp 46) rfl rfl g11 _ _ _ _ _ _ _ _ (rd_T28 out i).f0 (rd_T28 out i).f6 (rd_T28 out i).f1 (rd_T28 out i).f2 (rd_T28 out i).f3 (rd_T28 out i).f4 (rd_T28 out i).f5 A8 (rd_T28 out i).f7.length k8 rfl rfl K11.out (fun w12 b1 b2 => ?_); have HZ12 := Aside0.mk (show Below wr.heap.size wr w12 from HZ11.out.trans ⟨b2.os, b2.tape, b2.output, b2.size, fun k hk => b2.block k (Nat.lt_of_lt_of_le hk (below_size HZ11.out)) (fun e => by injection e with e; have := G11.out; omega)⟩); have lk := (HM.out.below HZ12.out).look (rd_T28 out i).f0 c6; clear HZ11 K11; have y0 : w12.cell? ⟨g11, 0, none⟩ = some (.string (rd_T28 out i).f0) := blk_cell b1 0; have y1 : w12.cell? ⟨g11, 1, none⟩ = some (.int .i64 (rd_T28 out i).f1) := blk_cell b1 1; have y2 : w12.cell? ⟨g11, 2, none⟩ = some (.int .i64 (rd_T28 out i).f2) := blk_cell b1 2; have y3 : w12.cell? ⟨g11, 3, none⟩ = some (.int .i64 (rd_T28 out i).f3) := blk_cell b1 3; have y4 : w12.cell? ⟨g11, 4, none⟩ = some (.int .i64 (rd_T28 out i).f4) := blk_cell b1 4; have y5 : w12.cell? ⟨g11, 5, none⟩ = some (.int .i64 (rd_T28 out i).f5) := blk_cell b1 5; have y6 : w12.cell? ⟨g11, 6, none⟩ = some (.string (rd_T28 out i).f6) := blk_cell b1 6; have y7 : w12.cell? ⟨g11, 7, none⟩ = some (.slice A8 (rd_T28 out i).f7.length k8) := blk_cell b1 7; clear b1 b2))
                    go_ret2
                    refine ⟨none, 0, [], some 13, rfl, Nat.le_refl _, NILC.out _, below_step HB.out HZ12.out, ?_⟩
                    simp
                  · rw [if_neg c7] at H1
                    by_cases c8 : M (rd_T28 out i).f0 = 0
                    · rw [if_pos c8] at H1
                      clear c7
                      replace H1 := Aside0.mk H1
                      go_wp2_with (first | ((with_reducible refine gate_dst (N := 11) rfl ?_); refine box_event ?hg (N := 11) ?hd (cs := #[.string (⟨#[]⟩ : ByteArray), .int .i64 0, .int .i64 0, .int .i64 0, .int .i64 0, .int .i64 0, .string (⟨#[]⟩ : ByteArray), .slice none 0 0]) (t := 28) ?hr ?_; (case hd => rfl); (case hg => rfl); (case hr => first | (go_simp; done) | (go_simp; rfl)); intro g11 hg w11 hbox hb; have HZ11 := Aside0.mk (below_step HZ.out hb); have K11 := Aside0.mk hbox; have G11 := Aside0.mk (show wr.heap.size ≤ g11 by rw [hg]; exact below_size HZ.out); clear hb hbox hg) | ((with_reducible refine gate_store (t := 28) (p := 11) (v := .tmp 46) rfl ?_); refine ev_set31 _ rfl (.tmp 11) (.tmp 46) rfl rfl g11 _ _ _ _ _ _ _ _ (rd_T28 out i).f0 (rd_T28 out i).f6 (rd_T28 out i).f1 (rd_T28 out i).f2 (rd_T28 out i).f3 (rd_T28 out i).f4 (rd_T28 out i).f5 A8 (rd_T28 out i).f7.length k8 rfl rfl K11.out (fun w12 b1 b2 => ?_); have HZ12 := Aside0.mk (show Below wr.heap.size wr w12 from HZ11.out.trans ⟨b2.os, b2.tape, b2.output, b2.size, fun k hk => b2.block k (Nat.lt_of_lt_of_le hk (below_size HZ11.out)) (fun e => by injection e with e; have := G11.out; omega)⟩); have lk := (HM.out.below HZ12.out).look (rd_T28 out i).f0 c6; rw [c8] at lk; clear HZ11 K11; have y0 : w12.cell? ⟨g11, 0, none⟩ = some (.string (rd_T28 out i).f0) := blk_cell b1 0; have y1 : w12.cell? ⟨g11, 1, none⟩ = some (.int .i64 (rd_T28 out i).f1) := blk_cell b1 1; have y2 : w12.cell? ⟨g11, 2, none⟩ = some (.int .i64 (rd_T28 out i).f2) := blk_cell b1 2; have y3 : w12.cell? ⟨g11, 3, none⟩ = some (.int .i64 (rd_T28 out i).f3) := blk_cell b1 3; have y4 : w12.cell? ⟨g11, 4, none⟩ = some (.int .i64 (rd_T28 out i).f4) := blk_cell b1 4; have y5 : w12.cell? ⟨g11, 5, none⟩ = some (.int .i64 (rd_T28 out i).f5) := blk_cell b1 5; have y6 : w12.cell? ⟨g11, 6, none⟩ = some (.string (rd_T28 out i).f6) := blk_cell b1 6; have y7 : w12.cell? ⟨g11, 7, none⟩ = some (.slice A8 (rd_T28 out i).f7.length k8) := blk_cell b1 7; clear b1 b2) | ((with_reducible refine gate_ (.mapUpdate 65 (.tmp 53) (.tmp 55) (.tmp 57)) rfl ?_); refine ev_put _ rfl (.tmp 53) (.tmp 55) (.tmp 57) rfl mb i.toNat M rfl (HM.out.below HZ12.out) (by have h1 := HN2.out; have h2 := C5.out; omega) (rd_T28 out i).f0 c6 1 rfl rfl rfl (fun w13 r1 r2 => ?_); have HM13 := Aside0.mk r1; have HG13 := Aside0.mk r2; clear r1 r2 y0 y1 y2 y3 y4 y5 y6 y7 lk))
                      go_roundg k2
                      case measure => omega
                      case rel => exact ⟨_, i + 1, by rw [wr_in _ (by have h1 := HI.out; have h2 := HN2.out; have h3 := C5.out; omega)], H1, ⟨by have := HI.out; omega⟩, ⟨by have := C5.out; omega⟩, ⟨by rw [show (i + 1).toNat = i.toNat + 1 by have := HI.out; omega]; exact HM13.out⟩, ⟨R_map (Kd.R_below HO.out HZ12.out) (HM.out.below HZ12.out).blk HG13.out⟩, ⟨below_row (below_step HB.out HZ12.out) HG13.out HMG.out⟩⟩
                    · rw [if_neg c8] at H1
                      cases H1
                · rw [if_neg c6] at H1
                  cases H1
              · rw [if_neg c5] at H1
                obtain rfl := Option.some.inj H1
                clear H1
                obtain ⟨xs3, h3, hx⟩ := Option.bind_eq_some_iff.mp H.out
                obtain ⟨rfl, rfl⟩ : xs3 = xs ∧ none = er := by simpa using hx
                have H3 := Aside0.mk h3
                clear H h3 hx
                have HM3 := Aside0.mk (show MapAt wr mb out.length M from (by have h1 := HI.out; have h2 := HI2.out; rw [show out.length = i.toNat by omega]; exact HM.out))
                go_wp2
                go_loopg [4, 12] K (fun kq v4 v12 w' => ∃ (ys : List S28) (M : ByteArray → Int) (i : Int), v12 = .int .i64 i ∧ Aside0 (build3 K kq ys M i = some xs3) ∧ Aside0 (0 ≤ i) ∧ Aside0 (ys.length ≤ 1000000) ∧ Aside0 (MapAt w' mb ys.length M) ∧ Aside0 (Kd.R k28 28 w' w.heap.size (fun _ => True) v4 ys) ∧ Aside0 (Below w.heap.size w w'))
                case atStart => exact ⟨out, M, 0, rfl, H3, ⟨by omega⟩, ⟨by have := HN2.out; omega⟩, HM3, HO, HB⟩
                case round =>
                  clear H3 HM3 HO HB HM HI HI2 c5
                  obtain ⟨ys, M, i, rfl, HA, HI, HYL, HM, HO, HB⟩ := hrel
                  obtain ⟨A5, k5, e5⟩ := Kd.R_slice HO.out
                  subst e5
                  cases gk with
                  | zero => exact absurd HA.out (by simp [build3])
                  | succ k3 =>
                    have H1 := HA.out
                    clear HA
                    simp only [build3] at H1
                    by_cases c5 : i < (ys.length : Int)
                    · rw [if_pos c5] at H1
                      have C5 := Aside0.mk c5
                      obtain ⟨⟨par, ok⟩, HP, H1⟩ := Option.bind_eq_some_iff.mp H1
                      replace HP := Aside0.mk HP
                      by_cases c6 : par.size ≤ 1000000000000 ∧ ys.length < 1000000
                      · rw [if_pos c6] at H1
                        have C6 := Aside0.mk c6
                        obtain ⟨ad, A8, k8, eA, x0, _⟩ := at_T28 (Kd.R_reads' HO.out).2.2 i HI.out c5
                        cases eA
                        have hi0 := HI.out
                        have p210 := eq_true hi0
                        have q210 := eq_true c5
                        clear hi0
                        cases ok with
                        | false =>
                          replace H1 := Aside0.mk ((if_neg (by simp)).symm.trans H1)
                          clear c6
                          go_wp2_with (first | (go_at_call 29; refine (path_Parent.calls K (rd_T28 ys i).f0 par _ _ (HGL.out.of HB.out) HP.out).mono ?_; rintro e w21 ⟨rfl, hb⟩; have HZ21 := Aside0.mk (show Below wr.heap.size wr w21 from hb); clear hb x0))
                          go_roundg k3
                          case measure => omega
                          case rel => exact ⟨ys, M, i + 1, by rw [wr_in _ (by have h1 := HI.out; have h2 := HYL.out; have h3 := C5.out; omega)], H1, ⟨by have := HI.out; omega⟩, HYL, ⟨HM.out.below HZ21.out⟩, ⟨Kd.R_below HO.out HZ21.out⟩, ⟨below_step HB.out HZ21.out⟩⟩
                        | true =>
                          by_cases c9 : M par = 0
                          · replace H1 := Aside0.mk ((if_pos (by rw [c9]; rfl)).symm.trans H1)
                            have HPZ := Aside0.mk c6.1
                            clear c6
                            go_wp2_with (first | (go_at_call 29; refine (path_Parent.calls K (rd_T28 ys i).f0 par _ _ (HGL.out.of HB.out) HP.out).mono ?_; rintro e w21 ⟨rfl, hb⟩; have HZ21 := Aside0.mk (show Below wr.heap.size wr w21 from hb); have lk := (HM.out.below HZ21.out).look par HPZ.out; rw [c9] at lk; clear hb x0) | ((with_reducible refine gate_ (.mapUpdate 65 (.tmp 81) (.tmp 82) (.tmp 84)) rfl ?_); refine ev_put _ rfl (.tmp 81) (.tmp 82) (.tmp 84) rfl mb ys.length M rfl (HM.out.below HZ21.out) (by have h1 := HYL.out; omega) par HPZ.out 1 rfl rfl rfl (fun w23 r1 r2 => ?_); have HM23 := Aside0.mk r1; have HG23 := Aside0.mk r2; have HO23 := Aside0.mk (R_map (Kd.R_below HO.out HZ21.out) (HM.out.below HZ21.out).blk r2); have HB23 := Aside0.mk (below_row (below_step HB.out HZ21.out) r2 HMG.out); clear r1 r2 lk) | ((with_reducible refine gate_builtin (b := .append) (xs := #[.tmp 85, .tmp 88]) rfl ?_); at_builtin; refine Kd.R_append k28 (w0 := w) w.heap.size rfl (.tmp 85) (.tmp 88) 22 28 (.agg #[.string (⟨#[]⟩ : ByteArray), .int .i64 0, .int .i64 0, .int .i64 0, .int .i64 0, .int .i64 0, .string (⟨#[]⟩ : ByteArray), .slice none 0 0]) 96 rfl Tryz.underlying22 info28 rfl (by decide) (by omega) _ ys (⟨par, 1, 493, 0, 0, 0, ⟨#[]⟩, []⟩ : S28) [.string par, .int .i64 1, .int .i64 493, .int .i64 0, .int .i64 0, .int .i64 0, .string ⟨#[]⟩, .slice none 0 0] (fun _ => True) (fun _ => False) rfl rfl ?aP (fun k_ hk_ => hk_.elim) (fun _ _ => trivial) HO23.out HB23.out (below_size HB23.out) ?aL ?_; (case aP => exact k28_mkM _ _ _ (⟨par, 1, 493, 0, 0, 0, ⟨#[]⟩, []⟩ : S28) (Kd.R_nil _ _ _ _ _)); (case aL => have h1 := C6.out; omega); intro v24 w24 ho hb hg hat; have HO24 := Aside0.mk ho; have HB24 := Aside0.mk hb; have HM24 := Aside0.mk (HM23.out.move (hg.block mb HM23.out.lt (fun e_ => by obtain ⟨es_, cl_, hm_⟩ := HM23.out.blk; obtain ⟨cells_, hc_⟩ := Kd.R_typed HO23.out mb e_.symm; rw [hm_] at hc_; cases hc_))); clear ho hb hg hat))
                            go_roundg k3
                            case measure => omega
                            case rel => exact ⟨_, _, i + 1, by rw [wr_in _ (by have h1 := HI.out; have h2 := HYL.out; have h3 := C5.out; omega)], H1, ⟨by have := HI.out; omega⟩, ⟨by have := C6.out; rw [List.length_append, List.length_singleton]; omega⟩, ⟨by rw [List.length_append, List.length_singleton]; exact HM24.out⟩, HO24, HB24⟩
                          · have c9b : (M par == 0) = false := beq_eq_false_iff_ne.mpr c9
                            replace H1 := Aside0.mk ((if_neg (by rw [c9b]; simp)).symm.trans H1)
                            have HPZ := Aside0.mk c6.1
                            clear c6
                            go_wp2_with (first | (go_at_call 29; refine (path_Parent.calls K (rd_T28 ys i).f0 par _ _ (HGL.out.of HB.out) HP.out).mono ?_; rintro e w21 ⟨rfl, hb⟩; have HZ21 := Aside0.mk (show Below wr.heap.size wr w21 from hb); have lk := (HM.out.below HZ21.out).look par HPZ.out; clear hb x0))
                            go_roundg k3
                            case measure => omega
                            case rel => exact ⟨ys, M, i + 1, by rw [wr_in _ (by have h1 := HI.out; have h2 := HYL.out; have h3 := C5.out; omega)], H1, ⟨by have := HI.out; omega⟩, HYL, ⟨HM.out.below HZ21.out⟩, ⟨Kd.R_below HO.out HZ21.out⟩, ⟨below_step HB.out HZ21.out⟩⟩
                      · rw [if_neg c6] at H1
                        cases H1
                    · rw [if_neg c5] at H1
                      obtain rfl := Option.some.inj H1
                      clear H1
                      have HCL := Aside0.mk ((show SortGoes ys w R from HS.out (by first | rfl | trivial)) _ _ HB.out HO.out)
                      go_upto_region 28 with (first
                        | (go_at_call 44; refine HCL.out.mono ?_; rintro e w30 ⟨rfl, zs, hz, hR, hb⟩; have HZ := Aside0.mk hz; have HRZ := Aside0.mk hR; have HBZ := Aside0.mk hb; have HLZ := Aside0.mk (Kd.R_reads' hR).1; clear hz hR hb))
                      rw [HLZ.out]
                      obtain ⟨⟨at1, en⟩, hr⟩ := HK.out zs HZ.out
                      have HRR := Aside0.mk hr
                      have HCZ := Aside0.mk (Kd.R_reads' HRZ.out).2.2
                      have HLE := Aside0.mk (show zs.length ≤ k5 by have h1 := (Kd.R_reads' HRZ.out).2.1; have h2 := HLZ.out; omega)
                      clear hr
                      cases en with
                      | some ce =>
                        go_wp2_with (first
                          | (go_at_call 19; refine (tree_Check.calls K A5 k5 zs (at1, some ce) _ HCZ.out (HGL.out.of HBZ.out) HRR.out).mono ?_; rintro e w31 ⟨rfl, hb⟩; have HB31 := Aside0.mk (below_step HBZ.out hb); clear hb; try simp only [errW_none, errW_some]))
                        go_ret2
                        exact ⟨none, 0, [], some ce, rfl, Nat.le_refl _, NILC.out _, HB31.out, zs, HZ.out, at1, _, HRR.out, rfl, rfl⟩
                      | none =>
                        go_wp2_with (first
                          | (go_at_call 19; refine (tree_Check.calls K A5 k5 zs (at1, none) _ HCZ.out (HGL.out.of HBZ.out) HRR.out).mono ?_; rintro e w31 ⟨rfl, hb⟩; have HB31 := Aside0.mk (below_step HBZ.out hb); have HC31 := Aside0.mk (Kd.C_below HCZ.out hb); clear hb; try simp only [errW_none, errW_some]))
                        go_ret2
                        exact ⟨A5, k5, zs, none, rfl, HLE.out, HC31.out, HB31.out, zs, HZ.out, at1, _, HRR.out, rfl, rfl⟩
end Go.Proofs.YtfkbmjfhakooiaaGreatDoor.TR
