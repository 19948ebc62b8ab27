/- strings.splitSeq$1, splitSeq, SplitSeq at the separator "/": the pieces, one by one. Conditions: none. -/
import Derived.Test.YtfkbmjfhakooiaaDoorSeq0
import Derived.Test.YtfkbmjfhakooiaaDoorSeq1
namespace Go.Proofs.YtfkbmjfhakooiaaDoor.PTree
open Go.RowKit Go.Shelf Go.Proofs.YtfkbmjfhakooiaaDoorW.PrintWords
attribute [local go_sem] Oper.semAt_some
set_option linter.unusedVariables false
set_option linter.unusedSimpArgs false

/-! ### strings.SplitSeq, splitSeq: functions 33, 49 -/
set_option maxHeartbeats 1000000 in
theorem splitSeq_in (s : ByteArray) (w : World) (n : Nat) :
    CallsIn Fence.wide n Tryd.prog 53 #[.string s, .string ⟨#[47]⟩, .int .i64 0] w fun e w' => e = .returned (.func (.func 75) #[] #[.pointer (some ⟨w.heap.size + 1, 0, none⟩), .pointer (some ⟨w.heap.size, 0, none⟩), .pointer (some ⟨w.heap.size + 1 + 1, 0, none⟩)]) ∧ w' = ((w.alloc (.cells #[.string s] 9)).alloc (.cells #[.string ⟨#[47]⟩] 9)).alloc (.cells #[.int .i64 0] 3) := by
  refine callsIn_of_wp Tryd.func53 rfl trivial ?_ rfl
  simp only [Tryd.ntmps53, List.size_toArray, List.length_cons, List.length_nil, Nat.reduceAdd, Nat.reduceSub, Array.replicate_succ, Array.replicate_zero, List.push_toArray, List.append_toArray, List.nil_append, List.cons_append]
  gi_wp2
  go_ret
  exact ⟨rfl, rfl⟩
set_option maxHeartbeats 1000000 in
theorem SplitSeq_in (s : ByteArray) (w : World) (n : Nat) (hn : 1 ≤ n) :
    CallsIn Fence.wide n Tryd.prog 38 #[.string s, .string ⟨#[47]⟩] w fun e w' => e = .returned (.func (.func 75) #[] #[.pointer (some ⟨w.heap.size + 1, 0, none⟩), .pointer (some ⟨w.heap.size, 0, none⟩), .pointer (some ⟨w.heap.size + 1 + 1, 0, none⟩)]) ∧ w' = ((w.alloc (.cells #[.string s] 9)).alloc (.cells #[.string ⟨#[47]⟩] 9)).alloc (.cells #[.int .i64 0] 3) := by
  refine callsIn_of_wp Tryd.func38 rfl trivial ?_ rfl
  simp only [Tryd.ntmps38, List.size_toArray, List.length_cons, List.length_nil, Nat.reduceAdd, Nat.reduceSub, Array.replicate_succ, Array.replicate_zero, List.push_toArray, List.append_toArray, List.nil_append, List.cons_append]
  gi_wp2_with (refine ⟨trivial, ?_⟩; gi_at_call 53; refine (splitSeq_in s _ _).mono ?_; rintro e w' ⟨rfl, rfl⟩)
  go_ret
  exact ⟨rfl, rfl⟩

/-! ### strings.splitSeq$1: function 75 -/
def leftS (B : Nat) (W : World) : Nat := match W.cell? ⟨B, 0, none⟩ with
  | some (.string r) => r.size
  | _ => 0
theorem leftS_eq {B : Nat} {W : World} {r : ByteArray} (h : Boxed W B 9 (.string r)) : leftS B W = r.size := by unfold leftS; rw [h.cell]
set_option maxHeartbeats 4000000 in
set_option maxRecDepth 100000 in
theorem seq61_in (n : Nat) (hn : 2 ≤ n) (B : Nat) (s : ByteArray) (w : World) (hB : B + 2 < w.heap.size) (hs : s.size ≤ 1000000000000)
    (h0 : w.heap[B]? = some (.cells #[.string s] 9 (0, 0))) (h1 : w.heap[B + 1]? = some (.cells #[.string ⟨#[47]⟩] 9 (0, 0))) (h2 : w.heap[B + 1 + 1]? = some (.cells #[.int .i64 0] 3 (0, 0))) :
    SeqW B Fence.wide n Tryd.prog 75 #[.pointer (some ⟨B + 1, 0, none⟩), .pointer (some ⟨B, 0, none⟩), .pointer (some ⟨B + 1 + 1, 0, none⟩)] (fun x : ByteArray => #[Value.string x]) (fun X Y => ∀ k, B ≤ k → k < B + 3 → Y.heap[k]? = X.heap[k]?) (fun ys => ys = pieces s) (fun pre => pre <+: pieces s) (pieces s).length w := by
  intro l J Jx W hW hJ hJx hJ0 hY
  refine callsIn_of_wp Tryd.func75 rfl trivial ?_ rfl
  simp only [Tryd.ntmps75, List.size_toArray, List.length_cons, List.length_nil, Nat.reduceAdd, Nat.reduceSub, Array.replicate_succ, Array.replicate_zero, List.push_toArray, List.append_toArray, List.nil_append, List.cons_append]
  have hb0 : Boxed W B 9 (.string s) := (hW.block B (by omega)).trans h0
  have hb1 : Boxed W (B + 1) 9 (.string ⟨#[47]⟩) := (hW.block (B + 1) (by omega)).trans h1
  have hb2 : Boxed W (B + 1 + 1) 3 (.int .i64 0) := (hW.block (B + 1 + 1) (by omega)).trans h2
  have k0 := hb0.cell
  have k1 := hb1.cell
  have k2 := hb2.cell
  gi_wp2
  gi_loopw [7] (fun v7 wr => ∃ (pre : List ByteArray) (r : ByteArray), Boxed wr B 9 (.string r) ∧ Boxed wr (B + 1) 9 (.string ⟨#[47]⟩) ∧ Boxed wr (B + 1 + 1) 3 (.int .i64 0) ∧ Aside0 (pieces s = pre ++ pieces r) ∧ Aside0 (r.size ≤ s.size) ∧ J pre wr)
    (fun v7 wr => leftS B wr)
  case atStart => exact ⟨[], s, hb0, hb1, hb2, ⟨by simp⟩, ⟨Nat.le_refl _⟩, hJ0⟩
  case round =>
    obtain ⟨pre, r, b0, b1, b2, HP, HS, hJs⟩ := hrel
    clear hb0 hb1 hb2 k0 k1 k2
    have k0 := b0.cell
    have k1 := b1.cell
    have k2 := b2.cell
    have hg := Lib.indexByte_ge r.data.toList 47
    have hn1 : 1 ≤ n := by omega
    by_cases hm : Lib.indexByte r.data.toList 47 < 0
    · have hpr := pieces_none hm
      have hlen : pre.length < (pieces s).length := by rw [HP.out, hpr]; simp
      obtain ⟨fn, tmps, assign, body, hy, hR⟩ := hY pre r wr hJs hlen
      have hmb := decide_eq_true hm
      gi_wp2_with (refine ⟨trivial, ?_⟩; gi_at_call 77; refine (callsIn_wide.2 (Tryd.strings_Index_one r 47 _)).mono ?_; rintro e w' ⟨rfl, rfl⟩)
      refine hR.mono ?_
      rintro e W3 (⟨rfl, hJ3, hk3⟩ | ⟨rfl, hJx3⟩)
      · gi_wp2
        go_end0
        exact ⟨⟨_, rfl⟩, .inl ⟨_, by rw [HP.out, hpr], hJ3⟩⟩
      · gi_wp2
        go_end0
        exact ⟨⟨_, rfl⟩, .inr ⟨_, ⟨[], by rw [HP.out, hpr]; simp⟩, hJx3⟩⟩
    · obtain ⟨m, em⟩ : ∃ m : Nat, Lib.indexByte r.data.toList 47 = m := ⟨(Lib.indexByte r.data.toList 47).toNat, by omega⟩
      obtain ⟨es, hml⟩ := pieces_some em
      have hlen : pre.length < (pieces s).length := by rw [HP.out, es]; simp
      obtain ⟨fn, tmps, assign, body, hy, hR⟩ := hY pre (r.extract 0 m) wr hJs hlen
      have hy2 := hy
      rw [show r.extract 0 m = r.extract 0 ((m : Int)).toNat by rw [Int.toNat_natCast]] at hy2
      have HSo := HS.out
      have q0 := eq_false (show ¬ (m : Int) < 0 by omega)
      have qK : m ≤ 1000000000000 := by omega
      have q1 : ∀ x : Nat, x ≤ 1000000000000 → wrap64 (x : Int) = (x : Int) := fun x hx => by unfold wrap64; omega
      have q2 : ∀ x : Nat, x ≤ 1000000000000 → wrap64 ((x : Int) + 1) = ((x + 1 : Nat) : Int) := fun x hx => by unfold wrap64; omega
      have q3 := eq_true (show (m : Int) ≤ (r.size : Int) by omega)
      have q4 := eq_true (show ((m + 1 : Nat) : Int) ≤ (r.size : Int) by omega)
      have q5 := eq_true (show (0 : Int) ≤ (m : Int) by omega)
      have q6 := eq_true (show (0 : Int) ≤ ((m + 1 : Nat) : Int) by omega)
      gi_wp2_with (refine ⟨trivial, ?_⟩; gi_at_call 77; refine (callsIn_wide.2 (Tryd.strings_Index_one r 47 _)).mono ?_; rintro e w' ⟨rfl, rfl⟩; rw [em])
      clear hy hy2
      refine hR.mono ?_
      rintro e W3 (⟨rfl, hJ3, hk3⟩ | ⟨rfl, hJx3⟩)
      · have c0 : Boxed W3 B 9 (.string r) := (hk3 B (Nat.le_refl _) (by omega)).trans b0
        have c1 : Boxed W3 (B + 1) 9 (.string ⟨#[47]⟩) := (hk3 (B + 1) (by omega) (by omega)).trans b1
        have c2 : Boxed W3 (B + 1 + 1) 3 (.int .i64 0) := (hk3 (B + 1 + 1) (by omega) (by omega)).trans b2
        clear k0 k1 k2
        have k0 := c0.cell
        have k1 := c1.cell
        have k2 := c2.cell
        have kf := c0.frozen
        gi_wp2
        go_roundw
        case rel => exact ⟨pre ++ [r.extract 0 m], r.extract (m + 1) r.size, c0.set _, c1.other (by omega) _, c2.other (by omega) _, ⟨by rw [HP.out, es]; simp⟩, ⟨by rw [size_ext]; omega⟩, hJ _ _ _ hJ3⟩
        case measure => rw [leftS_eq (c0.set _), leftS_eq b0, size_ext]; omega
      · gi_wp2
        refine bodyPost_ret (results_none rfl _ _ _) rfl ?_
        exact ⟨⟨_, rfl⟩, .inr ⟨_, ⟨pieces (r.extract (m + 1) r.size), by rw [HP.out, es]; simp⟩, hJx3⟩⟩
