/- rabin's take, roll, reset, walked. Conditions: as each theorem says. -/
import Derived.Test.YtoofafgnlgaajaaPRabinx0
import Derived.Deep.RegionWith
import Derived.KernelRfl
import Derived.BigQuiet
import Derived.Deep.RegionHeld3
import Derived.Deep.AppendLies
import Derived.Deep.RegionLaw
import Derived.Laws.Bits64
import Derived.Laws.Bits64b
namespace Go.Proofs.Ytoofafgnlgaajaa.RW
open Go.RowKit Go.Proofs.Ytoofafgnlgaajaa.PRabin Go.Proofs.YtoofafgnlgaajaaW.PrintWords Go.Proofs.YtoofafgnlgaajaaW.PrintLast Go.Proofs.YtoofafgnlgaajaaW.PrintMore
set_option linter.unusedVariables false
set_option linter.unusedSimpArgs false
theorem wrap_u (n : Nat) : IntKind.u64.wrap (n : Int) = ((n % 18446744073709551616 : Nat) : Int) := by simp [IntKind.wrap, IntKind.signed, IntKind.bits]
/-- One byte more. -/
def takeN (d : Nat) (over : List Nat) (print b : Nat) : Nat := ((print * 256 + b) % 2 ^ d) ^^^ over.getD (print / 2 ^ (d - 8)) 0
theorem take_eq (d print b ov : Nat) (hd2 : d ≤ 55) (hp : print < 2 ^ d) (hb : b < 256) (ho : ov < 2 ^ 64) :
    bits .xor .u64 (bits .and .u64 (bits .or .u64 (IntKind.u64.wrap ((print : Int) * 256)) (b : Int)) (IntKind.u64.wrap (IntKind.u64.wrap (2 ^ d) - 1))) (ov : Int) = ((((print * 256 + b) % 2 ^ d) ^^^ ov : Nat) : Int) := by
  have h55 : (2 : Nat) ^ d ≤ 2 ^ 55 := Nat.pow_le_pow_right (by omega) hd2
  have hpos : 0 < (2 : Nat) ^ d := Nat.two_pow_pos d
  have c55 : (2 : Nat) ^ 55 = 36028797018963968 := rfl
  have c64 : (2 : Nat) ^ 64 = 18446744073709551616 := rfl
  rw [c64] at ho
  have e1 : IntKind.u64.wrap ((print : Int) * 256) = ((print * 256 : Nat) : Int) := by
    rw [show (print : Int) * 256 = ((print * 256 : Nat) : Int) by omega, wrap_u, Nat.mod_eq_of_lt (by omega)]
  have e2 : IntKind.u64.wrap (IntKind.u64.wrap (2 ^ d) - 1) = ((2 ^ d - 1 : Nat) : Int) := by
    rw [show (2 : Int) ^ d = ((2 ^ d : Nat) : Int) by simp, wrap_u, Nat.mod_eq_of_lt (by omega), show ((2 ^ d : Nat) : Int) - 1 = ((2 ^ d - 1 : Nat) : Int) by omega, wrap_u, Nat.mod_eq_of_lt (by omega)]
  have e3 : print * 256 ||| b = print * 256 + b := by
    have := Nat.two_pow_add_eq_or_of_lt (b := b) (i := 8) (by omega) print
    rw [show (256 : Nat) = 2 ^ 8 from rfl, Nat.mul_comm, ← this]
  rw [e1, e2, bits_or_u64_nat _ _ (by omega) (by omega), e3, bits_and_u64_nat _ _ (by omega) (by omega), Nat.and_two_pow_sub_one_eq_mod]
  have hm := Nat.mod_lt (print * 256 + b) hpos
  exact bits_xor_u64_nat _ _ (by omega) (by omega)
set_option maxHeartbeats 4000000 in
set_option maxRecDepth 100000 in
theorem take_calls (t d print b : Nat) (over : List Nat) (w : World) (hd : 8 ≤ d) (hd2 : d ≤ 55) (hp : print < 2 ^ d) (hb : b < 256) (ho : ∀ x ∈ over, x < 2 ^ 64) (hc1 : w.cell? ⟨t, 1, none⟩ = some (.int .i64 (d : Int)))
    (hov : ∀ i : Nat, i < 256 → w.cell? ⟨t, 2 + i, none⟩ = some (.int .u64 ((over.getD i 0 : Nat) : Int))) :
    Calls Try.prog 52 #[.pointer (some ⟨t, 0, none⟩), .int .u64 (print : Int), .int .u8 (b : Int)] w fun e w' => e = .returned (.int .u64 ((takeN d over print b : Nat) : Int)) ∧ Drawn0 w w' := by
  obtain ⟨top, htop⟩ : ∃ top, top = print / 2 ^ (d - 8) := ⟨_, rfl⟩
  have ht : top < 256 := by
    rw [htop, Nat.div_lt_iff_lt_mul (Nat.two_pow_pos _)]
    have : 256 * 2 ^ (d - 8) = 2 ^ d := by rw [show (256 : Nat) = 2 ^ 8 from rfl, ← Nat.pow_add]; congr 1; omega
    omega
  have e2 : (print : Int) / 2 ^ (d - 8) = (top : Int) := by rw [htop]; simp
  have e3 : bits .and .u64 (top : Int) 255 = (top : Int) := by
    have := bits_and_u64_nat top 255 (by omega) (by omega)
    rw [show ((255 : Nat) : Int) = 255 from rfl] at this
    rw [this, show (255 : Nat) = 2 ^ 8 - 1 from rfl, Nat.and_two_pow_sub_one_eq_mod, Nat.mod_eq_of_lt (by omega)]
  have hT := hov top ht
  obtain ⟨ov, hov2⟩ : ∃ ov, ov = over.getD top 0 := ⟨_, rfl⟩
  rw [← hov2] at hT
  have hov64 : ov < 2 ^ 64 := by
    rw [hov2, List.getD_eq_getElem?_getD]
    cases h : over[top]? with
    | none => exact Nat.two_pow_pos _
    | some x => exact ho x (List.mem_of_getElem? h)
  have HE := Aside0.mk ((take_eq d print b ov hd2 hp hb hov64).trans (show _ = ((takeN d over print b : Nat) : Int) by unfold takeN; rw [hov2, htop]))
  have q1 := eq_true (Int.natCast_nonneg top)
  have q2 := eq_true (show (top : Int) < 256 by omega)
  clear hov htop hov2 hov64 ho hp
  go_enter Try.func52, Try.ntmps52
  go_wp2
  go_quiet (fail)
  go_wp2
  go_ret
  exact ⟨congrArg (fun z => Ending.returned (Value.int .u64 z)) HE.out, ⟨_, rfl⟩⟩
/-! ### the roller -/
structure RS where
  p : Nat
  d : Nat
  over : List Nat
  out : List Nat
  win : List Nat
  pos : Nat
  full : Bool
  print : Nat
/-- The fingerprint with one byte more, and the one that leaves the window gone. -/
def RS.next (s : RS) (b : Nat) : Nat := if s.full then takeN s.d s.over s.print b ^^^ s.out.getD (s.win.getD s.pos 0) 0 else takeN s.d s.over s.print b
def RS.roll (s : RS) (b : Nat) : RS := if s.pos + 1 = s.win.length then { s with print := s.next b, win := s.win.set s.pos b, pos := 0, full := true } else { s with print := s.next b, win := s.win.set s.pos b, pos := s.pos + 1 }
def RS.reset (s : RS) : RS := { s with pos := 0, full := false, print := 0 }
def bytesV (l : List Nat) : Array Value := (l.map fun (x : Nat) => Value.int .u8 (x : Int)).toArray
/-- A roller lies in block b, its window's bytes in block g. -/
structure RoAt (W : World) (b g : Nat) (s : RS) : Prop where
  ne : g ≠ b
  blk : ∃ cs, W.heap[b]? = some (.cells cs 84 (0, 0)) ∧ cs.size = 518 ∧ cs[1]? = some (.int .i64 (s.d : Int)) ∧ (∀ i : Nat, i < 256 → cs[2 + i]? = some (.int .u64 ((s.over.getD i 0 : Nat) : Int))) ∧ (∀ i : Nat, i < 256 → cs[258 + i]? = some (.int .u64 ((s.out.getD i 0 : Nat) : Int))) ∧
    cs[514]? = some (.slice (some ⟨g, 0, none⟩) s.win.length s.win.length) ∧ cs[515]? = some (.int .i64 (s.pos : Int)) ∧ cs[516]? = some (.bool s.full) ∧ cs[517]? = some (.int .u64 (s.print : Int))
  win : W.heap[g]? = some (.cells (bytesV s.win) 5 (0, 0))
theorem heapSet {W : World} {b : Nat} {cs : Array Value} {t : TypeId} {fr : Nat × Nat} (h : W.heap[b]? = some (.cells cs t fr)) (k : Nat) (v : Value) : (W.setCell ⟨b, k, none⟩ v).heap[b]? = some (.cells (cs.setIfInBounds k v) t fr) := by
  obtain ⟨hlt, hk⟩ := Array.getElem?_eq_some_iff.1 h
  show (W.heap.modify b _)[b]? = _
  rw [Array.getElem?_eq_getElem (by rw [Array.size_modify]; exact hlt), Array.getElem_modify_self, hk]
  rfl
theorem RoAt.drewN {W : World} {b g : Nat} {s : RS} (h : RoAt W b g s) (n : Nat) : RoAt (W.drewN n) b g s := ⟨h.ne, h.blk, h.win⟩
theorem RoAt.setPrint {W : World} {b g : Nat} {s : RS} (h : RoAt W b g s) (x : Nat) : RoAt (W.setCell ⟨b, 517, none⟩ (.int .u64 (x : Int))) b g { s with print := x } := by
  obtain ⟨cs, h0, hs, h1, h2, h3, h4, h5, h6, h7⟩ := h.blk
  refine ⟨h.ne, ⟨_, heapSet h0 _ _, by rw [Array.size_setIfInBounds]; exact hs, ?_, fun i hi => ?_, fun i hi => ?_, ?_, ?_, ?_, ?_⟩, (Below.heap_setCell _ _ _ _ h.ne).trans h.win⟩
  · rw [Array.getElem?_setIfInBounds_ne (by omega)]; exact h1
  · rw [Array.getElem?_setIfInBounds_ne (by omega)]; exact h2 i hi
  · rw [Array.getElem?_setIfInBounds_ne (by omega)]; exact h3 i hi
  · rw [Array.getElem?_setIfInBounds_ne (by omega)]; exact h4
  · rw [Array.getElem?_setIfInBounds_ne (by omega)]; exact h5
  · rw [Array.getElem?_setIfInBounds_ne (by omega)]; exact h6
  · rw [Array.getElem?_setIfInBounds_self_of_lt (by omega)]
theorem RoAt.setPos {W : World} {b g : Nat} {s : RS} (h : RoAt W b g s) (x : Nat) : RoAt (W.setCell ⟨b, 515, none⟩ (.int .i64 (x : Int))) b g { s with pos := x } := by
  obtain ⟨cs, h0, hs, h1, h2, h3, h4, h5, h6, h7⟩ := h.blk
  refine ⟨h.ne, ⟨_, heapSet h0 _ _, by rw [Array.size_setIfInBounds]; exact hs, ?_, fun i hi => ?_, fun i hi => ?_, ?_, ?_, ?_, ?_⟩, (Below.heap_setCell _ _ _ _ h.ne).trans h.win⟩
  · rw [Array.getElem?_setIfInBounds_ne (by omega)]; exact h1
  · rw [Array.getElem?_setIfInBounds_ne (by omega)]; exact h2 i hi
  · rw [Array.getElem?_setIfInBounds_ne (by omega)]; exact h3 i hi
  · rw [Array.getElem?_setIfInBounds_ne (by omega)]; exact h4
  · rw [Array.getElem?_setIfInBounds_self_of_lt (by omega)]
  · rw [Array.getElem?_setIfInBounds_ne (by omega)]; exact h6
  · rw [Array.getElem?_setIfInBounds_ne (by omega)]; exact h7
theorem RoAt.setFull {W : World} {b g : Nat} {s : RS} (h : RoAt W b g s) (x : Bool) : RoAt (W.setCell ⟨b, 516, none⟩ (.bool x)) b g { s with full := x } := by
  obtain ⟨cs, h0, hs, h1, h2, h3, h4, h5, h6, h7⟩ := h.blk
  refine ⟨h.ne, ⟨_, heapSet h0 _ _, by rw [Array.size_setIfInBounds]; exact hs, ?_, fun i hi => ?_, fun i hi => ?_, ?_, ?_, ?_, ?_⟩, (Below.heap_setCell _ _ _ _ h.ne).trans h.win⟩
  · rw [Array.getElem?_setIfInBounds_ne (by omega)]; exact h1
  · rw [Array.getElem?_setIfInBounds_ne (by omega)]; exact h2 i hi
  · rw [Array.getElem?_setIfInBounds_ne (by omega)]; exact h3 i hi
  · rw [Array.getElem?_setIfInBounds_ne (by omega)]; exact h4
  · rw [Array.getElem?_setIfInBounds_ne (by omega)]; exact h5
  · rw [Array.getElem?_setIfInBounds_self_of_lt (by omega)]
  · rw [Array.getElem?_setIfInBounds_ne (by omega)]; exact h7
theorem RoAt.setWin {W : World} {b g : Nat} {s : RS} (h : RoAt W b g s) (k : Nat) (x : Nat) : RoAt (W.setCell ⟨g, k, none⟩ (.int .u8 (x : Int))) b g { s with win := s.win.set k x } := by
  obtain ⟨cs, h0, hs, h1, h2, h3, h4, h5, h6, h7⟩ := h.blk
  refine ⟨h.ne, ⟨cs, (Below.heap_setCell _ _ _ _ h.ne.symm).trans h0, hs, h1, h2, h3, by rw [List.length_set]; exact h4, h5, h6, h7⟩, (heapSet h.win _ _).trans ?_⟩
  congr 2
  unfold bytesV
  rw [List.map_set, List.setIfInBounds_toArray]
/-! ### worlds that differ in some blocks alone -/
structure Ex (X : Nat → Prop) (w w' : World) : Prop where
  os : w'.os = w.os
  tape : w'.tape = w.tape
  output : w'.output = w.output
  size : w.heap.size ≤ w'.heap.size
  block : ∀ k, k < w.heap.size → ¬ X k → w'.heap[k]? = w.heap[k]?
theorem Ex.refl (X : Nat → Prop) (w : World) : Ex X w w := ⟨rfl, rfl, rfl, Nat.le_refl _, fun _ _ _ => rfl⟩
theorem Ex.trans {X : Nat → Prop} {a b c : World} (h : Ex X a b) (k : Ex X b c) : Ex X a c :=
  ⟨k.os.trans h.os, k.tape.trans h.tape, k.output.trans h.output, Nat.le_trans h.size k.size, fun i hi hx => (k.block i (Nat.lt_of_lt_of_le hi h.size) hx).trans (h.block i hi hx)⟩
theorem Ex.imp {X Y : Nat → Prop} {a b : World} (h : Ex X a b) (hxy : ∀ k, X k → Y k) : Ex Y a b := ⟨h.os, h.tape, h.output, h.size, fun i hi hy => h.block i hi (fun hx => hy (hxy i hx))⟩
theorem Ex.of_below {X : Nat → Prop} {a b : World} (h : Below a.heap.size a b) : Ex X a b := ⟨h.os, h.tape, h.output, h.size, fun i hi _ => h.block i hi⟩
theorem Ex.below {X : Nat → Prop} {a b : World} {B : Nat} (h : Ex X a b) (hB : B ≤ a.heap.size) (hx : ∀ k, X k → B ≤ k) : Below B a b := ⟨h.os, h.tape, h.output, h.size, fun i hi => h.block i (by omega) (fun hxi => by have := hx i hxi; omega)⟩
theorem Ex.set {X : Nat → Prop} {a b : World} (h : Ex X a b) (p : Addr) (v : Value) (hx : X p.block) : Ex X a (b.setCell p v) :=
  h.trans ⟨rfl, rfl, rfl, Nat.le_of_eq (by show _ = (b.heap.modify p.block _).size; rw [Array.size_modify]), fun i _ hi => Below.heap_setCell _ _ _ _ (fun e => hi (e ▸ hx))⟩
theorem Ex.drewN {X : Nat → Prop} {a b : World} (h : Ex X a b) (n : Nat) : Ex X a (b.drewN n) := h.trans ⟨rfl, rfl, rfl, Nat.le_refl _, fun _ _ _ => rfl⟩
theorem getD_lt {l : List Nat} {k B : Nat} (h : ∀ x ∈ l, x < B) (hB : 0 < B) : l.getD k 0 < B := by
  rw [List.getD_eq_getElem?_getD]
  cases e : l[k]? with
  | none => exact hB
  | some x => exact h x (List.mem_of_getElem? e)
theorem RoAt.cells {W : World} {b g : Nat} {s : RS} (h : RoAt W b g s) :
    W.cell? ⟨b, 1, none⟩ = some (.int .i64 (s.d : Int)) ∧ (∀ i : Nat, i < 256 → W.cell? ⟨b, 2 + i, none⟩ = some (.int .u64 ((s.over.getD i 0 : Nat) : Int))) ∧ (∀ i : Nat, i < 256 → W.cell? ⟨b, 258 + i, none⟩ = some (.int .u64 ((s.out.getD i 0 : Nat) : Int))) ∧
    W.cell? ⟨b, 514, none⟩ = some (.slice (some ⟨g, 0, none⟩) s.win.length s.win.length) ∧ W.cell? ⟨b, 515, none⟩ = some (.int .i64 (s.pos : Int)) ∧ W.cell? ⟨b, 516, none⟩ = some (.bool s.full) ∧ W.cell? ⟨b, 517, none⟩ = some (.int .u64 (s.print : Int)) ∧
    (∀ k, k < 518 → W.frozen? ⟨b, k, none⟩ = false) ∧ (∀ k, k < s.win.length → W.cell? ⟨g, k, none⟩ = some (.int .u8 ((s.win.getD k 0 : Nat) : Int))) ∧ (∀ k, k < s.win.length → W.frozen? ⟨g, k, none⟩ = false) := by
  obtain ⟨cs, h0, hs, h1, h2, h3, h4, h5, h6, h7⟩ := h.blk
  have hwl : (bytesV s.win).size = s.win.length := by unfold bytesV; simp
  refine ⟨(blk_cell h0 1).trans h1, fun i hi => (blk_cell h0 _).trans (h2 i hi), fun i hi => (blk_cell h0 _).trans (h3 i hi), (blk_cell h0 _).trans h4, (blk_cell h0 _).trans h5, (blk_cell h0 _).trans h6, (blk_cell h0 _).trans h7, fun k hk => blk_frozen h0 k, fun k hk => (blk_cell h.win k).trans ?_, fun k hk => blk_frozen h.win k⟩
  unfold bytesV
  simp [hk]
/-- What a roller keeps: the degree's bounds, the numbers', the window's place. -/
structure RS.Ok (s : RS) : Prop where
  d8 : 8 ≤ s.d
  d55 : s.d ≤ 55
  print : s.print < 2 ^ s.d
  over : ∀ x ∈ s.over, x < 2 ^ s.d
  out : ∀ x ∈ s.out, x < 2 ^ s.d
  win : ∀ x ∈ s.win, x < 256
  wl : s.win.length ≤ 64
  pos : s.pos < s.win.length
theorem takeN_lt {d print b : Nat} {over : List Nat} (ho : ∀ x ∈ over, x < 2 ^ d) : takeN d over print b < 2 ^ d :=
  Nat.xor_lt_two_pow (Nat.mod_lt _ (Nat.two_pow_pos d)) (getD_lt ho (Nat.two_pow_pos d))
theorem xor_small {a b d : Nat} (ha : a < 2 ^ d) (hb : b < 2 ^ d) (hd : d ≤ 55) : bits .xor .u64 (a : Int) (b : Int) = ((a ^^^ b : Nat) : Int) := by
  have h55 : (2 : Nat) ^ d ≤ 2 ^ 55 := Nat.pow_le_pow_right (by omega) hd
  have c55 : (2 : Nat) ^ 55 = 36028797018963968 := rfl
  exact bits_xor_u64_nat _ _ (by omega) (by omega)
theorem RS.Ok.next {s : RS} (h : s.Ok) (b : Nat) : s.next b < 2 ^ s.d := by
  unfold RS.next
  split
  · exact Nat.xor_lt_two_pow (takeN_lt h.over) (getD_lt h.out (Nat.two_pow_pos _))
  · exact takeN_lt h.over
theorem RS.Ok.over64 {s : RS} (h : s.Ok) : ∀ y ∈ s.over, y < 2 ^ 64 := fun y hy => Nat.lt_of_lt_of_le (h.over y hy) (Nat.pow_le_pow_right (by omega) (by have := h.d55; omega))
theorem RS.Ok.roll {s : RS} (h : s.Ok) {b : Nat} (hb : b < 256) : (s.roll b).Ok := by
  have hw : ∀ x ∈ s.win.set s.pos b, x < 256 := fun x hx => by
    rcases List.mem_or_eq_of_mem_set hx with hx | hx
    · exact h.win x hx
    · omega
  have hp := h.pos
  unfold RS.roll
  split
  · exact ⟨h.d8, h.d55, h.next b, h.over, h.out, hw, by simpa using h.wl, by simp; omega⟩
  · exact ⟨h.d8, h.d55, h.next b, h.over, h.out, hw, by simpa using h.wl, by simp; omega⟩
theorem RS.Ok.reset {s : RS} (h : s.Ok) : s.reset.Ok := ⟨h.d8, h.d55, Nat.two_pow_pos _, h.over, h.out, h.win, h.wl, by have := h.pos; show 0 < s.win.length; omega⟩
set_option maxHeartbeats 8000000 in
set_option maxRecDepth 100000 in
theorem reset_calls (b g : Nat) (s : RS) (w : World) (h : RoAt w b g s) :
    Calls Try.prog 41 #[.pointer (some ⟨b, 0, none⟩)] w fun e w' => (∃ v, e = .returned v) ∧ RoAt w' b g s.reset ∧ Ex (fun k => k = b) w w' := by
  obtain ⟨_, _, _, _, k5, k6, k7, hf, _, _⟩ := h.cells
  have f5 := hf 515 (by omega)
  have f6 := hf 516 (by omega)
  have f7 := hf 517 (by omega)
  have H := Aside0.mk h
  clear hf h
  go_enter Try.func41, Try.ntmps41
  go_wp2
  go_end0
  exact ⟨⟨_, rfl⟩, ((H.out.setPos 0).setFull false).setPrint 0, (((Ex.refl (fun k => k = b) w).set ⟨b, 515, none⟩ _ rfl).set ⟨b, 516, none⟩ _ rfl).set ⟨b, 517, none⟩ _ rfl⟩
set_option maxHeartbeats 8000000 in
set_option maxRecDepth 100000 in
theorem roll_calls (b g : Nat) (s : RS) (x : Nat) (w : World) (h : RoAt w b g s) (ok : s.Ok) (hx : x < 256) :
    Calls Try.prog 40 #[.pointer (some ⟨b, 0, none⟩), .int .u8 (x : Int)] w fun e w' => e = .returned (.int .u64 ((s.next x : Nat) : Int)) ∧ RoAt w' b g (s.roll x) ∧ Ex (fun k => k = b ∨ k = g) w w' := by
  obtain ⟨k1, k2, k3, k4, k5, k6, k7, hf, kw, kf⟩ := h.cells
  have f5 := hf 515 (by omega)
  have f6 := hf 516 (by omega)
  have f7 := hf 517 (by omega)
  have kw0 := kw s.pos ok.pos
  have kf0 := kf s.pos ok.pos
  have H := Aside0.mk h
  have OK := Aside0.mk ok
  have K1 := Aside0.mk k1
  have K2 := Aside0.mk k2
  have hgb : g ≠ b := h.ne
  have hbg : b ≠ g := h.ne.symm
  obtain ⟨n, hn⟩ : ∃ n, n = s.win.length := ⟨_, rfl⟩
  obtain ⟨i, hi⟩ : ∃ i, i = s.pos := ⟨_, rfl⟩
  obtain ⟨old, hold⟩ : ∃ old, old = s.win.getD s.pos 0 := ⟨_, rfl⟩
  have hold2 : old < 256 := by rw [hold]; exact getD_lt ok.win (by omega)
  have k3o := k3 old hold2
  obtain ⟨oo, hoo⟩ : ∃ oo, oo = s.out.getD old 0 := ⟨_, rfl⟩
  rw [← hold, ← hi] at kw0
  rw [← hi] at k5 kf0
  rw [← hn] at k4
  rw [← hoo] at k3o
  have hin : i < n := by rw [hn, hi]; exact ok.pos
  have hin2 : i < s.win.length := by rw [hi]; exact ok.pos
  have hn64 : n ≤ 64 := by rw [hn]; exact ok.wl
  obtain ⟨pr, hpr⟩ : ∃ pr, pr = s.print := ⟨_, rfl⟩
  rw [← hpr] at k7
  obtain ⟨t1, ht1⟩ : ∃ t1, t1 = takeN s.d s.over s.print x := ⟨_, rfl⟩
  have hT : Aside0 (∀ W : World, W.cell? ⟨b, 1, none⟩ = some (.int .i64 (s.d : Int)) → (∀ i : Nat, i < 256 → W.cell? ⟨b, 2 + i, none⟩ = some (.int .u64 ((s.over.getD i 0 : Nat) : Int))) → Calls Try.prog 52 #[.pointer (some ⟨b, 0, none⟩), .int .u64 (pr : Int), .int .u8 (x : Int)] W fun e w' => e = .returned (.int .u64 (t1 : Int)) ∧ Drawn0 W w') := ⟨by
    rw [hpr, ht1]
    exact fun W a1 a2 => take_calls b s.d s.print x s.over W ok.d8 ok.d55 ok.print hx (ok.over64) a1 a2⟩
  have q0 := eq_true (Int.natCast_nonneg i)
  have q1 := eq_true (show (i : Int) < (n : Int) by omega)
  have q2 := eq_true (Int.natCast_nonneg old)
  have q3 := eq_true (show (old : Int) < 256 by omega)
  have w1 : wrap64 ((i : Int) + 1) = ((i + 1 : Nat) : Int) := by unfold wrap64; omega
  have hx3 : bits .xor .u64 (t1 : Int) (oo : Int) = ((t1 ^^^ oo : Nat) : Int) := xor_small (by rw [ht1]; exact takeN_lt ok.over) (by rw [hoo]; exact getD_lt ok.out (Nat.two_pow_pos _)) ok.d55
  have HI := Aside0.mk hi
  have HN := Aside0.mk hn
  have HO := Aside0.mk hold
  have HT := Aside0.mk ht1
  have HOO := Aside0.mk hoo
  have HPR := Aside0.mk hpr
  clear hf kw kf k1 k2 k3 h hoo hpr hi hn hold ht1
  cases hfull : s.full with
  | false =>
    rw [hfull] at k6
    have HF := Aside0.mk hfull
    clear hfull
    go_enter Try.func40, Try.ntmps40
    go_wp2
    go_region_law (first | (go_simp; go_at_call 52; refine (hT.out _ ?s1 ?s2).mono ?_; (case s1 => exact K1.out); (case s2 => exact K2.out); rintro e1 w1 ⟨rfl, ⟨nd, rfl⟩⟩))
    obtain ⟨W1, hW1⟩ : ∃ W1, W1 = (w.drewN (1 + nd)).setCell ⟨b, 517, none⟩ (.int .u64 (t1 : Int)) := ⟨_, rfl⟩
    have H1 : RoAt W1 b g { s with print := t1 } := by rw [hW1]; exact (H.out.drewN _).setPrint _
    have E1 := Aside0.mk (show Ex (fun k => k = b ∨ k = g) w W1 by rw [hW1]; exact ((Ex.refl (fun k => k = b ∨ k = g) w).drewN _).set ⟨b, 517, none⟩ _ (.inl rfl))
    rw [← hW1]
    clear hW1 k4 k5 k6 k7 f5 f6 f7 kw0 kf0 k3o
    obtain ⟨_, _, _, k4, k5, k6, k7, hf, kw, kf⟩ := H1.cells
    have f5 := hf 515 (by omega)
    have f6 := hf 516 (by omega)
    have f7 := hf 517 (by omega)
    dsimp only at k4 k5 k6 k7 kw kf
    rw [HF.out] at k6
    rw [← HN.out] at k4
    rw [← HI.out] at k5
    have kf0 := kf i hin2
    have kw0 := kw i hin2
    rw [HI.out, ← HO.out, ← HI.out] at kw0
    clear hf kw kf
    go_wp2
    go_region
    obtain ⟨W2, hW2⟩ : ∃ W2, W2 = (W1.setCell ⟨g, i, none⟩ (.int .u8 (x : Int))).drew := ⟨_, rfl⟩
    have H2 : RoAt W2 b g { s with print := t1, win := s.win.set i x } := by rw [hW2]; exact (H1.setWin i x).drewN 1
    have E2 := Aside0.mk (show Ex (fun k => k = b ∨ k = g) w W2 by rw [hW2]; exact (E1.out.set ⟨g, i, none⟩ _ (.inr rfl)).drewN 1)
    rw [← hW2]
    clear hW2 k4 k5 k6 k7 f5 f6 f7 kf0 kw0
    obtain ⟨_, _, _, k4, k5, k6, k7, hf, kw, kf⟩ := H2.cells
    have f5 := hf 515 (by omega)
    have f6 := hf 516 (by omega)
    have f7 := hf 517 (by omega)
    dsimp only at k4 k5 k6 k7 kw kf
    rw [HF.out] at k6
    rw [List.length_set, ← HN.out] at k4
    rw [← HI.out] at k5
    clear hf kw kf
    have H2' := Aside0.mk H2
    clear H1 H2
    have e1 : s.next x = t1 := by unfold RS.next; rw [HF.out]; exact HT.out.symm
    have E1' := Aside0.mk e1
    clear e1
    by_cases hin3 : i + 1 = n
    · go_wp2
      go_region
      go_wp2
      go_ret
      have e2 : s.roll x = { s with print := t1, win := s.win.set i x, pos := 0, full := true } := by unfold RS.roll; rw [if_pos (by rw [← HI.out, ← HN.out]; exact hin3), E1'.out, HI.out]
      refine ⟨congrArg (fun z : Nat => Ending.returned (Value.int .u64 (z : Int))) E1'.out.symm, ?_, ?_⟩
      · rw [e2]; exact (((H2'.out.setPos (i + 1)).setPos 0).setFull true).drewN 1
      · exact (((E2.out.set ⟨b, 515, none⟩ _ (.inl rfl)).set ⟨b, 515, none⟩ _ (.inl rfl)).set ⟨b, 516, none⟩ _ (.inl rfl)).drewN 1
    · go_wp2
      go_region
      go_wp2
      go_ret
      have e2 : s.roll x = { s with print := t1, win := s.win.set i x, pos := i + 1 } := by unfold RS.roll; rw [if_neg (by rw [← HI.out, ← HN.out]; exact hin3), E1'.out, HI.out]
      refine ⟨congrArg (fun z : Nat => Ending.returned (Value.int .u64 (z : Int))) E1'.out.symm, ?_, ?_⟩
      · rw [e2]; exact (H2'.out.setPos (i + 1)).drewN 1
      · exact (E2.out.set ⟨b, 515, none⟩ _ (.inl rfl)).drewN 1
  | true =>
    rw [hfull] at k6
    have HF := Aside0.mk hfull
    clear hfull
    go_enter Try.func40, Try.ntmps40
    go_wp2
    go_region_law (first | (go_simp; go_at_call 52; refine (hT.out _ ?s1 ?s2).mono ?_; (case s1 => exact K1.out); (case s2 => exact K2.out); rintro e1 w1 ⟨rfl, ⟨nd, rfl⟩⟩))
    obtain ⟨W1, hW1⟩ : ∃ W1, W1 = (w.drewN (1 + nd)).setCell ⟨b, 517, none⟩ (.int .u64 (t1 : Int)) := ⟨_, rfl⟩
    have H1 : RoAt W1 b g { s with print := t1 } := by rw [hW1]; exact (H.out.drewN _).setPrint _
    have E1 := Aside0.mk (show Ex (fun k => k = b ∨ k = g) w W1 by rw [hW1]; exact ((Ex.refl (fun k => k = b ∨ k = g) w).drewN _).set ⟨b, 517, none⟩ _ (.inl rfl))
    rw [← hW1]
    clear hW1 k4 k5 k6 k7 f5 f6 f7 kw0 kf0 k3o
    obtain ⟨_, _, k3, k4, k5, k6, k7, hf, kw, kf⟩ := H1.cells
    have f5 := hf 515 (by omega)
    have f6 := hf 516 (by omega)
    have f7 := hf 517 (by omega)
    dsimp only at k4 k5 k6 k7 kw kf
    rw [HF.out] at k6
    rw [← HN.out] at k4
    rw [← HI.out] at k5
    have kf0 := kf i hin2
    have kw0 := kw i hin2
    rw [HI.out, ← HO.out, ← HI.out] at kw0
    have k3o := k3 old hold2
    rw [← HOO.out] at k3o
    clear hf kw kf k3
    go_wp2
    go_region
    obtain ⟨W3, hW3⟩ : ∃ W3, W3 = (W1.setCell ⟨b, 517, none⟩ (.int .u64 ((t1 ^^^ oo : Nat) : Int))).drew := ⟨_, rfl⟩
    have H3 : RoAt W3 b g { s with print := t1 ^^^ oo } := by rw [hW3]; exact (H1.setPrint _).drewN 1
    have E3 := Aside0.mk (show Ex (fun k => k = b ∨ k = g) w W3 by rw [hW3]; exact (E1.out.set ⟨b, 517, none⟩ _ (.inl rfl)).drewN 1)
    rw [← hW3]
    clear hW3 k4 k5 k6 k7 f5 f6 f7 kw0 kf0 k3o
    obtain ⟨_, _, _, k4, k5, k6, k7, hf, kw, kf⟩ := H3.cells
    have f5 := hf 515 (by omega)
    have f6 := hf 516 (by omega)
    have f7 := hf 517 (by omega)
    dsimp only at k4 k5 k6 k7 kw kf
    rw [HF.out] at k6
    rw [← HN.out] at k4
    rw [← HI.out] at k5
    have kf0 := kf i hin2
    have kw0 := kw i hin2
    rw [HI.out, ← HO.out, ← HI.out] at kw0
    clear hf kw kf
    go_wp2
    go_region
    obtain ⟨W2, hW2⟩ : ∃ W2, W2 = (W3.setCell ⟨g, i, none⟩ (.int .u8 (x : Int))).drew := ⟨_, rfl⟩
    have H2 : RoAt W2 b g { s with print := t1 ^^^ oo, win := s.win.set i x } := by rw [hW2]; exact (H3.setWin i x).drewN 1
    have E2 := Aside0.mk (show Ex (fun k => k = b ∨ k = g) w W2 by rw [hW2]; exact (E3.out.set ⟨g, i, none⟩ _ (.inr rfl)).drewN 1)
    rw [← hW2]
    clear hW2 k4 k5 k6 k7 f5 f6 f7 kf0 kw0
    obtain ⟨_, _, _, k4, k5, k6, k7, hf, kw, kf⟩ := H2.cells
    have f5 := hf 515 (by omega)
    have f6 := hf 516 (by omega)
    have f7 := hf 517 (by omega)
    dsimp only at k4 k5 k6 k7 kw kf
    rw [HF.out] at k6
    rw [List.length_set, ← HN.out] at k4
    rw [← HI.out] at k5
    clear hf kw kf
    have H2' := Aside0.mk H2
    clear H1 H2 H3
    have e1 : s.next x = t1 ^^^ oo := by unfold RS.next; rw [HF.out, if_pos rfl, ← HT.out, ← HO.out, ← HOO.out]
    have E1' := Aside0.mk e1
    clear e1
    by_cases hin3 : i + 1 = n
    · go_wp2
      go_region
      go_wp2
      go_ret
      have e2 : s.roll x = { s with print := t1 ^^^ oo, win := s.win.set i x, pos := 0, full := true } := by unfold RS.roll; rw [if_pos (by rw [← HI.out, ← HN.out]; exact hin3), E1'.out, HI.out]
      refine ⟨congrArg (fun z : Nat => Ending.returned (Value.int .u64 (z : Int))) E1'.out.symm, ?_, ?_⟩
      · rw [e2]; exact (((H2'.out.setPos (i + 1)).setPos 0).setFull true).drewN 1
      · exact (((E2.out.set ⟨b, 515, none⟩ _ (.inl rfl)).set ⟨b, 515, none⟩ _ (.inl rfl)).set ⟨b, 516, none⟩ _ (.inl rfl)).drewN 1
    · go_wp2
      go_region
      go_wp2
      go_ret
      have e2 : s.roll x = { s with print := t1 ^^^ oo, win := s.win.set i x, pos := i + 1 } := by unfold RS.roll; rw [if_neg (by rw [← HI.out, ← HN.out]; exact hin3), E1'.out, HI.out]
      refine ⟨congrArg (fun z : Nat => Ending.returned (Value.int .u64 (z : Int))) E1'.out.symm, ?_, ?_⟩
      · rw [e2]; exact (H2'.out.setPos (i + 1)).drewN 1
      · exact (E2.out.set ⟨b, 515, none⟩ _ (.inl rfl)).drewN 1
end Go.Proofs.Ytoofafgnlgaajaa.RW
