/- rabin's newRoller, New, walked. Conditions: as each theorem says. -/
import Derived.Test.YtoofafgnlgaajaaRW2
namespace Go.Proofs.Ytoofafgnlgaajaa.RW
open Go.RowKit Go.Proofs.Ytoofafgnlgaajaa.PRabin Go.Proofs.YtoofafgnlgaajaaW.PrintWords Go.Proofs.YtoofafgnlgaajaaW.PrintLast Go.Proofs.YtoofafgnlgaajaaW.PrintMore
set_option linter.unusedVariables false
set_option linter.unusedSimpArgs false
/-- What the shifts over a polynomial are. -/
structure Shifts (k : Nat) (p n : Int) (T : Nat → Nat) : Prop where
  power : ∃ pw e, poly_Power.f k n p = some (pw, e) ∧ ∀ b : Nat, b < 256 → ∃ e, poly_MulMod.f k p [(b : Int), pw] = some ((T b : Int), e)
theorem held_call {n : Nat} {W1 a b : World} {v0 v1 : Value} (h : Below (n + 1) W1 a ∧ a.cell? ⟨n, 0, none⟩ = some v0 ∧ a.cell? ⟨n, 1, none⟩ = some v1) (hb : Below a.heap.size a b) : Below (n + 1) W1 b ∧ b.cell? ⟨n, 0, none⟩ = some v0 ∧ b.cell? ⟨n, 1, none⟩ = some v1 := by
  obtain ⟨h1, h2, h3⟩ := h
  have hl : n < a.heap.size := World.block_lt_of_cell? a _ h2
  exact ⟨below_then h1 hl hb, (hb.cell hl).trans h2, (hb.cell (p := ⟨n, 1, none⟩) hl).trans h3⟩
theorem held_alloc {n : Nat} {W1 a : World} {v0 v1 : Value} (h : Below (n + 1) W1 a ∧ a.cell? ⟨n, 0, none⟩ = some v0 ∧ a.cell? ⟨n, 1, none⟩ = some v1) (o : Obj) : Below (n + 1) W1 (a.alloc o) ∧ (a.alloc o).cell? ⟨n, 0, none⟩ = some v0 ∧ (a.alloc o).cell? ⟨n, 1, none⟩ = some v1 :=
  held_call h (below_alloc (Below.refl _ _) _)
theorem zero84 : ∃ Z : Array Value, Z.size = 518 ∧ ∀ W, (zeroValue 84).run Try.prog W = .ok (.agg Z) W := by
  have h : (Try.prog.info? 84).map (fun i => i.zero.map fun z => match z with | .agg c => some c.size | _ => none) = some (some (some 518)) := by kernel_rfl
  obtain ⟨it, h1, h2⟩ := Option.map_eq_some_iff.1 h
  obtain ⟨z, h3, h4⟩ := Option.map_eq_some_iff.1 h2
  cases z with
  | agg c => exact ⟨c, Option.some.inj h4, fun W => by simp [zeroValue, typeInfo, h1, h3]⟩
  | _ => simp at h4
theorem fsz (k : Nat) : ∀ (vs : List (Value × Nat)) (cs : Array Value), (vs.foldl (fun cs x => cs.setIfInBounds (k + x.2) x.1) cs).size = cs.size
  | [], cs => rfl
  | x :: r, cs => by rw [List.foldl_cons, fsz k r, Array.size_setIfInBounds]
theorem foldl_size (k : Nat) (vs : Array (Value × Nat)) (cs : Array Value) (a b : Nat) : (vs.foldl (fun cs x => cs.setIfInBounds (k + x.2) x.1) cs a b).size = cs.size := by
  rw [Array.foldl_eq_foldl_extract, ← Array.foldl_toList]
  exact fsz k _ cs
theorem foldl_size0 (vs : Array (Value × Nat)) (cs : Array Value) (a b : Nat) : (vs.foldl (fun cs x => cs.setIfInBounds x.2 x.1) cs a b).size = cs.size := by
  have := foldl_size 0 vs cs a b
  simpa using this
theorem bv (W : Nat) : bytesV (List.replicate W 0) = madeCells #[.int .u8 0] W := by
  unfold bytesV madeCells
  apply Array.ext (by simp)
  intro i h1 h2
  simp [Nat.mod_one]
theorem made_run (W : Nat) (h : W ≤ 64) : ∀ w : World, (Instr.makeSlice 25 (.int .i64 (W : Int)) (.int .i64 (W : Int))).run Try.prog w = .ok (.slice (some ⟨w.heap.size, 0, none⟩) W W) (w.alloc (.cells (bytesV (List.replicate W 0)) 5)) := by
  have := print_make (P := Try.prog) 25 5 .u8 1 Try.underlying25 (by kernel_rfl) (by decide) W (by omega)
  rw [bv W]
  exact this
noncomputable def mk84 (cs T2 : Array Value) (b n : Nat) : Array Value := (Try.prog.built 84 [(0, .agg cs), (1, .agg T2), (2, .slice (some ⟨b, 0, none⟩) n n)]).getD #[]
theorem mk84_run {cs T2 : Array Value} (b n : Nat) (h1 : cs.size = 258) (h2 : T2.size = 256) : (∀ W, (Instr.build 84 #[(0, .agg cs), (1, .agg T2), (2, .slice (some ⟨b, 0, none⟩) n n)]).run Try.prog W = .ok (.agg (mk84 cs T2 b n)) W) ∧
    (mk84 cs T2 b n).size = 518 ∧ (∀ i, i < 258 → (mk84 cs T2 b n)[i]? = cs[i]?) ∧ (∀ i, i < 256 → (mk84 cs T2 b n)[258 + i]? = T2[i]?) ∧ (mk84 cs T2 b n)[514]? = some (.slice (some ⟨b, 0, none⟩) n n) ∧ (mk84 cs T2 b n)[515]? = some (.int .i64 0) ∧ (mk84 cs T2 b n)[516]? = some (.bool false) ∧ (mk84 cs T2 b n)[517]? = some (.int .u64 0) := by
  obtain ⟨c, h3, h4, h5, h6, h7, h8, h9, hr, hb⟩ := build84 cs T2 (.slice (some ⟨b, 0, none⟩) n n) rfl h1 h2
  have e : mk84 cs T2 b n = c := by unfold mk84; rw [hb]; rfl
  rw [e]
  exact ⟨hr, h3, h4, h5, h6, h7, h8, h9⟩
theorem drew_size (w : World) : w.drew.heap.size = w.heap.size := rfl
theorem roller_fin {w W' : World} {b g : Nat} {e : Ending} {s : RS} (hR : RoAt W' b g s) (hB : Below w.heap.size w W') (h1 : w.heap.size ≤ b) (h2 : w.heap.size ≤ g) (h3 : e = .returned (.pointer (some ⟨b, 0, none⟩))) :
    ∃ b g, w.heap.size ≤ b ∧ w.heap.size ≤ g ∧ e = .returned (.pointer (some ⟨b, 0, none⟩)) ∧ Below w.heap.size w W' ∧ RoAt W' b g s := ⟨b, g, h1, h2, h3, hB, hR⟩
theorem newRoller_end {wF : World} {p d W : Nat} {T T2 : Nat → Nat} {cs1 : Array Value} {g : Nat} (V : TakerV cs1 (p : Int) (d : Int) T) (hg : wF.heap[g]? = some (.cells (bytesV (List.replicate W 0)) 5 (0, 0))) :
    RoAt (wF.alloc (.cells (mk84 cs1 (tabV T2) g W) 84)) wF.heap.size g ⟨p, d, (List.range 256).map T, (List.range 256).map T2, List.replicate W 0, 0, false, 0⟩ := by
  have hlt : g < wF.heap.size := (Array.getElem?_eq_some_iff.1 hg).1
  obtain ⟨_, h1, h2, h3, h4, h5, h6, h7⟩ := mk84_run (cs := cs1) (T2 := tabV T2) g W V.size (tabV_size T2)
  refine ⟨Nat.ne_of_lt hlt, ⟨_, heap_alloc_new wF _, h1, ?_, fun i hi => ?_, fun i hi => ?_, ?_, ?_, h6, ?_⟩, blk_alloc hg _⟩
  · rw [h2 1 (by omega)]; exact V.c1
  · rw [h2 (2 + i) (by omega), V.over i hi]; simp [hi]
  · rw [h3 i hi, tabV_get T2 i hi]; simp [hi]
  · rw [h4]; simp
  · rw [h5]; simp
  · rw [h7]; simp
set_option maxHeartbeats 4000000 in
set_option maxRecDepth 100000 in
theorem newRoller_calls (k1 k2 : Nat) (p d W mn mx bt : Nat) (T T2 : Nat → Nat) (w : World) (hD : poly_Deg.f (p : Int) = some (d : Int)) (hT : Shifts k1 p d T) (hT2 : Shifts k2 p ((8 * W : Nat) : Int) T2) (hW : W ≤ 64) :
    Calls Try.prog 36 #[.agg #[.int .u64 (p : Int), .int .i64 (W : Int), .int .i64 (mn : Int), .int .i64 (mx : Int), .int .i64 (bt : Int)]] w fun e w' => ∃ b g, w.heap.size ≤ b ∧ w.heap.size ≤ g ∧ e = .returned (.pointer (some ⟨b, 0, none⟩)) ∧ Below w.heap.size w w' ∧
      RoAt w' b g ⟨p, d, (List.range 256).map T, (List.range 256).map T2, List.replicate W 0, 0, false, 0⟩ := by
  obtain ⟨⟨pw, e0, hP, hM⟩⟩ := hT
  obtain ⟨⟨pw2, e2, hP2, hM2⟩⟩ := hT2
  have HC48 := Aside0.mk (fun W : World => newTaker_calls k1 (p : Int) d pw e0 T W hD hP hM)
  have HC49 := Aside0.mk (fun W' : World => shifted_calls k2 (p : Int) ((8 * W : Nat) : Int) pw2 e2 T2 W' hP2 hM2)
  have w8 : wrap64 (8 * (W : Int)) = ((8 * W : Nat) : Int) := by unfold wrap64; omega
  have w8' : IntKind.i64.wrap (8 * (W : Int)) = ((8 * W : Nat) : Int) := by simp [IntKind.wrap, IntKind.signed, IntKind.bits]; omega
  have q0 := eq_true (Int.natCast_nonneg W)
  clear hP hM hP2 hM2 hD
  go_enter Try.func36, Try.ntmps36
  go_wp2
  obtain ⟨W1, hW1⟩ : ∃ W1, W1 = w.alloc (.cells #[.int .u64 (p : Int), .int .i64 (W : Int), .int .i64 (mn : Int), .int .i64 (mx : Int), .int .i64 (bt : Int)] 24) := ⟨_, rfl⟩
  have c0 : W1.cell? ⟨w.heap.size, 0, none⟩ = some (.int .u64 (p : Int)) := by rw [hW1]; simp
  have c1 : W1.cell? ⟨w.heap.size, 1, none⟩ = some (.int .i64 (W : Int)) := by rw [hW1]; simp
  have sz : W1.heap.size = w.heap.size + 1 := by rw [hW1]; simp
  obtain ⟨n, hn⟩ : ∃ n, n = w.heap.size := ⟨_, rfl⟩
  rw [← hn] at c0 c1 sz ⊢
  rw [← hW1]
  have HW1 := Aside0.mk hW1
  have HN := Aside0.mk hn
  clear hW1 hn
  have S0 : Below (n + 1) W1 W1.drew ∧ W1.drew.cell? ⟨n, 0, none⟩ = some (.int .u64 (p : Int)) ∧ W1.drew.cell? ⟨n, 1, none⟩ = some (.int .i64 (W : Int)) := ⟨pw_below_drewN (Below.refl _ _) 1, c0, c1⟩
  have hmk := made_run W hW
  have ht2 : (tabV T2).size = 256 := tabV_size T2
  obtain ⟨TV2, hTV2⟩ : ∃ TV2, TV2 = tabV T2 := ⟨_, rfl⟩
  rw [← hTV2] at HC49 ht2
  obtain ⟨Z, hZs, hz⟩ := zero84
  have f1 : ∀ (vs : Array (Value × Nat)) (cs : Array Value) (a b : Nat), (vs.foldl (fun cs x => cs.setIfInBounds x.2 x.1) cs a b).size = cs.size := fun vs cs a b => foldl_size0 vs cs a b
  have f2 : ∀ (k : Nat) (vs : Array (Value × Nat)) (cs : Array Value) (a b : Nat), (vs.foldl (fun cs x => cs.setIfInBounds (k + x.2) x.1) cs a b).size = cs.size := fun k vs cs a b => foldl_size k vs cs a b
  have HTV2 := Aside0.mk hTV2
  have HT2 := Aside0.mk ht2
  clear hTV2
  go_region_held3 (fun W' => Below (n + 1) W1 W' ∧ W'.cell? ⟨n, 0, none⟩ = some (.int .u64 (p : Int)) ∧ W'.cell? ⟨n, 1, none⟩ = some (.int .i64 (W : Int))) (first | exact S0 | exact held_call (by assumption) (by assumption) | exact held_alloc (by assumption) _) (first | ((go_at_call 48; refine (HC48.out _).mono ?_; rintro e1 w2 ⟨⟨cs1, rfl, V1⟩, hb1⟩; have hs1 := V1.size)) | ((go_at_call 49; refine (HC49.out _).mono ?_; rintro e1 w3 ⟨rfl, hb2⟩)))
  all_goals (
    have hX : ∀ b : Nat, ((Array.foldl (fun cs x => cs.setIfInBounds (258 + x.snd) x.fst) (Array.foldl (fun cs x => cs.setIfInBounds x.snd x.fst) Z cs1.zipIdx 0 258) TV2.zipIdx 0 256).setIfInBounds 514 (Value.slice (some { block := b, off := 0 }) W W)) = mk84 cs1 TV2 b W := by
      intro b
      have h4 : (Instr.build 84 #[(0, .agg cs1), (1, .agg TV2), (2, .slice (some ⟨b, 0, none⟩) W W)]).run Try.prog w = .ok (.agg ((Array.foldl (fun cs x => cs.setIfInBounds (258 + x.snd) x.fst) (Array.foldl (fun cs x => cs.setIfInBounds x.snd x.fst) Z cs1.zipIdx 0 258) TV2.zipIdx 0 256).setIfInBounds 514 (Value.slice (some { block := b, off := 0 }) W W))) w := by go_simp
      have h5 := h4.symm.trans ((mk84_run b W hs1 ht2).1 w)
      injection h5 with h6
      injection h6
    rename_i hH
    simp only [hX] at hH ⊢
    clear hX
    go_wp2
    go_ret
    have hF := hH.1
    clear hH c0 c1 hmk f1 f2 hz hZs S0
    have hg0 := heap_alloc_new W1.drew (.cells (bytesV (List.replicate W 0)) 5)
    rw [show W1.drew.heap.size = n + 1 from sz] at hg0
    have B0 : Below w.heap.size w ((W1.alloc (.cells #[] 5))) := by rw [HW1.out]; exact below_alloc (below_alloc (Below.refl _ _) _) _
    have B1 : Below w.heap.size w W1 := by rw [HW1.out]; exact below_alloc (Below.refl _ _) _
    have hwF := below_then B1 (by rw [← HN.out, sz]; exact Nat.le_succ n) (show Below W1.heap.size W1 _ by rw [sz]; exact hF)
    have z1 := hb1.size
    have z2 := hb2.size
    simp only [World.size_alloc, drew_size, sz] at z1 z2
    have e2 := HTV2.out
    subst e2
    refine roller_fin (newRoller_end V1 ?_) hwF ?_ ?_ ?_
    · first
        | exact heap_alloc_new _ _
        | exact (hb2.block _ (by simp)).trans (heap_alloc_new _ _)
        | exact (hb2.block (n + 1) (by first | (simp only [World.size_alloc, drew_size, sz]; omega) | omega)).trans ((hb1.block (n + 1) (by first | (simp only [World.size_alloc, drew_size, sz]; omega) | omega)).trans hg0)
    · have h3 := hwF.size; simp only [World.size_alloc] at h3 ⊢; rw [← HN.out]; omega
    · rw [← HN.out]; omega
    · first | rfl | simp [World.size_alloc])
end Go.Proofs.Ytoofafgnlgaajaa.RW
