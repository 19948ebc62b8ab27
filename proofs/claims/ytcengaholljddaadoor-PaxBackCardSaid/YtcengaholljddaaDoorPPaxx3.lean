/- Printed for this claim by a copy of the kit's print.py that takes functions walked by our own texts. Conditions: none. -/
import Derived.Test.YtcengaholljddaaDoorPPaxx0
import Derived.Test.YtcengaholljddaaDoorPPaxx1
import Derived.Test.YtcengaholljddaaDoorPPaxx2
namespace Go.Proofs.YtcengaholljddaaDoor.PPax
open Go.RowKit Go.Proofs.YtcengaholljddaaDoorW.PrintWords Go.Proofs.YtcengaholljddaaDoorW.PrintLast Go.Proofs.YtcengaholljddaaDoorW.PrintMore
attribute [local go_sem] max2_int min2_int max_two min_two max_three min_three max_four min_four   -- for this text's walks alone
set_option linter.unusedVariables false
set_option linter.unusedSimpArgs false

/-! ### pax_first: function 28 -/
def spI (b : List Int) : Int := Lib.indexByte (Lib.bytesOf b) 32
def dig (b : List Int) : List Int := b.take (spI b).toNat
def none1 : Option (ByteArray × ByteArray × Int) := some ((⟨#[]⟩ : ByteArray), (⟨#[]⟩ : ByteArray), 0)
def pax_first.g (k : Nat) (b : List Int) (n : Int) : Option (ByteArray × ByteArray × Int) :=
  (strings_Cut.f (strOfNums ((b.take n.toNat).drop ((dig b).length + 1))) (⟨#[61]⟩ : ByteArray)).bind fun c => (strings_CutSuffix.f c.2.1 (⟨#[10]⟩ : ByteArray)).bind fun e =>
    if c.2.2 = true then (if e.2 = true then ((pax_Line.f k c.1 e.1).bind fun q => if q.2.isNone = true then (if q.1.toList = (strOfNums (b.take n.toNat)).toList then some (c.1, e.1, n) else none1) else none1) else none1) else none1
def pax_first.f (k : Nat) (b : List Int) : Option (ByteArray × ByteArray × Int) :=
  if 1 ≤ b.length ∧ b.length ≤ 65536 then (if 0 ≤ spI b then (match Lib.atoiAll (strOfNums (dig b)).data.toList with
    | .ok n => if (b.length : Int) < n then none1 else if n < ((dig b).length : Int) + 1 then none1 else pax_first.g k b n
    | _ => none1) else none1) else none
theorem pax_first.mono : ∀ a0 k, LeO (pax_first.f k a0) (pax_first.f (k + 1) a0) := by
  intro b k
  unfold pax_first.f pax_first.g
  refine LeO.ite (LeO.ite ?_ (LeO.refl _)) (LeO.none _)
  split
  · refine LeO.ite (LeO.refl _) (LeO.ite (LeO.refl _) (LeO.bind (LeO.refl _) fun _ => LeO.bind (LeO.refl _) fun _ => LeO.ite (LeO.ite (LeO.bind (pax_Line.mono _ _ _) fun _ => LeO.refl _) (LeO.refl _)) (LeO.refl _)))
  · exact LeO.refl _
theorem atoi_any (s : ByteArray) (hs : s.size ≤ 1000000) (w : World) (hGl : Gl w) : Calls Tryd.prog 32 #[.string s] w fun e w' => ∃ (v : Int) (ev : Value), e = .returned (.tuple #[.int .i64 v, ev]) ∧ Below w.heap.size w w' ∧
    ((Lib.atoiAll s.data.toList = .ok v ∧ ev = .nilIface) ∨ ((∀ v', Lib.atoiAll s.data.toList ≠ .ok v') ∧ ∃ p, ev = .iface 86 p)) := by
  cases ha : Lib.atoiAll s.data.toList with
  | ok v =>
    refine (Tryd.strconv_Atoi_ok s (by omega) v ha w).mono ?_
    rintro e w' ⟨rfl, hw⟩
    refine ⟨v, .nilIface, rfl, ?_, .inl ⟨rfl, rfl⟩⟩
    rcases hw with rfl | ⟨t, rfl⟩
    · exact Below.refl _ _
    · exact bytes_below (Below.refl _ _) (Nat.le_refl _) 5 t
  | «syntax» =>
    obtain ⟨tp, p, hv⟩ := hGl.syn
    refine (Tryd.strconv_Atoi_syntax_var s (by omega) ha tp p w hv).mono ?_
    rintro e w' ⟨N, rfl, _, _, hb⟩
    exact ⟨0, _, rfl, hb, .inr ⟨(fun v' h => by cases h), _, rfl⟩⟩
  | range =>
    obtain ⟨tp, p, hv⟩ := hGl.rng
    refine (Tryd.strconv_Atoi_range_var s (by omega) ha tp p w hv).mono ?_
    rintro e w' ⟨N, rfl, _, _, hb⟩
    exact ⟨_, _, rfl, hb, .inr ⟨(fun v' h => by cases h), _, rfl⟩⟩
theorem sep_cell (W : World) : (W.alloc (.cells #[.int .u8 32] 5 (1, 2))).cell? ⟨W.heap.size, 0, none⟩ = some (.int .u8 32) := by
  rw [cell_of_row _ _ 0 _ 5 (1, 2) (heap_alloc_new W _)]; rfl
/-- The world behind the two rows that first makes. -/
def fw (w : World) : World := (w.alloc (.cells #[.string (⟨#[]⟩ : ByteArray), .string (⟨#[]⟩ : ByteArray)] 44)).alloc (.cells #[.int .u8 32] 5 (1, 2))
theorem fw_below (w : World) : Below w.heap.size w (fw w) := below_alloc (below_alloc (Below.refl _ _) _) _
theorem fw_blk (w : World) : (fw w).heap[w.heap.size]? = some (.cells #[.string (⟨#[]⟩ : ByteArray), .string (⟨#[]⟩ : ByteArray)] 44 (0, 0)) := blk_alloc (heap_alloc_new w _) _
theorem fw_conv (w : World) : (convert 31 31 (.slice (some ⟨w.heap.size + 1, 0, none⟩) 1 1)).run Tryd.prog ((w.alloc (.cells #[.string (⟨#[]⟩ : ByteArray), .string (⟨#[]⟩ : ByteArray)] 44)).alloc (.cells #[.int .u8 32] 5)) = .ok (.slice (some ⟨w.heap.size + 1, 0, none⟩) 1 1) (fw w) := by
  have hsz : (w.alloc (.cells #[.string (⟨#[]⟩ : ByteArray), .string (⟨#[]⟩ : ByteArray)] 44)).heap.size = w.heap.size + 1 := by show (w.heap.push _).size = _; rw [Array.size_push]
  rw [← hsz]
  exact Lib.run_convert_bytes_const (P := Tryd.prog) (w.alloc (.cells #[.string (⟨#[]⟩ : ByteArray), .string (⟨#[]⟩ : ByteArray)] 44)) 31 5 #[.int .u8 32] 1 1 Tryd.underlying31 Tryd.underlying5
theorem fw_cut (ad : Addr) (c0 : Nat) (b : List Int) (w : World) (hC : Kd.C (Kd.int .u8) w (some ad) b.length b) (hc : b.length ≤ c0) (h1 : 1 ≤ b.length) (h2 : b.length ≤ 65536) (hI : -1 ≤ spI b ∧ (0 ≤ spI b → spI b + 1 ≤ b.length)) :
    Calls Tryd.prog 31 #[.slice (some ad) b.length c0, .slice (some ⟨w.heap.size + 1, 0, none⟩) 1 1] (fw w) fun e w' => e = .returned (Lib.cutV (some ad) b.length c0 1 (spI b)) ∧ ∃ q, w' = (fw w).drewN q := by
  have hsz : (w.alloc (.cells #[.string (⟨#[]⟩ : ByteArray), .string (⟨#[]⟩ : ByteArray)] 44)).heap.size = w.heap.size + 1 := by show (w.heap.push _).size = _; rw [Array.size_push]
  rw [← hsz]
  have hR := Kd.C_below hC (fw_below w)
  obtain ⟨ad', e', hcell⟩ := (Kd.reads_of_C (enc := Value.int .u8) (d := (0 : Int)) (h1 := fun _ => rfl) hR).2.2 (by omega)
  injection e' with e'
  subst e'
  have cI := Tryd.bytes_Index_one_at ad b.length c0 (w.alloc (.cells #[.string (⟨#[]⟩ : ByteArray), .string (⟨#[]⟩ : ByteArray)] 44)).heap.size 0 1 b 32 (fw w) rfl hcell (sep_cell _)
  exact Tryd.bytes_Cut_of (some ad) (some ⟨(w.alloc (.cells #[.string (⟨#[]⟩ : ByteArray), .string (⟨#[]⟩ : ByteArray)] 44)).heap.size, 0, none⟩) b.length c0 1 1 (spI b) (fw w) hc hI.1 (fun h => by have := hI.2 h; omega) (by omega) (cI.mono fun e w' h => ⟨h.1, 0, h.2⟩)
theorem spI_le (b : List Int) : -1 ≤ spI b ∧ (0 ≤ spI b → spI b + 1 ≤ b.length) := by
  unfold spI
  refine ⟨Lib.indexByte_ge _ _, fun h => ?_⟩
  obtain ⟨o, ho⟩ := Int.eq_ofNat_of_zero_le h
  have h1 := (Lib.indexByte_some ho).1
  have h2 := (List.getElem?_eq_some_iff.1 h1).1
  have h3 : (Lib.bytesOf b).length = b.length := by simp [Lib.bytesOf]
  omega
theorem put2 {w : World} {g : Nat} (h : w.heap[g]? = some (.cells #[.string (⟨#[]⟩ : ByteArray), .string (⟨#[]⟩ : ByteArray)] 44 (0, 0))) (x y : ByteArray) : ((w.setCell ⟨g, 0, none⟩ (.string x)).setCell ⟨g, 1, none⟩ (.string y)).heap[g]? = some (.cells #[.string x, .string y] 44 (0, 0)) := by
  refine blk_put (cs := #[.string x, .string (⟨#[]⟩ : ByteArray)]) ?_ 1 _ rfl
  exact blk_put (cs := #[.string (⟨#[]⟩ : ByteArray), .string (⟨#[]⟩ : ByteArray)]) h 0 _ rfl
theorem far2 {w : World} {g c : Nat} {cs : Array Value} (h : w.heap[c]? = some (.cells cs 44 (0, 0))) (hne : c ≠ g) (x y : Value) : ((w.setCell ⟨g, 0, none⟩ x).setCell ⟨g, 1, none⟩ y).heap[c]? = some (.cells cs 44 (0, 0)) := blk_far (blk_far h hne _) hne _
theorem below2 {w W : World} {g : Nat} (h : Below w.heap.size w W) (hg : w.heap.size ≤ g) (x y : Value) : Below w.heap.size w ((W.setCell ⟨g, 0, none⟩ x).setCell ⟨g, 1, none⟩ y) := below_set (below_set h hg) hg
set_option maxHeartbeats 8000000 in
set_option maxRecDepth 100000 in
theorem first_E (ad : Addr) (c0 : Nat) (b : List Int) (w : World) (hC : Kd.C (Kd.int .u8) w (some ad) b.length b) (hc : b.length ≤ c0) (h1 : 1 ≤ b.length) (h2 : b.length ≤ 65536) (hGl : Gl w) (hI : spI b < 0) :
    Calls Tryd.prog 28 #[.slice (some ad) b.length c0] w fun e w' => e = .returned (.tuple #[.agg #[.string (⟨#[]⟩ : ByteArray), .string (⟨#[]⟩ : ByteArray)], .int .i64 0]) ∧ Below w.heap.size w w' := by
  have hu44 := Tryd.underlying44
  have hu24 := Tryd.underlying24
  have hconv := fw_conv w
  have HGL := Aside0.mk hGl
  have hcut := fw_cut ad c0 b w hC hc h1 h2 (spI_le b)
  have hCD := Kd.C_below hC (fw_below w)
  have XD := Aside0.mk (show b.length ≤ 1000000 by omega)
  unfold Lib.cutV at hcut
  rw [if_neg (by omega)] at hcut
  have hcv : ∀ q, (convert 31 9 (.slice (some ad) b.length c0)).run Tryd.prog ((fw w).drewN q) = .ok (.string (strOfNums b)) ((fw w).drewN q) := fun q => Kd.C_string (P := Tryd.prog) Tryd.underlying31 Tryd.underlying5 Tryd.underlying9 (Kd.C_drewN hCD q)
  obtain ⟨n, hn⟩ : ∃ n, n = b.length := ⟨_, rfl⟩
  rw [← hn] at hcut ⊢
  simp only [← hn] at hcv
  clear hC hc h1 h2 hGl hI hCD hn
  go_enter Tryd.func28, Tryd.ntmps28
  go_wp2_with (first
    | (go_at_call 31; refine hcut.mono ?_; rintro e w1 ⟨rfl, q, rfl⟩; have hcq := hcv q)
    | (go_at_call 32; refine (atoi_any _ ?s1 _ ?s2).mono ?_; (case s1 => (rw [strOfNums_size]; exact XD.out)); (case s2 => exact HGL.out.of (pw_below_drewN (fw_below w) _)); rintro e w2 ⟨v, ev, rfl, hb, hv⟩; have HB := Aside0.mk (below_step (pw_below_drewN (fw_below w) _) hb); have BK := Aside0.mk (blk_below (blk_drewN (fw_blk w) _) hb); clear hb; clear hv; have hz0 : w2.cell? ⟨w.heap.size, 0, none⟩ = some (.string (⟨#[]⟩ : ByteArray)) := (blk_cell BK.out 0).trans rfl; have hz1 : w2.cell? ⟨w.heap.size, 1, none⟩ = some (.string (⟨#[]⟩ : ByteArray)) := (blk_cell BK.out 1).trans rfl; have hf0 := blk_frozen BK.out 0; have hf1 := blk_frozen BK.out 1))
  refine bodyPost_ret (results_ct rfl _ _ w.heap.size 44 #[.string (⟨#[]⟩ : ByteArray), .string (⟨#[]⟩ : ByteArray)] (0, 0) _ rfl (by exact put2 BK.out _ _) Tryd.underlying44 rfl (by kernel_rfl)) rfl ?_
  exact ⟨rfl, below2 HB.out (Nat.le_refl _) _ _⟩
set_option maxHeartbeats 8000000 in
set_option maxRecDepth 100000 in
theorem first_F (ad : Addr) (c0 : Nat) (b : List Int) (w : World) (hC : Kd.C (Kd.int .u8) w (some ad) b.length b) (hc : b.length ≤ c0) (h1 : 1 ≤ b.length) (h2 : b.length ≤ 65536) (hGl : Gl w) (hI : 0 ≤ spI b) (hA : ∀ v, Lib.atoiAll (strOfNums (dig b)).data.toList ≠ .ok v) :
    Calls Tryd.prog 28 #[.slice (some ad) b.length c0] w fun e w' => e = .returned (.tuple #[.agg #[.string (⟨#[]⟩ : ByteArray), .string (⟨#[]⟩ : ByteArray)], .int .i64 0]) ∧ Below w.heap.size w w' := by
  have hu44 := Tryd.underlying44
  have hu24 := Tryd.underlying24
  have hconv := fw_conv w
  have HGL := Aside0.mk hGl
  have hI2 := (spI_le b).2 hI
  have hcut := fw_cut ad c0 b w hC hc h1 h2 (spI_le b)
  obtain ⟨d, hd⟩ : ∃ d, d = (spI b).toNat := ⟨_, rfl⟩
  have hdl : (dig b).length = d := by unfold dig; rw [List.length_take]; omega
  have hCD : Kd.C (Kd.int .u8) (fw w) (some ad) d (dig b) := by
    have := Kd.C_take (Kd.C_below hC (fw_below w)) (show (spI b).toNat ≤ b.length by omega)
    have e : (b.take (spI b).toNat).length = d := by rw [List.length_take]; omega
    rw [e] at this; exact this
  have XD := Aside0.mk (show (dig b).length ≤ 1000000 by omega)
  unfold Lib.cutV at hcut
  rw [if_pos hI, ← hd] at hcut
  have hcv : ∀ q, (convert 31 9 (.slice (some ad) d c0)).run Tryd.prog ((fw w).drewN q) = .ok (.string (strOfNums (dig b))) ((fw w).drewN q) := fun q => by
    have := Kd.C_string (P := Tryd.prog) (c := c0) Tryd.underlying31 Tryd.underlying5 Tryd.underlying9 (by rw [hdl]; exact Kd.C_drewN hCD q : Kd.C (Kd.int .u8) ((fw w).drewN q) (some ad) (dig b).length (dig b))
    rw [hdl] at this; exact this
  have hwd : wrap64 ((d : Int) + 1) = (d : Int) + 1 := by unfold wrap64; omega
  obtain ⟨N, hN⟩ : ∃ N, N = b.length := ⟨_, rfl⟩
  have XA := Aside0.mk hA
  rw [← hN] at hcut ⊢
  clear hC hc h1 h2 hGl hI hI2 hCD hN hd hdl hA
  go_enter Tryd.func28, Tryd.ntmps28
  go_wp2_with (first
    | (go_at_call 31; refine hcut.mono ?_; rintro e w1 ⟨rfl, q, rfl⟩; have hcq := hcv q)
    | (go_at_call 32; refine (atoi_any _ ?s1 _ ?s2).mono ?_; (case s1 => (rw [strOfNums_size]; exact XD.out)); (case s2 => exact HGL.out.of (pw_below_drewN (fw_below w) _)); rintro e w2 ⟨v, ev, rfl, hb, hv⟩; have HB := Aside0.mk (below_step (pw_below_drewN (fw_below w) _) hb); have BK := Aside0.mk (blk_below (blk_drewN (fw_blk w) _) hb); clear hb; obtain ⟨pv, rfl⟩ : ∃ pv, ev = .iface 86 pv := (hv.elim (fun h => absurd h.1 (XA.out v)) (fun h => h.2)); clear hv; have hz0 : w2.cell? ⟨w.heap.size, 0, none⟩ = some (.string (⟨#[]⟩ : ByteArray)) := (blk_cell BK.out 0).trans rfl; have hz1 : w2.cell? ⟨w.heap.size, 1, none⟩ = some (.string (⟨#[]⟩ : ByteArray)) := (blk_cell BK.out 1).trans rfl; have hf0 := blk_frozen BK.out 0; have hf1 := blk_frozen BK.out 1))
  refine bodyPost_ret (results_ct rfl _ _ w.heap.size 44 #[.string (⟨#[]⟩ : ByteArray), .string (⟨#[]⟩ : ByteArray)] (0, 0) _ rfl (by exact put2 BK.out _ _) Tryd.underlying44 rfl (by kernel_rfl)) rfl ?_
  exact ⟨rfl, below2 HB.out (Nat.le_refl _) _ _⟩
set_option maxHeartbeats 8000000 in
set_option maxRecDepth 100000 in
theorem first_G1 (ad : Addr) (c0 : Nat) (b : List Int) (w : World) (hC : Kd.C (Kd.int .u8) w (some ad) b.length b) (hc : b.length ≤ c0) (h1 : 1 ≤ b.length) (h2 : b.length ≤ 65536) (hGl : Gl w) (n : Int) (hI : 0 ≤ spI b) (hA : Lib.atoiAll (strOfNums (dig b)).data.toList = .ok n) (hg : (b.length : Int) < n) :
    Calls Tryd.prog 28 #[.slice (some ad) b.length c0] w fun e w' => e = .returned (.tuple #[.agg #[.string (⟨#[]⟩ : ByteArray), .string (⟨#[]⟩ : ByteArray)], .int .i64 0]) ∧ Below w.heap.size w w' := by
  have hu44 := Tryd.underlying44
  have hu24 := Tryd.underlying24
  have hconv := fw_conv w
  have HGL := Aside0.mk hGl
  have hI2 := (spI_le b).2 hI
  have hcut := fw_cut ad c0 b w hC hc h1 h2 (spI_le b)
  obtain ⟨d, hd⟩ : ∃ d, d = (spI b).toNat := ⟨_, rfl⟩
  have hdl : (dig b).length = d := by unfold dig; rw [List.length_take]; omega
  have hCD : Kd.C (Kd.int .u8) (fw w) (some ad) d (dig b) := by
    have := Kd.C_take (Kd.C_below hC (fw_below w)) (show (spI b).toNat ≤ b.length by omega)
    have e : (b.take (spI b).toNat).length = d := by rw [List.length_take]; omega
    rw [e] at this; exact this
  have XD := Aside0.mk (show (dig b).length ≤ 1000000 by omega)
  unfold Lib.cutV at hcut
  rw [if_pos hI, ← hd] at hcut
  have hcv : ∀ q, (convert 31 9 (.slice (some ad) d c0)).run Tryd.prog ((fw w).drewN q) = .ok (.string (strOfNums (dig b))) ((fw w).drewN q) := fun q => by
    have := Kd.C_string (P := Tryd.prog) (c := c0) Tryd.underlying31 Tryd.underlying5 Tryd.underlying9 (by rw [hdl]; exact Kd.C_drewN hCD q : Kd.C (Kd.int .u8) ((fw w).drewN q) (some ad) (dig b).length (dig b))
    rw [hdl] at this; exact this
  have hwd : wrap64 ((d : Int) + 1) = (d : Int) + 1 := by unfold wrap64; omega
  obtain ⟨N, hN⟩ : ∃ N, N = b.length := ⟨_, rfl⟩
  have XA := Aside0.mk hA
  have hgt : decide ((N : Int) < n) = true := decide_eq_true (by rw [hN]; exact hg)
  rw [← hN] at hcut ⊢
  clear hC hc h1 h2 hGl hI hI2 hCD hd hdl hA hN hg
  go_enter Tryd.func28, Tryd.ntmps28
  go_wp2_with (first
    | (go_at_call 31; refine hcut.mono ?_; rintro e w1 ⟨rfl, q, rfl⟩; have hcq := hcv q)
    | (go_at_call 32; refine (atoi_any _ ?s1 _ ?s2).mono ?_; (case s1 => (rw [strOfNums_size]; exact XD.out)); (case s2 => exact HGL.out.of (pw_below_drewN (fw_below w) _)); rintro e w2 ⟨v, ev, rfl, hb, hv⟩; have HB := Aside0.mk (below_step (pw_below_drewN (fw_below w) _) hb); have BK := Aside0.mk (blk_below (blk_drewN (fw_blk w) _) hb); clear hb; obtain ⟨rfl, rfl⟩ : v = n ∧ ev = .nilIface := (hv.elim (fun h => ⟨(by have := h.1.symm.trans XA.out; injection this), h.2⟩) (fun h => absurd XA.out (h.1 n))); clear hv; have hz0 : w2.cell? ⟨w.heap.size, 0, none⟩ = some (.string (⟨#[]⟩ : ByteArray)) := (blk_cell BK.out 0).trans rfl; have hz1 : w2.cell? ⟨w.heap.size, 1, none⟩ = some (.string (⟨#[]⟩ : ByteArray)) := (blk_cell BK.out 1).trans rfl; have hf0 := blk_frozen BK.out 0; have hf1 := blk_frozen BK.out 1))
  refine bodyPost_ret (results_ct rfl _ _ w.heap.size 44 #[.string (⟨#[]⟩ : ByteArray), .string (⟨#[]⟩ : ByteArray)] (0, 0) _ rfl (by exact put2 BK.out _ _) Tryd.underlying44 rfl (by kernel_rfl)) rfl ?_
  exact ⟨rfl, below2 HB.out (Nat.le_refl _) _ _⟩
set_option maxHeartbeats 8000000 in
set_option maxRecDepth 100000 in
theorem first_G2 (ad : Addr) (c0 : Nat) (b : List Int) (w : World) (hC : Kd.C (Kd.int .u8) w (some ad) b.length b) (hc : b.length ≤ c0) (h1 : 1 ≤ b.length) (h2 : b.length ≤ 65536) (hGl : Gl w) (n : Int) (hI : 0 ≤ spI b) (hA : Lib.atoiAll (strOfNums (dig b)).data.toList = .ok n) (hg : ¬ (b.length : Int) < n) (hl : n < ((dig b).length : Int) + 1) :
    Calls Tryd.prog 28 #[.slice (some ad) b.length c0] w fun e w' => e = .returned (.tuple #[.agg #[.string (⟨#[]⟩ : ByteArray), .string (⟨#[]⟩ : ByteArray)], .int .i64 0]) ∧ Below w.heap.size w w' := by
  have hu44 := Tryd.underlying44
  have hu24 := Tryd.underlying24
  have hconv := fw_conv w
  have HGL := Aside0.mk hGl
  have hI2 := (spI_le b).2 hI
  have hcut := fw_cut ad c0 b w hC hc h1 h2 (spI_le b)
  obtain ⟨d, hd⟩ : ∃ d, d = (spI b).toNat := ⟨_, rfl⟩
  have hdl : (dig b).length = d := by unfold dig; rw [List.length_take]; omega
  have hCD : Kd.C (Kd.int .u8) (fw w) (some ad) d (dig b) := by
    have := Kd.C_take (Kd.C_below hC (fw_below w)) (show (spI b).toNat ≤ b.length by omega)
    have e : (b.take (spI b).toNat).length = d := by rw [List.length_take]; omega
    rw [e] at this; exact this
  have XD := Aside0.mk (show (dig b).length ≤ 1000000 by omega)
  unfold Lib.cutV at hcut
  rw [if_pos hI, ← hd] at hcut
  have hcv : ∀ q, (convert 31 9 (.slice (some ad) d c0)).run Tryd.prog ((fw w).drewN q) = .ok (.string (strOfNums (dig b))) ((fw w).drewN q) := fun q => by
    have := Kd.C_string (P := Tryd.prog) (c := c0) Tryd.underlying31 Tryd.underlying5 Tryd.underlying9 (by rw [hdl]; exact Kd.C_drewN hCD q : Kd.C (Kd.int .u8) ((fw w).drewN q) (some ad) (dig b).length (dig b))
    rw [hdl] at this; exact this
  have hwd : wrap64 ((d : Int) + 1) = (d : Int) + 1 := by unfold wrap64; omega
  obtain ⟨N, hN⟩ : ∃ N, N = b.length := ⟨_, rfl⟩
  have XA := Aside0.mk hA
  have hgt : decide ((N : Int) < n) = false := decide_eq_false (by rw [hN]; exact hg)
  have hlt : decide (n < (d : Int) + 1) = true := decide_eq_true (by rw [hdl] at hl; exact hl)
  rw [← hN] at hcut ⊢
  clear hC hc h1 h2 hGl hI hI2 hCD hd hdl hA hN hg hl
  go_enter Tryd.func28, Tryd.ntmps28
  go_wp2_with (first
    | (go_at_call 31; refine hcut.mono ?_; rintro e w1 ⟨rfl, q, rfl⟩; have hcq := hcv q)
    | (go_at_call 32; refine (atoi_any _ ?s1 _ ?s2).mono ?_; (case s1 => (rw [strOfNums_size]; exact XD.out)); (case s2 => exact HGL.out.of (pw_below_drewN (fw_below w) _)); rintro e w2 ⟨v, ev, rfl, hb, hv⟩; have HB := Aside0.mk (below_step (pw_below_drewN (fw_below w) _) hb); have BK := Aside0.mk (blk_below (blk_drewN (fw_blk w) _) hb); clear hb; obtain ⟨rfl, rfl⟩ : v = n ∧ ev = .nilIface := (hv.elim (fun h => ⟨(by have := h.1.symm.trans XA.out; injection this), h.2⟩) (fun h => absurd XA.out (h.1 n))); clear hv; have hz0 : w2.cell? ⟨w.heap.size, 0, none⟩ = some (.string (⟨#[]⟩ : ByteArray)) := (blk_cell BK.out 0).trans rfl; have hz1 : w2.cell? ⟨w.heap.size, 1, none⟩ = some (.string (⟨#[]⟩ : ByteArray)) := (blk_cell BK.out 1).trans rfl; have hf0 := blk_frozen BK.out 0; have hf1 := blk_frozen BK.out 1))
  refine bodyPost_ret (results_ct rfl _ _ w.heap.size 44 #[.string (⟨#[]⟩ : ByteArray), .string (⟨#[]⟩ : ByteArray)] (0, 0) _ rfl (by exact put2 BK.out _ _) Tryd.underlying44 rfl (by kernel_rfl)) rfl ?_
  exact ⟨rfl, below2 HB.out (Nat.le_refl _) _ _⟩
set_option maxHeartbeats 8000000 in
set_option maxRecDepth 100000 in
theorem first_H1 (k : Nat) (ad : Addr) (c0 : Nat) (b : List Int) (w : World) (hC : Kd.C (Kd.int .u8) w (some ad) b.length b) (hc : b.length ≤ c0) (h1 : 1 ≤ b.length) (h2 : b.length ≤ 65536) (hGl : Gl w) (n : Int) (hI : 0 ≤ spI b) (hA : Lib.atoiAll (strOfNums (dig b)).data.toList = .ok n) (hg : ¬ (b.length : Int) < n) (hl : ¬ n < ((dig b).length : Int) + 1) (key v0 : ByteArray) (ok1 : Bool) (hc1 : strings_Cut.f (strOfNums ((b.take n.toNat).drop ((dig b).length + 1))) (⟨#[61]⟩ : ByteArray) = some (key, v0, ok1)) (val : ByteArray) (en : Bool) (hc2 : strings_CutSuffix.f v0 (⟨#[10]⟩ : ByteArray) = some (val, en)) (ho : ok1 = false) :
    Calls Tryd.prog 28 #[.slice (some ad) b.length c0] w fun e w' => e = .returned (.tuple #[.agg #[.string (⟨#[]⟩ : ByteArray), .string (⟨#[]⟩ : ByteArray)], .int .i64 0]) ∧ Below w.heap.size w w' := by
  subst ho
  have hu44 := Tryd.underlying44
  have hu24 := Tryd.underlying24
  have hconv := fw_conv w
  have HGL := Aside0.mk hGl
  have hI2 := (spI_le b).2 hI
  have hcut := fw_cut ad c0 b w hC hc h1 h2 (spI_le b)
  obtain ⟨d, hd⟩ : ∃ d, d = (spI b).toNat := ⟨_, rfl⟩
  have hdl : (dig b).length = d := by unfold dig; rw [List.length_take]; omega
  have hCD : Kd.C (Kd.int .u8) (fw w) (some ad) d (dig b) := by
    have := Kd.C_take (Kd.C_below hC (fw_below w)) (show (spI b).toNat ≤ b.length by omega)
    have e : (b.take (spI b).toNat).length = d := by rw [List.length_take]; omega
    rw [e] at this; exact this
  have XD := Aside0.mk (show (dig b).length ≤ 1000000 by omega)
  unfold Lib.cutV at hcut
  rw [if_pos hI, ← hd] at hcut
  have hcv : ∀ q, (convert 31 9 (.slice (some ad) d c0)).run Tryd.prog ((fw w).drewN q) = .ok (.string (strOfNums (dig b))) ((fw w).drewN q) := fun q => by
    have := Kd.C_string (P := Tryd.prog) (c := c0) Tryd.underlying31 Tryd.underlying5 Tryd.underlying9 (by rw [hdl]; exact Kd.C_drewN hCD q : Kd.C (Kd.int .u8) ((fw w).drewN q) (some ad) (dig b).length (dig b))
    rw [hdl] at this; exact this
  have hwd : wrap64 ((d : Int) + 1) = (d : Int) + 1 := by unfold wrap64; omega
  obtain ⟨N, hN⟩ : ∃ N, N = b.length := ⟨_, rfl⟩
  have XA := Aside0.mk hA
  have hgt : decide ((N : Int) < n) = false := decide_eq_false (by rw [hN]; exact hg)
  have hlt : decide (n < (d : Int) + 1) = false := decide_eq_false (by rw [hdl] at hl; exact hl)
  have hdn : (d : Int) + 1 ≤ n := by rw [hdl] at hl; omega
  obtain ⟨i0, hi0, _, hsz0, _⟩ := info_parts info5
  obtain ⟨A7, hcutM, hAM, hCM⟩ := print_mid_of (P := Tryd.prog) (Value.int .u8) 0 31 5 .i64 .i64 Tryd.underlying31 hi0 hsz0 (some ad) c0 b ((d : Int) + 1) n (by omega) hdn (by omega) hc
  have hM : Kd.C (Kd.int .u8) w A7 ((b.take n.toNat).drop ((d : Int) + 1).toNat).length ((b.take n.toNat).drop ((d : Int) + 1).toNat) := Kd.C_of_reads (h1 := fun _ => rfl) (hAM _ (Kd.reads_of_C hC))
  rw [hdl] at hc1
  rw [show ((d : Int) + 1).toNat = d + 1 by omega] at hcutM hM
  obtain ⟨M, hMe⟩ : ∃ M, M = (b.take n.toNat).drop (d + 1) := ⟨_, rfl⟩
  rw [← hMe] at hcutM hM hc1
  obtain ⟨m, hm⟩ : ∃ m, m = M.length := ⟨_, rfl⟩
  rw [← hm] at hcutM
  have hM2 : ∀ W, Below w.heap.size w W → (convert 31 9 (.slice A7 m (c0 - (d + 1)))).run Tryd.prog W = .ok (.string (strOfNums M)) W := fun W hb => by
    rw [hm]; exact Kd.C_string (P := Tryd.prog) Tryd.underlying31 Tryd.underlying5 Tryd.underlying9 (Kd.C_below hM hb)
  obtain ⟨hcutT, hAT, hCT⟩ := print_take_of (P := Tryd.prog) (Value.int .u8) 0 31 5 .i64 Tryd.underlying31 hi0 hsz0 (some ad) c0 b n (by omega) (by omega) hc
  have hT : Kd.C (Kd.int .u8) w (some ad) (b.take n.toNat).length (b.take n.toNat) := Kd.C_of_reads (h1 := fun _ => rfl) (hAT _ (Kd.reads_of_C hC))
  obtain ⟨T, hTe⟩ : ∃ T, T = b.take n.toNat := ⟨_, rfl⟩
  rw [← hTe] at hcutT hT
  obtain ⟨tl, htl⟩ : ∃ tl, tl = T.length := ⟨_, rfl⟩
  rw [← htl] at hcutT
  have hT2 : ∀ W, Below w.heap.size w W → (convert 31 9 (.slice (some ad) tl c0)).run Tryd.prog W = .ok (.string (strOfNums T)) W := fun W hb => by
    rw [htl]; exact Kd.C_string (P := Tryd.prog) Tryd.underlying31 Tryd.underlying5 Tryd.underlying9 (Kd.C_below hT hb)
  have XM2 := Aside0.mk hM2
  have XT2 := Aside0.mk hT2
  have C1 := Aside0.mk hc1
  have C2 := Aside0.mk hc2
  rw [← hN] at hcutM hcutT
  rw [← hN] at hcut ⊢
  clear hC hc h1 h2 hGl hI hI2 hCD hd hdl hA hN hg hl hdn hi0 hsz0 hAM hCM hM hMe hm hM2 hAT hCT hT hTe htl hT2 hc1 hc2
  go_enter Tryd.func28, Tryd.ntmps28
  go_wp2_with (first
    | (go_at_call 31; refine hcut.mono ?_; rintro e w1 ⟨rfl, q, rfl⟩; have hcq := hcv q)
    | (go_at_call 32; refine (atoi_any _ ?s1 _ ?s2).mono ?_; (case s1 => (rw [strOfNums_size]; exact XD.out)); (case s2 => exact HGL.out.of (pw_below_drewN (fw_below w) _)); rintro e w2 ⟨v, ev, rfl, hb, hv⟩; have HB := Aside0.mk (below_step (pw_below_drewN (fw_below w) _) hb); have BK := Aside0.mk (blk_below (blk_drewN (fw_blk w) _) hb); clear hb; obtain ⟨rfl, rfl⟩ : v = n ∧ ev = .nilIface := (hv.elim (fun h => ⟨(by have := h.1.symm.trans XA.out; injection this), h.2⟩) (fun h => absurd XA.out (h.1 n))); clear hv; have hcvm := XM2.out w2 HB.out; have hz0 : w2.cell? ⟨w.heap.size, 0, none⟩ = some (.string (⟨#[]⟩ : ByteArray)) := (blk_cell BK.out 0).trans rfl; have hz1 : w2.cell? ⟨w.heap.size, 1, none⟩ = some (.string (⟨#[]⟩ : ByteArray)) := (blk_cell BK.out 1).trans rfl; have hf0 := blk_frozen BK.out 0; have hf1 := blk_frozen BK.out 1)
    | (go_at_call 33; (with_reducible refine (strings_Cut.calls _ _ key v0 _ _ ?s1 C1.out).mono ?_); (case s1 => exact HGL.out.of HB.out); rintro e w' ⟨rfl, ⟨nd, rfl⟩⟩)
    | (go_at_call 34; (with_reducible refine (strings_CutSuffix.calls _ _ val _ _ ?s1 C2.out).mono ?_); (case s1 => exact HGL.out.of (by repeat (first | exact HB.out | apply pw_below_drewN))); rintro e w' ⟨rfl, ⟨nd2, rfl⟩⟩)
)
  refine bodyPost_ret (results_ct rfl _ _ w.heap.size 44 #[.string (⟨#[]⟩ : ByteArray), .string (⟨#[]⟩ : ByteArray)] (0, 0) _ rfl (by refine put2 ?_ _ _; repeat (first | exact BK.out | refine blk_drewN ?_ _)) Tryd.underlying44 rfl (by kernel_rfl)) rfl ?_
  exact ⟨rfl, below2 (by repeat (first | exact HB.out | apply pw_below_drewN)) (Nat.le_refl _) _ _⟩
set_option maxHeartbeats 8000000 in
set_option maxRecDepth 100000 in
theorem first_H2 (k : Nat) (ad : Addr) (c0 : Nat) (b : List Int) (w : World) (hC : Kd.C (Kd.int .u8) w (some ad) b.length b) (hc : b.length ≤ c0) (h1 : 1 ≤ b.length) (h2 : b.length ≤ 65536) (hGl : Gl w) (n : Int) (hI : 0 ≤ spI b) (hA : Lib.atoiAll (strOfNums (dig b)).data.toList = .ok n) (hg : ¬ (b.length : Int) < n) (hl : ¬ n < ((dig b).length : Int) + 1) (key v0 : ByteArray) (ok1 : Bool) (hc1 : strings_Cut.f (strOfNums ((b.take n.toNat).drop ((dig b).length + 1))) (⟨#[61]⟩ : ByteArray) = some (key, v0, ok1)) (val : ByteArray) (en : Bool) (hc2 : strings_CutSuffix.f v0 (⟨#[10]⟩ : ByteArray) = some (val, en)) (ho : ok1 = true) (he : en = false) :
    Calls Tryd.prog 28 #[.slice (some ad) b.length c0] w fun e w' => e = .returned (.tuple #[.agg #[.string (⟨#[]⟩ : ByteArray), .string (⟨#[]⟩ : ByteArray)], .int .i64 0]) ∧ Below w.heap.size w w' := by
  subst ho he
  have hu44 := Tryd.underlying44
  have hu24 := Tryd.underlying24
  have hconv := fw_conv w
  have HGL := Aside0.mk hGl
  have hI2 := (spI_le b).2 hI
  have hcut := fw_cut ad c0 b w hC hc h1 h2 (spI_le b)
  obtain ⟨d, hd⟩ : ∃ d, d = (spI b).toNat := ⟨_, rfl⟩
  have hdl : (dig b).length = d := by unfold dig; rw [List.length_take]; omega
  have hCD : Kd.C (Kd.int .u8) (fw w) (some ad) d (dig b) := by
    have := Kd.C_take (Kd.C_below hC (fw_below w)) (show (spI b).toNat ≤ b.length by omega)
    have e : (b.take (spI b).toNat).length = d := by rw [List.length_take]; omega
    rw [e] at this; exact this
  have XD := Aside0.mk (show (dig b).length ≤ 1000000 by omega)
  unfold Lib.cutV at hcut
  rw [if_pos hI, ← hd] at hcut
  have hcv : ∀ q, (convert 31 9 (.slice (some ad) d c0)).run Tryd.prog ((fw w).drewN q) = .ok (.string (strOfNums (dig b))) ((fw w).drewN q) := fun q => by
    have := Kd.C_string (P := Tryd.prog) (c := c0) Tryd.underlying31 Tryd.underlying5 Tryd.underlying9 (by rw [hdl]; exact Kd.C_drewN hCD q : Kd.C (Kd.int .u8) ((fw w).drewN q) (some ad) (dig b).length (dig b))
    rw [hdl] at this; exact this
  have hwd : wrap64 ((d : Int) + 1) = (d : Int) + 1 := by unfold wrap64; omega
  obtain ⟨N, hN⟩ : ∃ N, N = b.length := ⟨_, rfl⟩
  have XA := Aside0.mk hA
  have hgt : decide ((N : Int) < n) = false := decide_eq_false (by rw [hN]; exact hg)
  have hlt : decide (n < (d : Int) + 1) = false := decide_eq_false (by rw [hdl] at hl; exact hl)
  have hdn : (d : Int) + 1 ≤ n := by rw [hdl] at hl; omega
  obtain ⟨i0, hi0, _, hsz0, _⟩ := info_parts info5
  obtain ⟨A7, hcutM, hAM, hCM⟩ := print_mid_of (P := Tryd.prog) (Value.int .u8) 0 31 5 .i64 .i64 Tryd.underlying31 hi0 hsz0 (some ad) c0 b ((d : Int) + 1) n (by omega) hdn (by omega) hc
  have hM : Kd.C (Kd.int .u8) w A7 ((b.take n.toNat).drop ((d : Int) + 1).toNat).length ((b.take n.toNat).drop ((d : Int) + 1).toNat) := Kd.C_of_reads (h1 := fun _ => rfl) (hAM _ (Kd.reads_of_C hC))
  rw [hdl] at hc1
  rw [show ((d : Int) + 1).toNat = d + 1 by omega] at hcutM hM
  obtain ⟨M, hMe⟩ : ∃ M, M = (b.take n.toNat).drop (d + 1) := ⟨_, rfl⟩
  rw [← hMe] at hcutM hM hc1
  obtain ⟨m, hm⟩ : ∃ m, m = M.length := ⟨_, rfl⟩
  rw [← hm] at hcutM
  have hM2 : ∀ W, Below w.heap.size w W → (convert 31 9 (.slice A7 m (c0 - (d + 1)))).run Tryd.prog W = .ok (.string (strOfNums M)) W := fun W hb => by
    rw [hm]; exact Kd.C_string (P := Tryd.prog) Tryd.underlying31 Tryd.underlying5 Tryd.underlying9 (Kd.C_below hM hb)
  obtain ⟨hcutT, hAT, hCT⟩ := print_take_of (P := Tryd.prog) (Value.int .u8) 0 31 5 .i64 Tryd.underlying31 hi0 hsz0 (some ad) c0 b n (by omega) (by omega) hc
  have hT : Kd.C (Kd.int .u8) w (some ad) (b.take n.toNat).length (b.take n.toNat) := Kd.C_of_reads (h1 := fun _ => rfl) (hAT _ (Kd.reads_of_C hC))
  obtain ⟨T, hTe⟩ : ∃ T, T = b.take n.toNat := ⟨_, rfl⟩
  rw [← hTe] at hcutT hT
  obtain ⟨tl, htl⟩ : ∃ tl, tl = T.length := ⟨_, rfl⟩
  rw [← htl] at hcutT
  have hT2 : ∀ W, Below w.heap.size w W → (convert 31 9 (.slice (some ad) tl c0)).run Tryd.prog W = .ok (.string (strOfNums T)) W := fun W hb => by
    rw [htl]; exact Kd.C_string (P := Tryd.prog) Tryd.underlying31 Tryd.underlying5 Tryd.underlying9 (Kd.C_below hT hb)
  have XM2 := Aside0.mk hM2
  have XT2 := Aside0.mk hT2
  have C1 := Aside0.mk hc1
  have C2 := Aside0.mk hc2
  rw [← hN] at hcutM hcutT
  rw [← hN] at hcut ⊢
  clear hC hc h1 h2 hGl hI hI2 hCD hd hdl hA hN hg hl hdn hi0 hsz0 hAM hCM hM hMe hm hM2 hAT hCT hT hTe htl hT2 hc1 hc2
  go_enter Tryd.func28, Tryd.ntmps28
  go_wp2_with (first
    | (go_at_call 31; refine hcut.mono ?_; rintro e w1 ⟨rfl, q, rfl⟩; have hcq := hcv q)
    | (go_at_call 32; refine (atoi_any _ ?s1 _ ?s2).mono ?_; (case s1 => (rw [strOfNums_size]; exact XD.out)); (case s2 => exact HGL.out.of (pw_below_drewN (fw_below w) _)); rintro e w2 ⟨v, ev, rfl, hb, hv⟩; have HB := Aside0.mk (below_step (pw_below_drewN (fw_below w) _) hb); have BK := Aside0.mk (blk_below (blk_drewN (fw_blk w) _) hb); clear hb; obtain ⟨rfl, rfl⟩ : v = n ∧ ev = .nilIface := (hv.elim (fun h => ⟨(by have := h.1.symm.trans XA.out; injection this), h.2⟩) (fun h => absurd XA.out (h.1 n))); clear hv; have hcvm := XM2.out w2 HB.out; have hz0 : w2.cell? ⟨w.heap.size, 0, none⟩ = some (.string (⟨#[]⟩ : ByteArray)) := (blk_cell BK.out 0).trans rfl; have hz1 : w2.cell? ⟨w.heap.size, 1, none⟩ = some (.string (⟨#[]⟩ : ByteArray)) := (blk_cell BK.out 1).trans rfl; have hf0 := blk_frozen BK.out 0; have hf1 := blk_frozen BK.out 1)
    | (go_at_call 33; (with_reducible refine (strings_Cut.calls _ _ key v0 _ _ ?s1 C1.out).mono ?_); (case s1 => exact HGL.out.of HB.out); rintro e w' ⟨rfl, ⟨nd, rfl⟩⟩)
    | (go_at_call 34; (with_reducible refine (strings_CutSuffix.calls _ _ val _ _ ?s1 C2.out).mono ?_); (case s1 => exact HGL.out.of (by repeat (first | exact HB.out | apply pw_below_drewN))); rintro e w' ⟨rfl, ⟨nd2, rfl⟩⟩)
)
  refine bodyPost_ret (results_ct rfl _ _ w.heap.size 44 #[.string (⟨#[]⟩ : ByteArray), .string (⟨#[]⟩ : ByteArray)] (0, 0) _ rfl (by refine put2 ?_ _ _; repeat (first | exact BK.out | refine blk_drewN ?_ _)) Tryd.underlying44 rfl (by kernel_rfl)) rfl ?_
  exact ⟨rfl, below2 (by repeat (first | exact HB.out | apply pw_below_drewN)) (Nat.le_refl _) _ _⟩
set_option maxHeartbeats 8000000 in
set_option maxRecDepth 100000 in
theorem first_H3 (k : Nat) (ad : Addr) (c0 : Nat) (b : List Int) (w : World) (hC : Kd.C (Kd.int .u8) w (some ad) b.length b) (hc : b.length ≤ c0) (h1 : 1 ≤ b.length) (h2 : b.length ≤ 65536) (hGl : Gl w) (n : Int) (hI : 0 ≤ spI b) (hA : Lib.atoiAll (strOfNums (dig b)).data.toList = .ok n) (hg : ¬ (b.length : Int) < n) (hl : ¬ n < ((dig b).length : Int) + 1) (key v0 : ByteArray) (ok1 : Bool) (hc1 : strings_Cut.f (strOfNums ((b.take n.toNat).drop ((dig b).length + 1))) (⟨#[61]⟩ : ByteArray) = some (key, v0, ok1)) (val : ByteArray) (en : Bool) (hc2 : strings_CutSuffix.f v0 (⟨#[10]⟩ : ByteArray) = some (val, en)) (ho : ok1 = true) (he : en = true) (line : ByteArray) (m0 : Int) (hL : pax_Line.f k key val = some (line, some m0)) :
    Calls Tryd.prog 28 #[.slice (some ad) b.length c0] w fun e w' => e = .returned (.tuple #[.agg #[.string (⟨#[]⟩ : ByteArray), .string (⟨#[]⟩ : ByteArray)], .int .i64 0]) ∧ Below w.heap.size w w' := by
  subst ho he
  have CL := Aside0.mk hL
  clear hL
  have hu44 := Tryd.underlying44
  have hu24 := Tryd.underlying24
  have hconv := fw_conv w
  have HGL := Aside0.mk hGl
  have hI2 := (spI_le b).2 hI
  have hcut := fw_cut ad c0 b w hC hc h1 h2 (spI_le b)
  obtain ⟨d, hd⟩ : ∃ d, d = (spI b).toNat := ⟨_, rfl⟩
  have hdl : (dig b).length = d := by unfold dig; rw [List.length_take]; omega
  have hCD : Kd.C (Kd.int .u8) (fw w) (some ad) d (dig b) := by
    have := Kd.C_take (Kd.C_below hC (fw_below w)) (show (spI b).toNat ≤ b.length by omega)
    have e : (b.take (spI b).toNat).length = d := by rw [List.length_take]; omega
    rw [e] at this; exact this
  have XD := Aside0.mk (show (dig b).length ≤ 1000000 by omega)
  unfold Lib.cutV at hcut
  rw [if_pos hI, ← hd] at hcut
  have hcv : ∀ q, (convert 31 9 (.slice (some ad) d c0)).run Tryd.prog ((fw w).drewN q) = .ok (.string (strOfNums (dig b))) ((fw w).drewN q) := fun q => by
    have := Kd.C_string (P := Tryd.prog) (c := c0) Tryd.underlying31 Tryd.underlying5 Tryd.underlying9 (by rw [hdl]; exact Kd.C_drewN hCD q : Kd.C (Kd.int .u8) ((fw w).drewN q) (some ad) (dig b).length (dig b))
    rw [hdl] at this; exact this
  have hwd : wrap64 ((d : Int) + 1) = (d : Int) + 1 := by unfold wrap64; omega
  obtain ⟨N, hN⟩ : ∃ N, N = b.length := ⟨_, rfl⟩
  have XA := Aside0.mk hA
  have hgt : decide ((N : Int) < n) = false := decide_eq_false (by rw [hN]; exact hg)
  have hlt : decide (n < (d : Int) + 1) = false := decide_eq_false (by rw [hdl] at hl; exact hl)
  have hdn : (d : Int) + 1 ≤ n := by rw [hdl] at hl; omega
  obtain ⟨i0, hi0, _, hsz0, _⟩ := info_parts info5
  obtain ⟨A7, hcutM, hAM, hCM⟩ := print_mid_of (P := Tryd.prog) (Value.int .u8) 0 31 5 .i64 .i64 Tryd.underlying31 hi0 hsz0 (some ad) c0 b ((d : Int) + 1) n (by omega) hdn (by omega) hc
  have hM : Kd.C (Kd.int .u8) w A7 ((b.take n.toNat).drop ((d : Int) + 1).toNat).length ((b.take n.toNat).drop ((d : Int) + 1).toNat) := Kd.C_of_reads (h1 := fun _ => rfl) (hAM _ (Kd.reads_of_C hC))
  rw [hdl] at hc1
  rw [show ((d : Int) + 1).toNat = d + 1 by omega] at hcutM hM
  obtain ⟨M, hMe⟩ : ∃ M, M = (b.take n.toNat).drop (d + 1) := ⟨_, rfl⟩
  rw [← hMe] at hcutM hM hc1
  obtain ⟨m, hm⟩ : ∃ m, m = M.length := ⟨_, rfl⟩
  rw [← hm] at hcutM
  have hM2 : ∀ W, Below w.heap.size w W → (convert 31 9 (.slice A7 m (c0 - (d + 1)))).run Tryd.prog W = .ok (.string (strOfNums M)) W := fun W hb => by
    rw [hm]; exact Kd.C_string (P := Tryd.prog) Tryd.underlying31 Tryd.underlying5 Tryd.underlying9 (Kd.C_below hM hb)
  obtain ⟨hcutT, hAT, hCT⟩ := print_take_of (P := Tryd.prog) (Value.int .u8) 0 31 5 .i64 Tryd.underlying31 hi0 hsz0 (some ad) c0 b n (by omega) (by omega) hc
  have hT : Kd.C (Kd.int .u8) w (some ad) (b.take n.toNat).length (b.take n.toNat) := Kd.C_of_reads (h1 := fun _ => rfl) (hAT _ (Kd.reads_of_C hC))
  obtain ⟨T, hTe⟩ : ∃ T, T = b.take n.toNat := ⟨_, rfl⟩
  rw [← hTe] at hcutT hT
  obtain ⟨tl, htl⟩ : ∃ tl, tl = T.length := ⟨_, rfl⟩
  rw [← htl] at hcutT
  have hT2 : ∀ W, Below w.heap.size w W → (convert 31 9 (.slice (some ad) tl c0)).run Tryd.prog W = .ok (.string (strOfNums T)) W := fun W hb => by
    rw [htl]; exact Kd.C_string (P := Tryd.prog) Tryd.underlying31 Tryd.underlying5 Tryd.underlying9 (Kd.C_below hT hb)
  have XM2 := Aside0.mk hM2
  have XT2 := Aside0.mk hT2
  have C1 := Aside0.mk hc1
  have C2 := Aside0.mk hc2
  rw [← hN] at hcutM hcutT
  rw [← hN] at hcut ⊢
  clear hC hc h1 h2 hGl hI hI2 hCD hd hdl hA hN hg hl hdn hi0 hsz0 hAM hCM hM hMe hm hM2 hAT hCT hT hTe htl hT2 hc1 hc2
  go_enter Tryd.func28, Tryd.ntmps28
  go_wp2_with (first
    | (go_at_call 31; refine hcut.mono ?_; rintro e w1 ⟨rfl, q, rfl⟩; have hcq := hcv q)
    | (go_at_call 32; refine (atoi_any _ ?s1 _ ?s2).mono ?_; (case s1 => (rw [strOfNums_size]; exact XD.out)); (case s2 => exact HGL.out.of (pw_below_drewN (fw_below w) _)); rintro e w2 ⟨v, ev, rfl, hb, hv⟩; have HB := Aside0.mk (below_step (pw_below_drewN (fw_below w) _) hb); have BK := Aside0.mk (blk_below (blk_drewN (fw_blk w) _) hb); clear hb; obtain ⟨rfl, rfl⟩ : v = n ∧ ev = .nilIface := (hv.elim (fun h => ⟨(by have := h.1.symm.trans XA.out; injection this), h.2⟩) (fun h => absurd XA.out (h.1 n))); clear hv; have hcvm := XM2.out w2 HB.out; have hz0 : w2.cell? ⟨w.heap.size, 0, none⟩ = some (.string (⟨#[]⟩ : ByteArray)) := (blk_cell BK.out 0).trans rfl; have hz1 : w2.cell? ⟨w.heap.size, 1, none⟩ = some (.string (⟨#[]⟩ : ByteArray)) := (blk_cell BK.out 1).trans rfl; have hf0 := blk_frozen BK.out 0; have hf1 := blk_frozen BK.out 1)
    | (go_at_call 33; (with_reducible refine (strings_Cut.calls _ _ key v0 _ _ ?s1 C1.out).mono ?_); (case s1 => exact HGL.out.of HB.out); rintro e w' ⟨rfl, ⟨nd, rfl⟩⟩)
    | (go_at_call 34; (with_reducible refine (strings_CutSuffix.calls _ _ val _ _ ?s1 C2.out).mono ?_); (case s1 => exact HGL.out.of (by repeat (first | exact HB.out | apply pw_below_drewN))); rintro e w' ⟨rfl, ⟨nd2, rfl⟩⟩)
    | ((with_reducible refine gate_dst (N := 12) rfl ?_); refine box_event ?hg (N := 12) ?hd (cs := #[.string (⟨#[]⟩ : ByteArray), .string (⟨#[]⟩ : ByteArray)]) (t := 44) ?hr ?_; (case hd => rfl); (case hg => rfl); (case hr => first | (go_simp; done) | (go_simp; rfl)); intro g12 hg12 w5 hbox hb; have BKd := Aside0.mk (blk_below (g := w.heap.size) (o := .cells #[.string (⟨#[]⟩ : ByteArray), .string (⟨#[]⟩ : ByteArray)] 44 (0, 0)) (by repeat (first | exact BK.out | refine blk_drewN ?_ _)) hb); have N12 := Aside0.mk (show w.heap.size ≠ g12 by (rw [hg12]; exact Nat.ne_of_lt (blk_lt (o := .cells #[.string (⟨#[]⟩ : ByteArray), .string (⟨#[]⟩ : ByteArray)] 44 (0, 0)) (by repeat (first | exact BK.out | refine blk_drewN ?_ _))))); have G12 := Aside0.mk (show w.heap.size ≤ g12 by (rw [hg12]; exact below_size (by repeat (first | exact HB.out | apply pw_below_drewN)))); have n0_ := Aside0.mk (below_step (by repeat (first | exact HB.out | apply pw_below_drewN)) hb); have B12 := Aside0.mk hbox; clear HB BK hb hg12 hbox; have HB := n0_; have BK := BKd; clear n0_ BKd; clear hz0 hz1 hf0 hf1; have hx0 : w5.cell? ⟨g12, 0, none⟩ = some (.string (⟨#[]⟩ : ByteArray)) := (blk_cell B12.out 0).trans rfl; have hx1 : w5.cell? ⟨g12, 1, none⟩ = some (.string (⟨#[]⟩ : ByteArray)) := (blk_cell B12.out 1).trans rfl; have hy0 := blk_frozen B12.out 0; have hy1 := blk_frozen B12.out 1)
    | ((with_reducible refine gate_store (t := 44) (p := 12) rfl ?_); refine store_event (t := 44) (p := 12) (v := ?vo_r) (w1 := (w5.setCell ⟨g12, 0, none⟩ (.string key)).setCell ⟨g12, 1, none⟩ (.string val)) ?hg ?ho ?hn ?hr ?_; (case ho => rfl); (case hg => rfl); (case hn => rfl); (case hr => first | (go_simp; done) | (go_simp; rfl)); intro w6 hw6; have n0_ : Aside0 (Below w.heap.size w w6) := ⟨by rw [hw6]; exact below2 HB.out G12.out _ _⟩; have n1_ : Aside0 (w6.heap[w.heap.size]? = some (.cells #[.string (⟨#[]⟩ : ByteArray), .string (⟨#[]⟩ : ByteArray)] 44 (0, 0))) := ⟨by rw [hw6]; exact far2 BK.out N12.out _ _⟩; have n2_ : Aside0 (w6.heap[g12]? = some (.cells #[.string key, .string val] 44 (0, 0))) := ⟨by rw [hw6]; exact put2 B12.out _ _⟩; clear HB BK B12 hw6 hx0 hx1 hy0 hy1; have HB := n0_; have BK := n1_; have B12 := n2_; clear n0_ n1_ n2_)
    | (go_at_call 9; (with_reducible refine (pax_Line.calls k key val line (some m0) _ ?s1 CL.out).mono ?_); (case s1 => exact HGL.out.of HB.out); rintro e w3 ⟨rfl, hb⟩; have n0_ := Aside0.mk (below_step HB.out hb); have n1_ := Aside0.mk (blk_below BK.out hb); have n2_ := Aside0.mk (blk_below B12.out hb); clear HB BK B12 hb; have HB := n0_; have BK := n1_; have B12 := n2_; clear n0_ n1_ n2_; (try simp only [errW_none, errW_some]); have hcvt := XT2.out w3 HB.out; have hz0 : w3.cell? ⟨w.heap.size, 0, none⟩ = some (.string (⟨#[]⟩ : ByteArray)) := (blk_cell BK.out 0).trans rfl; have hz1 : w3.cell? ⟨w.heap.size, 1, none⟩ = some (.string (⟨#[]⟩ : ByteArray)) := (blk_cell BK.out 1).trans rfl; have hf0 := blk_frozen BK.out 0; have hf1 := blk_frozen BK.out 1; have hx0 : w3.cell? ⟨g12, 0, none⟩ = some (.string key) := (blk_cell B12.out 0).trans rfl; have hx1 : w3.cell? ⟨g12, 1, none⟩ = some (.string val) := (blk_cell B12.out 1).trans rfl))
  refine bodyPost_ret (results_ct rfl _ _ w.heap.size 44 #[.string (⟨#[]⟩ : ByteArray), .string (⟨#[]⟩ : ByteArray)] (0, 0) _ rfl (by refine put2 ?_ _ _; repeat (first | exact BK.out | refine blk_drewN ?_ _)) Tryd.underlying44 rfl (by kernel_rfl)) rfl ?_
  exact ⟨rfl, below2 (by repeat (first | exact HB.out | apply pw_below_drewN)) (Nat.le_refl _) _ _⟩
set_option maxHeartbeats 8000000 in
set_option maxRecDepth 100000 in
theorem first_H4 (k : Nat) (ad : Addr) (c0 : Nat) (b : List Int) (w : World) (hC : Kd.C (Kd.int .u8) w (some ad) b.length b) (hc : b.length ≤ c0) (h1 : 1 ≤ b.length) (h2 : b.length ≤ 65536) (hGl : Gl w) (n : Int) (hI : 0 ≤ spI b) (hA : Lib.atoiAll (strOfNums (dig b)).data.toList = .ok n) (hg : ¬ (b.length : Int) < n) (hl : ¬ n < ((dig b).length : Int) + 1) (key v0 : ByteArray) (ok1 : Bool) (hc1 : strings_Cut.f (strOfNums ((b.take n.toNat).drop ((dig b).length + 1))) (⟨#[61]⟩ : ByteArray) = some (key, v0, ok1)) (val : ByteArray) (en : Bool) (hc2 : strings_CutSuffix.f v0 (⟨#[10]⟩ : ByteArray) = some (val, en)) (ho : ok1 = true) (he : en = true) (line : ByteArray) (hL : pax_Line.f k key val = some (line, none)) (hne : ¬ line.toList = (strOfNums (b.take n.toNat)).toList) :
    Calls Tryd.prog 28 #[.slice (some ad) b.length c0] w fun e w' => e = .returned (.tuple #[.agg #[.string (⟨#[]⟩ : ByteArray), .string (⟨#[]⟩ : ByteArray)], .int .i64 0]) ∧ Below w.heap.size w w' := by
  subst ho he
  have CL := Aside0.mk hL
  clear hL
  have hu44 := Tryd.underlying44
  have hu24 := Tryd.underlying24
  have hconv := fw_conv w
  have HGL := Aside0.mk hGl
  have hI2 := (spI_le b).2 hI
  have hcut := fw_cut ad c0 b w hC hc h1 h2 (spI_le b)
  obtain ⟨d, hd⟩ : ∃ d, d = (spI b).toNat := ⟨_, rfl⟩
  have hdl : (dig b).length = d := by unfold dig; rw [List.length_take]; omega
  have hCD : Kd.C (Kd.int .u8) (fw w) (some ad) d (dig b) := by
    have := Kd.C_take (Kd.C_below hC (fw_below w)) (show (spI b).toNat ≤ b.length by omega)
    have e : (b.take (spI b).toNat).length = d := by rw [List.length_take]; omega
    rw [e] at this; exact this
  have XD := Aside0.mk (show (dig b).length ≤ 1000000 by omega)
  unfold Lib.cutV at hcut
  rw [if_pos hI, ← hd] at hcut
  have hcv : ∀ q, (convert 31 9 (.slice (some ad) d c0)).run Tryd.prog ((fw w).drewN q) = .ok (.string (strOfNums (dig b))) ((fw w).drewN q) := fun q => by
    have := Kd.C_string (P := Tryd.prog) (c := c0) Tryd.underlying31 Tryd.underlying5 Tryd.underlying9 (by rw [hdl]; exact Kd.C_drewN hCD q : Kd.C (Kd.int .u8) ((fw w).drewN q) (some ad) (dig b).length (dig b))
    rw [hdl] at this; exact this
  have hwd : wrap64 ((d : Int) + 1) = (d : Int) + 1 := by unfold wrap64; omega
  obtain ⟨N, hN⟩ : ∃ N, N = b.length := ⟨_, rfl⟩
  have XA := Aside0.mk hA
  have hgt : decide ((N : Int) < n) = false := decide_eq_false (by rw [hN]; exact hg)
  have hlt : decide (n < (d : Int) + 1) = false := decide_eq_false (by rw [hdl] at hl; exact hl)
  have hdn : (d : Int) + 1 ≤ n := by rw [hdl] at hl; omega
  obtain ⟨i0, hi0, _, hsz0, _⟩ := info_parts info5
  obtain ⟨A7, hcutM, hAM, hCM⟩ := print_mid_of (P := Tryd.prog) (Value.int .u8) 0 31 5 .i64 .i64 Tryd.underlying31 hi0 hsz0 (some ad) c0 b ((d : Int) + 1) n (by omega) hdn (by omega) hc
  have hM : Kd.C (Kd.int .u8) w A7 ((b.take n.toNat).drop ((d : Int) + 1).toNat).length ((b.take n.toNat).drop ((d : Int) + 1).toNat) := Kd.C_of_reads (h1 := fun _ => rfl) (hAM _ (Kd.reads_of_C hC))
  rw [hdl] at hc1
  rw [show ((d : Int) + 1).toNat = d + 1 by omega] at hcutM hM
  obtain ⟨M, hMe⟩ : ∃ M, M = (b.take n.toNat).drop (d + 1) := ⟨_, rfl⟩
  rw [← hMe] at hcutM hM hc1
  obtain ⟨m, hm⟩ : ∃ m, m = M.length := ⟨_, rfl⟩
  rw [← hm] at hcutM
  have hM2 : ∀ W, Below w.heap.size w W → (convert 31 9 (.slice A7 m (c0 - (d + 1)))).run Tryd.prog W = .ok (.string (strOfNums M)) W := fun W hb => by
    rw [hm]; exact Kd.C_string (P := Tryd.prog) Tryd.underlying31 Tryd.underlying5 Tryd.underlying9 (Kd.C_below hM hb)
  obtain ⟨hcutT, hAT, hCT⟩ := print_take_of (P := Tryd.prog) (Value.int .u8) 0 31 5 .i64 Tryd.underlying31 hi0 hsz0 (some ad) c0 b n (by omega) (by omega) hc
  have hT : Kd.C (Kd.int .u8) w (some ad) (b.take n.toNat).length (b.take n.toNat) := Kd.C_of_reads (h1 := fun _ => rfl) (hAT _ (Kd.reads_of_C hC))
  obtain ⟨T, hTe⟩ : ∃ T, T = b.take n.toNat := ⟨_, rfl⟩
  rw [← hTe] at hcutT hT
  obtain ⟨tl, htl⟩ : ∃ tl, tl = T.length := ⟨_, rfl⟩
  rw [← htl] at hcutT
  have hT2 : ∀ W, Below w.heap.size w W → (convert 31 9 (.slice (some ad) tl c0)).run Tryd.prog W = .ok (.string (strOfNums T)) W := fun W hb => by
    rw [htl]; exact Kd.C_string (P := Tryd.prog) Tryd.underlying31 Tryd.underlying5 Tryd.underlying9 (Kd.C_below hT hb)
  have XM2 := Aside0.mk hM2
  have XT2 := Aside0.mk hT2
  have C1 := Aside0.mk hc1
  have C2 := Aside0.mk hc2
  rw [← hN] at hcutM hcutT
  rw [← hTe] at hne
  have hnb : (line.toList == (strOfNums T).toList) = false := beq_eq_false_iff_ne.mpr hne
  clear hne
  rw [← hN] at hcut ⊢
  clear hC hc h1 h2 hGl hI hI2 hCD hd hdl hA hN hg hl hdn hi0 hsz0 hAM hCM hM hMe hm hM2 hAT hCT hT hTe htl hT2 hc1 hc2
  go_enter Tryd.func28, Tryd.ntmps28
  go_wp2_with (first
    | (go_at_call 31; refine hcut.mono ?_; rintro e w1 ⟨rfl, q, rfl⟩; have hcq := hcv q)
    | (go_at_call 32; refine (atoi_any _ ?s1 _ ?s2).mono ?_; (case s1 => (rw [strOfNums_size]; exact XD.out)); (case s2 => exact HGL.out.of (pw_below_drewN (fw_below w) _)); rintro e w2 ⟨v, ev, rfl, hb, hv⟩; have HB := Aside0.mk (below_step (pw_below_drewN (fw_below w) _) hb); have BK := Aside0.mk (blk_below (blk_drewN (fw_blk w) _) hb); clear hb; obtain ⟨rfl, rfl⟩ : v = n ∧ ev = .nilIface := (hv.elim (fun h => ⟨(by have := h.1.symm.trans XA.out; injection this), h.2⟩) (fun h => absurd XA.out (h.1 n))); clear hv; have hcvm := XM2.out w2 HB.out; have hz0 : w2.cell? ⟨w.heap.size, 0, none⟩ = some (.string (⟨#[]⟩ : ByteArray)) := (blk_cell BK.out 0).trans rfl; have hz1 : w2.cell? ⟨w.heap.size, 1, none⟩ = some (.string (⟨#[]⟩ : ByteArray)) := (blk_cell BK.out 1).trans rfl; have hf0 := blk_frozen BK.out 0; have hf1 := blk_frozen BK.out 1)
    | (go_at_call 33; (with_reducible refine (strings_Cut.calls _ _ key v0 _ _ ?s1 C1.out).mono ?_); (case s1 => exact HGL.out.of HB.out); rintro e w' ⟨rfl, ⟨nd, rfl⟩⟩)
    | (go_at_call 34; (with_reducible refine (strings_CutSuffix.calls _ _ val _ _ ?s1 C2.out).mono ?_); (case s1 => exact HGL.out.of (by repeat (first | exact HB.out | apply pw_below_drewN))); rintro e w' ⟨rfl, ⟨nd2, rfl⟩⟩)
    | ((with_reducible refine gate_dst (N := 12) rfl ?_); refine box_event ?hg (N := 12) ?hd (cs := #[.string (⟨#[]⟩ : ByteArray), .string (⟨#[]⟩ : ByteArray)]) (t := 44) ?hr ?_; (case hd => rfl); (case hg => rfl); (case hr => first | (go_simp; done) | (go_simp; rfl)); intro g12 hg12 w5 hbox hb; have BKd := Aside0.mk (blk_below (g := w.heap.size) (o := .cells #[.string (⟨#[]⟩ : ByteArray), .string (⟨#[]⟩ : ByteArray)] 44 (0, 0)) (by repeat (first | exact BK.out | refine blk_drewN ?_ _)) hb); have N12 := Aside0.mk (show w.heap.size ≠ g12 by (rw [hg12]; exact Nat.ne_of_lt (blk_lt (o := .cells #[.string (⟨#[]⟩ : ByteArray), .string (⟨#[]⟩ : ByteArray)] 44 (0, 0)) (by repeat (first | exact BK.out | refine blk_drewN ?_ _))))); have G12 := Aside0.mk (show w.heap.size ≤ g12 by (rw [hg12]; exact below_size (by repeat (first | exact HB.out | apply pw_below_drewN)))); have n0_ := Aside0.mk (below_step (by repeat (first | exact HB.out | apply pw_below_drewN)) hb); have B12 := Aside0.mk hbox; clear HB BK hb hg12 hbox; have HB := n0_; have BK := BKd; clear n0_ BKd; clear hz0 hz1 hf0 hf1; have hx0 : w5.cell? ⟨g12, 0, none⟩ = some (.string (⟨#[]⟩ : ByteArray)) := (blk_cell B12.out 0).trans rfl; have hx1 : w5.cell? ⟨g12, 1, none⟩ = some (.string (⟨#[]⟩ : ByteArray)) := (blk_cell B12.out 1).trans rfl; have hy0 := blk_frozen B12.out 0; have hy1 := blk_frozen B12.out 1)
    | ((with_reducible refine gate_store (t := 44) (p := 12) rfl ?_); refine store_event (t := 44) (p := 12) (v := ?vo_r) (w1 := (w5.setCell ⟨g12, 0, none⟩ (.string key)).setCell ⟨g12, 1, none⟩ (.string val)) ?hg ?ho ?hn ?hr ?_; (case ho => rfl); (case hg => rfl); (case hn => rfl); (case hr => first | (go_simp; done) | (go_simp; rfl)); intro w6 hw6; have n0_ : Aside0 (Below w.heap.size w w6) := ⟨by rw [hw6]; exact below2 HB.out G12.out _ _⟩; have n1_ : Aside0 (w6.heap[w.heap.size]? = some (.cells #[.string (⟨#[]⟩ : ByteArray), .string (⟨#[]⟩ : ByteArray)] 44 (0, 0))) := ⟨by rw [hw6]; exact far2 BK.out N12.out _ _⟩; have n2_ : Aside0 (w6.heap[g12]? = some (.cells #[.string key, .string val] 44 (0, 0))) := ⟨by rw [hw6]; exact put2 B12.out _ _⟩; clear HB BK B12 hw6 hx0 hx1 hy0 hy1; have HB := n0_; have BK := n1_; have B12 := n2_; clear n0_ n1_ n2_)
    | (go_at_call 9; (with_reducible refine (pax_Line.calls k key val line none _ ?s1 CL.out).mono ?_); (case s1 => exact HGL.out.of HB.out); rintro e w3 ⟨rfl, hb⟩; have n0_ := Aside0.mk (below_step HB.out hb); have n1_ := Aside0.mk (blk_below BK.out hb); have n2_ := Aside0.mk (blk_below B12.out hb); clear HB BK B12 hb; have HB := n0_; have BK := n1_; have B12 := n2_; clear n0_ n1_ n2_; (try simp only [errW_none, errW_some]); have hcvt := XT2.out w3 HB.out; have hz0 : w3.cell? ⟨w.heap.size, 0, none⟩ = some (.string (⟨#[]⟩ : ByteArray)) := (blk_cell BK.out 0).trans rfl; have hz1 : w3.cell? ⟨w.heap.size, 1, none⟩ = some (.string (⟨#[]⟩ : ByteArray)) := (blk_cell BK.out 1).trans rfl; have hf0 := blk_frozen BK.out 0; have hf1 := blk_frozen BK.out 1; have hx0 : w3.cell? ⟨g12, 0, none⟩ = some (.string key) := (blk_cell B12.out 0).trans rfl; have hx1 : w3.cell? ⟨g12, 1, none⟩ = some (.string val) := (blk_cell B12.out 1).trans rfl))
  refine bodyPost_ret (results_ct rfl _ _ w.heap.size 44 #[.string (⟨#[]⟩ : ByteArray), .string (⟨#[]⟩ : ByteArray)] (0, 0) _ rfl (by refine put2 ?_ _ _; repeat (first | exact BK.out | refine blk_drewN ?_ _)) Tryd.underlying44 rfl (by kernel_rfl)) rfl ?_
  exact ⟨rfl, below2 (by repeat (first | exact HB.out | apply pw_below_drewN)) (Nat.le_refl _) _ _⟩
set_option maxHeartbeats 8000000 in
set_option maxRecDepth 100000 in
theorem first_H5 (k : Nat) (ad : Addr) (c0 : Nat) (b : List Int) (w : World) (hC : Kd.C (Kd.int .u8) w (some ad) b.length b) (hc : b.length ≤ c0) (h1 : 1 ≤ b.length) (h2 : b.length ≤ 65536) (hGl : Gl w) (n : Int) (hI : 0 ≤ spI b) (hA : Lib.atoiAll (strOfNums (dig b)).data.toList = .ok n) (hg : ¬ (b.length : Int) < n) (hl : ¬ n < ((dig b).length : Int) + 1) (key v0 : ByteArray) (ok1 : Bool) (hc1 : strings_Cut.f (strOfNums ((b.take n.toNat).drop ((dig b).length + 1))) (⟨#[61]⟩ : ByteArray) = some (key, v0, ok1)) (val : ByteArray) (en : Bool) (hc2 : strings_CutSuffix.f v0 (⟨#[10]⟩ : ByteArray) = some (val, en)) (ho : ok1 = true) (he : en = true) (line : ByteArray) (hL : pax_Line.f k key val = some (line, none)) (hne : line.toList = (strOfNums (b.take n.toNat)).toList) :
    Calls Tryd.prog 28 #[.slice (some ad) b.length c0] w fun e w' => e = .returned (.tuple #[.agg #[.string key, .string val], .int .i64 n]) ∧ Below w.heap.size w w' := by
  subst ho he
  have CL := Aside0.mk hL
  clear hL
  have hu44 := Tryd.underlying44
  have hu24 := Tryd.underlying24
  have hconv := fw_conv w
  have HGL := Aside0.mk hGl
  have hI2 := (spI_le b).2 hI
  have hcut := fw_cut ad c0 b w hC hc h1 h2 (spI_le b)
  obtain ⟨d, hd⟩ : ∃ d, d = (spI b).toNat := ⟨_, rfl⟩
  have hdl : (dig b).length = d := by unfold dig; rw [List.length_take]; omega
  have hCD : Kd.C (Kd.int .u8) (fw w) (some ad) d (dig b) := by
    have := Kd.C_take (Kd.C_below hC (fw_below w)) (show (spI b).toNat ≤ b.length by omega)
    have e : (b.take (spI b).toNat).length = d := by rw [List.length_take]; omega
    rw [e] at this; exact this
  have XD := Aside0.mk (show (dig b).length ≤ 1000000 by omega)
  unfold Lib.cutV at hcut
  rw [if_pos hI, ← hd] at hcut
  have hcv : ∀ q, (convert 31 9 (.slice (some ad) d c0)).run Tryd.prog ((fw w).drewN q) = .ok (.string (strOfNums (dig b))) ((fw w).drewN q) := fun q => by
    have := Kd.C_string (P := Tryd.prog) (c := c0) Tryd.underlying31 Tryd.underlying5 Tryd.underlying9 (by rw [hdl]; exact Kd.C_drewN hCD q : Kd.C (Kd.int .u8) ((fw w).drewN q) (some ad) (dig b).length (dig b))
    rw [hdl] at this; exact this
  have hwd : wrap64 ((d : Int) + 1) = (d : Int) + 1 := by unfold wrap64; omega
  obtain ⟨N, hN⟩ : ∃ N, N = b.length := ⟨_, rfl⟩
  have XA := Aside0.mk hA
  have hgt : decide ((N : Int) < n) = false := decide_eq_false (by rw [hN]; exact hg)
  have hlt : decide (n < (d : Int) + 1) = false := decide_eq_false (by rw [hdl] at hl; exact hl)
  have hdn : (d : Int) + 1 ≤ n := by rw [hdl] at hl; omega
  obtain ⟨i0, hi0, _, hsz0, _⟩ := info_parts info5
  obtain ⟨A7, hcutM, hAM, hCM⟩ := print_mid_of (P := Tryd.prog) (Value.int .u8) 0 31 5 .i64 .i64 Tryd.underlying31 hi0 hsz0 (some ad) c0 b ((d : Int) + 1) n (by omega) hdn (by omega) hc
  have hM : Kd.C (Kd.int .u8) w A7 ((b.take n.toNat).drop ((d : Int) + 1).toNat).length ((b.take n.toNat).drop ((d : Int) + 1).toNat) := Kd.C_of_reads (h1 := fun _ => rfl) (hAM _ (Kd.reads_of_C hC))
  rw [hdl] at hc1
  rw [show ((d : Int) + 1).toNat = d + 1 by omega] at hcutM hM
  obtain ⟨M, hMe⟩ : ∃ M, M = (b.take n.toNat).drop (d + 1) := ⟨_, rfl⟩
  rw [← hMe] at hcutM hM hc1
  obtain ⟨m, hm⟩ : ∃ m, m = M.length := ⟨_, rfl⟩
  rw [← hm] at hcutM
  have hM2 : ∀ W, Below w.heap.size w W → (convert 31 9 (.slice A7 m (c0 - (d + 1)))).run Tryd.prog W = .ok (.string (strOfNums M)) W := fun W hb => by
    rw [hm]; exact Kd.C_string (P := Tryd.prog) Tryd.underlying31 Tryd.underlying5 Tryd.underlying9 (Kd.C_below hM hb)
  obtain ⟨hcutT, hAT, hCT⟩ := print_take_of (P := Tryd.prog) (Value.int .u8) 0 31 5 .i64 Tryd.underlying31 hi0 hsz0 (some ad) c0 b n (by omega) (by omega) hc
  have hT : Kd.C (Kd.int .u8) w (some ad) (b.take n.toNat).length (b.take n.toNat) := Kd.C_of_reads (h1 := fun _ => rfl) (hAT _ (Kd.reads_of_C hC))
  obtain ⟨T, hTe⟩ : ∃ T, T = b.take n.toNat := ⟨_, rfl⟩
  rw [← hTe] at hcutT hT
  obtain ⟨tl, htl⟩ : ∃ tl, tl = T.length := ⟨_, rfl⟩
  rw [← htl] at hcutT
  have hT2 : ∀ W, Below w.heap.size w W → (convert 31 9 (.slice (some ad) tl c0)).run Tryd.prog W = .ok (.string (strOfNums T)) W := fun W hb => by
    rw [htl]; exact Kd.C_string (P := Tryd.prog) Tryd.underlying31 Tryd.underlying5 Tryd.underlying9 (Kd.C_below hT hb)
  have XM2 := Aside0.mk hM2
  have XT2 := Aside0.mk hT2
  have C1 := Aside0.mk hc1
  have C2 := Aside0.mk hc2
  rw [← hN] at hcutM hcutT
  rw [← hTe] at hne
  have hnb : (line.toList == (strOfNums T).toList) = true := beq_iff_eq.mpr hne
  clear hne
  rw [← hN] at hcut ⊢
  clear hC hc h1 h2 hGl hI hI2 hCD hd hdl hA hN hg hl hdn hi0 hsz0 hAM hCM hM hMe hm hM2 hAT hCT hT hTe htl hT2 hc1 hc2
  go_enter Tryd.func28, Tryd.ntmps28
  go_wp2_with (first
    | (go_at_call 31; refine hcut.mono ?_; rintro e w1 ⟨rfl, q, rfl⟩; have hcq := hcv q)
    | (go_at_call 32; refine (atoi_any _ ?s1 _ ?s2).mono ?_; (case s1 => (rw [strOfNums_size]; exact XD.out)); (case s2 => exact HGL.out.of (pw_below_drewN (fw_below w) _)); rintro e w2 ⟨v, ev, rfl, hb, hv⟩; have HB := Aside0.mk (below_step (pw_below_drewN (fw_below w) _) hb); have BK := Aside0.mk (blk_below (blk_drewN (fw_blk w) _) hb); clear hb; obtain ⟨rfl, rfl⟩ : v = n ∧ ev = .nilIface := (hv.elim (fun h => ⟨(by have := h.1.symm.trans XA.out; injection this), h.2⟩) (fun h => absurd XA.out (h.1 n))); clear hv; have hcvm := XM2.out w2 HB.out; have hz0 : w2.cell? ⟨w.heap.size, 0, none⟩ = some (.string (⟨#[]⟩ : ByteArray)) := (blk_cell BK.out 0).trans rfl; have hz1 : w2.cell? ⟨w.heap.size, 1, none⟩ = some (.string (⟨#[]⟩ : ByteArray)) := (blk_cell BK.out 1).trans rfl; have hf0 := blk_frozen BK.out 0; have hf1 := blk_frozen BK.out 1)
    | (go_at_call 33; (with_reducible refine (strings_Cut.calls _ _ key v0 _ _ ?s1 C1.out).mono ?_); (case s1 => exact HGL.out.of HB.out); rintro e w' ⟨rfl, ⟨nd, rfl⟩⟩)
    | (go_at_call 34; (with_reducible refine (strings_CutSuffix.calls _ _ val _ _ ?s1 C2.out).mono ?_); (case s1 => exact HGL.out.of (by repeat (first | exact HB.out | apply pw_below_drewN))); rintro e w' ⟨rfl, ⟨nd2, rfl⟩⟩)
    | ((with_reducible refine gate_dst (N := 12) rfl ?_); refine box_event ?hg (N := 12) ?hd (cs := #[.string (⟨#[]⟩ : ByteArray), .string (⟨#[]⟩ : ByteArray)]) (t := 44) ?hr ?_; (case hd => rfl); (case hg => rfl); (case hr => first | (go_simp; done) | (go_simp; rfl)); intro g12 hg12 w5 hbox hb; have BKd := Aside0.mk (blk_below (g := w.heap.size) (o := .cells #[.string (⟨#[]⟩ : ByteArray), .string (⟨#[]⟩ : ByteArray)] 44 (0, 0)) (by repeat (first | exact BK.out | refine blk_drewN ?_ _)) hb); have N12 := Aside0.mk (show w.heap.size ≠ g12 by (rw [hg12]; exact Nat.ne_of_lt (blk_lt (o := .cells #[.string (⟨#[]⟩ : ByteArray), .string (⟨#[]⟩ : ByteArray)] 44 (0, 0)) (by repeat (first | exact BK.out | refine blk_drewN ?_ _))))); have G12 := Aside0.mk (show w.heap.size ≤ g12 by (rw [hg12]; exact below_size (by repeat (first | exact HB.out | apply pw_below_drewN)))); have n0_ := Aside0.mk (below_step (by repeat (first | exact HB.out | apply pw_below_drewN)) hb); have B12 := Aside0.mk hbox; clear HB BK hb hg12 hbox; have HB := n0_; have BK := BKd; clear n0_ BKd; clear hz0 hz1 hf0 hf1; have hx0 : w5.cell? ⟨g12, 0, none⟩ = some (.string (⟨#[]⟩ : ByteArray)) := (blk_cell B12.out 0).trans rfl; have hx1 : w5.cell? ⟨g12, 1, none⟩ = some (.string (⟨#[]⟩ : ByteArray)) := (blk_cell B12.out 1).trans rfl; have hy0 := blk_frozen B12.out 0; have hy1 := blk_frozen B12.out 1)
    | ((with_reducible refine gate_store (t := 44) (p := 12) rfl ?_); refine store_event (t := 44) (p := 12) (v := ?vo_r) (w1 := (w5.setCell ⟨g12, 0, none⟩ (.string key)).setCell ⟨g12, 1, none⟩ (.string val)) ?hg ?ho ?hn ?hr ?_; (case ho => rfl); (case hg => rfl); (case hn => rfl); (case hr => first | (go_simp; done) | (go_simp; rfl)); intro w6 hw6; have n0_ : Aside0 (Below w.heap.size w w6) := ⟨by rw [hw6]; exact below2 HB.out G12.out _ _⟩; have n1_ : Aside0 (w6.heap[w.heap.size]? = some (.cells #[.string (⟨#[]⟩ : ByteArray), .string (⟨#[]⟩ : ByteArray)] 44 (0, 0))) := ⟨by rw [hw6]; exact far2 BK.out N12.out _ _⟩; have n2_ : Aside0 (w6.heap[g12]? = some (.cells #[.string key, .string val] 44 (0, 0))) := ⟨by rw [hw6]; exact put2 B12.out _ _⟩; clear HB BK B12 hw6 hx0 hx1 hy0 hy1; have HB := n0_; have BK := n1_; have B12 := n2_; clear n0_ n1_ n2_)
    | (go_at_call 9; (with_reducible refine (pax_Line.calls k key val line none _ ?s1 CL.out).mono ?_); (case s1 => exact HGL.out.of HB.out); rintro e w3 ⟨rfl, hb⟩; have n0_ := Aside0.mk (below_step HB.out hb); have n1_ := Aside0.mk (blk_below BK.out hb); have n2_ := Aside0.mk (blk_below B12.out hb); clear HB BK B12 hb; have HB := n0_; have BK := n1_; have B12 := n2_; clear n0_ n1_ n2_; (try simp only [errW_none, errW_some]); have hcvt := XT2.out w3 HB.out; have hz0 : w3.cell? ⟨w.heap.size, 0, none⟩ = some (.string (⟨#[]⟩ : ByteArray)) := (blk_cell BK.out 0).trans rfl; have hz1 : w3.cell? ⟨w.heap.size, 1, none⟩ = some (.string (⟨#[]⟩ : ByteArray)) := (blk_cell BK.out 1).trans rfl; have hf0 := blk_frozen BK.out 0; have hf1 := blk_frozen BK.out 1; have hx0 : w3.cell? ⟨g12, 0, none⟩ = some (.string key) := (blk_cell B12.out 0).trans rfl; have hx1 : w3.cell? ⟨g12, 1, none⟩ = some (.string val) := (blk_cell B12.out 1).trans rfl))
  refine bodyPost_ret (results_ct rfl _ _ w.heap.size 44 #[.string key, .string val] (0, 0) _ rfl (put2 BK.out _ _) Tryd.underlying44 rfl (by kernel_rfl)) rfl ?_
  exact ⟨rfl, below2 HB.out (Nat.le_refl _) _ _⟩
theorem pax_first.calls (k : Nat) (A0 : Option Addr) (c0 : Nat) (l0 : List Int) (r1 r2 : ByteArray) (r3 : Int) (w : World) (hr0 : Kd.C (Kd.int .u8) w A0 l0.length l0) (hc0 : l0.length ≤ c0) (hGl : Gl w) (h : pax_first.f k l0 = some (r1, r2, r3)) :
    Calls Tryd.prog 28 #[.slice A0 l0.length c0] w fun e w' => e = .returned (.tuple #[.agg #[.string r1, .string r2], .int .i64 r3]) ∧ Below w.heap.size w w' := by
  unfold pax_first.f at h
  split at h
  case isFalse => cases h
  rename_i hb
  obtain ⟨h1, h2⟩ := hb
  obtain ⟨ad, rfl, _⟩ := (Kd.reads_of_C (enc := Value.int .u8) (d := (0 : Int)) (h1 := fun _ => rfl) hr0).2.2 (by omega)
  split at h
  case isFalse hI => cases h; exact first_E ad c0 l0 w hr0 hc0 h1 h2 hGl (by omega)
  rename_i hI
  split at h
  case h_2 hA => cases h; exact first_F ad c0 l0 w hr0 hc0 h1 h2 hGl hI hA
  rename_i n hA
  split at h
  case isTrue hg => cases h; exact first_G1 ad c0 l0 w hr0 hc0 h1 h2 hGl n hI hA hg
  rename_i hg
  split at h
  case isTrue hl => cases h; exact first_G2 ad c0 l0 w hr0 hc0 h1 h2 hGl n hI hA hg hl
  rename_i hl
  unfold pax_first.g at h
  obtain ⟨⟨key, v0, ok1⟩, hc1, h⟩ := Option.bind_eq_some_iff.mp h
  obtain ⟨⟨val, en⟩, hc2, h⟩ := Option.bind_eq_some_iff.mp h
  cases ok1 with
  | false => cases h; exact first_H1 k ad c0 l0 w hr0 hc0 h1 h2 hGl n hI hA hg hl key v0 false hc1 val en hc2 rfl
  | true =>
  cases en with
  | false => cases h; exact first_H2 k ad c0 l0 w hr0 hc0 h1 h2 hGl n hI hA hg hl key v0 true hc1 val false hc2 rfl rfl
  | true =>
  simp only [if_true] at h
  obtain ⟨⟨line, err⟩, hL, h⟩ := Option.bind_eq_some_iff.mp h
  cases err with
  | some m0 => cases h; exact first_H3 k ad c0 l0 w hr0 hc0 h1 h2 hGl n hI hA hg hl key v0 true hc1 val true hc2 rfl rfl line m0 hL
  | none =>
    simp only [Option.isNone_none, if_true] at h
    split at h
    case isTrue hne => cases h; exact first_H5 k ad c0 l0 w hr0 hc0 h1 h2 hGl _ hI hA hg hl _ v0 true hc1 _ true hc2 rfl rfl line hL hne
    case isFalse hne => cases h; exact first_H4 k ad c0 l0 w hr0 hc0 h1 h2 hGl n hI hA hg hl key v0 true hc1 val true hc2 rfl rfl line hL hne

/-! ### pax_Decode: function 13 -/
def pax_Decode.l0 : Nat → List Int → List (S44) → Option ((List (S44)) × Option Int)
  | 0, _, _ => none
  | k + 1, x0, x4 => if (x0.length : Int) > 0 then ((pax_first.f k x0).bind fun bt134 => (if bt134.2.2 = 0 then (some (([] : List (S44)), some 15)) else (if (x4.length : Int) > 0 then (if 0 ≤ (wrap64 ((x4.length : Int) - 1)) then (if (wrap64 ((x4.length : Int) - 1)) < (x4.length : Int) then (if ((Op.bytesLess (((rd_T44 x4 (wrap64 ((x4.length : Int) - 1))).f0).toList) bt134.1.toList) = true) then (if x4.length < 4398046511104 then (if 0 ≤ bt134.2.2 then (if bt134.2.2 ≤ (x0.length : Int) then (pax_Decode.l0 k (x0.drop (bt134.2.2 : Int).toNat) (x4 ++ [(⟨bt134.1, bt134.2.1⟩ : S44)])) else (none)) else (none)) else (none)) else (some (([] : List (S44)), some 15))) else (none)) else (none)) else (if x4.length < 4398046511104 then (if 0 ≤ bt134.2.2 then (if bt134.2.2 ≤ (x0.length : Int) then (pax_Decode.l0 k (x0.drop (bt134.2.2 : Int).toNat) (x4 ++ [(⟨bt134.1, bt134.2.1⟩ : S44)])) else (none)) else (none)) else (none))))) else (some (x4, none))
def pax_Decode.f (k : Nat) (l0 : List Int) : Option ((List (S44)) × Option Int) := if (l0.length : Int) > 65536 then (some (([] : List (S44)), some 15)) else (pax_Decode.l0 k l0 ([] : List (S44)))
theorem pax_Decode.mono_l : ∀ k, (∀ y0 y1, LeO (pax_Decode.l0 k y0 y1) (pax_Decode.l0 (k + 1) y0 y1))
  | 0 => fun _ _ r h => by simp [pax_Decode.l0] at h
  | k + 1 => by
    have ih0 := pax_Decode.mono_l k
    · intro y0 y1
      unfold pax_Decode.l0
      repeat' first
      | (with_reducible exact ih0 _ _)
      | (with_reducible exact pax_first.mono _ _)
      | (with_reducible exact LeO.refl _)
      | (with_reducible exact LeO.none _)
      | (with_reducible refine LeO.ite ?_ ?_)
      | (with_reducible refine LeO.bind ?_ (fun _ => ?_))
      | exact ih0 _ _
      | exact pax_first.mono _ _
      | exact LeO.none _
      | refine LeO.ite ?_ ?_
      | refine LeO.bind ?_ (fun _ => ?_)
theorem pax_Decode.mono : ∀ a0 k, LeO (pax_Decode.f k a0) (pax_Decode.f (k + 1) a0) := by
  intro a0 k
  have ih0 := pax_Decode.mono_l k
  unfold pax_Decode.f
  repeat' first
      | (with_reducible exact ih0 _ _)
      | (with_reducible exact pax_first.mono _ _)
      | (with_reducible exact LeO.refl _)
      | (with_reducible exact LeO.none _)
      | (with_reducible refine LeO.ite ?_ ?_)
      | (with_reducible refine LeO.bind ?_ (fun _ => ?_))
      | exact ih0 _ _
      | exact pax_first.mono _ _
      | exact LeO.none _
      | refine LeO.ite ?_ ?_
      | refine LeO.bind ?_ (fun _ => ?_)
set_option maxHeartbeats 8000000 in
set_option maxRecDepth 100000 in
theorem pax_Decode.calls (k : Nat) (P0_ : Nat → Prop) (A0 : Option Addr) (c0 : Nat) (l0 : List Int) (r1 : List (S44)) (r2 : Option Int) (w : World) (hs0 : Kd.V (Kd.int .u8) 5 w w.heap.size (fun k_ => P0_ k_) (.slice A0 l0.length c0) l0) (hGl : Gl w) (h : pax_Decode.f k l0 = some (r1, r2)) :
    Calls Tryd.prog 13 #[.slice A0 l0.length c0] w fun e w' => ∃ v0_ : Value, e = .returned (.tuple #[v0_, errW r2]) ∧ Kd.R k44 44 w' w.heap.size (fun k_ => (w.heap.size ≤ k_)) v0_ r1 ∧ Below w.heap.size w w' := by
  have hu44 := Tryd.underlying44
  have hu24 := Tryd.underlying24
  have hu42 := Tryd.underlying42
  have HO0 := Aside0.mk (show Kd.V (Kd.int .u8) 5 w w.heap.size (fun k_ => (P0_ k_ ∨ w.heap.size ≤ k_)) (.slice A0 l0.length c0) l0 from Kd.V_mono hs0 (fun k_ hk => .inl hk))
  have HB := Aside0.mk (Below.refl w.heap.size w)
  have HGL := Aside0.mk hGl
  clear hGl
  have H : (if (l0.length : Int) > 65536 then (some (([] : List (S44)), some 15)) else (pax_Decode.l0 k l0 ([] : List (S44)))) = some (r1, r2) := h
  clear h
  by_cases c2 : (l0.length : Int) > 65536
  · rw [if_pos c2] at H
    have c2b0 : decide (65536 < (l0.length : Int)) = true := decide_eq_true c2
    have c2b1 : decide (65536 < l0.length) = true := decide_eq_true (by omega)
    clear c2
    simp only [Option.some.injEq, Prod.mk.injEq] at H
    obtain ⟨rfl, rfl⟩ := H
    go_enter Tryd.func13, Tryd.ntmps13
    go_wp2
    repeat (go_quiet (fail); try go_wp2)
    go_ret2
    exact ⟨_, by first | rfl | (simp [errW_none, errW_some] <;> rfl) | (simp [*, errW_none, errW_some] <;> rfl), by first | exact Kd.R_nil _ _ _ _ _ | exact Kd.N_nil _ _ _ _ _ | exact Kd.V_nil _ _ _ _ _ | exact Kd.Q_nil _ _ _ _ _ | exact Kd.S_nil _ _ _ _ _, by repeat (first | (with_reducible first | exact HB.out | apply below_alloc | apply pw_below_drewN | apply below_drew1) | exact HB.out)⟩
  · rw [if_neg c2] at H
    have c2b0 : decide (65536 < (l0.length : Int)) = false := decide_eq_false c2
    have c2b1 : decide (65536 < l0.length) = false := decide_eq_false (by omega)
    clear c2
    have H' := Aside0.mk H
    clear H
    go_enter Tryd.func13, Tryd.ntmps13
    go_wp2
    repeat (go_quiet (fail); try go_wp2)
    go_loopg [0, 4] k (fun kq v0 v4 w' => ∃ (x0_1 : List Int) (x4_1 : List (S44)), Aside0 (pax_Decode.l0 kq x0_1 x4_1 = some (r1, r2)) ∧ Aside0 (kq ≤ k) ∧ Aside0 (Kd.V (Kd.int .u8) 5 w' w.heap.size (fun k_ => (P0_ k_ ∨ w.heap.size ≤ k_) ∧ some k_ ≠ (v4 : Value).ownBlock) v0 x0_1) ∧ Aside0 (Kd.R k44 44 w' w.heap.size (fun k_ => (w.heap.size ≤ k_)) v4 x4_1) ∧ Aside0 (Below w.heap.size w w'))
    case atStart => exact ⟨(l0), (([] : List (S44))), H', ⟨Nat.le_refl _⟩, ⟨by (with_reducible repeat (first | apply Kd.V_alloc | apply Kd.V_drewN | apply Kd.V_drew)); exact Kd.V_mono HO0.out (fun _ hk => ⟨hk, (by simp [Value.ownBlock])⟩)⟩, ⟨by first | exact Kd.R_nil _ _ _ _ _ | exact Kd.N_nil _ _ _ _ _ | exact Kd.V_nil _ _ _ _ _ | exact Kd.Q_nil _ _ _ _ _ | exact Kd.S_nil _ _ _ _ _⟩, ⟨by repeat (first | (with_reducible first | exact HB.out | apply below_alloc | apply pw_below_drewN | apply below_drew1) | exact HB.out)⟩⟩
    case round =>
      clear H'
      try clear c1
      try clear c2
      try clear c2b0
      try clear c2b1
      try clear p2
      obtain ⟨x0_1, x4_1, HA, HK1, HO_0, HO_4, HB⟩ := hrel
      cases gk with
      | zero => exact absurd HA.out (by simp [pax_Decode.l0])
      | succ k1 =>
        have H := HA.out
        clear HA
        simp only [pax_Decode.l0] at H
        by_cases c3 : (x0_1.length : Int) > 0
        · rw [if_pos c3] at H
          have c3b0 : decide (0 < (x0_1.length : Int)) = true := decide_eq_true c3
          have c3b1 : decide (0 < x0_1.length) = true := decide_eq_true (by omega)
          clear c3
          replace H := Option.bind_eq_some_iff.mp H
          obtain ⟨⟨t134, t135, t136⟩, A40, H⟩ := H
          replace H : (if t136 = 0 then (some (([] : List (S44)), some 15)) else (if (x4_1.length : Int) > 0 then (if 0 ≤ (wrap64 ((x4_1.length : Int) - 1)) then (if (wrap64 ((x4_1.length : Int) - 1)) < (x4_1.length : Int) then (if ((Op.bytesLess (((rd_T44 x4_1 (wrap64 ((x4_1.length : Int) - 1))).f0).toList) t134.toList) = true) then (if x4_1.length < 4398046511104 then (if 0 ≤ t136 then (if t136 ≤ (x0_1.length : Int) then (pax_Decode.l0 k1 (x0_1.drop (t136 : Int).toNat) (x4_1 ++ [(⟨t134, t135⟩ : S44)])) else (none)) else (none)) else (none)) else (some (([] : List (S44)), some 15))) else (none)) else (none)) else (if x4_1.length < 4398046511104 then (if 0 ≤ t136 then (if t136 ≤ (x0_1.length : Int) then (pax_Decode.l0 k1 (x0_1.drop (t136 : Int).toNat) (x4_1 ++ [(⟨t134, t135⟩ : S44)])) else (none)) else (none)) else (none)))) = some (r1, r2) := H
          have A4 := Aside0.mk A40
          clear A40
          by_cases c5 : t136 = 0
          · rw [if_pos c5] at H
            have c5b0 : (t136 == 0) = true := beq_iff_eq.mpr c5
            have c5b1 : (t136 != 0) = false := bne_eq_false_iff_eq.mpr c5
            clear c5
            simp only [Option.some.injEq, Prod.mk.injEq] at H
            obtain ⟨rfl, rfl⟩ := H
            obtain ⟨Ao6, co6, eo6⟩ := Kd.V_slice HO_0.out
            subst eo6
            go_wp2_with (first | (go_at_call 28; (with_reducible refine (pax_first.calls k1 _ _ x0_1 t134 t135 t136 _ ?side1 ?side2 ?side3 A4.out).mono ?_); (case side1 => repeat (first | exact (Kd.V_reads' HO_0.out).2.2 | (with_reducible refine Kd.C_alloc ?_ _) | (with_reducible refine Kd.C_drewN ?_ _) | (with_reducible refine Kd.C_drew ?_))); (case side2 => exact (Kd.V_reads' HO_0.out).2.1); (case side3 => first | exact HGL.out | exact Gl.drewN HGL.out _ | exact Gl.of HGL.out (by repeat (first | (with_reducible first | exact HB.out | apply below_alloc | apply pw_below_drewN | apply below_drew1) | exact HB.out))); rintro e w7 ⟨rfl, hb⟩; have n0_ := Aside0.mk (Kd.V_below (by (with_reducible repeat (first | apply Kd.V_alloc | apply Kd.V_drewN | apply Kd.V_drew)); exact HO_0.out) hb); have n1_ := Aside0.mk (Kd.R_below (by (with_reducible repeat (first | apply Kd.R_alloc | apply Kd.R_drewN | apply Kd.R_drew)); exact HO_4.out) hb); have n2_ := Aside0.mk (below_step (by repeat (first | (with_reducible first | exact HB.out | apply below_alloc | apply pw_below_drewN | apply below_drew1) | exact HB.out)) hb); clear HO_0; clear HO_4; clear HB; have HO_0 := n0_; have HO_4 := n1_; have HB := n2_; clear n0_ n1_ n2_; (try clear hb); (try clear hb2); (try clear hk); (try clear hi)) | ((with_reducible refine gate_dst (N := 5) rfl ?_); (try (refine gate_guard (by rfl) ?_; dsimp only)); refine box_event ?hg (N := 5) ?hd (cs := #[.string (⟨#[]⟩ : ByteArray), .string (⟨#[]⟩ : ByteArray)]) (t := 44) ?hr ?_; (case hd => rfl); (case hg => rfl); (case hr => first | (go_simp; done) | (go_simp; rfl)); intro gb137 hg w8 hbox hb; have n0_ := Aside0.mk (Kd.V_below (Kd.V_elderB (by (with_reducible repeat (first | apply Kd.V_alloc | apply Kd.V_drewN | apply Kd.V_drew)); exact HO_0.out) gb137 (Nat.le_of_eq hg.symm)) hb); have n1_ := Aside0.mk (Kd.R_below (Kd.R_elderB (by (with_reducible repeat (first | apply Kd.R_alloc | apply Kd.R_drewN | apply Kd.R_drew)); exact HO_4.out) gb137 (Nat.le_of_eq hg.symm)) hb); have n2_ := Aside0.mk (below_step (by repeat (first | (with_reducible first | exact HB.out | apply below_alloc | apply pw_below_drewN | apply below_drew1) | exact HB.out)) hb); have n3_ := Aside0.mk (hbox); have n4_ := Aside0.mk ((by rw [hg]; exact (below_size (by repeat (first | (with_reducible first | exact HB.out | apply below_alloc | apply pw_below_drewN | apply below_drew1) | exact HB.out))) : w.heap.size ≤ gb137)); have n5_ := Aside0.mk ((by rw [hg]; exact (below_size (by repeat (first | (with_reducible first | exact HB.out | apply below_alloc | apply pw_below_drewN | apply below_drew1) | exact HB.out))) : w.heap.size ≤ gb137)); clear HO_0; clear HO_4; clear HB; have HO_0 := n0_; have HO_4 := n1_; have HB := n2_; have BK137 := n3_; have GW137 := n4_; have GE137 := n5_; clear n0_ n1_ n2_ n3_ n4_ n5_; clear hb hbox hg; have hcz9_0 : w8.cell? ⟨gb137, 0, none⟩ = some (.string (⟨#[]⟩ : ByteArray)) := (blk_cell BK137.out 0).trans rfl; have hcz9_1 : w8.cell? ⟨gb137, 1, none⟩ = some (.string (⟨#[]⟩ : ByteArray)) := (blk_cell BK137.out 1).trans rfl; have hfz9_0 := blk_frozen BK137.out 0; have hfz9_1 := blk_frozen BK137.out 1))
            repeat (go_quiet (first | (go_at_call 28; (with_reducible refine (pax_first.calls k1 _ _ x0_1 t134 t135 t136 _ ?side1 ?side2 ?side3 A4.out).mono ?_); (case side1 => repeat (first | exact (Kd.V_reads' HO_0.out).2.2 | (with_reducible refine Kd.C_alloc ?_ _) | (with_reducible refine Kd.C_drewN ?_ _) | (with_reducible refine Kd.C_drew ?_))); (case side2 => exact (Kd.V_reads' HO_0.out).2.1); (case side3 => first | exact HGL.out | exact Gl.drewN HGL.out _ | exact Gl.of HGL.out (by repeat (first | (with_reducible first | exact HB.out | apply below_alloc | apply pw_below_drewN | apply below_drew1) | exact HB.out))); rintro e w7 ⟨rfl, hb⟩; have n0_ := Aside0.mk (Kd.V_below (by (with_reducible repeat (first | apply Kd.V_alloc | apply Kd.V_drewN | apply Kd.V_drew)); exact HO_0.out) hb); have n1_ := Aside0.mk (Kd.R_below (by (with_reducible repeat (first | apply Kd.R_alloc | apply Kd.R_drewN | apply Kd.R_drew)); exact HO_4.out) hb); have n2_ := Aside0.mk (below_step (by repeat (first | (with_reducible first | exact HB.out | apply below_alloc | apply pw_below_drewN | apply below_drew1) | exact HB.out)) hb); clear HO_0; clear HO_4; clear HB; have HO_0 := n0_; have HO_4 := n1_; have HB := n2_; clear n0_ n1_ n2_; (try clear hb); (try clear hb2); (try clear hk); (try clear hi)) | ((with_reducible refine gate_dst (N := 5) rfl ?_); (try (refine gate_guard (by rfl) ?_; dsimp only)); refine box_event ?hg (N := 5) ?hd (cs := #[.string (⟨#[]⟩ : ByteArray), .string (⟨#[]⟩ : ByteArray)]) (t := 44) ?hr ?_; (case hd => rfl); (case hg => rfl); (case hr => first | (go_simp; done) | (go_simp; rfl)); intro gb137 hg w8 hbox hb; have n0_ := Aside0.mk (Kd.V_below (Kd.V_elderB (by (with_reducible repeat (first | apply Kd.V_alloc | apply Kd.V_drewN | apply Kd.V_drew)); exact HO_0.out) gb137 (Nat.le_of_eq hg.symm)) hb); have n1_ := Aside0.mk (Kd.R_below (Kd.R_elderB (by (with_reducible repeat (first | apply Kd.R_alloc | apply Kd.R_drewN | apply Kd.R_drew)); exact HO_4.out) gb137 (Nat.le_of_eq hg.symm)) hb); have n2_ := Aside0.mk (below_step (by repeat (first | (with_reducible first | exact HB.out | apply below_alloc | apply pw_below_drewN | apply below_drew1) | exact HB.out)) hb); have n3_ := Aside0.mk (hbox); have n4_ := Aside0.mk ((by rw [hg]; exact (below_size (by repeat (first | (with_reducible first | exact HB.out | apply below_alloc | apply pw_below_drewN | apply below_drew1) | exact HB.out))) : w.heap.size ≤ gb137)); have n5_ := Aside0.mk ((by rw [hg]; exact (below_size (by repeat (first | (with_reducible first | exact HB.out | apply below_alloc | apply pw_below_drewN | apply below_drew1) | exact HB.out))) : w.heap.size ≤ gb137)); clear HO_0; clear HO_4; clear HB; have HO_0 := n0_; have HO_4 := n1_; have HB := n2_; have BK137 := n3_; have GW137 := n4_; have GE137 := n5_; clear n0_ n1_ n2_ n3_ n4_ n5_; clear hb hbox hg; have hcz9_0 : w8.cell? ⟨gb137, 0, none⟩ = some (.string (⟨#[]⟩ : ByteArray)) := (blk_cell BK137.out 0).trans rfl; have hcz9_1 : w8.cell? ⟨gb137, 1, none⟩ = some (.string (⟨#[]⟩ : ByteArray)) := (blk_cell BK137.out 1).trans rfl; have hfz9_0 := blk_frozen BK137.out 0; have hfz9_1 := blk_frozen BK137.out 1)); try go_wp2_with (first | (go_at_call 28; (with_reducible refine (pax_first.calls k1 _ _ x0_1 t134 t135 t136 _ ?side1 ?side2 ?side3 A4.out).mono ?_); (case side1 => repeat (first | exact (Kd.V_reads' HO_0.out).2.2 | (with_reducible refine Kd.C_alloc ?_ _) | (with_reducible refine Kd.C_drewN ?_ _) | (with_reducible refine Kd.C_drew ?_))); (case side2 => exact (Kd.V_reads' HO_0.out).2.1); (case side3 => first | exact HGL.out | exact Gl.drewN HGL.out _ | exact Gl.of HGL.out (by repeat (first | (with_reducible first | exact HB.out | apply below_alloc | apply pw_below_drewN | apply below_drew1) | exact HB.out))); rintro e w7 ⟨rfl, hb⟩; have n0_ := Aside0.mk (Kd.V_below (by (with_reducible repeat (first | apply Kd.V_alloc | apply Kd.V_drewN | apply Kd.V_drew)); exact HO_0.out) hb); have n1_ := Aside0.mk (Kd.R_below (by (with_reducible repeat (first | apply Kd.R_alloc | apply Kd.R_drewN | apply Kd.R_drew)); exact HO_4.out) hb); have n2_ := Aside0.mk (below_step (by repeat (first | (with_reducible first | exact HB.out | apply below_alloc | apply pw_below_drewN | apply below_drew1) | exact HB.out)) hb); clear HO_0; clear HO_4; clear HB; have HO_0 := n0_; have HO_4 := n1_; have HB := n2_; clear n0_ n1_ n2_; (try clear hb); (try clear hb2); (try clear hk); (try clear hi)) | ((with_reducible refine gate_dst (N := 5) rfl ?_); (try (refine gate_guard (by rfl) ?_; dsimp only)); refine box_event ?hg (N := 5) ?hd (cs := #[.string (⟨#[]⟩ : ByteArray), .string (⟨#[]⟩ : ByteArray)]) (t := 44) ?hr ?_; (case hd => rfl); (case hg => rfl); (case hr => first | (go_simp; done) | (go_simp; rfl)); intro gb137 hg w8 hbox hb; have n0_ := Aside0.mk (Kd.V_below (Kd.V_elderB (by (with_reducible repeat (first | apply Kd.V_alloc | apply Kd.V_drewN | apply Kd.V_drew)); exact HO_0.out) gb137 (Nat.le_of_eq hg.symm)) hb); have n1_ := Aside0.mk (Kd.R_below (Kd.R_elderB (by (with_reducible repeat (first | apply Kd.R_alloc | apply Kd.R_drewN | apply Kd.R_drew)); exact HO_4.out) gb137 (Nat.le_of_eq hg.symm)) hb); have n2_ := Aside0.mk (below_step (by repeat (first | (with_reducible first | exact HB.out | apply below_alloc | apply pw_below_drewN | apply below_drew1) | exact HB.out)) hb); have n3_ := Aside0.mk (hbox); have n4_ := Aside0.mk ((by rw [hg]; exact (below_size (by repeat (first | (with_reducible first | exact HB.out | apply below_alloc | apply pw_below_drewN | apply below_drew1) | exact HB.out))) : w.heap.size ≤ gb137)); have n5_ := Aside0.mk ((by rw [hg]; exact (below_size (by repeat (first | (with_reducible first | exact HB.out | apply below_alloc | apply pw_below_drewN | apply below_drew1) | exact HB.out))) : w.heap.size ≤ gb137)); clear HO_0; clear HO_4; clear HB; have HO_0 := n0_; have HO_4 := n1_; have HB := n2_; have BK137 := n3_; have GW137 := n4_; have GE137 := n5_; clear n0_ n1_ n2_ n3_ n4_ n5_; clear hb hbox hg; have hcz9_0 : w8.cell? ⟨gb137, 0, none⟩ = some (.string (⟨#[]⟩ : ByteArray)) := (blk_cell BK137.out 0).trans rfl; have hcz9_1 : w8.cell? ⟨gb137, 1, none⟩ = some (.string (⟨#[]⟩ : ByteArray)) := (blk_cell BK137.out 1).trans rfl; have hfz9_0 := blk_frozen BK137.out 0; have hfz9_1 := blk_frozen BK137.out 1)))
            go_ret2
            exact ⟨_, by first | rfl | (simp [errW_none, errW_some] <;> rfl) | (simp [*, errW_none, errW_some] <;> rfl), by first | exact Kd.R_nil _ _ _ _ _ | exact Kd.N_nil _ _ _ _ _ | exact Kd.V_nil _ _ _ _ _ | exact Kd.Q_nil _ _ _ _ _ | exact Kd.S_nil _ _ _ _ _, by repeat (first | (with_reducible first | exact HB.out | apply below_alloc | apply pw_below_drewN | apply below_drew1 | refine below_set ?_ GE137.out) | exact HB.out)⟩
          · rw [if_neg c5] at H
            have c5b0 : (t136 == 0) = false := beq_eq_false_iff_ne.mpr c5
            have c5b1 : (t136 != 0) = true := bne_iff_ne.mpr c5
            by_cases c10 : (x4_1.length : Int) > 0
            · rw [if_pos c10] at H
              have c10b0 : decide (0 < (x4_1.length : Int)) = true := decide_eq_true c10
              have c10b1 : decide (0 < x4_1.length) = true := decide_eq_true (by omega)
              clear c10
              obtain ⟨ji11, hji11⟩ : ∃ j_ : Int, (wrap64 ((x4_1.length : Int) - 1)) = j_ := ⟨_, rfl⟩
              replace H : (if 0 ≤ (ji11) then (if (ji11) < (x4_1.length : Int) then (if ((Op.bytesLess (((rd_T44 x4_1 (ji11)).f0).toList) t134.toList) = true) then (if x4_1.length < 4398046511104 then (if 0 ≤ t136 then (if t136 ≤ (x0_1.length : Int) then (pax_Decode.l0 k1 (x0_1.drop (t136 : Int).toNat) (x4_1 ++ [(⟨t134, t135⟩ : S44)])) else (none)) else (none)) else (none)) else (some (([] : List (S44)), some 15))) else (none)) else (none)) = some (r1, r2) := by first | (rw [hji11] at H; exact H) | (simp only [hji11] at H ⊢; exact H)
              (try rw [hji11] at A4)
              have hji11w : (IntKind.i64.wrap ((x4_1.length : Int) - 1)) = ji11 := (i64_w _).trans hji11
              by_cases c12 : 0 ≤ (ji11)
              · rw [if_pos c12] at H
                have c12b0 : decide (0 ≤ (ji11)) = true := decide_eq_true c12
                clear c12
                by_cases c13 : (ji11) < (x4_1.length : Int)
                · rw [if_pos c13] at H
                  have c13b0 : decide ((ji11) < (x4_1.length : Int)) = true := decide_eq_true c13
                  clear c13
                  by_cases c14 : ((Op.bytesLess (((rd_T44 x4_1 (ji11)).f0).toList) t134.toList) = true)
                  · rw [if_pos c14] at H
                    have c14b0 : (Op.bytesLess (((rd_T44 x4_1 (ji11)).f0).toList) t134.toList) = true := c14
                    clear c14
                    by_cases c15 : x4_1.length < 4398046511104
                    · rw [if_pos c15] at H
                      have LMc15 := Aside0.mk c15
                      clear c15
                      obtain ⟨y139, hy139⟩ : ∃ y_ : List (S44), y_ = (x4_1 ++ [(⟨t134, t135⟩ : S44)]) := ⟨_, rfl⟩
                      replace H : (if 0 ≤ t136 then (if t136 ≤ (x0_1.length : Int) then (pax_Decode.l0 k1 (x0_1.drop (t136 : Int).toNat) y139) else (none)) else (none)) = some (r1, r2) := by first | (rw [hy139]; with_reducible exact H) | (have H2_ := (Option.bind_some _ _).symm.trans H; rw [hy139]; with_reducible exact H2_) | (have H2_ := (Option.bind_some _ _).symm.trans H; with_reducible exact H2_) | with_reducible exact H | (rw [hy139]; exact H) | exact H
                      have Ny139 := Aside0.mk hy139
                      clear hy139
                      by_cases c16 : 0 ≤ t136
                      · rw [if_pos c16] at H
                        have c16b0 := eq_true c16
                        have c16b1 : decide (0 ≤ t136) = true := decide_eq_true c16
                        clear c16
                        by_cases c17 : t136 ≤ (x0_1.length : Int)
                        · rw [if_pos c17] at H
                          have c17b0 := eq_true c17
                          have c17b1 : decide (t136 ≤ (x0_1.length : Int)) = true := decide_eq_true c17
                          clear c17
                          obtain ⟨y142, hy142⟩ : ∃ y_ : List Int, y_ = (x0_1.drop (t136 : Int).toNat) := ⟨_, rfl⟩
                          replace H : (pax_Decode.l0 k1 y142 y139) = some (r1, r2) := by first | (rw [hy142]; with_reducible exact H) | (have H2_ := (Option.bind_some _ _).symm.trans H; rw [hy142]; with_reducible exact H2_) | (have H2_ := (Option.bind_some _ _).symm.trans H; with_reducible exact H2_) | with_reducible exact H | (rw [hy142]; exact H) | exact H
                          have Ny142 := Aside0.mk hy142
                          clear hy142
                          have H' := Aside0.mk H
                          clear H
                          obtain ⟨Ao18, co18, eo18⟩ := Kd.V_slice HO_0.out
                          subst eo18
                          go_wp2_with (first | (go_at_call 28; (with_reducible refine (pax_first.calls k1 _ _ x0_1 t134 t135 t136 _ ?side1 ?side2 ?side3 A4.out).mono ?_); (case side1 => repeat (first | exact (Kd.V_reads' HO_0.out).2.2 | (with_reducible refine Kd.C_alloc ?_ _) | (with_reducible refine Kd.C_drewN ?_ _) | (with_reducible refine Kd.C_drew ?_))); (case side2 => exact (Kd.V_reads' HO_0.out).2.1); (case side3 => first | exact HGL.out | exact Gl.drewN HGL.out _ | exact Gl.of HGL.out (by repeat (first | (with_reducible first | exact HB.out | apply below_alloc | apply pw_below_drewN | apply below_drew1) | exact HB.out))); rintro e w19 ⟨rfl, hb⟩; have n0_ := Aside0.mk (Kd.V_below (by (with_reducible repeat (first | apply Kd.V_alloc | apply Kd.V_drewN | apply Kd.V_drew)); exact HO_0.out) hb); have n1_ := Aside0.mk (Kd.R_below (by (with_reducible repeat (first | apply Kd.R_alloc | apply Kd.R_drewN | apply Kd.R_drew)); exact HO_4.out) hb); have n2_ := Aside0.mk (below_step (by repeat (first | (with_reducible first | exact HB.out | apply below_alloc | apply pw_below_drewN | apply below_drew1) | exact HB.out)) hb); clear HO_0; clear HO_4; clear HB; have HO_0 := n0_; have HO_4 := n1_; have HB := n2_; clear n0_ n1_ n2_; (try clear hb); (try clear hb2); (try clear hk); (try clear hi)) | ((with_reducible refine gate_dst (N := 5) rfl ?_); (try (refine gate_guard (by rfl) ?_; dsimp only)); refine box_event ?hg (N := 5) ?hd (cs := #[.string (⟨#[]⟩ : ByteArray), .string (⟨#[]⟩ : ByteArray)]) (t := 44) ?hr ?_; (case hd => rfl); (case hg => rfl); (case hr => first | (go_simp; done) | (go_simp; rfl)); intro gb137 hg w20 hbox hb; have n0_ := Aside0.mk (Kd.V_below (Kd.V_elderB (by (with_reducible repeat (first | apply Kd.V_alloc | apply Kd.V_drewN | apply Kd.V_drew)); exact HO_0.out) gb137 (Nat.le_of_eq hg.symm)) hb); have n1_ := Aside0.mk (Kd.R_below (Kd.R_elderB (by (with_reducible repeat (first | apply Kd.R_alloc | apply Kd.R_drewN | apply Kd.R_drew)); exact HO_4.out) gb137 (Nat.le_of_eq hg.symm)) hb); have n2_ := Aside0.mk (below_step (by repeat (first | (with_reducible first | exact HB.out | apply below_alloc | apply pw_below_drewN | apply below_drew1) | exact HB.out)) hb); have n3_ := Aside0.mk (hbox); have n4_ := Aside0.mk ((by rw [hg]; exact (below_size (by repeat (first | (with_reducible first | exact HB.out | apply below_alloc | apply pw_below_drewN | apply below_drew1) | exact HB.out))) : w.heap.size ≤ gb137)); have n5_ := Aside0.mk ((by rw [hg]; exact (below_size (by repeat (first | (with_reducible first | exact HB.out | apply below_alloc | apply pw_below_drewN | apply below_drew1) | exact HB.out))) : w.heap.size ≤ gb137)); clear HO_0; clear HO_4; clear HB; have HO_0 := n0_; have HO_4 := n1_; have HB := n2_; have BK137 := n3_; have GW137 := n4_; have GE137 := n5_; clear n0_ n1_ n2_ n3_ n4_ n5_; clear hb hbox hg; have hcz21_0 : w20.cell? ⟨gb137, 0, none⟩ = some (.string (⟨#[]⟩ : ByteArray)) := (blk_cell BK137.out 0).trans rfl; have hcz21_1 : w20.cell? ⟨gb137, 1, none⟩ = some (.string (⟨#[]⟩ : ByteArray)) := (blk_cell BK137.out 1).trans rfl; have hfz21_0 := blk_frozen BK137.out 0; have hfz21_1 := blk_frozen BK137.out 1; obtain ⟨Ao22, co22, eo22⟩ := Kd.R_slice HO_4.out; subst eo22; have p138 : 0 ≤ ((ji11) : Int) := of_decide_eq_true (by first | (with_reducible assumption) | assumption); have q138 : (ji11) < (x4_1.length : Int) := of_decide_eq_true (by first | (with_reducible assumption) | assumption); obtain ⟨ad138, e138, hx138_0, hx138_1⟩ := at_T44 (Kd.R_reads' HO_4.out).2.2 (ji11) p138 q138; cases e138; have hn138_0 : ad138.block ≠ gb137 := Kd.own_blk (by first | exact Kd.R_ne HO_4.out BK137.out (by decide) | exact fun e_ => (HO_4.out.1 _ e_.symm).2 rfl); have hn138_1 : ad138.block ≠ gb137 := Kd.own_blk (by first | exact Kd.R_ne HO_4.out BK137.out (by decide) | exact fun e_ => (HO_4.out.1 _ e_.symm).2 rfl); replace hx138_0 := (cell_far (p := ⟨gb137, 0, none⟩) (by first | (rw [add_block]; exact hn138_0) | (show (Addr.add _ _).block ≠ _; rw [add_block]; exact hn138_0) | exact hn138_0) (.string t134)).trans hx138_0; replace hx138_1 := (cell_far (p := ⟨gb137, 0, none⟩) (by first | (rw [add_block]; exact hn138_0) | (show (Addr.add _ _).block ≠ _; rw [add_block]; exact hn138_0) | exact hn138_0) (.string t134)).trans hx138_1; replace hx138_0 := (cell_far (p := ⟨gb137, 1, none⟩) (by first | (rw [add_block]; exact hn138_1) | (show (Addr.add _ _).block ≠ _; rw [add_block]; exact hn138_1) | exact hn138_1) (.string t135)).trans hx138_0; replace hx138_1 := (cell_far (p := ⟨gb137, 1, none⟩) (by first | (rw [add_block]; exact hn138_1) | (show (Addr.add _ _).block ≠ _; rw [add_block]; exact hn138_1) | exact hn138_1) (.string t135)).trans hx138_1; (try have hy138_0 := fun (n_ : Nat) => (show ((((w20.drewN n_).setCell ⟨gb137, 0, none⟩ (.string t134)).setCell ⟨gb137, 1, none⟩ (.string t135))).cell? _ = some _ from hx138_0)); (try have hy138_1 := fun (n_ : Nat) => (show ((((w20.drewN n_).setCell ⟨gb137, 0, none⟩ (.string t134)).setCell ⟨gb137, 1, none⟩ (.string t135))).cell? _ = some _ from hx138_1)); clear hn138_0; clear hn138_1; replace p138 := eq_true p138; replace q138 := eq_true q138) | ((with_reducible refine gate_builtin (b := .append) (xs := #[.tmp 39, .tmp 41]) rfl ?_); (try (refine gate_guard (by rfl) ?_; dsimp only)); at_builtin; refine Kd.R_append k44 (w0 := w) w.heap.size rfl (.tmp 39) (.tmp 41) 33 44 (.agg #[(.string ⟨#[]⟩), (.string ⟨#[]⟩)]) 32 rfl Tryd.underlying33 info44 rfl (by decide) (by omega) (.slice (some ad138) x4_1.length co22) x4_1 (⟨t134, t135⟩ : S44) [.string t134, .string t135] (fun k_ => (w.heap.size ≤ k_) ∧ k_ ≠ gb137) (fun _ => False) rfl (by first | (go_simp; done) | (go_simp; rfl)) ?aP (fun _ hk => hk.elim) ?aF ?aO ?aB ?aS ?aL ?_; (case aP => exact k44_mkM _ _ _ (⟨t134, t135⟩ : S44)); (case aB => exact (by repeat (first | (with_reducible first | exact HB.out | apply below_alloc | apply pw_below_drewN | apply below_drew1 | refine below_set ?_ GE137.out) | exact HB.out))); (case aF => exact (fun k_ hk => ⟨(Nat.le_trans (below_size (by repeat (first | (with_reducible first | exact HB.out | apply below_alloc | apply pw_below_drewN | apply below_drew1 | refine below_set ?_ GE137.out) | exact HB.out))) hk), Kd.freshB (g := gb137) (o := .cells #[.string t134, .string t135] 44 (0, 0)) (by (with_reducible repeat (first | refine blk_drewN ?_ _ | refine blk_drew ?_ | refine blk_alloc ?_ _)); refine blk_put (cs := #[.string t134, .string (⟨#[]⟩ : ByteArray)]) ?_ 1 _ rfl; (with_reducible repeat (first | refine blk_drewN ?_ _ | refine blk_drew ?_ | refine blk_alloc ?_ _)); refine blk_put (cs := #[.string (⟨#[]⟩ : ByteArray), .string (⟨#[]⟩ : ByteArray)]) ?_ 0 _ rfl; (with_reducible repeat (first | refine blk_drewN ?_ _ | refine blk_drew ?_ | refine blk_alloc ?_ _)); exact BK137.out) k_ hk⟩)); (case aO => exact (by (with_reducible repeat (first | apply Kd.R_alloc | apply Kd.R_drewN | apply Kd.R_drew)); exact Kd.R_mono (Kd.R_far (p := ⟨gb137, 1, none⟩) (Kd.R_far (p := ⟨gb137, 0, none⟩) (Kd.R_mono HO_4.out (fun k_ hk => (⟨hk, hk.2⟩ : _ ∧ k_ ≠ gb137))) (fun _ hk => hk.2) (.string t134)) (fun _ hk => hk.2) (.string t135)) (fun _ hk => ⟨hk.1.1, hk.1.2⟩))); (case aS => exact (below_size (by repeat (first | (with_reducible first | exact HB.out | apply below_alloc | apply pw_below_drewN | apply below_drew1 | refine below_set ?_ GE137.out) | exact HB.out)))); (case aL => have := LMc15.out; omega); intro v140 w23 ho hb hg hat; rw [← Ny139.out] at ho; have n0_ := Aside0.mk (Kd.V_afterv (ok := (fun k_ => (P0_ k_ ∨ w.heap.size ≤ k_) ∧ k_ ≠ gb137)) (by (with_reducible repeat (first | apply Kd.V_alloc | apply Kd.V_drewN | apply Kd.V_drew)); exact Kd.V_mono (Kd.V_far (p := ⟨gb137, 1, none⟩) (Kd.V_far (p := ⟨gb137, 0, none⟩) (Kd.V_mono HO_0.out (fun k_ hk => (⟨hk, hk.2⟩ : _ ∧ k_ ≠ gb137))) (fun _ hk => hk.2) (.string t134)) (fun _ hk => hk.2) (.string t135)) (fun _ hk => ⟨⟨hk.1.1.1, hk.1.2⟩, hk.1.1.2⟩)) hg hat); have n1_ := Aside0.mk (blk_grown (g := gb137) (o := .cells #[.string t134, .string t135] 44 (0, 0)) (by (with_reducible repeat (first | refine blk_drewN ?_ _ | refine blk_drew ?_ | refine blk_alloc ?_ _)); refine blk_put (cs := #[.string t134, .string (⟨#[]⟩ : ByteArray)]) ?_ 1 _ rfl; (with_reducible repeat (first | refine blk_drewN ?_ _ | refine blk_drew ?_ | refine blk_alloc ?_ _)); refine blk_put (cs := #[.string (⟨#[]⟩ : ByteArray), .string (⟨#[]⟩ : ByteArray)]) ?_ 0 _ rfl; (with_reducible repeat (first | refine blk_drewN ?_ _ | refine blk_drew ?_ | refine blk_alloc ?_ _)); exact BK137.out) hg (Kd.R_away HO_4.out (fun _ hk => hk.2))); have n2_ := Aside0.mk (hb); have n3_ := Aside0.mk (ho); clear HO_0; clear BK137; clear HB; clear HO_4; have HO_0 := n0_; have BK137 := n1_; have HB := n2_; have HO141 := n3_; clear n0_ n1_ n2_ n3_; clear ho hb hg hat; have q24 : (t136 : Int) ≤ ((x0_1.length : Int) : Int) := of_decide_eq_true (by first | (with_reducible assumption) | assumption); obtain ⟨i024, hi024, _, hsz24, _⟩ := info_parts info5; have hroom24 : x0_1.length ≤ co18 := (Kd.V_reads' HO_0.out).2.1; have hC24 : Kd.F (Kd.int .u8) _ _ Ao18 x0_1.length x0_1 := (Kd.V_at (base := w.heap.size) HO_0.out).2.2; have q024 : (0 : Int) ≤ (t136 : Int) := of_decide_eq_true (by first | (with_reducible assumption) | assumption); have hcut24 := cut_from (P := Tryd.prog) 31 5 .i64 Tryd.underlying31 hi024 1 hsz24 Ao18 x0_1.length co18 t136 q024 q24; have hr24 := Kd.F_cut (m := (t136 : Int).toNat) (c := co18) hC24 (by omega) hroom24; obtain ⟨A24, hA24⟩ : ∃ A1, A1 = (if co18 = (t136 : Int).toNat then Ao18 else (Ao18 : Option Addr).map (·.add ((t136 : Int).toNat * 1))) := ⟨_, rfl⟩; obtain ⟨c24, hc24⟩ : ∃ c1, c1 = co18 - (t136 : Int).toNat := ⟨_, rfl⟩; have hy24 : y142.length = x0_1.length - (t136 : Int).toNat := (by rw [Ny142.out, List.length_drop] <;> omega); rw [show (x0_1).drop (t136 : Int).toNat = y142 from Ny142.out.symm] at hr24; replace hr24 : Kd.F (Kd.int .u8) _ _ A24 y142.length y142 := (by rw [hA24]; exact hr24); rw [← hy24, ← hA24, ← hc24] at hcut24; have HO146 := Aside0.mk (show Kd.V (Kd.int .u8) 5 _ w.heap.size _ (.slice A24 y142.length c24) y142 from Kd.V_mk (by rw [hy24, hc24]; exact Nat.sub_le_sub_right hroom24 _) hr24); have HC146 := Aside0.mk (show y142.length ≤ c24 from by rw [hy24, hc24]; exact Nat.sub_le_sub_right hroom24 _); clear hr24 hC24 hroom24 hi024 hsz24 hc24; have KY24 := Aside0.mk hy24; have KA24 := Aside0.mk hA24; clear hy24 hA24; replace q24 := eq_true q24))
                          repeat (go_quiet (first | (go_at_call 28; (with_reducible refine (pax_first.calls k1 _ _ x0_1 t134 t135 t136 _ ?side1 ?side2 ?side3 A4.out).mono ?_); (case side1 => repeat (first | exact (Kd.V_reads' HO_0.out).2.2 | (with_reducible refine Kd.C_alloc ?_ _) | (with_reducible refine Kd.C_drewN ?_ _) | (with_reducible refine Kd.C_drew ?_))); (case side2 => exact (Kd.V_reads' HO_0.out).2.1); (case side3 => first | exact HGL.out | exact Gl.drewN HGL.out _ | exact Gl.of HGL.out (by repeat (first | (with_reducible first | exact HB.out | apply below_alloc | apply pw_below_drewN | apply below_drew1) | exact HB.out))); rintro e w19 ⟨rfl, hb⟩; have n0_ := Aside0.mk (Kd.V_below (by (with_reducible repeat (first | apply Kd.V_alloc | apply Kd.V_drewN | apply Kd.V_drew)); exact HO_0.out) hb); have n1_ := Aside0.mk (Kd.R_below (by (with_reducible repeat (first | apply Kd.R_alloc | apply Kd.R_drewN | apply Kd.R_drew)); exact HO_4.out) hb); have n2_ := Aside0.mk (below_step (by repeat (first | (with_reducible first | exact HB.out | apply below_alloc | apply pw_below_drewN | apply below_drew1) | exact HB.out)) hb); clear HO_0; clear HO_4; clear HB; have HO_0 := n0_; have HO_4 := n1_; have HB := n2_; clear n0_ n1_ n2_; (try clear hb); (try clear hb2); (try clear hk); (try clear hi)) | ((with_reducible refine gate_dst (N := 5) rfl ?_); (try (refine gate_guard (by rfl) ?_; dsimp only)); refine box_event ?hg (N := 5) ?hd (cs := #[.string (⟨#[]⟩ : ByteArray), .string (⟨#[]⟩ : ByteArray)]) (t := 44) ?hr ?_; (case hd => rfl); (case hg => rfl); (case hr => first | (go_simp; done) | (go_simp; rfl)); intro gb137 hg w20 hbox hb; have n0_ := Aside0.mk (Kd.V_below (Kd.V_elderB (by (with_reducible repeat (first | apply Kd.V_alloc | apply Kd.V_drewN | apply Kd.V_drew)); exact HO_0.out) gb137 (Nat.le_of_eq hg.symm)) hb); have n1_ := Aside0.mk (Kd.R_below (Kd.R_elderB (by (with_reducible repeat (first | apply Kd.R_alloc | apply Kd.R_drewN | apply Kd.R_drew)); exact HO_4.out) gb137 (Nat.le_of_eq hg.symm)) hb); have n2_ := Aside0.mk (below_step (by repeat (first | (with_reducible first | exact HB.out | apply below_alloc | apply pw_below_drewN | apply below_drew1) | exact HB.out)) hb); have n3_ := Aside0.mk (hbox); have n4_ := Aside0.mk ((by rw [hg]; exact (below_size (by repeat (first | (with_reducible first | exact HB.out | apply below_alloc | apply pw_below_drewN | apply below_drew1) | exact HB.out))) : w.heap.size ≤ gb137)); have n5_ := Aside0.mk ((by rw [hg]; exact (below_size (by repeat (first | (with_reducible first | exact HB.out | apply below_alloc | apply pw_below_drewN | apply below_drew1) | exact HB.out))) : w.heap.size ≤ gb137)); clear HO_0; clear HO_4; clear HB; have HO_0 := n0_; have HO_4 := n1_; have HB := n2_; have BK137 := n3_; have GW137 := n4_; have GE137 := n5_; clear n0_ n1_ n2_ n3_ n4_ n5_; clear hb hbox hg; have hcz21_0 : w20.cell? ⟨gb137, 0, none⟩ = some (.string (⟨#[]⟩ : ByteArray)) := (blk_cell BK137.out 0).trans rfl; have hcz21_1 : w20.cell? ⟨gb137, 1, none⟩ = some (.string (⟨#[]⟩ : ByteArray)) := (blk_cell BK137.out 1).trans rfl; have hfz21_0 := blk_frozen BK137.out 0; have hfz21_1 := blk_frozen BK137.out 1; obtain ⟨Ao22, co22, eo22⟩ := Kd.R_slice HO_4.out; subst eo22; have p138 : 0 ≤ ((ji11) : Int) := of_decide_eq_true (by first | (with_reducible assumption) | assumption); have q138 : (ji11) < (x4_1.length : Int) := of_decide_eq_true (by first | (with_reducible assumption) | assumption); obtain ⟨ad138, e138, hx138_0, hx138_1⟩ := at_T44 (Kd.R_reads' HO_4.out).2.2 (ji11) p138 q138; cases e138; have hn138_0 : ad138.block ≠ gb137 := Kd.own_blk (by first | exact Kd.R_ne HO_4.out BK137.out (by decide) | exact fun e_ => (HO_4.out.1 _ e_.symm).2 rfl); have hn138_1 : ad138.block ≠ gb137 := Kd.own_blk (by first | exact Kd.R_ne HO_4.out BK137.out (by decide) | exact fun e_ => (HO_4.out.1 _ e_.symm).2 rfl); replace hx138_0 := (cell_far (p := ⟨gb137, 0, none⟩) (by first | (rw [add_block]; exact hn138_0) | (show (Addr.add _ _).block ≠ _; rw [add_block]; exact hn138_0) | exact hn138_0) (.string t134)).trans hx138_0; replace hx138_1 := (cell_far (p := ⟨gb137, 0, none⟩) (by first | (rw [add_block]; exact hn138_0) | (show (Addr.add _ _).block ≠ _; rw [add_block]; exact hn138_0) | exact hn138_0) (.string t134)).trans hx138_1; replace hx138_0 := (cell_far (p := ⟨gb137, 1, none⟩) (by first | (rw [add_block]; exact hn138_1) | (show (Addr.add _ _).block ≠ _; rw [add_block]; exact hn138_1) | exact hn138_1) (.string t135)).trans hx138_0; replace hx138_1 := (cell_far (p := ⟨gb137, 1, none⟩) (by first | (rw [add_block]; exact hn138_1) | (show (Addr.add _ _).block ≠ _; rw [add_block]; exact hn138_1) | exact hn138_1) (.string t135)).trans hx138_1; (try have hy138_0 := fun (n_ : Nat) => (show ((((w20.drewN n_).setCell ⟨gb137, 0, none⟩ (.string t134)).setCell ⟨gb137, 1, none⟩ (.string t135))).cell? _ = some _ from hx138_0)); (try have hy138_1 := fun (n_ : Nat) => (show ((((w20.drewN n_).setCell ⟨gb137, 0, none⟩ (.string t134)).setCell ⟨gb137, 1, none⟩ (.string t135))).cell? _ = some _ from hx138_1)); clear hn138_0; clear hn138_1; replace p138 := eq_true p138; replace q138 := eq_true q138) | ((with_reducible refine gate_builtin (b := .append) (xs := #[.tmp 39, .tmp 41]) rfl ?_); (try (refine gate_guard (by rfl) ?_; dsimp only)); at_builtin; refine Kd.R_append k44 (w0 := w) w.heap.size rfl (.tmp 39) (.tmp 41) 33 44 (.agg #[(.string ⟨#[]⟩), (.string ⟨#[]⟩)]) 32 rfl Tryd.underlying33 info44 rfl (by decide) (by omega) (.slice (some ad138) x4_1.length co22) x4_1 (⟨t134, t135⟩ : S44) [.string t134, .string t135] (fun k_ => (w.heap.size ≤ k_) ∧ k_ ≠ gb137) (fun _ => False) rfl (by first | (go_simp; done) | (go_simp; rfl)) ?aP (fun _ hk => hk.elim) ?aF ?aO ?aB ?aS ?aL ?_; (case aP => exact k44_mkM _ _ _ (⟨t134, t135⟩ : S44)); (case aB => exact (by repeat (first | (with_reducible first | exact HB.out | apply below_alloc | apply pw_below_drewN | apply below_drew1 | refine below_set ?_ GE137.out) | exact HB.out))); (case aF => exact (fun k_ hk => ⟨(Nat.le_trans (below_size (by repeat (first | (with_reducible first | exact HB.out | apply below_alloc | apply pw_below_drewN | apply below_drew1 | refine below_set ?_ GE137.out) | exact HB.out))) hk), Kd.freshB (g := gb137) (o := .cells #[.string t134, .string t135] 44 (0, 0)) (by (with_reducible repeat (first | refine blk_drewN ?_ _ | refine blk_drew ?_ | refine blk_alloc ?_ _)); refine blk_put (cs := #[.string t134, .string (⟨#[]⟩ : ByteArray)]) ?_ 1 _ rfl; (with_reducible repeat (first | refine blk_drewN ?_ _ | refine blk_drew ?_ | refine blk_alloc ?_ _)); refine blk_put (cs := #[.string (⟨#[]⟩ : ByteArray), .string (⟨#[]⟩ : ByteArray)]) ?_ 0 _ rfl; (with_reducible repeat (first | refine blk_drewN ?_ _ | refine blk_drew ?_ | refine blk_alloc ?_ _)); exact BK137.out) k_ hk⟩)); (case aO => exact (by (with_reducible repeat (first | apply Kd.R_alloc | apply Kd.R_drewN | apply Kd.R_drew)); exact Kd.R_mono (Kd.R_far (p := ⟨gb137, 1, none⟩) (Kd.R_far (p := ⟨gb137, 0, none⟩) (Kd.R_mono HO_4.out (fun k_ hk => (⟨hk, hk.2⟩ : _ ∧ k_ ≠ gb137))) (fun _ hk => hk.2) (.string t134)) (fun _ hk => hk.2) (.string t135)) (fun _ hk => ⟨hk.1.1, hk.1.2⟩))); (case aS => exact (below_size (by repeat (first | (with_reducible first | exact HB.out | apply below_alloc | apply pw_below_drewN | apply below_drew1 | refine below_set ?_ GE137.out) | exact HB.out)))); (case aL => have := LMc15.out; omega); intro v140 w23 ho hb hg hat; rw [← Ny139.out] at ho; have n0_ := Aside0.mk (Kd.V_afterv (ok := (fun k_ => (P0_ k_ ∨ w.heap.size ≤ k_) ∧ k_ ≠ gb137)) (by (with_reducible repeat (first | apply Kd.V_alloc | apply Kd.V_drewN | apply Kd.V_drew)); exact Kd.V_mono (Kd.V_far (p := ⟨gb137, 1, none⟩) (Kd.V_far (p := ⟨gb137, 0, none⟩) (Kd.V_mono HO_0.out (fun k_ hk => (⟨hk, hk.2⟩ : _ ∧ k_ ≠ gb137))) (fun _ hk => hk.2) (.string t134)) (fun _ hk => hk.2) (.string t135)) (fun _ hk => ⟨⟨hk.1.1.1, hk.1.2⟩, hk.1.1.2⟩)) hg hat); have n1_ := Aside0.mk (blk_grown (g := gb137) (o := .cells #[.string t134, .string t135] 44 (0, 0)) (by (with_reducible repeat (first | refine blk_drewN ?_ _ | refine blk_drew ?_ | refine blk_alloc ?_ _)); refine blk_put (cs := #[.string t134, .string (⟨#[]⟩ : ByteArray)]) ?_ 1 _ rfl; (with_reducible repeat (first | refine blk_drewN ?_ _ | refine blk_drew ?_ | refine blk_alloc ?_ _)); refine blk_put (cs := #[.string (⟨#[]⟩ : ByteArray), .string (⟨#[]⟩ : ByteArray)]) ?_ 0 _ rfl; (with_reducible repeat (first | refine blk_drewN ?_ _ | refine blk_drew ?_ | refine blk_alloc ?_ _)); exact BK137.out) hg (Kd.R_away HO_4.out (fun _ hk => hk.2))); have n2_ := Aside0.mk (hb); have n3_ := Aside0.mk (ho); clear HO_0; clear BK137; clear HB; clear HO_4; have HO_0 := n0_; have BK137 := n1_; have HB := n2_; have HO141 := n3_; clear n0_ n1_ n2_ n3_; clear ho hb hg hat; have q24 : (t136 : Int) ≤ ((x0_1.length : Int) : Int) := of_decide_eq_true (by first | (with_reducible assumption) | assumption); obtain ⟨i024, hi024, _, hsz24, _⟩ := info_parts info5; have hroom24 : x0_1.length ≤ co18 := (Kd.V_reads' HO_0.out).2.1; have hC24 : Kd.F (Kd.int .u8) _ _ Ao18 x0_1.length x0_1 := (Kd.V_at (base := w.heap.size) HO_0.out).2.2; have q024 : (0 : Int) ≤ (t136 : Int) := of_decide_eq_true (by first | (with_reducible assumption) | assumption); have hcut24 := cut_from (P := Tryd.prog) 31 5 .i64 Tryd.underlying31 hi024 1 hsz24 Ao18 x0_1.length co18 t136 q024 q24; have hr24 := Kd.F_cut (m := (t136 : Int).toNat) (c := co18) hC24 (by omega) hroom24; obtain ⟨A24, hA24⟩ : ∃ A1, A1 = (if co18 = (t136 : Int).toNat then Ao18 else (Ao18 : Option Addr).map (·.add ((t136 : Int).toNat * 1))) := ⟨_, rfl⟩; obtain ⟨c24, hc24⟩ : ∃ c1, c1 = co18 - (t136 : Int).toNat := ⟨_, rfl⟩; have hy24 : y142.length = x0_1.length - (t136 : Int).toNat := (by rw [Ny142.out, List.length_drop] <;> omega); rw [show (x0_1).drop (t136 : Int).toNat = y142 from Ny142.out.symm] at hr24; replace hr24 : Kd.F (Kd.int .u8) _ _ A24 y142.length y142 := (by rw [hA24]; exact hr24); rw [← hy24, ← hA24, ← hc24] at hcut24; have HO146 := Aside0.mk (show Kd.V (Kd.int .u8) 5 _ w.heap.size _ (.slice A24 y142.length c24) y142 from Kd.V_mk (by rw [hy24, hc24]; exact Nat.sub_le_sub_right hroom24 _) hr24); have HC146 := Aside0.mk (show y142.length ≤ c24 from by rw [hy24, hc24]; exact Nat.sub_le_sub_right hroom24 _); clear hr24 hC24 hroom24 hi024 hsz24 hc24; have KY24 := Aside0.mk hy24; have KA24 := Aside0.mk hA24; clear hy24 hA24; replace q24 := eq_true q24)); try go_wp2_with (first | (go_at_call 28; (with_reducible refine (pax_first.calls k1 _ _ x0_1 t134 t135 t136 _ ?side1 ?side2 ?side3 A4.out).mono ?_); (case side1 => repeat (first | exact (Kd.V_reads' HO_0.out).2.2 | (with_reducible refine Kd.C_alloc ?_ _) | (with_reducible refine Kd.C_drewN ?_ _) | (with_reducible refine Kd.C_drew ?_))); (case side2 => exact (Kd.V_reads' HO_0.out).2.1); (case side3 => first | exact HGL.out | exact Gl.drewN HGL.out _ | exact Gl.of HGL.out (by repeat (first | (with_reducible first | exact HB.out | apply below_alloc | apply pw_below_drewN | apply below_drew1) | exact HB.out))); rintro e w19 ⟨rfl, hb⟩; have n0_ := Aside0.mk (Kd.V_below (by (with_reducible repeat (first | apply Kd.V_alloc | apply Kd.V_drewN | apply Kd.V_drew)); exact HO_0.out) hb); have n1_ := Aside0.mk (Kd.R_below (by (with_reducible repeat (first | apply Kd.R_alloc | apply Kd.R_drewN | apply Kd.R_drew)); exact HO_4.out) hb); have n2_ := Aside0.mk (below_step (by repeat (first | (with_reducible first | exact HB.out | apply below_alloc | apply pw_below_drewN | apply below_drew1) | exact HB.out)) hb); clear HO_0; clear HO_4; clear HB; have HO_0 := n0_; have HO_4 := n1_; have HB := n2_; clear n0_ n1_ n2_; (try clear hb); (try clear hb2); (try clear hk); (try clear hi)) | ((with_reducible refine gate_dst (N := 5) rfl ?_); (try (refine gate_guard (by rfl) ?_; dsimp only)); refine box_event ?hg (N := 5) ?hd (cs := #[.string (⟨#[]⟩ : ByteArray), .string (⟨#[]⟩ : ByteArray)]) (t := 44) ?hr ?_; (case hd => rfl); (case hg => rfl); (case hr => first | (go_simp; done) | (go_simp; rfl)); intro gb137 hg w20 hbox hb; have n0_ := Aside0.mk (Kd.V_below (Kd.V_elderB (by (with_reducible repeat (first | apply Kd.V_alloc | apply Kd.V_drewN | apply Kd.V_drew)); exact HO_0.out) gb137 (Nat.le_of_eq hg.symm)) hb); have n1_ := Aside0.mk (Kd.R_below (Kd.R_elderB (by (with_reducible repeat (first | apply Kd.R_alloc | apply Kd.R_drewN | apply Kd.R_drew)); exact HO_4.out) gb137 (Nat.le_of_eq hg.symm)) hb); have n2_ := Aside0.mk (below_step (by repeat (first | (with_reducible first | exact HB.out | apply below_alloc | apply pw_below_drewN | apply below_drew1) | exact HB.out)) hb); have n3_ := Aside0.mk (hbox); have n4_ := Aside0.mk ((by rw [hg]; exact (below_size (by repeat (first | (with_reducible first | exact HB.out | apply below_alloc | apply pw_below_drewN | apply below_drew1) | exact HB.out))) : w.heap.size ≤ gb137)); have n5_ := Aside0.mk ((by rw [hg]; exact (below_size (by repeat (first | (with_reducible first | exact HB.out | apply below_alloc | apply pw_below_drewN | apply below_drew1) | exact HB.out))) : w.heap.size ≤ gb137)); clear HO_0; clear HO_4; clear HB; have HO_0 := n0_; have HO_4 := n1_; have HB := n2_; have BK137 := n3_; have GW137 := n4_; have GE137 := n5_; clear n0_ n1_ n2_ n3_ n4_ n5_; clear hb hbox hg; have hcz21_0 : w20.cell? ⟨gb137, 0, none⟩ = some (.string (⟨#[]⟩ : ByteArray)) := (blk_cell BK137.out 0).trans rfl; have hcz21_1 : w20.cell? ⟨gb137, 1, none⟩ = some (.string (⟨#[]⟩ : ByteArray)) := (blk_cell BK137.out 1).trans rfl; have hfz21_0 := blk_frozen BK137.out 0; have hfz21_1 := blk_frozen BK137.out 1; obtain ⟨Ao22, co22, eo22⟩ := Kd.R_slice HO_4.out; subst eo22; have p138 : 0 ≤ ((ji11) : Int) := of_decide_eq_true (by first | (with_reducible assumption) | assumption); have q138 : (ji11) < (x4_1.length : Int) := of_decide_eq_true (by first | (with_reducible assumption) | assumption); obtain ⟨ad138, e138, hx138_0, hx138_1⟩ := at_T44 (Kd.R_reads' HO_4.out).2.2 (ji11) p138 q138; cases e138; have hn138_0 : ad138.block ≠ gb137 := Kd.own_blk (by first | exact Kd.R_ne HO_4.out BK137.out (by decide) | exact fun e_ => (HO_4.out.1 _ e_.symm).2 rfl); have hn138_1 : ad138.block ≠ gb137 := Kd.own_blk (by first | exact Kd.R_ne HO_4.out BK137.out (by decide) | exact fun e_ => (HO_4.out.1 _ e_.symm).2 rfl); replace hx138_0 := (cell_far (p := ⟨gb137, 0, none⟩) (by first | (rw [add_block]; exact hn138_0) | (show (Addr.add _ _).block ≠ _; rw [add_block]; exact hn138_0) | exact hn138_0) (.string t134)).trans hx138_0; replace hx138_1 := (cell_far (p := ⟨gb137, 0, none⟩) (by first | (rw [add_block]; exact hn138_0) | (show (Addr.add _ _).block ≠ _; rw [add_block]; exact hn138_0) | exact hn138_0) (.string t134)).trans hx138_1; replace hx138_0 := (cell_far (p := ⟨gb137, 1, none⟩) (by first | (rw [add_block]; exact hn138_1) | (show (Addr.add _ _).block ≠ _; rw [add_block]; exact hn138_1) | exact hn138_1) (.string t135)).trans hx138_0; replace hx138_1 := (cell_far (p := ⟨gb137, 1, none⟩) (by first | (rw [add_block]; exact hn138_1) | (show (Addr.add _ _).block ≠ _; rw [add_block]; exact hn138_1) | exact hn138_1) (.string t135)).trans hx138_1; (try have hy138_0 := fun (n_ : Nat) => (show ((((w20.drewN n_).setCell ⟨gb137, 0, none⟩ (.string t134)).setCell ⟨gb137, 1, none⟩ (.string t135))).cell? _ = some _ from hx138_0)); (try have hy138_1 := fun (n_ : Nat) => (show ((((w20.drewN n_).setCell ⟨gb137, 0, none⟩ (.string t134)).setCell ⟨gb137, 1, none⟩ (.string t135))).cell? _ = some _ from hx138_1)); clear hn138_0; clear hn138_1; replace p138 := eq_true p138; replace q138 := eq_true q138) | ((with_reducible refine gate_builtin (b := .append) (xs := #[.tmp 39, .tmp 41]) rfl ?_); (try (refine gate_guard (by rfl) ?_; dsimp only)); at_builtin; refine Kd.R_append k44 (w0 := w) w.heap.size rfl (.tmp 39) (.tmp 41) 33 44 (.agg #[(.string ⟨#[]⟩), (.string ⟨#[]⟩)]) 32 rfl Tryd.underlying33 info44 rfl (by decide) (by omega) (.slice (some ad138) x4_1.length co22) x4_1 (⟨t134, t135⟩ : S44) [.string t134, .string t135] (fun k_ => (w.heap.size ≤ k_) ∧ k_ ≠ gb137) (fun _ => False) rfl (by first | (go_simp; done) | (go_simp; rfl)) ?aP (fun _ hk => hk.elim) ?aF ?aO ?aB ?aS ?aL ?_; (case aP => exact k44_mkM _ _ _ (⟨t134, t135⟩ : S44)); (case aB => exact (by repeat (first | (with_reducible first | exact HB.out | apply below_alloc | apply pw_below_drewN | apply below_drew1 | refine below_set ?_ GE137.out) | exact HB.out))); (case aF => exact (fun k_ hk => ⟨(Nat.le_trans (below_size (by repeat (first | (with_reducible first | exact HB.out | apply below_alloc | apply pw_below_drewN | apply below_drew1 | refine below_set ?_ GE137.out) | exact HB.out))) hk), Kd.freshB (g := gb137) (o := .cells #[.string t134, .string t135] 44 (0, 0)) (by (with_reducible repeat (first | refine blk_drewN ?_ _ | refine blk_drew ?_ | refine blk_alloc ?_ _)); refine blk_put (cs := #[.string t134, .string (⟨#[]⟩ : ByteArray)]) ?_ 1 _ rfl; (with_reducible repeat (first | refine blk_drewN ?_ _ | refine blk_drew ?_ | refine blk_alloc ?_ _)); refine blk_put (cs := #[.string (⟨#[]⟩ : ByteArray), .string (⟨#[]⟩ : ByteArray)]) ?_ 0 _ rfl; (with_reducible repeat (first | refine blk_drewN ?_ _ | refine blk_drew ?_ | refine blk_alloc ?_ _)); exact BK137.out) k_ hk⟩)); (case aO => exact (by (with_reducible repeat (first | apply Kd.R_alloc | apply Kd.R_drewN | apply Kd.R_drew)); exact Kd.R_mono (Kd.R_far (p := ⟨gb137, 1, none⟩) (Kd.R_far (p := ⟨gb137, 0, none⟩) (Kd.R_mono HO_4.out (fun k_ hk => (⟨hk, hk.2⟩ : _ ∧ k_ ≠ gb137))) (fun _ hk => hk.2) (.string t134)) (fun _ hk => hk.2) (.string t135)) (fun _ hk => ⟨hk.1.1, hk.1.2⟩))); (case aS => exact (below_size (by repeat (first | (with_reducible first | exact HB.out | apply below_alloc | apply pw_below_drewN | apply below_drew1 | refine below_set ?_ GE137.out) | exact HB.out)))); (case aL => have := LMc15.out; omega); intro v140 w23 ho hb hg hat; rw [← Ny139.out] at ho; have n0_ := Aside0.mk (Kd.V_afterv (ok := (fun k_ => (P0_ k_ ∨ w.heap.size ≤ k_) ∧ k_ ≠ gb137)) (by (with_reducible repeat (first | apply Kd.V_alloc | apply Kd.V_drewN | apply Kd.V_drew)); exact Kd.V_mono (Kd.V_far (p := ⟨gb137, 1, none⟩) (Kd.V_far (p := ⟨gb137, 0, none⟩) (Kd.V_mono HO_0.out (fun k_ hk => (⟨hk, hk.2⟩ : _ ∧ k_ ≠ gb137))) (fun _ hk => hk.2) (.string t134)) (fun _ hk => hk.2) (.string t135)) (fun _ hk => ⟨⟨hk.1.1.1, hk.1.2⟩, hk.1.1.2⟩)) hg hat); have n1_ := Aside0.mk (blk_grown (g := gb137) (o := .cells #[.string t134, .string t135] 44 (0, 0)) (by (with_reducible repeat (first | refine blk_drewN ?_ _ | refine blk_drew ?_ | refine blk_alloc ?_ _)); refine blk_put (cs := #[.string t134, .string (⟨#[]⟩ : ByteArray)]) ?_ 1 _ rfl; (with_reducible repeat (first | refine blk_drewN ?_ _ | refine blk_drew ?_ | refine blk_alloc ?_ _)); refine blk_put (cs := #[.string (⟨#[]⟩ : ByteArray), .string (⟨#[]⟩ : ByteArray)]) ?_ 0 _ rfl; (with_reducible repeat (first | refine blk_drewN ?_ _ | refine blk_drew ?_ | refine blk_alloc ?_ _)); exact BK137.out) hg (Kd.R_away HO_4.out (fun _ hk => hk.2))); have n2_ := Aside0.mk (hb); have n3_ := Aside0.mk (ho); clear HO_0; clear BK137; clear HB; clear HO_4; have HO_0 := n0_; have BK137 := n1_; have HB := n2_; have HO141 := n3_; clear n0_ n1_ n2_ n3_; clear ho hb hg hat; have q24 : (t136 : Int) ≤ ((x0_1.length : Int) : Int) := of_decide_eq_true (by first | (with_reducible assumption) | assumption); obtain ⟨i024, hi024, _, hsz24, _⟩ := info_parts info5; have hroom24 : x0_1.length ≤ co18 := (Kd.V_reads' HO_0.out).2.1; have hC24 : Kd.F (Kd.int .u8) _ _ Ao18 x0_1.length x0_1 := (Kd.V_at (base := w.heap.size) HO_0.out).2.2; have q024 : (0 : Int) ≤ (t136 : Int) := of_decide_eq_true (by first | (with_reducible assumption) | assumption); have hcut24 := cut_from (P := Tryd.prog) 31 5 .i64 Tryd.underlying31 hi024 1 hsz24 Ao18 x0_1.length co18 t136 q024 q24; have hr24 := Kd.F_cut (m := (t136 : Int).toNat) (c := co18) hC24 (by omega) hroom24; obtain ⟨A24, hA24⟩ : ∃ A1, A1 = (if co18 = (t136 : Int).toNat then Ao18 else (Ao18 : Option Addr).map (·.add ((t136 : Int).toNat * 1))) := ⟨_, rfl⟩; obtain ⟨c24, hc24⟩ : ∃ c1, c1 = co18 - (t136 : Int).toNat := ⟨_, rfl⟩; have hy24 : y142.length = x0_1.length - (t136 : Int).toNat := (by rw [Ny142.out, List.length_drop] <;> omega); rw [show (x0_1).drop (t136 : Int).toNat = y142 from Ny142.out.symm] at hr24; replace hr24 : Kd.F (Kd.int .u8) _ _ A24 y142.length y142 := (by rw [hA24]; exact hr24); rw [← hy24, ← hA24, ← hc24] at hcut24; have HO146 := Aside0.mk (show Kd.V (Kd.int .u8) 5 _ w.heap.size _ (.slice A24 y142.length c24) y142 from Kd.V_mk (by rw [hy24, hc24]; exact Nat.sub_le_sub_right hroom24 _) hr24); have HC146 := Aside0.mk (show y142.length ≤ c24 from by rw [hy24, hc24]; exact Nat.sub_le_sub_right hroom24 _); clear hr24 hC24 hroom24 hi024 hsz24 hc24; have KY24 := Aside0.mk hy24; have KA24 := Aside0.mk hA24; clear hy24 hA24; replace q24 := eq_true q24)))
                          go_roundg k1
                          case measure => have := HK1.out; omega
                          case rel => exact ⟨(y142), (y139), H', ⟨by have := HK1.out; omega⟩, ⟨by (with_reducible repeat (first | apply Kd.V_alloc | apply Kd.V_drewN | apply Kd.V_drew)); exact Kd.V_mono HO146.out (fun _ hk => ⟨hk.1.1, hk.2⟩)⟩, ⟨by (with_reducible repeat (first | apply Kd.R_alloc | apply Kd.R_drewN | apply Kd.R_drew)); exact Kd.R_mono HO141.out (fun _ hk => hk.1)⟩, ⟨by repeat (first | (with_reducible first | exact HB.out | apply below_alloc | apply pw_below_drewN | apply below_drew1 | refine below_set ?_ GE137.out) | exact HB.out)⟩⟩
                        · rw [if_neg c17] at H
                          exact absurd H (by simp)
                      · rw [if_neg c16] at H
                        exact absurd H (by simp)
                    · rw [if_neg c15] at H
                      exact absurd H (by simp)
                  · rw [if_neg c14] at H
                    have c14b0 : (Op.bytesLess (((rd_T44 x4_1 (ji11)).f0).toList) t134.toList) = false := by simpa using c14
                    clear c14
                    simp only [Option.some.injEq, Prod.mk.injEq] at H
                    obtain ⟨rfl, rfl⟩ := H
                    obtain ⟨Ao25, co25, eo25⟩ := Kd.V_slice HO_0.out
                    subst eo25
                    go_wp2_with (first | (go_at_call 28; (with_reducible refine (pax_first.calls k1 _ _ x0_1 t134 t135 t136 _ ?side1 ?side2 ?side3 A4.out).mono ?_); (case side1 => repeat (first | exact (Kd.V_reads' HO_0.out).2.2 | (with_reducible refine Kd.C_alloc ?_ _) | (with_reducible refine Kd.C_drewN ?_ _) | (with_reducible refine Kd.C_drew ?_))); (case side2 => exact (Kd.V_reads' HO_0.out).2.1); (case side3 => first | exact HGL.out | exact Gl.drewN HGL.out _ | exact Gl.of HGL.out (by repeat (first | (with_reducible first | exact HB.out | apply below_alloc | apply pw_below_drewN | apply below_drew1) | exact HB.out))); rintro e w26 ⟨rfl, hb⟩; have n0_ := Aside0.mk (Kd.V_below (by (with_reducible repeat (first | apply Kd.V_alloc | apply Kd.V_drewN | apply Kd.V_drew)); exact HO_0.out) hb); have n1_ := Aside0.mk (Kd.R_below (by (with_reducible repeat (first | apply Kd.R_alloc | apply Kd.R_drewN | apply Kd.R_drew)); exact HO_4.out) hb); have n2_ := Aside0.mk (below_step (by repeat (first | (with_reducible first | exact HB.out | apply below_alloc | apply pw_below_drewN | apply below_drew1) | exact HB.out)) hb); clear HO_0; clear HO_4; clear HB; have HO_0 := n0_; have HO_4 := n1_; have HB := n2_; clear n0_ n1_ n2_; (try clear hb); (try clear hb2); (try clear hk); (try clear hi)) | ((with_reducible refine gate_dst (N := 5) rfl ?_); (try (refine gate_guard (by rfl) ?_; dsimp only)); refine box_event ?hg (N := 5) ?hd (cs := #[.string (⟨#[]⟩ : ByteArray), .string (⟨#[]⟩ : ByteArray)]) (t := 44) ?hr ?_; (case hd => rfl); (case hg => rfl); (case hr => first | (go_simp; done) | (go_simp; rfl)); intro gb137 hg w27 hbox hb; have n0_ := Aside0.mk (Kd.V_below (Kd.V_elderB (by (with_reducible repeat (first | apply Kd.V_alloc | apply Kd.V_drewN | apply Kd.V_drew)); exact HO_0.out) gb137 (Nat.le_of_eq hg.symm)) hb); have n1_ := Aside0.mk (Kd.R_below (Kd.R_elderB (by (with_reducible repeat (first | apply Kd.R_alloc | apply Kd.R_drewN | apply Kd.R_drew)); exact HO_4.out) gb137 (Nat.le_of_eq hg.symm)) hb); have n2_ := Aside0.mk (below_step (by repeat (first | (with_reducible first | exact HB.out | apply below_alloc | apply pw_below_drewN | apply below_drew1) | exact HB.out)) hb); have n3_ := Aside0.mk (hbox); have n4_ := Aside0.mk ((by rw [hg]; exact (below_size (by repeat (first | (with_reducible first | exact HB.out | apply below_alloc | apply pw_below_drewN | apply below_drew1) | exact HB.out))) : w.heap.size ≤ gb137)); have n5_ := Aside0.mk ((by rw [hg]; exact (below_size (by repeat (first | (with_reducible first | exact HB.out | apply below_alloc | apply pw_below_drewN | apply below_drew1) | exact HB.out))) : w.heap.size ≤ gb137)); clear HO_0; clear HO_4; clear HB; have HO_0 := n0_; have HO_4 := n1_; have HB := n2_; have BK137 := n3_; have GW137 := n4_; have GE137 := n5_; clear n0_ n1_ n2_ n3_ n4_ n5_; clear hb hbox hg; have hcz28_0 : w27.cell? ⟨gb137, 0, none⟩ = some (.string (⟨#[]⟩ : ByteArray)) := (blk_cell BK137.out 0).trans rfl; have hcz28_1 : w27.cell? ⟨gb137, 1, none⟩ = some (.string (⟨#[]⟩ : ByteArray)) := (blk_cell BK137.out 1).trans rfl; have hfz28_0 := blk_frozen BK137.out 0; have hfz28_1 := blk_frozen BK137.out 1; obtain ⟨Ao29, co29, eo29⟩ := Kd.R_slice HO_4.out; subst eo29; have p138 : 0 ≤ ((ji11) : Int) := of_decide_eq_true (by first | (with_reducible assumption) | assumption); have q138 : (ji11) < (x4_1.length : Int) := of_decide_eq_true (by first | (with_reducible assumption) | assumption); obtain ⟨ad138, e138, hx138_0, hx138_1⟩ := at_T44 (Kd.R_reads' HO_4.out).2.2 (ji11) p138 q138; cases e138; have hn138_0 : ad138.block ≠ gb137 := Kd.own_blk (by first | exact Kd.R_ne HO_4.out BK137.out (by decide) | exact fun e_ => (HO_4.out.1 _ e_.symm).2 rfl); have hn138_1 : ad138.block ≠ gb137 := Kd.own_blk (by first | exact Kd.R_ne HO_4.out BK137.out (by decide) | exact fun e_ => (HO_4.out.1 _ e_.symm).2 rfl); replace hx138_0 := (cell_far (p := ⟨gb137, 0, none⟩) (by first | (rw [add_block]; exact hn138_0) | (show (Addr.add _ _).block ≠ _; rw [add_block]; exact hn138_0) | exact hn138_0) (.string t134)).trans hx138_0; replace hx138_1 := (cell_far (p := ⟨gb137, 0, none⟩) (by first | (rw [add_block]; exact hn138_0) | (show (Addr.add _ _).block ≠ _; rw [add_block]; exact hn138_0) | exact hn138_0) (.string t134)).trans hx138_1; replace hx138_0 := (cell_far (p := ⟨gb137, 1, none⟩) (by first | (rw [add_block]; exact hn138_1) | (show (Addr.add _ _).block ≠ _; rw [add_block]; exact hn138_1) | exact hn138_1) (.string t135)).trans hx138_0; replace hx138_1 := (cell_far (p := ⟨gb137, 1, none⟩) (by first | (rw [add_block]; exact hn138_1) | (show (Addr.add _ _).block ≠ _; rw [add_block]; exact hn138_1) | exact hn138_1) (.string t135)).trans hx138_1; (try have hy138_0 := fun (n_ : Nat) => (show ((((w27.drewN n_).setCell ⟨gb137, 0, none⟩ (.string t134)).setCell ⟨gb137, 1, none⟩ (.string t135))).cell? _ = some _ from hx138_0)); (try have hy138_1 := fun (n_ : Nat) => (show ((((w27.drewN n_).setCell ⟨gb137, 0, none⟩ (.string t134)).setCell ⟨gb137, 1, none⟩ (.string t135))).cell? _ = some _ from hx138_1)); clear hn138_0; clear hn138_1; replace p138 := eq_true p138; replace q138 := eq_true q138))
                    repeat (go_quiet (first | (go_at_call 28; (with_reducible refine (pax_first.calls k1 _ _ x0_1 t134 t135 t136 _ ?side1 ?side2 ?side3 A4.out).mono ?_); (case side1 => repeat (first | exact (Kd.V_reads' HO_0.out).2.2 | (with_reducible refine Kd.C_alloc ?_ _) | (with_reducible refine Kd.C_drewN ?_ _) | (with_reducible refine Kd.C_drew ?_))); (case side2 => exact (Kd.V_reads' HO_0.out).2.1); (case side3 => first | exact HGL.out | exact Gl.drewN HGL.out _ | exact Gl.of HGL.out (by repeat (first | (with_reducible first | exact HB.out | apply below_alloc | apply pw_below_drewN | apply below_drew1) | exact HB.out))); rintro e w26 ⟨rfl, hb⟩; have n0_ := Aside0.mk (Kd.V_below (by (with_reducible repeat (first | apply Kd.V_alloc | apply Kd.V_drewN | apply Kd.V_drew)); exact HO_0.out) hb); have n1_ := Aside0.mk (Kd.R_below (by (with_reducible repeat (first | apply Kd.R_alloc | apply Kd.R_drewN | apply Kd.R_drew)); exact HO_4.out) hb); have n2_ := Aside0.mk (below_step (by repeat (first | (with_reducible first | exact HB.out | apply below_alloc | apply pw_below_drewN | apply below_drew1) | exact HB.out)) hb); clear HO_0; clear HO_4; clear HB; have HO_0 := n0_; have HO_4 := n1_; have HB := n2_; clear n0_ n1_ n2_; (try clear hb); (try clear hb2); (try clear hk); (try clear hi)) | ((with_reducible refine gate_dst (N := 5) rfl ?_); (try (refine gate_guard (by rfl) ?_; dsimp only)); refine box_event ?hg (N := 5) ?hd (cs := #[.string (⟨#[]⟩ : ByteArray), .string (⟨#[]⟩ : ByteArray)]) (t := 44) ?hr ?_; (case hd => rfl); (case hg => rfl); (case hr => first | (go_simp; done) | (go_simp; rfl)); intro gb137 hg w27 hbox hb; have n0_ := Aside0.mk (Kd.V_below (Kd.V_elderB (by (with_reducible repeat (first | apply Kd.V_alloc | apply Kd.V_drewN | apply Kd.V_drew)); exact HO_0.out) gb137 (Nat.le_of_eq hg.symm)) hb); have n1_ := Aside0.mk (Kd.R_below (Kd.R_elderB (by (with_reducible repeat (first | apply Kd.R_alloc | apply Kd.R_drewN | apply Kd.R_drew)); exact HO_4.out) gb137 (Nat.le_of_eq hg.symm)) hb); have n2_ := Aside0.mk (below_step (by repeat (first | (with_reducible first | exact HB.out | apply below_alloc | apply pw_below_drewN | apply below_drew1) | exact HB.out)) hb); have n3_ := Aside0.mk (hbox); have n4_ := Aside0.mk ((by rw [hg]; exact (below_size (by repeat (first | (with_reducible first | exact HB.out | apply below_alloc | apply pw_below_drewN | apply below_drew1) | exact HB.out))) : w.heap.size ≤ gb137)); have n5_ := Aside0.mk ((by rw [hg]; exact (below_size (by repeat (first | (with_reducible first | exact HB.out | apply below_alloc | apply pw_below_drewN | apply below_drew1) | exact HB.out))) : w.heap.size ≤ gb137)); clear HO_0; clear HO_4; clear HB; have HO_0 := n0_; have HO_4 := n1_; have HB := n2_; have BK137 := n3_; have GW137 := n4_; have GE137 := n5_; clear n0_ n1_ n2_ n3_ n4_ n5_; clear hb hbox hg; have hcz28_0 : w27.cell? ⟨gb137, 0, none⟩ = some (.string (⟨#[]⟩ : ByteArray)) := (blk_cell BK137.out 0).trans rfl; have hcz28_1 : w27.cell? ⟨gb137, 1, none⟩ = some (.string (⟨#[]⟩ : ByteArray)) := (blk_cell BK137.out 1).trans rfl; have hfz28_0 := blk_frozen BK137.out 0; have hfz28_1 := blk_frozen BK137.out 1; obtain ⟨Ao29, co29, eo29⟩ := Kd.R_slice HO_4.out; subst eo29; have p138 : 0 ≤ ((ji11) : Int) := of_decide_eq_true (by first | (with_reducible assumption) | assumption); have q138 : (ji11) < (x4_1.length : Int) := of_decide_eq_true (by first | (with_reducible assumption) | assumption); obtain ⟨ad138, e138, hx138_0, hx138_1⟩ := at_T44 (Kd.R_reads' HO_4.out).2.2 (ji11) p138 q138; cases e138; have hn138_0 : ad138.block ≠ gb137 := Kd.own_blk (by first | exact Kd.R_ne HO_4.out BK137.out (by decide) | exact fun e_ => (HO_4.out.1 _ e_.symm).2 rfl); have hn138_1 : ad138.block ≠ gb137 := Kd.own_blk (by first | exact Kd.R_ne HO_4.out BK137.out (by decide) | exact fun e_ => (HO_4.out.1 _ e_.symm).2 rfl); replace hx138_0 := (cell_far (p := ⟨gb137, 0, none⟩) (by first | (rw [add_block]; exact hn138_0) | (show (Addr.add _ _).block ≠ _; rw [add_block]; exact hn138_0) | exact hn138_0) (.string t134)).trans hx138_0; replace hx138_1 := (cell_far (p := ⟨gb137, 0, none⟩) (by first | (rw [add_block]; exact hn138_0) | (show (Addr.add _ _).block ≠ _; rw [add_block]; exact hn138_0) | exact hn138_0) (.string t134)).trans hx138_1; replace hx138_0 := (cell_far (p := ⟨gb137, 1, none⟩) (by first | (rw [add_block]; exact hn138_1) | (show (Addr.add _ _).block ≠ _; rw [add_block]; exact hn138_1) | exact hn138_1) (.string t135)).trans hx138_0; replace hx138_1 := (cell_far (p := ⟨gb137, 1, none⟩) (by first | (rw [add_block]; exact hn138_1) | (show (Addr.add _ _).block ≠ _; rw [add_block]; exact hn138_1) | exact hn138_1) (.string t135)).trans hx138_1; (try have hy138_0 := fun (n_ : Nat) => (show ((((w27.drewN n_).setCell ⟨gb137, 0, none⟩ (.string t134)).setCell ⟨gb137, 1, none⟩ (.string t135))).cell? _ = some _ from hx138_0)); (try have hy138_1 := fun (n_ : Nat) => (show ((((w27.drewN n_).setCell ⟨gb137, 0, none⟩ (.string t134)).setCell ⟨gb137, 1, none⟩ (.string t135))).cell? _ = some _ from hx138_1)); clear hn138_0; clear hn138_1; replace p138 := eq_true p138; replace q138 := eq_true q138)); try go_wp2_with (first | (go_at_call 28; (with_reducible refine (pax_first.calls k1 _ _ x0_1 t134 t135 t136 _ ?side1 ?side2 ?side3 A4.out).mono ?_); (case side1 => repeat (first | exact (Kd.V_reads' HO_0.out).2.2 | (with_reducible refine Kd.C_alloc ?_ _) | (with_reducible refine Kd.C_drewN ?_ _) | (with_reducible refine Kd.C_drew ?_))); (case side2 => exact (Kd.V_reads' HO_0.out).2.1); (case side3 => first | exact HGL.out | exact Gl.drewN HGL.out _ | exact Gl.of HGL.out (by repeat (first | (with_reducible first | exact HB.out | apply below_alloc | apply pw_below_drewN | apply below_drew1) | exact HB.out))); rintro e w26 ⟨rfl, hb⟩; have n0_ := Aside0.mk (Kd.V_below (by (with_reducible repeat (first | apply Kd.V_alloc | apply Kd.V_drewN | apply Kd.V_drew)); exact HO_0.out) hb); have n1_ := Aside0.mk (Kd.R_below (by (with_reducible repeat (first | apply Kd.R_alloc | apply Kd.R_drewN | apply Kd.R_drew)); exact HO_4.out) hb); have n2_ := Aside0.mk (below_step (by repeat (first | (with_reducible first | exact HB.out | apply below_alloc | apply pw_below_drewN | apply below_drew1) | exact HB.out)) hb); clear HO_0; clear HO_4; clear HB; have HO_0 := n0_; have HO_4 := n1_; have HB := n2_; clear n0_ n1_ n2_; (try clear hb); (try clear hb2); (try clear hk); (try clear hi)) | ((with_reducible refine gate_dst (N := 5) rfl ?_); (try (refine gate_guard (by rfl) ?_; dsimp only)); refine box_event ?hg (N := 5) ?hd (cs := #[.string (⟨#[]⟩ : ByteArray), .string (⟨#[]⟩ : ByteArray)]) (t := 44) ?hr ?_; (case hd => rfl); (case hg => rfl); (case hr => first | (go_simp; done) | (go_simp; rfl)); intro gb137 hg w27 hbox hb; have n0_ := Aside0.mk (Kd.V_below (Kd.V_elderB (by (with_reducible repeat (first | apply Kd.V_alloc | apply Kd.V_drewN | apply Kd.V_drew)); exact HO_0.out) gb137 (Nat.le_of_eq hg.symm)) hb); have n1_ := Aside0.mk (Kd.R_below (Kd.R_elderB (by (with_reducible repeat (first | apply Kd.R_alloc | apply Kd.R_drewN | apply Kd.R_drew)); exact HO_4.out) gb137 (Nat.le_of_eq hg.symm)) hb); have n2_ := Aside0.mk (below_step (by repeat (first | (with_reducible first | exact HB.out | apply below_alloc | apply pw_below_drewN | apply below_drew1) | exact HB.out)) hb); have n3_ := Aside0.mk (hbox); have n4_ := Aside0.mk ((by rw [hg]; exact (below_size (by repeat (first | (with_reducible first | exact HB.out | apply below_alloc | apply pw_below_drewN | apply below_drew1) | exact HB.out))) : w.heap.size ≤ gb137)); have n5_ := Aside0.mk ((by rw [hg]; exact (below_size (by repeat (first | (with_reducible first | exact HB.out | apply below_alloc | apply pw_below_drewN | apply below_drew1) | exact HB.out))) : w.heap.size ≤ gb137)); clear HO_0; clear HO_4; clear HB; have HO_0 := n0_; have HO_4 := n1_; have HB := n2_; have BK137 := n3_; have GW137 := n4_; have GE137 := n5_; clear n0_ n1_ n2_ n3_ n4_ n5_; clear hb hbox hg; have hcz28_0 : w27.cell? ⟨gb137, 0, none⟩ = some (.string (⟨#[]⟩ : ByteArray)) := (blk_cell BK137.out 0).trans rfl; have hcz28_1 : w27.cell? ⟨gb137, 1, none⟩ = some (.string (⟨#[]⟩ : ByteArray)) := (blk_cell BK137.out 1).trans rfl; have hfz28_0 := blk_frozen BK137.out 0; have hfz28_1 := blk_frozen BK137.out 1; obtain ⟨Ao29, co29, eo29⟩ := Kd.R_slice HO_4.out; subst eo29; have p138 : 0 ≤ ((ji11) : Int) := of_decide_eq_true (by first | (with_reducible assumption) | assumption); have q138 : (ji11) < (x4_1.length : Int) := of_decide_eq_true (by first | (with_reducible assumption) | assumption); obtain ⟨ad138, e138, hx138_0, hx138_1⟩ := at_T44 (Kd.R_reads' HO_4.out).2.2 (ji11) p138 q138; cases e138; have hn138_0 : ad138.block ≠ gb137 := Kd.own_blk (by first | exact Kd.R_ne HO_4.out BK137.out (by decide) | exact fun e_ => (HO_4.out.1 _ e_.symm).2 rfl); have hn138_1 : ad138.block ≠ gb137 := Kd.own_blk (by first | exact Kd.R_ne HO_4.out BK137.out (by decide) | exact fun e_ => (HO_4.out.1 _ e_.symm).2 rfl); replace hx138_0 := (cell_far (p := ⟨gb137, 0, none⟩) (by first | (rw [add_block]; exact hn138_0) | (show (Addr.add _ _).block ≠ _; rw [add_block]; exact hn138_0) | exact hn138_0) (.string t134)).trans hx138_0; replace hx138_1 := (cell_far (p := ⟨gb137, 0, none⟩) (by first | (rw [add_block]; exact hn138_0) | (show (Addr.add _ _).block ≠ _; rw [add_block]; exact hn138_0) | exact hn138_0) (.string t134)).trans hx138_1; replace hx138_0 := (cell_far (p := ⟨gb137, 1, none⟩) (by first | (rw [add_block]; exact hn138_1) | (show (Addr.add _ _).block ≠ _; rw [add_block]; exact hn138_1) | exact hn138_1) (.string t135)).trans hx138_0; replace hx138_1 := (cell_far (p := ⟨gb137, 1, none⟩) (by first | (rw [add_block]; exact hn138_1) | (show (Addr.add _ _).block ≠ _; rw [add_block]; exact hn138_1) | exact hn138_1) (.string t135)).trans hx138_1; (try have hy138_0 := fun (n_ : Nat) => (show ((((w27.drewN n_).setCell ⟨gb137, 0, none⟩ (.string t134)).setCell ⟨gb137, 1, none⟩ (.string t135))).cell? _ = some _ from hx138_0)); (try have hy138_1 := fun (n_ : Nat) => (show ((((w27.drewN n_).setCell ⟨gb137, 0, none⟩ (.string t134)).setCell ⟨gb137, 1, none⟩ (.string t135))).cell? _ = some _ from hx138_1)); clear hn138_0; clear hn138_1; replace p138 := eq_true p138; replace q138 := eq_true q138)))
                    go_ret2
                    exact ⟨_, by first | rfl | (simp [errW_none, errW_some] <;> rfl) | (simp only [← hji11]; first | rfl | (simp [errW_none, errW_some] <;> rfl)) | (simp [*, errW_none, errW_some] <;> rfl), by first | exact Kd.R_nil _ _ _ _ _ | exact Kd.N_nil _ _ _ _ _ | exact Kd.V_nil _ _ _ _ _ | exact Kd.Q_nil _ _ _ _ _ | exact Kd.S_nil _ _ _ _ _, by repeat (first | (with_reducible first | exact HB.out | apply below_alloc | apply pw_below_drewN | apply below_drew1 | refine below_set ?_ GE137.out) | exact HB.out)⟩
                · rw [if_neg c13] at H
                  exact absurd H (by simp)
              · rw [if_neg c12] at H
                exact absurd H (by simp)
            · rw [if_neg c10] at H
              have c10b0 : decide (0 < (x4_1.length : Int)) = false := decide_eq_false c10
              have c10b1 : decide (0 < x4_1.length) = false := decide_eq_false (by omega)
              clear c10
              by_cases c30 : x4_1.length < 4398046511104
              · rw [if_pos c30] at H
                have LMc30 := Aside0.mk c30
                clear c30
                obtain ⟨y147, hy147⟩ : ∃ y_ : List (S44), y_ = (x4_1 ++ [(⟨t134, t135⟩ : S44)]) := ⟨_, rfl⟩
                replace H : (if 0 ≤ t136 then (if t136 ≤ (x0_1.length : Int) then (pax_Decode.l0 k1 (x0_1.drop (t136 : Int).toNat) y147) else (none)) else (none)) = some (r1, r2) := by first | (rw [hy147]; with_reducible exact H) | (have H2_ := (Option.bind_some _ _).symm.trans H; rw [hy147]; with_reducible exact H2_) | (have H2_ := (Option.bind_some _ _).symm.trans H; with_reducible exact H2_) | with_reducible exact H | (rw [hy147]; exact H) | exact H
                have Ny147 := Aside0.mk hy147
                clear hy147
                by_cases c31 : 0 ≤ t136
                · rw [if_pos c31] at H
                  have c31b0 := eq_true c31
                  have c31b1 : decide (0 ≤ t136) = true := decide_eq_true c31
                  clear c31
                  by_cases c32 : t136 ≤ (x0_1.length : Int)
                  · rw [if_pos c32] at H
                    have c32b0 := eq_true c32
                    have c32b1 : decide (t136 ≤ (x0_1.length : Int)) = true := decide_eq_true c32
                    clear c32
                    obtain ⟨y150, hy150⟩ : ∃ y_ : List Int, y_ = (x0_1.drop (t136 : Int).toNat) := ⟨_, rfl⟩
                    replace H : (pax_Decode.l0 k1 y150 y147) = some (r1, r2) := by first | (rw [hy150]; with_reducible exact H) | (have H2_ := (Option.bind_some _ _).symm.trans H; rw [hy150]; with_reducible exact H2_) | (have H2_ := (Option.bind_some _ _).symm.trans H; with_reducible exact H2_) | with_reducible exact H | (rw [hy150]; exact H) | exact H
                    have Ny150 := Aside0.mk hy150
                    clear hy150
                    have H' := Aside0.mk H
                    clear H
                    obtain ⟨Ao33, co33, eo33⟩ := Kd.V_slice HO_0.out
                    subst eo33
                    go_wp2_with (first | (go_at_call 28; (with_reducible refine (pax_first.calls k1 _ _ x0_1 t134 t135 t136 _ ?side1 ?side2 ?side3 A4.out).mono ?_); (case side1 => repeat (first | exact (Kd.V_reads' HO_0.out).2.2 | (with_reducible refine Kd.C_alloc ?_ _) | (with_reducible refine Kd.C_drewN ?_ _) | (with_reducible refine Kd.C_drew ?_))); (case side2 => exact (Kd.V_reads' HO_0.out).2.1); (case side3 => first | exact HGL.out | exact Gl.drewN HGL.out _ | exact Gl.of HGL.out (by repeat (first | (with_reducible first | exact HB.out | apply below_alloc | apply pw_below_drewN | apply below_drew1) | exact HB.out))); rintro e w34 ⟨rfl, hb⟩; have n0_ := Aside0.mk (Kd.V_below (by (with_reducible repeat (first | apply Kd.V_alloc | apply Kd.V_drewN | apply Kd.V_drew)); exact HO_0.out) hb); have n1_ := Aside0.mk (Kd.R_below (by (with_reducible repeat (first | apply Kd.R_alloc | apply Kd.R_drewN | apply Kd.R_drew)); exact HO_4.out) hb); have n2_ := Aside0.mk (below_step (by repeat (first | (with_reducible first | exact HB.out | apply below_alloc | apply pw_below_drewN | apply below_drew1) | exact HB.out)) hb); clear HO_0; clear HO_4; clear HB; have HO_0 := n0_; have HO_4 := n1_; have HB := n2_; clear n0_ n1_ n2_; (try clear hb); (try clear hb2); (try clear hk); (try clear hi)) | ((with_reducible refine gate_dst (N := 5) rfl ?_); (try (refine gate_guard (by rfl) ?_; dsimp only)); refine box_event ?hg (N := 5) ?hd (cs := #[.string (⟨#[]⟩ : ByteArray), .string (⟨#[]⟩ : ByteArray)]) (t := 44) ?hr ?_; (case hd => rfl); (case hg => rfl); (case hr => first | (go_simp; done) | (go_simp; rfl)); intro gb137 hg w35 hbox hb; have n0_ := Aside0.mk (Kd.V_below (Kd.V_elderB (by (with_reducible repeat (first | apply Kd.V_alloc | apply Kd.V_drewN | apply Kd.V_drew)); exact HO_0.out) gb137 (Nat.le_of_eq hg.symm)) hb); have n1_ := Aside0.mk (Kd.R_below (Kd.R_elderB (by (with_reducible repeat (first | apply Kd.R_alloc | apply Kd.R_drewN | apply Kd.R_drew)); exact HO_4.out) gb137 (Nat.le_of_eq hg.symm)) hb); have n2_ := Aside0.mk (below_step (by repeat (first | (with_reducible first | exact HB.out | apply below_alloc | apply pw_below_drewN | apply below_drew1) | exact HB.out)) hb); have n3_ := Aside0.mk (hbox); have n4_ := Aside0.mk ((by rw [hg]; exact (below_size (by repeat (first | (with_reducible first | exact HB.out | apply below_alloc | apply pw_below_drewN | apply below_drew1) | exact HB.out))) : w.heap.size ≤ gb137)); have n5_ := Aside0.mk ((by rw [hg]; exact (below_size (by repeat (first | (with_reducible first | exact HB.out | apply below_alloc | apply pw_below_drewN | apply below_drew1) | exact HB.out))) : w.heap.size ≤ gb137)); clear HO_0; clear HO_4; clear HB; have HO_0 := n0_; have HO_4 := n1_; have HB := n2_; have BK137 := n3_; have GW137 := n4_; have GE137 := n5_; clear n0_ n1_ n2_ n3_ n4_ n5_; clear hb hbox hg; have hcz36_0 : w35.cell? ⟨gb137, 0, none⟩ = some (.string (⟨#[]⟩ : ByteArray)) := (blk_cell BK137.out 0).trans rfl; have hcz36_1 : w35.cell? ⟨gb137, 1, none⟩ = some (.string (⟨#[]⟩ : ByteArray)) := (blk_cell BK137.out 1).trans rfl; have hfz36_0 := blk_frozen BK137.out 0; have hfz36_1 := blk_frozen BK137.out 1; obtain ⟨Ao37, co37, eo37⟩ := Kd.R_slice HO_4.out; subst eo37) | ((with_reducible refine gate_builtin (b := .append) (xs := #[.tmp 39, .tmp 41]) rfl ?_); (try (refine gate_guard (by rfl) ?_; dsimp only)); at_builtin; refine Kd.R_append k44 (w0 := w) w.heap.size rfl (.tmp 39) (.tmp 41) 33 44 (.agg #[(.string ⟨#[]⟩), (.string ⟨#[]⟩)]) 32 rfl Tryd.underlying33 info44 rfl (by decide) (by omega) (.slice Ao37 x4_1.length co37) x4_1 (⟨t134, t135⟩ : S44) [.string t134, .string t135] (fun k_ => (w.heap.size ≤ k_) ∧ k_ ≠ gb137) (fun _ => False) rfl (by first | (go_simp; done) | (go_simp; rfl)) ?aP (fun _ hk => hk.elim) ?aF ?aO ?aB ?aS ?aL ?_; (case aP => exact k44_mkM _ _ _ (⟨t134, t135⟩ : S44)); (case aB => exact (by repeat (first | (with_reducible first | exact HB.out | apply below_alloc | apply pw_below_drewN | apply below_drew1 | refine below_set ?_ GE137.out) | exact HB.out))); (case aF => exact (fun k_ hk => ⟨(Nat.le_trans (below_size (by repeat (first | (with_reducible first | exact HB.out | apply below_alloc | apply pw_below_drewN | apply below_drew1 | refine below_set ?_ GE137.out) | exact HB.out))) hk), Kd.freshB (g := gb137) (o := .cells #[.string t134, .string t135] 44 (0, 0)) (by (with_reducible repeat (first | refine blk_drewN ?_ _ | refine blk_drew ?_ | refine blk_alloc ?_ _)); refine blk_put (cs := #[.string t134, .string (⟨#[]⟩ : ByteArray)]) ?_ 1 _ rfl; (with_reducible repeat (first | refine blk_drewN ?_ _ | refine blk_drew ?_ | refine blk_alloc ?_ _)); refine blk_put (cs := #[.string (⟨#[]⟩ : ByteArray), .string (⟨#[]⟩ : ByteArray)]) ?_ 0 _ rfl; (with_reducible repeat (first | refine blk_drewN ?_ _ | refine blk_drew ?_ | refine blk_alloc ?_ _)); exact BK137.out) k_ hk⟩)); (case aO => exact (by (with_reducible repeat (first | apply Kd.R_alloc | apply Kd.R_drewN | apply Kd.R_drew)); exact Kd.R_mono (Kd.R_far (p := ⟨gb137, 1, none⟩) (Kd.R_far (p := ⟨gb137, 0, none⟩) (Kd.R_mono HO_4.out (fun k_ hk => (⟨hk, hk.2⟩ : _ ∧ k_ ≠ gb137))) (fun _ hk => hk.2) (.string t134)) (fun _ hk => hk.2) (.string t135)) (fun _ hk => ⟨hk.1.1, hk.1.2⟩))); (case aS => exact (below_size (by repeat (first | (with_reducible first | exact HB.out | apply below_alloc | apply pw_below_drewN | apply below_drew1 | refine below_set ?_ GE137.out) | exact HB.out)))); (case aL => have := LMc30.out; omega); intro v148 w38 ho hb hg hat; rw [← Ny147.out] at ho; have n0_ := Aside0.mk (Kd.V_afterv (ok := (fun k_ => (P0_ k_ ∨ w.heap.size ≤ k_) ∧ k_ ≠ gb137)) (by (with_reducible repeat (first | apply Kd.V_alloc | apply Kd.V_drewN | apply Kd.V_drew)); exact Kd.V_mono (Kd.V_far (p := ⟨gb137, 1, none⟩) (Kd.V_far (p := ⟨gb137, 0, none⟩) (Kd.V_mono HO_0.out (fun k_ hk => (⟨hk, hk.2⟩ : _ ∧ k_ ≠ gb137))) (fun _ hk => hk.2) (.string t134)) (fun _ hk => hk.2) (.string t135)) (fun _ hk => ⟨⟨hk.1.1.1, hk.1.2⟩, hk.1.1.2⟩)) hg hat); have n1_ := Aside0.mk (blk_grown (g := gb137) (o := .cells #[.string t134, .string t135] 44 (0, 0)) (by (with_reducible repeat (first | refine blk_drewN ?_ _ | refine blk_drew ?_ | refine blk_alloc ?_ _)); refine blk_put (cs := #[.string t134, .string (⟨#[]⟩ : ByteArray)]) ?_ 1 _ rfl; (with_reducible repeat (first | refine blk_drewN ?_ _ | refine blk_drew ?_ | refine blk_alloc ?_ _)); refine blk_put (cs := #[.string (⟨#[]⟩ : ByteArray), .string (⟨#[]⟩ : ByteArray)]) ?_ 0 _ rfl; (with_reducible repeat (first | refine blk_drewN ?_ _ | refine blk_drew ?_ | refine blk_alloc ?_ _)); exact BK137.out) hg (Kd.R_away HO_4.out (fun _ hk => hk.2))); have n2_ := Aside0.mk (hb); have n3_ := Aside0.mk (ho); clear HO_0; clear BK137; clear HB; clear HO_4; have HO_0 := n0_; have BK137 := n1_; have HB := n2_; have HO149 := n3_; clear n0_ n1_ n2_ n3_; clear ho hb hg hat; have q39 : (t136 : Int) ≤ ((x0_1.length : Int) : Int) := of_decide_eq_true (by first | (with_reducible assumption) | assumption); obtain ⟨i039, hi039, _, hsz39, _⟩ := info_parts info5; have hroom39 : x0_1.length ≤ co33 := (Kd.V_reads' HO_0.out).2.1; have hC39 : Kd.F (Kd.int .u8) _ _ Ao33 x0_1.length x0_1 := (Kd.V_at (base := w.heap.size) HO_0.out).2.2; have q039 : (0 : Int) ≤ (t136 : Int) := of_decide_eq_true (by first | (with_reducible assumption) | assumption); have hcut39 := cut_from (P := Tryd.prog) 31 5 .i64 Tryd.underlying31 hi039 1 hsz39 Ao33 x0_1.length co33 t136 q039 q39; have hr39 := Kd.F_cut (m := (t136 : Int).toNat) (c := co33) hC39 (by omega) hroom39; obtain ⟨A39, hA39⟩ : ∃ A1, A1 = (if co33 = (t136 : Int).toNat then Ao33 else (Ao33 : Option Addr).map (·.add ((t136 : Int).toNat * 1))) := ⟨_, rfl⟩; obtain ⟨c39, hc39⟩ : ∃ c1, c1 = co33 - (t136 : Int).toNat := ⟨_, rfl⟩; have hy39 : y150.length = x0_1.length - (t136 : Int).toNat := (by rw [Ny150.out, List.length_drop] <;> omega); rw [show (x0_1).drop (t136 : Int).toNat = y150 from Ny150.out.symm] at hr39; replace hr39 : Kd.F (Kd.int .u8) _ _ A39 y150.length y150 := (by rw [hA39]; exact hr39); rw [← hy39, ← hA39, ← hc39] at hcut39; have HO154 := Aside0.mk (show Kd.V (Kd.int .u8) 5 _ w.heap.size _ (.slice A39 y150.length c39) y150 from Kd.V_mk (by rw [hy39, hc39]; exact Nat.sub_le_sub_right hroom39 _) hr39); have HC154 := Aside0.mk (show y150.length ≤ c39 from by rw [hy39, hc39]; exact Nat.sub_le_sub_right hroom39 _); clear hr39 hC39 hroom39 hi039 hsz39 hc39; have KY39 := Aside0.mk hy39; have KA39 := Aside0.mk hA39; clear hy39 hA39; replace q39 := eq_true q39))
                    repeat (go_quiet (first | (go_at_call 28; (with_reducible refine (pax_first.calls k1 _ _ x0_1 t134 t135 t136 _ ?side1 ?side2 ?side3 A4.out).mono ?_); (case side1 => repeat (first | exact (Kd.V_reads' HO_0.out).2.2 | (with_reducible refine Kd.C_alloc ?_ _) | (with_reducible refine Kd.C_drewN ?_ _) | (with_reducible refine Kd.C_drew ?_))); (case side2 => exact (Kd.V_reads' HO_0.out).2.1); (case side3 => first | exact HGL.out | exact Gl.drewN HGL.out _ | exact Gl.of HGL.out (by repeat (first | (with_reducible first | exact HB.out | apply below_alloc | apply pw_below_drewN | apply below_drew1) | exact HB.out))); rintro e w34 ⟨rfl, hb⟩; have n0_ := Aside0.mk (Kd.V_below (by (with_reducible repeat (first | apply Kd.V_alloc | apply Kd.V_drewN | apply Kd.V_drew)); exact HO_0.out) hb); have n1_ := Aside0.mk (Kd.R_below (by (with_reducible repeat (first | apply Kd.R_alloc | apply Kd.R_drewN | apply Kd.R_drew)); exact HO_4.out) hb); have n2_ := Aside0.mk (below_step (by repeat (first | (with_reducible first | exact HB.out | apply below_alloc | apply pw_below_drewN | apply below_drew1) | exact HB.out)) hb); clear HO_0; clear HO_4; clear HB; have HO_0 := n0_; have HO_4 := n1_; have HB := n2_; clear n0_ n1_ n2_; (try clear hb); (try clear hb2); (try clear hk); (try clear hi)) | ((with_reducible refine gate_dst (N := 5) rfl ?_); (try (refine gate_guard (by rfl) ?_; dsimp only)); refine box_event ?hg (N := 5) ?hd (cs := #[.string (⟨#[]⟩ : ByteArray), .string (⟨#[]⟩ : ByteArray)]) (t := 44) ?hr ?_; (case hd => rfl); (case hg => rfl); (case hr => first | (go_simp; done) | (go_simp; rfl)); intro gb137 hg w35 hbox hb; have n0_ := Aside0.mk (Kd.V_below (Kd.V_elderB (by (with_reducible repeat (first | apply Kd.V_alloc | apply Kd.V_drewN | apply Kd.V_drew)); exact HO_0.out) gb137 (Nat.le_of_eq hg.symm)) hb); have n1_ := Aside0.mk (Kd.R_below (Kd.R_elderB (by (with_reducible repeat (first | apply Kd.R_alloc | apply Kd.R_drewN | apply Kd.R_drew)); exact HO_4.out) gb137 (Nat.le_of_eq hg.symm)) hb); have n2_ := Aside0.mk (below_step (by repeat (first | (with_reducible first | exact HB.out | apply below_alloc | apply pw_below_drewN | apply below_drew1) | exact HB.out)) hb); have n3_ := Aside0.mk (hbox); have n4_ := Aside0.mk ((by rw [hg]; exact (below_size (by repeat (first | (with_reducible first | exact HB.out | apply below_alloc | apply pw_below_drewN | apply below_drew1) | exact HB.out))) : w.heap.size ≤ gb137)); have n5_ := Aside0.mk ((by rw [hg]; exact (below_size (by repeat (first | (with_reducible first | exact HB.out | apply below_alloc | apply pw_below_drewN | apply below_drew1) | exact HB.out))) : w.heap.size ≤ gb137)); clear HO_0; clear HO_4; clear HB; have HO_0 := n0_; have HO_4 := n1_; have HB := n2_; have BK137 := n3_; have GW137 := n4_; have GE137 := n5_; clear n0_ n1_ n2_ n3_ n4_ n5_; clear hb hbox hg; have hcz36_0 : w35.cell? ⟨gb137, 0, none⟩ = some (.string (⟨#[]⟩ : ByteArray)) := (blk_cell BK137.out 0).trans rfl; have hcz36_1 : w35.cell? ⟨gb137, 1, none⟩ = some (.string (⟨#[]⟩ : ByteArray)) := (blk_cell BK137.out 1).trans rfl; have hfz36_0 := blk_frozen BK137.out 0; have hfz36_1 := blk_frozen BK137.out 1; obtain ⟨Ao37, co37, eo37⟩ := Kd.R_slice HO_4.out; subst eo37) | ((with_reducible refine gate_builtin (b := .append) (xs := #[.tmp 39, .tmp 41]) rfl ?_); (try (refine gate_guard (by rfl) ?_; dsimp only)); at_builtin; refine Kd.R_append k44 (w0 := w) w.heap.size rfl (.tmp 39) (.tmp 41) 33 44 (.agg #[(.string ⟨#[]⟩), (.string ⟨#[]⟩)]) 32 rfl Tryd.underlying33 info44 rfl (by decide) (by omega) (.slice Ao37 x4_1.length co37) x4_1 (⟨t134, t135⟩ : S44) [.string t134, .string t135] (fun k_ => (w.heap.size ≤ k_) ∧ k_ ≠ gb137) (fun _ => False) rfl (by first | (go_simp; done) | (go_simp; rfl)) ?aP (fun _ hk => hk.elim) ?aF ?aO ?aB ?aS ?aL ?_; (case aP => exact k44_mkM _ _ _ (⟨t134, t135⟩ : S44)); (case aB => exact (by repeat (first | (with_reducible first | exact HB.out | apply below_alloc | apply pw_below_drewN | apply below_drew1 | refine below_set ?_ GE137.out) | exact HB.out))); (case aF => exact (fun k_ hk => ⟨(Nat.le_trans (below_size (by repeat (first | (with_reducible first | exact HB.out | apply below_alloc | apply pw_below_drewN | apply below_drew1 | refine below_set ?_ GE137.out) | exact HB.out))) hk), Kd.freshB (g := gb137) (o := .cells #[.string t134, .string t135] 44 (0, 0)) (by (with_reducible repeat (first | refine blk_drewN ?_ _ | refine blk_drew ?_ | refine blk_alloc ?_ _)); refine blk_put (cs := #[.string t134, .string (⟨#[]⟩ : ByteArray)]) ?_ 1 _ rfl; (with_reducible repeat (first | refine blk_drewN ?_ _ | refine blk_drew ?_ | refine blk_alloc ?_ _)); refine blk_put (cs := #[.string (⟨#[]⟩ : ByteArray), .string (⟨#[]⟩ : ByteArray)]) ?_ 0 _ rfl; (with_reducible repeat (first | refine blk_drewN ?_ _ | refine blk_drew ?_ | refine blk_alloc ?_ _)); exact BK137.out) k_ hk⟩)); (case aO => exact (by (with_reducible repeat (first | apply Kd.R_alloc | apply Kd.R_drewN | apply Kd.R_drew)); exact Kd.R_mono (Kd.R_far (p := ⟨gb137, 1, none⟩) (Kd.R_far (p := ⟨gb137, 0, none⟩) (Kd.R_mono HO_4.out (fun k_ hk => (⟨hk, hk.2⟩ : _ ∧ k_ ≠ gb137))) (fun _ hk => hk.2) (.string t134)) (fun _ hk => hk.2) (.string t135)) (fun _ hk => ⟨hk.1.1, hk.1.2⟩))); (case aS => exact (below_size (by repeat (first | (with_reducible first | exact HB.out | apply below_alloc | apply pw_below_drewN | apply below_drew1 | refine below_set ?_ GE137.out) | exact HB.out)))); (case aL => have := LMc30.out; omega); intro v148 w38 ho hb hg hat; rw [← Ny147.out] at ho; have n0_ := Aside0.mk (Kd.V_afterv (ok := (fun k_ => (P0_ k_ ∨ w.heap.size ≤ k_) ∧ k_ ≠ gb137)) (by (with_reducible repeat (first | apply Kd.V_alloc | apply Kd.V_drewN | apply Kd.V_drew)); exact Kd.V_mono (Kd.V_far (p := ⟨gb137, 1, none⟩) (Kd.V_far (p := ⟨gb137, 0, none⟩) (Kd.V_mono HO_0.out (fun k_ hk => (⟨hk, hk.2⟩ : _ ∧ k_ ≠ gb137))) (fun _ hk => hk.2) (.string t134)) (fun _ hk => hk.2) (.string t135)) (fun _ hk => ⟨⟨hk.1.1.1, hk.1.2⟩, hk.1.1.2⟩)) hg hat); have n1_ := Aside0.mk (blk_grown (g := gb137) (o := .cells #[.string t134, .string t135] 44 (0, 0)) (by (with_reducible repeat (first | refine blk_drewN ?_ _ | refine blk_drew ?_ | refine blk_alloc ?_ _)); refine blk_put (cs := #[.string t134, .string (⟨#[]⟩ : ByteArray)]) ?_ 1 _ rfl; (with_reducible repeat (first | refine blk_drewN ?_ _ | refine blk_drew ?_ | refine blk_alloc ?_ _)); refine blk_put (cs := #[.string (⟨#[]⟩ : ByteArray), .string (⟨#[]⟩ : ByteArray)]) ?_ 0 _ rfl; (with_reducible repeat (first | refine blk_drewN ?_ _ | refine blk_drew ?_ | refine blk_alloc ?_ _)); exact BK137.out) hg (Kd.R_away HO_4.out (fun _ hk => hk.2))); have n2_ := Aside0.mk (hb); have n3_ := Aside0.mk (ho); clear HO_0; clear BK137; clear HB; clear HO_4; have HO_0 := n0_; have BK137 := n1_; have HB := n2_; have HO149 := n3_; clear n0_ n1_ n2_ n3_; clear ho hb hg hat; have q39 : (t136 : Int) ≤ ((x0_1.length : Int) : Int) := of_decide_eq_true (by first | (with_reducible assumption) | assumption); obtain ⟨i039, hi039, _, hsz39, _⟩ := info_parts info5; have hroom39 : x0_1.length ≤ co33 := (Kd.V_reads' HO_0.out).2.1; have hC39 : Kd.F (Kd.int .u8) _ _ Ao33 x0_1.length x0_1 := (Kd.V_at (base := w.heap.size) HO_0.out).2.2; have q039 : (0 : Int) ≤ (t136 : Int) := of_decide_eq_true (by first | (with_reducible assumption) | assumption); have hcut39 := cut_from (P := Tryd.prog) 31 5 .i64 Tryd.underlying31 hi039 1 hsz39 Ao33 x0_1.length co33 t136 q039 q39; have hr39 := Kd.F_cut (m := (t136 : Int).toNat) (c := co33) hC39 (by omega) hroom39; obtain ⟨A39, hA39⟩ : ∃ A1, A1 = (if co33 = (t136 : Int).toNat then Ao33 else (Ao33 : Option Addr).map (·.add ((t136 : Int).toNat * 1))) := ⟨_, rfl⟩; obtain ⟨c39, hc39⟩ : ∃ c1, c1 = co33 - (t136 : Int).toNat := ⟨_, rfl⟩; have hy39 : y150.length = x0_1.length - (t136 : Int).toNat := (by rw [Ny150.out, List.length_drop] <;> omega); rw [show (x0_1).drop (t136 : Int).toNat = y150 from Ny150.out.symm] at hr39; replace hr39 : Kd.F (Kd.int .u8) _ _ A39 y150.length y150 := (by rw [hA39]; exact hr39); rw [← hy39, ← hA39, ← hc39] at hcut39; have HO154 := Aside0.mk (show Kd.V (Kd.int .u8) 5 _ w.heap.size _ (.slice A39 y150.length c39) y150 from Kd.V_mk (by rw [hy39, hc39]; exact Nat.sub_le_sub_right hroom39 _) hr39); have HC154 := Aside0.mk (show y150.length ≤ c39 from by rw [hy39, hc39]; exact Nat.sub_le_sub_right hroom39 _); clear hr39 hC39 hroom39 hi039 hsz39 hc39; have KY39 := Aside0.mk hy39; have KA39 := Aside0.mk hA39; clear hy39 hA39; replace q39 := eq_true q39)); try go_wp2_with (first | (go_at_call 28; (with_reducible refine (pax_first.calls k1 _ _ x0_1 t134 t135 t136 _ ?side1 ?side2 ?side3 A4.out).mono ?_); (case side1 => repeat (first | exact (Kd.V_reads' HO_0.out).2.2 | (with_reducible refine Kd.C_alloc ?_ _) | (with_reducible refine Kd.C_drewN ?_ _) | (with_reducible refine Kd.C_drew ?_))); (case side2 => exact (Kd.V_reads' HO_0.out).2.1); (case side3 => first | exact HGL.out | exact Gl.drewN HGL.out _ | exact Gl.of HGL.out (by repeat (first | (with_reducible first | exact HB.out | apply below_alloc | apply pw_below_drewN | apply below_drew1) | exact HB.out))); rintro e w34 ⟨rfl, hb⟩; have n0_ := Aside0.mk (Kd.V_below (by (with_reducible repeat (first | apply Kd.V_alloc | apply Kd.V_drewN | apply Kd.V_drew)); exact HO_0.out) hb); have n1_ := Aside0.mk (Kd.R_below (by (with_reducible repeat (first | apply Kd.R_alloc | apply Kd.R_drewN | apply Kd.R_drew)); exact HO_4.out) hb); have n2_ := Aside0.mk (below_step (by repeat (first | (with_reducible first | exact HB.out | apply below_alloc | apply pw_below_drewN | apply below_drew1) | exact HB.out)) hb); clear HO_0; clear HO_4; clear HB; have HO_0 := n0_; have HO_4 := n1_; have HB := n2_; clear n0_ n1_ n2_; (try clear hb); (try clear hb2); (try clear hk); (try clear hi)) | ((with_reducible refine gate_dst (N := 5) rfl ?_); (try (refine gate_guard (by rfl) ?_; dsimp only)); refine box_event ?hg (N := 5) ?hd (cs := #[.string (⟨#[]⟩ : ByteArray), .string (⟨#[]⟩ : ByteArray)]) (t := 44) ?hr ?_; (case hd => rfl); (case hg => rfl); (case hr => first | (go_simp; done) | (go_simp; rfl)); intro gb137 hg w35 hbox hb; have n0_ := Aside0.mk (Kd.V_below (Kd.V_elderB (by (with_reducible repeat (first | apply Kd.V_alloc | apply Kd.V_drewN | apply Kd.V_drew)); exact HO_0.out) gb137 (Nat.le_of_eq hg.symm)) hb); have n1_ := Aside0.mk (Kd.R_below (Kd.R_elderB (by (with_reducible repeat (first | apply Kd.R_alloc | apply Kd.R_drewN | apply Kd.R_drew)); exact HO_4.out) gb137 (Nat.le_of_eq hg.symm)) hb); have n2_ := Aside0.mk (below_step (by repeat (first | (with_reducible first | exact HB.out | apply below_alloc | apply pw_below_drewN | apply below_drew1) | exact HB.out)) hb); have n3_ := Aside0.mk (hbox); have n4_ := Aside0.mk ((by rw [hg]; exact (below_size (by repeat (first | (with_reducible first | exact HB.out | apply below_alloc | apply pw_below_drewN | apply below_drew1) | exact HB.out))) : w.heap.size ≤ gb137)); have n5_ := Aside0.mk ((by rw [hg]; exact (below_size (by repeat (first | (with_reducible first | exact HB.out | apply below_alloc | apply pw_below_drewN | apply below_drew1) | exact HB.out))) : w.heap.size ≤ gb137)); clear HO_0; clear HO_4; clear HB; have HO_0 := n0_; have HO_4 := n1_; have HB := n2_; have BK137 := n3_; have GW137 := n4_; have GE137 := n5_; clear n0_ n1_ n2_ n3_ n4_ n5_; clear hb hbox hg; have hcz36_0 : w35.cell? ⟨gb137, 0, none⟩ = some (.string (⟨#[]⟩ : ByteArray)) := (blk_cell BK137.out 0).trans rfl; have hcz36_1 : w35.cell? ⟨gb137, 1, none⟩ = some (.string (⟨#[]⟩ : ByteArray)) := (blk_cell BK137.out 1).trans rfl; have hfz36_0 := blk_frozen BK137.out 0; have hfz36_1 := blk_frozen BK137.out 1; obtain ⟨Ao37, co37, eo37⟩ := Kd.R_slice HO_4.out; subst eo37) | ((with_reducible refine gate_builtin (b := .append) (xs := #[.tmp 39, .tmp 41]) rfl ?_); (try (refine gate_guard (by rfl) ?_; dsimp only)); at_builtin; refine Kd.R_append k44 (w0 := w) w.heap.size rfl (.tmp 39) (.tmp 41) 33 44 (.agg #[(.string ⟨#[]⟩), (.string ⟨#[]⟩)]) 32 rfl Tryd.underlying33 info44 rfl (by decide) (by omega) (.slice Ao37 x4_1.length co37) x4_1 (⟨t134, t135⟩ : S44) [.string t134, .string t135] (fun k_ => (w.heap.size ≤ k_) ∧ k_ ≠ gb137) (fun _ => False) rfl (by first | (go_simp; done) | (go_simp; rfl)) ?aP (fun _ hk => hk.elim) ?aF ?aO ?aB ?aS ?aL ?_; (case aP => exact k44_mkM _ _ _ (⟨t134, t135⟩ : S44)); (case aB => exact (by repeat (first | (with_reducible first | exact HB.out | apply below_alloc | apply pw_below_drewN | apply below_drew1 | refine below_set ?_ GE137.out) | exact HB.out))); (case aF => exact (fun k_ hk => ⟨(Nat.le_trans (below_size (by repeat (first | (with_reducible first | exact HB.out | apply below_alloc | apply pw_below_drewN | apply below_drew1 | refine below_set ?_ GE137.out) | exact HB.out))) hk), Kd.freshB (g := gb137) (o := .cells #[.string t134, .string t135] 44 (0, 0)) (by (with_reducible repeat (first | refine blk_drewN ?_ _ | refine blk_drew ?_ | refine blk_alloc ?_ _)); refine blk_put (cs := #[.string t134, .string (⟨#[]⟩ : ByteArray)]) ?_ 1 _ rfl; (with_reducible repeat (first | refine blk_drewN ?_ _ | refine blk_drew ?_ | refine blk_alloc ?_ _)); refine blk_put (cs := #[.string (⟨#[]⟩ : ByteArray), .string (⟨#[]⟩ : ByteArray)]) ?_ 0 _ rfl; (with_reducible repeat (first | refine blk_drewN ?_ _ | refine blk_drew ?_ | refine blk_alloc ?_ _)); exact BK137.out) k_ hk⟩)); (case aO => exact (by (with_reducible repeat (first | apply Kd.R_alloc | apply Kd.R_drewN | apply Kd.R_drew)); exact Kd.R_mono (Kd.R_far (p := ⟨gb137, 1, none⟩) (Kd.R_far (p := ⟨gb137, 0, none⟩) (Kd.R_mono HO_4.out (fun k_ hk => (⟨hk, hk.2⟩ : _ ∧ k_ ≠ gb137))) (fun _ hk => hk.2) (.string t134)) (fun _ hk => hk.2) (.string t135)) (fun _ hk => ⟨hk.1.1, hk.1.2⟩))); (case aS => exact (below_size (by repeat (first | (with_reducible first | exact HB.out | apply below_alloc | apply pw_below_drewN | apply below_drew1 | refine below_set ?_ GE137.out) | exact HB.out)))); (case aL => have := LMc30.out; omega); intro v148 w38 ho hb hg hat; rw [← Ny147.out] at ho; have n0_ := Aside0.mk (Kd.V_afterv (ok := (fun k_ => (P0_ k_ ∨ w.heap.size ≤ k_) ∧ k_ ≠ gb137)) (by (with_reducible repeat (first | apply Kd.V_alloc | apply Kd.V_drewN | apply Kd.V_drew)); exact Kd.V_mono (Kd.V_far (p := ⟨gb137, 1, none⟩) (Kd.V_far (p := ⟨gb137, 0, none⟩) (Kd.V_mono HO_0.out (fun k_ hk => (⟨hk, hk.2⟩ : _ ∧ k_ ≠ gb137))) (fun _ hk => hk.2) (.string t134)) (fun _ hk => hk.2) (.string t135)) (fun _ hk => ⟨⟨hk.1.1.1, hk.1.2⟩, hk.1.1.2⟩)) hg hat); have n1_ := Aside0.mk (blk_grown (g := gb137) (o := .cells #[.string t134, .string t135] 44 (0, 0)) (by (with_reducible repeat (first | refine blk_drewN ?_ _ | refine blk_drew ?_ | refine blk_alloc ?_ _)); refine blk_put (cs := #[.string t134, .string (⟨#[]⟩ : ByteArray)]) ?_ 1 _ rfl; (with_reducible repeat (first | refine blk_drewN ?_ _ | refine blk_drew ?_ | refine blk_alloc ?_ _)); refine blk_put (cs := #[.string (⟨#[]⟩ : ByteArray), .string (⟨#[]⟩ : ByteArray)]) ?_ 0 _ rfl; (with_reducible repeat (first | refine blk_drewN ?_ _ | refine blk_drew ?_ | refine blk_alloc ?_ _)); exact BK137.out) hg (Kd.R_away HO_4.out (fun _ hk => hk.2))); have n2_ := Aside0.mk (hb); have n3_ := Aside0.mk (ho); clear HO_0; clear BK137; clear HB; clear HO_4; have HO_0 := n0_; have BK137 := n1_; have HB := n2_; have HO149 := n3_; clear n0_ n1_ n2_ n3_; clear ho hb hg hat; have q39 : (t136 : Int) ≤ ((x0_1.length : Int) : Int) := of_decide_eq_true (by first | (with_reducible assumption) | assumption); obtain ⟨i039, hi039, _, hsz39, _⟩ := info_parts info5; have hroom39 : x0_1.length ≤ co33 := (Kd.V_reads' HO_0.out).2.1; have hC39 : Kd.F (Kd.int .u8) _ _ Ao33 x0_1.length x0_1 := (Kd.V_at (base := w.heap.size) HO_0.out).2.2; have q039 : (0 : Int) ≤ (t136 : Int) := of_decide_eq_true (by first | (with_reducible assumption) | assumption); have hcut39 := cut_from (P := Tryd.prog) 31 5 .i64 Tryd.underlying31 hi039 1 hsz39 Ao33 x0_1.length co33 t136 q039 q39; have hr39 := Kd.F_cut (m := (t136 : Int).toNat) (c := co33) hC39 (by omega) hroom39; obtain ⟨A39, hA39⟩ : ∃ A1, A1 = (if co33 = (t136 : Int).toNat then Ao33 else (Ao33 : Option Addr).map (·.add ((t136 : Int).toNat * 1))) := ⟨_, rfl⟩; obtain ⟨c39, hc39⟩ : ∃ c1, c1 = co33 - (t136 : Int).toNat := ⟨_, rfl⟩; have hy39 : y150.length = x0_1.length - (t136 : Int).toNat := (by rw [Ny150.out, List.length_drop] <;> omega); rw [show (x0_1).drop (t136 : Int).toNat = y150 from Ny150.out.symm] at hr39; replace hr39 : Kd.F (Kd.int .u8) _ _ A39 y150.length y150 := (by rw [hA39]; exact hr39); rw [← hy39, ← hA39, ← hc39] at hcut39; have HO154 := Aside0.mk (show Kd.V (Kd.int .u8) 5 _ w.heap.size _ (.slice A39 y150.length c39) y150 from Kd.V_mk (by rw [hy39, hc39]; exact Nat.sub_le_sub_right hroom39 _) hr39); have HC154 := Aside0.mk (show y150.length ≤ c39 from by rw [hy39, hc39]; exact Nat.sub_le_sub_right hroom39 _); clear hr39 hC39 hroom39 hi039 hsz39 hc39; have KY39 := Aside0.mk hy39; have KA39 := Aside0.mk hA39; clear hy39 hA39; replace q39 := eq_true q39)))
                    go_roundg k1
                    case measure => have := HK1.out; omega
                    case rel => exact ⟨(y150), (y147), H', ⟨by have := HK1.out; omega⟩, ⟨by (with_reducible repeat (first | apply Kd.V_alloc | apply Kd.V_drewN | apply Kd.V_drew)); exact Kd.V_mono HO154.out (fun _ hk => ⟨hk.1.1, hk.2⟩)⟩, ⟨by (with_reducible repeat (first | apply Kd.R_alloc | apply Kd.R_drewN | apply Kd.R_drew)); exact Kd.R_mono HO149.out (fun _ hk => hk.1)⟩, ⟨by repeat (first | (with_reducible first | exact HB.out | apply below_alloc | apply pw_below_drewN | apply below_drew1 | refine below_set ?_ GE137.out) | exact HB.out)⟩⟩
                  · rw [if_neg c32] at H
                    exact absurd H (by simp)
                · rw [if_neg c31] at H
                  exact absurd H (by simp)
              · rw [if_neg c30] at H
                exact absurd H (by simp)
        · rw [if_neg c3] at H
          have c3b0 : decide (0 < (x0_1.length : Int)) = false := decide_eq_false c3
          have c3b1 : decide (0 < x0_1.length) = false := decide_eq_false (by omega)
          clear c3
          simp only [Option.some.injEq, Prod.mk.injEq] at H
          obtain ⟨rfl, rfl⟩ := H
          obtain ⟨Ao40, co40, eo40⟩ := Kd.V_slice HO_0.out
          subst eo40
          go_wp2
          repeat (go_quiet (fail); try go_wp2)
          go_ret2
          exact ⟨_, by first | rfl | (simp [errW_none, errW_some] <;> rfl) | (simp [*, errW_none, errW_some] <;> rfl), by (with_reducible repeat (first | apply Kd.R_alloc | apply Kd.R_drewN | apply Kd.R_drew)); exact HO_4.out, by repeat (first | (with_reducible first | exact HB.out | apply below_alloc | apply pw_below_drewN | apply below_drew1) | exact HB.out)⟩

/-! ### amphoralaw11_alive: function 8 -/
def aliveL : List Int := [57, 32, 112, 97, 116, 104, 61, 120, 10]
def amphoralaw11_alive.f (k : Nat) : Option Bool := match pax_Line.f k (⟨#[112, 97, 116, 104]⟩ : ByteArray) (⟨#[120]⟩ : ByteArray), pax_Decode.f k aliveL with
  | some (s, none), some ([r], none) => if s.toList = [57, 32, 112, 97, 116, 104, 61, 120, 10] ∧ r.f0.toList = [112, 97, 116, 104] ∧ r.f1.toList = [120] then some true else none
  | _, _ => none
theorem amphoralaw11_alive.open_ {k : Nat} {r : Bool} (h : amphoralaw11_alive.f k = some r) : r = true ∧ ∃ s q, pax_Line.f k (⟨#[112, 97, 116, 104]⟩ : ByteArray) (⟨#[120]⟩ : ByteArray) = some (s, none) ∧ pax_Decode.f k aliveL = some ([q], none) ∧
    s.toList = [57, 32, 112, 97, 116, 104, 61, 120, 10] ∧ q.f0.toList = [112, 97, 116, 104] ∧ q.f1.toList = [120] := by
  unfold amphoralaw11_alive.f at h
  split at h
  · next s q h1 h2 =>
    split at h
    · next hc => exact ⟨(Option.some.inj h).symm, s, q, h1, h2, hc⟩
    · cases h
  · cases h
theorem amphoralaw11_alive.mono : ∀ k, LeO (amphoralaw11_alive.f k) (amphoralaw11_alive.f (k + 1)) := by
  intro k r h
  obtain ⟨rfl, s, q, h1, h2, h3⟩ := amphoralaw11_alive.open_ h
  unfold amphoralaw11_alive.f
  rw [pax_Line.mono _ _ k _ h1, pax_Decode.mono _ k _ h2]
  exact if_pos h3
attribute [local go_sem high] eqA44
def aliveC : Array Value := #[.int .u8 57, .int .u8 32, .int .u8 112, .int .u8 97, .int .u8 116, .int .u8 104, .int .u8 61, .int .u8 120, .int .u8 10]
theorem marked_C {W : World} {g : Nat} (h : W.heap[g]? = some (.cells aliveC 5 (9, 10))) : Kd.C (Kd.int .u8) W (some ⟨g, 0, none⟩) 9 aliveL := by
  refine Kd.C_of_reads (enc := Value.int .u8) (d := (0 : Int)) (h1 := fun _ => rfl) ⟨rfl, by decide, fun _ => ⟨⟨g, 0, none⟩, rfl, fun j hj => ?_⟩⟩
  rw [add_plain]
  rw [cell_of_row _ g j _ 5 (9, 10) h]
  have : j = 0 ∨ j = 1 ∨ j = 2 ∨ j = 3 ∨ j = 4 ∨ j = 5 ∨ j = 6 ∨ j = 7 ∨ j = 8 := by omega
  rcases this with rfl | rfl | rfl | rfl | rfl | rfl | rfl | rfl | rfl <;> rfl
theorem marked_V (W : World) (base : Nat) : Kd.V (Kd.int .u8) 5 (W.alloc (.cells aliveC 5 (9, 10))) base (fun _ => True) (.slice (some ⟨W.heap.size, 0, none⟩) 9 9) aliveL :=
  ⟨some ⟨W.heap.size, 0, none⟩, 9, rfl, by decide, fun W' hk => marked_C ((hk W.heap.size trivial (blk_lt (heap_alloc_new W _))).trans (heap_alloc_new W _))⟩
set_option maxHeartbeats 8000000 in
set_option maxRecDepth 100000 in
theorem amphoralaw11_alive.calls (k : Nat) (r : Bool) (w : World) (hGl : Gl w) (h : amphoralaw11_alive.f k = some r) :
    Calls Tryd.prog 8 #[] w fun e w' => e = .returned (.bool r) ∧ Below w.heap.size w w' := by
  obtain ⟨rfl, s, q, h1, h2, h3, h4, h5⟩ := amphoralaw11_alive.open_ h
  have HB := Aside0.mk (Below.refl w.heap.size w)
  have HGL := Aside0.mk hGl
  have A1 := Aside0.mk h1
  have A2 := Aside0.mk h2
  have hu24 := Tryd.underlying24
  have hu44 := Tryd.underlying44
  have hconv := fun W => Lib.run_convert_bytes_const (P := Tryd.prog) W 31 5 #[.int .u8 57, .int .u8 32, .int .u8 112, .int .u8 97, .int .u8 116, .int .u8 104, .int .u8 61, .int .u8 120, .int .u8 10] 9 9 Tryd.underlying31 Tryd.underlying5
  have h3b : (s.toList == ([57, 32, 112, 97, 116, 104, 61, 120, 10] : List UInt8)) = true := by rw [h3]; rfl
  have h4b : (q.f0.toList == ([112, 97, 116, 104] : List UInt8)) = true := by rw [h4]; rfl
  have h5b : (q.f1.toList == ([120] : List UInt8)) = true := by rw [h5]; rfl
  clear h h1 h2 h3 h4 h5 hGl
  go_enter Tryd.func8, Tryd.ntmps8
  go_wp2_with (first
    | (go_at_call 9; (with_reducible refine (pax_Line.calls k _ _ s none _ ?s1 A1.out).mono ?_); (case s1 => exact HGL.out); rintro e w1 ⟨rfl, hb⟩; have n0_ := Aside0.mk (below_step HB.out hb); clear HB hb; have HB := n0_; clear n0_; (try simp only [errW_none]))
    | (go_at_call 13; refine (pax_Decode.calls k (fun _ => True) (some ⟨w1.heap.size, 0, none⟩) 9 aliveL [q] none _ ?s1 ?s3 A2.out).mono ?_; (case s1 => exact marked_V w1 _); (case s3 => exact HGL.out.of (below_alloc HB.out _)); rintro e w2 ⟨v0, rfl, ho, hb⟩; have n0_ := Aside0.mk (below_step (below_alloc HB.out _) hb); clear HB hb; have HB := n0_; clear n0_; (try simp only [errW_none]); obtain ⟨g0, co, eo, _⟩ := Kd.R_form ho (by simp); subst eo; obtain ⟨ad, ea, hx0, hx1⟩ := at_T44 (Kd.R_reads' ho).2.2 0 (by simp) (by simp); injection ea with ea; subst ea; rw [show ((0 : Int).toNat * 2) = 0 from rfl, add_plain] at hx0 hx1; have hq : rd_T44 [q] 0 = q := rfl; rw [hq] at hx0 hx1; have hy0 : w2.cell? ⟨g0, 0, none⟩ = some (.string q.f0) := hx0; have hy1 : w2.cell? ⟨g0, 1, none⟩ = some (.string q.f1) := hx1; clear ho hq hx0 hx1))
  go_ret
  exact ⟨by first | rfl | (simp; done) | (simp [*]; done), by repeat (first | (with_reducible first | exact HB.out | apply below_alloc | apply pw_below_drewN | apply below_drew1) | exact HB.out)⟩

end Go.Proofs.YtcengaholljddaaDoor.PPax
