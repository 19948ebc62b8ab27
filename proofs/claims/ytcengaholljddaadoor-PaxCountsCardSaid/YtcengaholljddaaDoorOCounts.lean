/- The walk of PaxCounts. Conditions: as the theorem says. -/
import Derived.Test.YtcengaholljddaaDoorPPaxx4
import Derived.Test.YtcengaholljddaaDoorODecodes
import Derived.Test.YtcengaholljddaaDoorPX10
import Derived.Test.YtcengaholljddaaDoorEqErr
namespace Go.Proofs.YtcengaholljddaaDoor.PPax
open Go.RowKit Go.Proofs.YtcengaholljddaaDoorW.PrintWords Go.Proofs.YtcengaholljddaaDoorW.PrintLast Go.Proofs.YtcengaholljddaaDoorW.PrintMore
set_option linter.unusedVariables false
set_option linter.unusedSimpArgs false
attribute [local go_sem high] eqA44
namespace OC
theorem conv (s : ByteArray) (W : World) : (convert 9 31 (.string s)).run Tryd.prog W = .ok (.slice (some ⟨W.heap.size, 0, none⟩) s.size (grownCap W s.size 0 5)) (Lib.bytesWorld W 5 s) :=
  print_bytes (P := Tryd.prog) 9 31 5 Tryd.underlying9 Tryd.underlying31 Tryd.underlying5 s W
theorem conv_V (s : ByteArray) (hs : s.size ≤ 9223372036854775807) (W : World) (base : Nat) : Kd.V (Kd.int .u8) 5 (Lib.bytesWorld W 5 s) base (fun _ => True) (.slice (some ⟨W.heap.size, 0, none⟩) (bytesOf s).length (grownCap W s.size 0 5)) (bytesOf s) := by
  have hl : (bytesOf s).length = s.size := PX.bytesOf_length s
  refine OD.V_of_C ?_ ?_ base
  · rw [hl]; exact Kd.C_of_reads (enc := Value.int .u8) (d := (0 : Int)) (h1 := fun _ => rfl) (bytes_reads W 5 s hs)
  · rw [hl]; exact grownCap_ge W s.size 0 5
theorem decode_conv (k : Nat) (p : ByteArray) (hs : p.size ≤ 9223372036854775807) (r : List S44) (e : Option Int) (W : World) (hGl : Gl (Lib.bytesWorld W 5 p)) (h : pax_Decode.f k (bytesOf p) = some (r, e)) :
    Calls Tryd.prog 13 #[.slice (some ⟨W.heap.size, 0, none⟩) p.size (grownCap W p.size 0 5)] (Lib.bytesWorld W 5 p) fun e_ w' => ∃ v0_ : Value, e_ = .returned (.tuple #[v0_, errW e]) ∧ Kd.R k44 44 w' (Lib.bytesWorld W 5 p).heap.size (fun k_ => (Lib.bytesWorld W 5 p).heap.size ≤ k_) v0_ r ∧ Below (Lib.bytesWorld W 5 p).heap.size (Lib.bytesWorld W 5 p) w' := by
  have := pax_Decode.calls k (fun _ => True) _ _ (bytesOf p) r e (Lib.bytesWorld W 5 p) (conv_V p hs W _) hGl h
  rw [PX.bytesOf_length] at this
  exact this
set_option maxHeartbeats 8000000 in
set_option maxRecDepth 100000 in
theorem walk_err (k : Nat) (key val : ByteArray) (cut : Int) (w : World) (hGl : Gl w)
    (h1 : amphoralaw11_alive.f k = some true) (h2 : pax_Line.f k key val = some ((⟨#[]⟩ : ByteArray), some 15)) :
    Calls Tryd.prog 5 #[.string key, .string val, .int .i64 cut] w fun e w' => e = .returned (.bool true) ∧ Below w.heap.size w w' := by
  have hu24 := Tryd.underlying24
  have hu44 := Tryd.underlying44
  have HB := Aside0.mk (Below.refl w.heap.size w)
  have HGL := Aside0.mk hGl
  have A1 := Aside0.mk h1
  have A2 := Aside0.mk h2
  clear h1 h2 hGl
  go_enter Tryd.func5, Tryd.ntmps5
  go_wp2_with (first
    | (go_at_call 8; (with_reducible refine (amphoralaw11_alive.calls k true _ ?s1 A1.out).mono ?_); (case s1 => exact HGL.out); rintro e1 w1 ⟨rfl, hb⟩; have n0_ := Aside0.mk (below_step HB.out hb); clear HB hb; have HB := n0_; clear n0_)
    | (go_at_call 9; (with_reducible refine (pax_Line.calls k _ _ _ (some 15) _ ?s1 A2.out).mono ?_); (case s1 => exact HGL.out.of HB.out); rintro e2 w2 ⟨rfl, hb⟩; have n0_ := Aside0.mk (below_step HB.out hb); clear HB hb; have HB := n0_; clear n0_; (try simp only [errW_some])))
  go_ret
  exact ⟨by first | rfl | (simp; done) | (simp [*]; done), by repeat (first | (with_reducible first | exact HB.out | apply below_alloc | apply pw_below_drewN | apply below_drew1) | exact HB.out)⟩
/-- What a line's own facts are, as the walk meets them. -/
structure Facts (k : Nat) (key val s n : ByteArray) : Prop where
  line : pax_Line.f k key val = some (s, none)
  dec : amphoranum_Decimal.f k (s.size : Int) = some n
  lt : n.size < s.size
  hs : s.size ≤ 65536
  ext : ((s.extract 0 (n.size + 1)).toList == (n ++ (⟨#[32]⟩ : ByteArray)).toList) = true
  last : ∀ h : s.size - 1 < s.size, ((s[s.size - 1]'h).toNat : Int) = 10
set_option maxHeartbeats 8000000 in
set_option maxRecDepth 100000 in
theorem walk_cut (k : Nat) (key val s n p : ByteArray) (cut : Int) (w : World) (hGl : Gl w) (h1 : amphoralaw11_alive.f k = some true) (F : Facts k key val s n)
    (hc0 : 0 < cut) (hc1 : cut < s.size) (hp : s.extract 0 cut.toNat = p) (h4 : pax_Decode.f k (bytesOf p) = some ([], some 15)) :
    Calls Tryd.prog 5 #[.string key, .string val, .int .i64 cut] w fun e w' => e = .returned (.bool true) ∧ Below w.heap.size w w' := by
  have hu24 := Tryd.underlying24
  have hu44 := Tryd.underlying44
  have hu42 := Tryd.underlying42
  have HB := Aside0.mk (Below.refl w.heap.size w)
  have HGL := Aside0.mk hGl
  have A1 := Aside0.mk h1
  have A2 := Aside0.mk F.line
  have A3 := Aside0.mk F.dec
  have A4 := Aside0.mk h4
  have hlt := F.lt
  have hs := F.hs
  have hpz : p.size ≤ s.size := by rw [← hp, ByteArray.size_extract]; omega
  have hext := F.ext
  have hlast := F.last
  have HPZ := Aside0.mk hpz
  have HS := Aside0.mk hs
  clear h1 hGl F h4
  have c1 : decide ((s.size : Int) ≤ (n.size : Int)) = false := decide_eq_false (by omega)
  have c1b : decide (s.size ≤ n.size) = false := decide_eq_false (by omega)
  have p1 : (s.size ≤ n.size) = False := eq_false (by omega)
  have hcmp := eql_err24
  have c2 : decide (0 < cut) = true := decide_eq_true hc0
  have c3 : decide (cut < (s.size : Int)) = true := decide_eq_true hc1
  have p2 := eq_true hc0
  have p3 := eq_true hc1
  have w1 : wrap64 ((n.size : Int) + 1) = (n.size : Int) + 1 := by unfold wrap64; omega
  have w2 : wrap64 ((s.size : Int) - 1) = (s.size : Int) - 1 := by unfold wrap64; omega
  have hb0 : (n ++ (⟨#[32]⟩ : ByteArray)).size ≤ 9223372036854775807 := by rw [ByteArray.size_append]; show n.size + 1 ≤ _; omega
  have hcv := conv p
  go_enter Tryd.func5, Tryd.ntmps5
  go_wp2_with (first
    | (go_at_call 8; (with_reducible refine (amphoralaw11_alive.calls k true _ ?s1 A1.out).mono ?_); (case s1 => exact HGL.out); rintro e1 w1 ⟨rfl, hb⟩; have n0_ := Aside0.mk (below_step HB.out hb); clear HB hb; have HB := n0_; clear n0_)
    | (go_at_call 9; (with_reducible refine (pax_Line.calls k _ _ _ none _ ?s1 A2.out).mono ?_); (case s1 => exact HGL.out.of HB.out); rintro e2 w2 ⟨rfl, hb⟩; have n0_ := Aside0.mk (below_step HB.out hb); clear HB hb; have HB := n0_; clear n0_; (try simp only [errW_none]))
    | (go_at_call 17; (with_reducible refine (amphoranum_Decimal.calls k _ n _ ?s1 A3.out).mono ?_); (case s1 => exact HGL.out.of HB.out); rintro e3 w3 ⟨rfl, hb⟩; have n0_ := Aside0.mk (below_step HB.out hb); clear HB hb; have HB := n0_; clear n0_)
    | (go_at_call 13; refine (decode_conv k p ?s1 [] (some 15) w3 ?s2 A4.out).mono ?_; (case s1 => have := HPZ.out; have := HS.out; omega); (case s2 => exact HGL.out.of (bytes_below HB.out (below_size HB.out) 5 p)); rintro e4 w4 ⟨v4, rfl, ho, hb⟩; have n0_ := Aside0.mk (below_step (bytes_below HB.out (below_size HB.out) 5 p) hb); clear HB hb; have HB := n0_; clear n0_; obtain ⟨A8, c8, eo, hc8, hC8⟩ := Kd.R_reads ho; subst eo; clear hC8 hc8 ho; (try simp only [errW_some, List.length_nil])))
  go_ret
  exact ⟨by first | rfl | (simp; done) | (simp [*]; done), by repeat (first | (with_reducible first | exact HB.out | apply below_alloc | apply pw_below_drewN | apply below_drew1) | exact HB.out)⟩
set_option maxHeartbeats 8000000 in
set_option maxRecDepth 100000 in
theorem walk_full0 (k : Nat) (key val s n : ByteArray) (cut : Int) (w : World) (hGl : Gl w) (h1 : amphoralaw11_alive.f k = some true) (F : Facts k key val s n)
    (hc0 : ¬ 0 < cut) (h4 : pax_Decode.f k (bytesOf s) = some ([⟨key, val⟩], none)) :
    Calls Tryd.prog 5 #[.string key, .string val, .int .i64 cut] w fun e w' => e = .returned (.bool true) ∧ Below w.heap.size w w' := by
  have hu24 := Tryd.underlying24
  have hu44 := Tryd.underlying44
  have hu42 := Tryd.underlying42
  have HB := Aside0.mk (Below.refl w.heap.size w)
  have HGL := Aside0.mk hGl
  have A1 := Aside0.mk h1
  have A2 := Aside0.mk F.line
  have A3 := Aside0.mk F.dec
  have A4 := Aside0.mk h4
  have hlt := F.lt
  have hs := F.hs
  have hext := F.ext
  have hlast := F.last
  have HS := Aside0.mk hs
  clear h1 hGl F h4
  have c1 : decide ((s.size : Int) ≤ (n.size : Int)) = false := decide_eq_false (by omega)
  have c1b : decide (s.size ≤ n.size) = false := decide_eq_false (by omega)
  have p1 : (s.size ≤ n.size) = False := eq_false (by omega)
  have hcmp := eql_err24
  have c2 : decide (0 < cut) = false := decide_eq_false hc0
  have p2 := eq_false hc0
  have w1 : wrap64 ((n.size : Int) + 1) = (n.size : Int) + 1 := by unfold wrap64; omega
  have w2 : wrap64 ((s.size : Int) - 1) = (s.size : Int) - 1 := by unfold wrap64; omega
  have hb0 : (n ++ (⟨#[32]⟩ : ByteArray)).size ≤ 9223372036854775807 := by rw [ByteArray.size_append]; show n.size + 1 ≤ _; omega
  have hcv := conv s
  go_enter Tryd.func5, Tryd.ntmps5
  go_wp2_with (first
    | (go_at_call 8; (with_reducible refine (amphoralaw11_alive.calls k true _ ?s1 A1.out).mono ?_); (case s1 => exact HGL.out); rintro e1 w1 ⟨rfl, hb⟩; have n0_ := Aside0.mk (below_step HB.out hb); clear HB hb; have HB := n0_; clear n0_)
    | (go_at_call 9; (with_reducible refine (pax_Line.calls k _ _ _ none _ ?s1 A2.out).mono ?_); (case s1 => exact HGL.out.of HB.out); rintro e2 w2 ⟨rfl, hb⟩; have n0_ := Aside0.mk (below_step HB.out hb); clear HB hb; have HB := n0_; clear n0_; (try simp only [errW_none]))
    | (go_at_call 17; (with_reducible refine (amphoranum_Decimal.calls k _ n _ ?s1 A3.out).mono ?_); (case s1 => exact HGL.out.of HB.out); rintro e3 w3 ⟨rfl, hb⟩; have n0_ := Aside0.mk (below_step HB.out hb); clear HB hb; have HB := n0_; clear n0_)
    | (go_at_call 13; refine (decode_conv k s ?s1 [⟨key, val⟩] none w3 ?s2 A4.out).mono ?_; (case s1 => have := HS.out; omega); (case s2 => exact HGL.out.of (bytes_below HB.out (below_size HB.out) 5 s)); rintro e4 w4 ⟨v4, rfl, ho, hb⟩; have n0_ := Aside0.mk (below_step (bytes_below HB.out (below_size HB.out) 5 s) hb); clear HB hb; have HB := n0_; clear n0_; (try simp only [errW_none]); obtain ⟨g0, co, eo, _⟩ := Kd.R_form ho (by simp); subst eo; obtain ⟨ad, ea, hx0, hx1⟩ := at_T44 (Kd.R_reads' ho).2.2 0 (by simp) (by simp); injection ea with ea; subst ea; rw [show ((0 : Int).toNat * 2) = 0 from rfl, add_plain] at hx0 hx1; have hq : rd_T44 [(⟨key, val⟩ : S44)] 0 = ⟨key, val⟩ := rfl; rw [hq] at hx0 hx1; have hy0 : w4.cell? ⟨g0, 0, none⟩ = some (.string key) := hx0; have hy1 : w4.cell? ⟨g0, 1, none⟩ = some (.string val) := hx1; clear ho hq hx0 hx1))
  go_ret
  exact ⟨by first | rfl | (simp; done) | (simp [*]; done), by repeat (first | (with_reducible first | exact HB.out | apply below_alloc | apply pw_below_drewN | apply below_drew1) | exact HB.out)⟩
set_option maxHeartbeats 8000000 in
set_option maxRecDepth 100000 in
theorem walk_full1 (k : Nat) (key val s n : ByteArray) (cut : Int) (w : World) (hGl : Gl w) (h1 : amphoralaw11_alive.f k = some true) (F : Facts k key val s n)
    (hc0 : 0 < cut) (hc1 : ¬ cut < s.size) (h4 : pax_Decode.f k (bytesOf s) = some ([⟨key, val⟩], none)) :
    Calls Tryd.prog 5 #[.string key, .string val, .int .i64 cut] w fun e w' => e = .returned (.bool true) ∧ Below w.heap.size w w' := by
  have hu24 := Tryd.underlying24
  have hu44 := Tryd.underlying44
  have hu42 := Tryd.underlying42
  have HB := Aside0.mk (Below.refl w.heap.size w)
  have HGL := Aside0.mk hGl
  have A1 := Aside0.mk h1
  have A2 := Aside0.mk F.line
  have A3 := Aside0.mk F.dec
  have A4 := Aside0.mk h4
  have hlt := F.lt
  have hs := F.hs
  have hext := F.ext
  have hlast := F.last
  have HS := Aside0.mk hs
  clear h1 hGl F h4
  have c1 : decide ((s.size : Int) ≤ (n.size : Int)) = false := decide_eq_false (by omega)
  have c1b : decide (s.size ≤ n.size) = false := decide_eq_false (by omega)
  have p1 : (s.size ≤ n.size) = False := eq_false (by omega)
  have hcmp := eql_err24
  have c2 : decide (0 < cut) = true := decide_eq_true hc0
  have p2 := eq_true hc0
  have c3 : decide (cut < (s.size : Int)) = false := decide_eq_false hc1
  have p3 := eq_false hc1
  have w1 : wrap64 ((n.size : Int) + 1) = (n.size : Int) + 1 := by unfold wrap64; omega
  have w2 : wrap64 ((s.size : Int) - 1) = (s.size : Int) - 1 := by unfold wrap64; omega
  have hb0 : (n ++ (⟨#[32]⟩ : ByteArray)).size ≤ 9223372036854775807 := by rw [ByteArray.size_append]; show n.size + 1 ≤ _; omega
  have hcv := conv s
  go_enter Tryd.func5, Tryd.ntmps5
  go_wp2_with (first
    | (go_at_call 8; (with_reducible refine (amphoralaw11_alive.calls k true _ ?s1 A1.out).mono ?_); (case s1 => exact HGL.out); rintro e1 w1 ⟨rfl, hb⟩; have n0_ := Aside0.mk (below_step HB.out hb); clear HB hb; have HB := n0_; clear n0_)
    | (go_at_call 9; (with_reducible refine (pax_Line.calls k _ _ _ none _ ?s1 A2.out).mono ?_); (case s1 => exact HGL.out.of HB.out); rintro e2 w2 ⟨rfl, hb⟩; have n0_ := Aside0.mk (below_step HB.out hb); clear HB hb; have HB := n0_; clear n0_; (try simp only [errW_none]))
    | (go_at_call 17; (with_reducible refine (amphoranum_Decimal.calls k _ n _ ?s1 A3.out).mono ?_); (case s1 => exact HGL.out.of HB.out); rintro e3 w3 ⟨rfl, hb⟩; have n0_ := Aside0.mk (below_step HB.out hb); clear HB hb; have HB := n0_; clear n0_)
    | (go_at_call 13; refine (decode_conv k s ?s1 [⟨key, val⟩] none w3 ?s2 A4.out).mono ?_; (case s1 => have := HS.out; omega); (case s2 => exact HGL.out.of (bytes_below HB.out (below_size HB.out) 5 s)); rintro e4 w4 ⟨v4, rfl, ho, hb⟩; have n0_ := Aside0.mk (below_step (bytes_below HB.out (below_size HB.out) 5 s) hb); clear HB hb; have HB := n0_; clear n0_; (try simp only [errW_none]); obtain ⟨g0, co, eo, _⟩ := Kd.R_form ho (by simp); subst eo; obtain ⟨ad, ea, hx0, hx1⟩ := at_T44 (Kd.R_reads' ho).2.2 0 (by simp) (by simp); injection ea with ea; subst ea; rw [show ((0 : Int).toNat * 2) = 0 from rfl, add_plain] at hx0 hx1; have hq : rd_T44 [(⟨key, val⟩ : S44)] 0 = ⟨key, val⟩ := rfl; rw [hq] at hx0 hx1; have hy0 : w4.cell? ⟨g0, 0, none⟩ = some (.string key) := hx0; have hy1 : w4.cell? ⟨g0, 1, none⟩ = some (.string val) := hx1; clear ho hq hx0 hx1))
  go_ret
  exact ⟨by first | rfl | (simp; done) | (simp [*]; done), by repeat (first | (with_reducible first | exact HB.out | apply below_alloc | apply pw_below_drewN | apply below_drew1) | exact HB.out)⟩
end OC
end Go.Proofs.YtcengaholljddaaDoor.PPax
