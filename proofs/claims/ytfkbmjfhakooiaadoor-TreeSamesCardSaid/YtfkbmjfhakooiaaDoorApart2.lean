/- amphoranum: Apart, walked. Conditions: as each theorem says. -/
import Derived.Test.YtfkbmjfhakooiaaDoorApart1
import Derived.Test.YtfkbmjfhakooiaaDoorWWords
import Derived.Test.YtfkbmjfhakooiaaDoorWLast
import Derived.Test.YtfkbmjfhakooiaaDoorWMore
namespace Go.Proofs.YtfkbmjfhakooiaaDoor.PTree
open Go.RowKit Go.Proofs.YtfkbmjfhakooiaaDoorW.PrintWords Go.Proofs.YtfkbmjfhakooiaaDoorW.PrintLast Go.Proofs.YtfkbmjfhakooiaaDoorW.PrintMore
set_option linter.unusedVariables false
set_option linter.unusedSimpArgs false
/-! ### amphoranum.Apart, walked -/
namespace Apart
open Go.RowKit
theorem infoSL : (Tryd.prog.info? 29).map (fun i => (i.zero, i.size, i.bytes)) = some (some (.slice none 0 0), 1, 24) := by kernel_rfl
theorem infoU8 : (Tryd.prog.info? 5).map (fun i => (i.zero, i.size, i.bytes)) = some (some (.int .u8 0), 1, 1) := by kernel_rfl
theorem pb_eq (k j : Nat) : pb k j = (31 * (k : Int) + 7 * (j : Int) + 1) % 256 := by rw [pb]
theorem row_form {w : World} {base : Nat} {e : TypeId} {A : Option Addr} {c n : Nat} {xs : List Value} (h : w.ownsRow base e 1 (.slice A n c) n xs) (hn : 0 < n) : ∃ g, A = some ⟨g, 0, none⟩ ∧ (∀ j u, xs[j]? = some u → w.cell? ⟨g, j, none⟩ = some u) ∧ ∀ j, w.frozen? ⟨g, j, none⟩ = false := by
  obtain ⟨A', c', he, hh⟩ := form h
  simp only [Value.slice.injEq, true_and] at he
  obtain ⟨rfl, rfl⟩ := he
  exact hh hn
theorem w64 {n : Int} (h0 : -9223372036854775808 ≤ n) (h1 : n < 9223372036854775808) : wrap64 n = n := by unfold wrap64; omega
theorem marks (i j : Nat) (hi : i ≤ 1099511627776) (hj : j ≤ 1099511628000) : wrap64 (31 * (i : Int)) = 31 * (i : Int) ∧ wrap64 (7 * (j : Int)) = 7 * (j : Int) ∧ wrap64 (31 * (i : Int) + 7 * (j : Int)) = 31 * (i : Int) + 7 * (j : Int) ∧ wrap64 (31 * (i : Int) + 7 * (j : Int) + 1) = 31 * (i : Int) + 7 * (j : Int) + 1 ∧ wrap64 ((j : Int) + 1) = ((j + 1 : Nat) : Int) ∧ wrap64 ((i : Int) + 1) = ((i + 1 : Nat) : Int) :=
  ⟨w64 (by omega) (by omega), w64 (by omega) (by omega), w64 (by omega) (by omega), w64 (by omega) (by omega), by rw [w64 (by omega) (by omega)]; rfl, by rw [w64 (by omega) (by omega)]; rfl⟩
def X1 (L : Nat → List Int) (i : Nat) (q : Nat) : List Int := if q < i then pat q (L q).length else L q
def X2 (L : Nat → List Int) (i j : Nat) (q : Nat) : List Int := if q < i then pat q (L q).length else if q = i then mix i j (L i) else L q
theorem X2_start (L : Nat → List Int) (i q : Nat) : X1 L i q = X2 L i 0 q := by
  unfold X1 X2
  by_cases h : q < i
  · rw [if_pos h, if_pos h]
  · rw [if_neg h, if_neg h]
    by_cases h2 : q = i
    · rw [if_pos h2, h2]; rfl
    · rw [if_neg h2]
theorem X2_step (L : Nat → List Int) (i j q : Nat) (hj : j < (L i).length) : (if q = i then (X2 L i j i).set j (pb i j) else X2 L i j q) = X2 L i (j + 1) q := by
  unfold X2
  by_cases h2 : q = i
  · rw [if_pos h2, h2, if_neg (Nat.lt_irrefl _), if_pos rfl, if_neg (Nat.lt_irrefl _), if_pos rfl, mix_set _ _ _ hj]
  · rw [if_neg h2]
    by_cases h : q < i
    · rw [if_pos h, if_pos h]
    · rw [if_neg h, if_neg h, if_neg h2, if_neg h2]
theorem X2_end (L : Nat → List Int) (i q : Nat) : X2 L i (L i).length q = X1 L (i + 1) q := by
  unfold X1 X2
  by_cases h : q < i
  · rw [if_pos h, if_pos (by omega)]
  · rw [if_neg h]
    by_cases h2 : q = i
    · rw [if_pos h2, if_pos (by omega), mix_full, h2]
    · rw [if_neg h2, if_neg (by omega)]
theorem X1_at (L : Nat → List Int) (i : Nat) : X1 L i i = L i := by unfold X1; rw [if_neg (Nat.lt_irrefl _)]
theorem X2_at (L : Nat → List Int) (i j : Nat) : X2 L i j i = mix i j (L i) := by unfold X2; rw [if_neg (Nat.lt_irrefl _), if_pos rfl]
set_option maxHeartbeats 16000000 in
set_option maxRecDepth 100000 in
theorem calls (B : Nat) (A : Option Addr) (N c : Nat) (V : Nat → Value) (L : Nat → List Int) (w : World) (hB : B ≤ w.heap.size) (hN : N ≤ 1048576) (hL : ∀ j, j < N → (L j).length ≤ 1099511627700)
    (hrow : w.ownsRow B 29 1 (.slice A N c) N ((List.range N).map V)) (hown : ∀ j, j < N → w.ownsRow B 5 1 (V j) (L j).length (nums .u8 (L j))) (hne : ∀ i j, i < N → j < N → i ≠ j → Ne (V i) (V j)) :
    Calls Tryd.prog 18 #[.slice A N c] w fun e w' => e = .returned (.bool true) ∧ Fr N V w w' := by
  have HL := Aside0.mk hL
  have HN := Aside0.mk hN
  have HNE := Aside0.mk hne
  have HS := Aside0.mk (show St B N (.slice A N c) V w w (X1 L 0) from ⟨Fr.refl _ _ _, hrow, fun j hj => by have := hown j hj; unfold X1; rw [if_neg (by omega)]; exact this, hB⟩)
  obtain ⟨len, hlen⟩ : ∃ len : Nat → Nat, len = fun j => (L j).length := ⟨_, rfl⟩
  have HLN := Aside0.mk hlen
  clear hrow hown hne hB hL hlen
  go_enter Tryd.func18, Tryd.ntmps18
  go_wp2
  go_loopg [15] (N + 1) (fun kq v15 wr => ∃ i : Nat, v15 = .int .i64 (i : Int) ∧ Aside0 (i + kq = N + 1) ∧ Aside0 (i ≤ N) ∧ Aside0 (St B N (.slice A N c) V w wr (X1 L i)))
  case atStart => exact ⟨0, rfl, ⟨by omega⟩, ⟨by omega⟩, HS⟩
  case round =>
    clear HS
    obtain ⟨i, rfl, HI, HJ, HS⟩ := hrel
    cases gk with
    | zero => exact absurd HI.out (by have := HJ.out; omega)
    | succ k1 =>
      by_cases c1 : (i : Int) < (N : Int)
      · have hi : i < N := by omega
        have c1b := decide_eq_true c1
        obtain ⟨G, rfl, hcells, _⟩ := row_form HS.out.row (by omega)
        have hown := HS.out.own i hi
        rw [X1_at] at hown
        obtain ⟨Ai, ci, hVi, _⟩ := form hown
        have hci : wr.cell? ⟨G, i, none⟩ = some (.slice Ai (L i).length ci) := by
          rw [← hVi]; exact hcells i _ (by rw [List.getElem?_map, List.getElem?_range hi]; rfl)
        have hli := HL.out i hi
        have HVI := Aside0.mk hVi
        have HHI := Aside0.mk hi
        have hni := HN.out
        clear hown hcells hVi
        go_wp2
        go_loopg [22] ((L i).length + 1) (fun kq v22 w2 => ∃ j : Nat, v22 = .int .i64 (j : Int) ∧ Aside0 (j + kq = (L i).length + 1) ∧ Aside0 (j ≤ (L i).length) ∧ Aside0 (St B N (.slice (some ⟨G, 0, none⟩) N c) V w w2 (X2 L i j)))
        case atStart => exact ⟨0, rfl, ⟨by omega⟩, ⟨by omega⟩, ⟨HS.out.congr (fun q _ => X2_start L i q)⟩⟩
        case round =>
          clear HS hci
          obtain ⟨j, rfl, HI2, HJ2, HS⟩ := hrel
          cases gk with
          | zero => exact absurd HI2.out (by have := HJ2.out; omega)
          | succ k2 =>
            by_cases c2 : (j : Int) < ((L i).length : Int)
            · have hj : j < (L i).length := by omega
              have c2b := decide_eq_true c2
              have hown := HS.out.own i HHI.out
              rw [HVI.out, X2_at, mix_length _ _ _ (by omega)] at hown
              obtain ⟨g, rfl, hcells, hfz⟩ := row_form hown (by omega)
              have hfz1 := hfz j
              obtain ⟨u, hu⟩ : ∃ u, (nums .u8 (mix i j (L i)))[j]? = some u := ⟨_, List.getElem?_eq_getElem (by rw [nums_length, mix_length _ _ _ (by omega)]; exact hj)⟩
              have hcj := hcells j u hu
              obtain ⟨m1, m2, m3, m4, m5, m6⟩ := marks i j (by omega) (by omega)
              have p0 := eq_true (show (0 : Int) ≤ (j : Int) by omega)
              have p1 := eq_true c2
              clear hcells hfz hu hown
              go_wp2
              go_roundg k2
              case measure => omega
              case rel =>
                refine ⟨j + 1, (by first | rfl | (simp [m5]; done)), ⟨by have := HI2.out; omega⟩, ⟨by omega⟩, ⟨?_⟩⟩
                exact (HS.out.put HNE.out HHI.out HVI.out hj (by rw [X2_at, mix_length _ _ _ (by omega)]) (pb i j)).congr (fun q _ => X2_step L i j q hj)
            · have hj : j = (L i).length := by have := HJ2.out; omega
              subst hj
              have c2b := decide_eq_false c2
              have m6 := (marks i 0 (by omega) (by omega)).2.2.2.2.2
              go_wp2
              go_roundg k1
              case measure => omega
              case rel => exact ⟨i + 1, (by first | rfl | (simp [m6]; done)), ⟨by have := HI.out; omega⟩, ⟨by have := HHI.out; omega⟩, ⟨HS.out.congr (fun q _ => X2_end L i q)⟩⟩
      · have hi : i = N := by have := HJ.out; omega
        subst hi
        have c1b := decide_eq_false c1
        obtain ⟨hE0, hE1⟩ : (∀ q, q < i → X1 L i q = pat q (len q)) ∧ ∀ q, q < i → len q ≤ 1099511627700 := ⟨fun q hq => by unfold X1; rw [if_pos hq, HLN.out], fun q hq => by rw [HLN.out]; exact HL.out q hq⟩
        have HLE := Aside0.mk hE1
        have HS0 := Aside0.mk (HS.out.congr hE0)
        clear HS HLN HL hE0 hE1 HI
        obtain ⟨W0, hW0⟩ : ∃ W0, W0 = wr.alloc (.cells #[] 29) := ⟨_, rfl⟩
        have hg0 : wr.grownBy W0 none := by rw [hW0]; exact grown_alloc wr _
        have hb0 : W0.heap[wr.heap.size]? = some (.cells #[] 29 (0, 0)) := by rw [hW0]; exact heap_alloc_new wr _
        have H2 := Aside0.mk (show St2 B i (.slice A i c) V len w W0 0 (.slice (some ⟨wr.heap.size, 0, none⟩) 0 0) V from
          ⟨HS0.out.quiet hg0, ⟨rfl, .inr ⟨wr.heap.size, 0, #[], rfl, HS0.out.hB, hb0, Nat.le_refl _, by simp [maxLen], rfl, rfl⟩⟩, fun j hj => by omega, fun j hj => by omega,
            Ne.fresh HS0.out.row (fun q hq => by simp [Value.ownBlock] at hq; omega), fun b hb => by have := HS0.out.fr.size; simp [Value.ownBlock] at hb; omega⟩)
        have XW0 := Aside0.mk hW0
        clear hg0 hb0 HS0 hW0
        go_wp2
        rw [← XW0.out]
        go_loopg [6, 40] (i + 1) (fun kq v6 v40 w2 => ∃ (j : Nat) (W : Nat → Value) (G6 : Value), G6 = v6 ∧ v40 = .int .i64 (j : Int) ∧ Aside0 (j + kq = i + 1) ∧ Aside0 (j ≤ i) ∧ Aside0 (St2 B i (.slice A i c) V len w w2 j v6 W))
        case atStart => exact ⟨0, V, _, rfl, rfl, ⟨by omega⟩, ⟨by omega⟩, H2⟩
        case round =>
          clear H2 XW0
          obtain ⟨j, W, v6, hG6, rfl, HI2, HJ2, H2⟩ := hrel
          subst hG6
          cases gk with
          | zero => exact absurd HI2.out (by have := HJ2.out; omega)
          | succ k2 =>
            by_cases c2 : (j : Int) < (i : Int)
            · have hj : j < i := by omega
              have c2b := decide_eq_true c2
              obtain ⟨G, rfl, hcells, _⟩ := row_form H2.out.st.row (by omega)
              have hown := H2.out.st.own j hj
              simp only [pat_length] at hown
              obtain ⟨Aj, cj, hVj, _⟩ := form hown
              have hcj : wr.cell? ⟨G, j, none⟩ = some (.slice Aj (len j) cj) := by
                rw [← hVj]; exact hcells j _ (by rw [List.getElem?_map, List.getElem?_range hj]; rfl)
              have H3 := Aside0.mk (H2.out.start HNE.out hj)
              rw [hVj] at H3
              have hln := HLE.out j hj
              have hnn := HN.out
              have HHJ := Aside0.mk hj
              clear hown hcells hVj
              go_wp2
              go_loopg [8] 13 (fun kq v8 w3 => ∃ (m : Nat) (G8 : Value), G8 = v8 ∧ Aside0 (m + kq = len j + 13) ∧ Aside0 (m ≤ len j + 12) ∧ Aside0 (St3 B i (.slice (some ⟨G, 0, none⟩) i c) V len w w3 j v6 W v8 m))
              case atStart => exact ⟨len j, _, rfl, ⟨by omega⟩, ⟨by omega⟩, H3⟩
              case round =>
                clear H3 H2 hcj
                obtain ⟨m, v8, hG8, HI3, HJ3, H3⟩ := hrel
                subst hG8
                cases gk with
                | zero => exact absurd HI3.out (by have := HJ3.out; omega)
                | succ k3 =>
                  obtain ⟨A8, c8, rfl, _⟩ := form H3.out.cur
                  have w12 : wrap64 ((len j : Int) + 12) = (len j : Int) + 12 := w64 (by omega) (by omega)
                  by_cases c3 : (m : Int) < (len j : Int) + 12
                  · have hm12 : m + 1 ≤ len j + 12 := by omega
                    have hmb : m + 1 ≤ 1099511627800 := by omega
                    have c3b : decide ((m : Int) < wrap64 ((len j : Int) + 12)) = true := by rw [w12]; exact decide_eq_true c3
                    have HM12 := Aside0.mk hm12
                    clear c3 w12 hm12
                    obtain ⟨m1, m2, m3, m4, m5, m6⟩ := marks j m (by omega) (by omega)
                    obtain ⟨W1, hW1⟩ : ∃ W1, W1 = wr.alloc (.cells #[.int .u8 (pb j m)] 5) := ⟨_, rfl⟩
                    have hg1 : wr.grownBy W1 none := by rw [hW1]; exact grown_alloc wr _
                    have hu1 : W1.cell? ((⟨wr.heap.size, 0, none⟩ : Addr).add 0) = some (.int .u8 (pb j m)) := by
                      rw [add_plain, hW1]; exact (blk_cell (heap_alloc_new wr _) 0).trans rfl
                    have H4 := Aside0.mk (H3.out.quiet hg1)
                    have XU := Aside0.mk hu1
                    have XW1 := Aside0.mk hW1
                    have XM := Aside0.mk hmb
                    clear hmb hln hnn
                    clear hg1 hu1 hW1 H3
                    rw [pb_eq] at XW1 XU
                    go_wp2_with (first
                      | (at_builtin; rw [← XW1.out]; refine ev_append rfl (.tmp 52) (.tmp 61) 29 rfl B 5 (.int .u8 0) 1 Tryd.underlying29 infoU8 rfl (.slice A8 m c8) m (nums .u8 (pat j m)) rfl H4.out.cur ⟨wr.heap.size, 0, none⟩ 1 _ rfl XU.out rfl ?h63 ?hby H4.out.st2.st.hB ?_; (case h63 => have := XM.out; simp only [maxLen]; omega); (case hby => have := XM.out; omega); intro v1 w4 h1 h2 hg hat; rw [← pb_eq] at h1; have H5 := Aside0.mk (H4.out.app HHJ.out h1 h2 hg hat); clear h1 h2 hg hat H4 XU XW1))
                    go_roundg k3
                    case measure => omega
                    case rel => exact ⟨m + 1, _, rfl, ⟨by have := HI3.out; omega⟩, ⟨HM12.out⟩, H5⟩
                  · have hm : m = len j + 12 := by have := HJ3.out; omega
                    subst hm
                    have c3b := decide_eq_false c3
                    have m6 := (marks j 0 (by omega) (by omega)).2.2.2.2.2
                    obtain ⟨W1, hW1⟩ : ∃ W1, W1 = wr.alloc (.cells #[.slice A8 (len j + 12) c8] 29) := ⟨_, rfl⟩
                    have hg1 : wr.grownBy W1 none := by rw [hW1]; exact grown_alloc wr _
                    have hu1 : W1.cell? ((⟨wr.heap.size, 0, none⟩ : Addr).add 0) = some (.slice A8 (len j + 12) c8) := by
                      rw [add_plain, hW1]; exact (blk_cell (heap_alloc_new wr _) 0).trans rfl
                    have H4 := Aside0.mk (H3.out.quiet hg1)
                    have XU := Aside0.mk hu1
                    have XW1 := Aside0.mk hW1
                    have XM := Aside0.mk (show j + 1 ≤ 1048577 by omega)
                    obtain ⟨A6, c6, e6, _⟩ := form H3.out.st2.grow
                    subst e6
                    clear hg1 hu1 hW1 H3
                    go_wp2_with (first
                      | (at_builtin; rw [← XW1.out]; refine ev_append rfl (.tmp 63) (.tmp 65) 44 rfl B 29 (.slice none 0 0) 24 Tryd.underlying44 infoSL rfl (.slice A6 j c6) j ((List.range j).map W) rfl H4.out.st2.grow ⟨wr.heap.size, 0, none⟩ 1 _ rfl XU.out rfl ?h63 ?hby H4.out.st2.st.hB ?_; (case h63 => have := XM.out; simp only [maxLen]; omega); (case hby => have := XM.out; omega); intro v1 w4 h1 h2 hg hat; have H5 := Aside0.mk (H4.out.done HHJ.out h1 hg hat); clear h1 h2 hg hat H4 XU XW1))
                    go_roundg k2
                    case measure => omega
                    case rel => exact ⟨j + 1, _, _, rfl, (by first | rfl | (simp [m6]; done)), ⟨by have := HI2.out; omega⟩, ⟨by have := HHJ.out; omega⟩, H5⟩
            · have hj : j = i := by have := HJ2.out; omega
              subst hj
              have c2b := decide_eq_false c2
              obtain ⟨A6, c6, rfl, _⟩ := form H2.out.grow
              clear HI2
              go_wp2
              go_loopg [70] (j + 1) (fun kq v70 w4 => ∃ q : Nat, v70 = .int .i64 (q : Int) ∧ Aside0 (q + kq = j + 1) ∧ Aside0 (q ≤ j) ∧ Aside0 (St2 B j (.slice A j c) V len w w4 j (.slice A6 j c6) W))
              case atStart => exact ⟨0, rfl, ⟨by omega⟩, ⟨by omega⟩, H2⟩
              case round =>
                clear H2
                obtain ⟨q, rfl, HI3, HJ3, H2⟩ := hrel
                cases gk with
                | zero => exact absurd HI3.out (by have := HJ3.out; omega)
                | succ k3 =>
                  by_cases c3 : (q : Int) < (j : Int)
                  · have hq : q < j := by omega
                    have c3b := decide_eq_true c3
                    obtain ⟨G6, rfl, hcells6, _⟩ := row_form H2.out.grow (by omega)
                    obtain ⟨G, rfl, hcells, _⟩ := row_form H2.out.st.row (by omega)
                    have hownw := H2.out.gown q hq
                    have hownv := H2.out.st.own q hq
                    simp only [pat_length] at hownv
                    obtain ⟨Aw, cw, hWq, hw⟩ := form hownw
                    obtain ⟨Aq, cq, hVq, _⟩ := form hownv
                    obtain ⟨gw, rfl, _, _⟩ := hw (by omega)
                    have hc6 : wr.cell? ⟨G6, q, none⟩ = some (.slice (some ⟨gw, 0, none⟩) (len q + 12) cw) := by
                      rw [← hWq]; exact hcells6 q _ (by rw [List.getElem?_map, List.getElem?_range hq]; rfl)
                    have HVQ := Aside0.mk hVq
                    have HWQ := Aside0.mk hWq
                    have HQ := Aside0.mk hq
                    have hln := HLE.out q hq
                    have hnn := HN.out
                    clear hcells6 hcells hownw hownv hVq hWq hw
                    go_wp2
                    go_loopg [77] (len q + 13) (fun kq v77 w5 => ∃ p : Nat, v77 = .int .i64 (p : Int) ∧ Aside0 (p + kq = len q + 13) ∧ Aside0 (p ≤ len q + 12) ∧ Aside0 (St2 B j (.slice (some ⟨G, 0, none⟩) j c) V len w w5 j (.slice (some ⟨G6, 0, none⟩) j c6) W))
                    case atStart => exact ⟨0, rfl, ⟨by omega⟩, ⟨by omega⟩, H2⟩
                    case round =>
                      clear H2 hc6
                      obtain ⟨p, rfl, HI4, HJ4, H2⟩ := hrel
                      cases gk with
                      | zero => exact absurd HI4.out (by have := HJ4.out; omega)
                      | succ k4 =>
                        by_cases c4 : (p : Int) < ((len q + 12 : Nat) : Int)
                        · have hp : p < len q + 12 := by omega
                          have c4b := decide_eq_true c4
                          obtain ⟨_, hG, hcells, _⟩ := row_form H2.out.st.row (by have := HQ.out; omega)
                          simp only [Option.some.injEq, Addr.mk.injEq, and_true] at hG
                          subst hG
                          have hownw := H2.out.gown q HQ.out
                          have hownv := H2.out.st.own q HQ.out
                          simp only [pat_length] at hownv
                          rw [HWQ.out] at hownw
                          rw [HVQ.out] at hownv
                          obtain ⟨_, hgw, hcw, _⟩ := row_form hownw (by omega)
                          simp only [Option.some.injEq, Addr.mk.injEq, and_true] at hgw
                          subst hgw
                          have hcl : wr.cell? ⟨G, q, none⟩ = some (.slice Aq (len q) cq) := by
                            rw [← HVQ.out]; exact hcells q _ (by rw [List.getElem?_map, List.getElem?_range HQ.out]; rfl)
                          have hcg : wr.cell? ⟨gw, p, none⟩ = some (.int .u8 ((31 * (q : Int) + 7 * (p : Int) + 1) % 256)) := by
                            rw [← pb_eq]; exact hcw p _ (by unfold nums; rw [List.getElem?_map, pat_get _ _ _ hp]; rfl)
                          have HP := Aside0.mk hp
                          by_cases c5 : (p : Int) < (len q : Int)
                          · have hp5 : p < len q := by omega
                            obtain ⟨gq, rfl, hcv, _⟩ := row_form hownv (by omega)
                            have hcvp : wr.cell? ⟨gq, p, none⟩ = some (.int .u8 ((31 * (q : Int) + 7 * (p : Int) + 1) % 256)) := by
                              rw [← pb_eq]; exact hcv p _ (by unfold nums; rw [List.getElem?_map, pat_get _ _ _ hp5]; rfl)
                            have c5b := decide_eq_true c5
                            have p0 := eq_true (show (0 : Int) ≤ (p : Int) by omega)
                            have p1 := eq_true (show (0 : Int) ≤ (q : Int) by omega)
                            have p2 := eq_true (show (q : Int) < (j : Int) by have := HQ.out; omega)
                            have p3 := eq_true c5
                            have p4 := eq_true c4
                            have hln2 := hln
                            have hjn := HJ3.out
                            have hQ := HQ.out
                            clear hcells hownw hownv hcw hcv
                            obtain ⟨m1, m2, m3, m4, m5, m6⟩ := marks q p (by omega) (by omega)
                            go_wp2
                            go_quiet (fail)
                            go_wp2
                            go_roundg k4
                            case measure => omega
                            case rel => exact ⟨p + 1, (by first | rfl | (simp [m5]; done)), ⟨by have := HI4.out; omega⟩, ⟨by have := HP.out; omega⟩, ⟨H2.out.quiet (grown_drewN _ _)⟩⟩
                          · have c5b := decide_eq_false c5
                            have p0 := eq_true (show (0 : Int) ≤ (p : Int) by omega)
                            have p1 := eq_true (show (0 : Int) ≤ (q : Int) by omega)
                            have p2 := eq_true (show (q : Int) < (j : Int) by have := HQ.out; omega)
                            have p3 := eq_false c5
                            have p4 := eq_true c4
                            have hQ := HQ.out
                            clear hcells hownw hownv hcw
                            obtain ⟨m1, m2, m3, m4, m5, m6⟩ := marks q p (by omega) (by omega)
                            go_wp2
                            go_quiet (fail)
                            go_wp2
                            go_roundg k4
                            case measure => omega
                            case rel => exact ⟨p + 1, (by first | rfl | (simp [m5]; done)), ⟨by have := HI4.out; omega⟩, ⟨by have := HP.out; omega⟩, ⟨H2.out.quiet (grown_drewN _ _)⟩⟩
                        · have hp : p = len q + 12 := by have := HJ4.out; omega
                          subst hp
                          have c4b := decide_eq_false c4
                          have m6 := (marks q 0 (by have := HQ.out; omega) (by omega)).2.2.2.2.2
                          go_wp2
                          go_roundg k3
                          case measure => omega
                          case rel => exact ⟨q + 1, (by first | rfl | (simp [m6]; done)), ⟨by have := HI3.out; omega⟩, ⟨by have := HQ.out; omega⟩, H2⟩
                  · have c3b := decide_eq_false c3
                    go_wp2
                    go_ret
                    exact ⟨by first | rfl | (simp; done) | (simp [*]; done), H2.out.st.fr⟩
end Apart
end Go.Proofs.YtfkbmjfhakooiaaDoor.PTree
