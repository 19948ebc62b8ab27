/- The order of entries by their paths; the one sorted list. Conditions: as each theorem says. -/
import Derived.Test.YtfkbmjfhakooiaaDoorSort2
import Derived.Test.YtfkbmjfhakooiaaDoorPM3
namespace Go.Proofs.YtfkbmjfhakooiaaDoor.TR
open Go.RowKit Go.Proofs.YtfkbmjfhakooiaaDoor.PTree Go.Proofs.YtfkbmjfhakooiaaDoorW.PrintWords Go.Proofs.YtfkbmjfhakooiaaDoorW.PrintLast Go.Proofs.YtfkbmjfhakooiaaDoorW.PrintMore
set_option linter.unusedVariables false
set_option linter.unusedSimpArgs false
theorem cmp_tot (K B : Nat) (hB : B ≤ 4611686018427387904) (hK : 2 * B + 3 ≤ K) (a b : ByteArray) (ha : a.size ≤ B) (hb : b.size ≤ B) : path_Compare.f K a b = some (PM.cQ a b) :=
  PM.cmp_f a b K (by omega) (by omega) (by omega)
theorem cfB_eq (K B : Nat) (hB : B ≤ 4611686018427387904) (hK : 2 * B + 3 ≤ K) (x y : EntB B) : cfB K B x y = PM.cQ x.1.1.f0 y.1.1.f0 := by
  unfold cfB
  rw [cmp_tot K B hB hK _ _ x.2 y.2]
  rfl
theorem swoB (K B : Nat) (hB : B ≤ 4611686018427387904) (hK : 2 * B + 3 ≤ K) : Go.Sort.SWO (Go.Proofs.ltOf (cfB K B)) := by
  have e : ∀ x y, Go.Proofs.ltOf (cfB K B) x y = decide (PM.cQ x.1.1.f0 y.1.1.f0 < 0) := fun x y => by
    unfold Go.Proofs.ltOf
    rw [cfB_eq K B hB hK]
  refine ⟨fun x => ?_, fun x y z h1 h2 => ?_, fun x y z h1 h2 => ?_⟩
  · rw [e, PM.cQ_isCmp.self]; rfl
  · rw [e] at *
    have h1 := of_decide_eq_true h1
    have h2 := of_decide_eq_true h2
    have t1 := PM.cQ_isCmp.tri x.1.1.f0 y.1.1.f0
    have := PM.cQ_isCmp.lt (a := x.1.1.f0) (b := y.1.1.f0) (d := z.1.1.f0) (by omega) (by omega)
    exact decide_eq_true (by omega)
  · rw [e] at *
    have h1 := of_decide_eq_false h1
    have h2 := of_decide_eq_false h2
    have a1 := PM.cQ_isCmp.anti x.1.1.f0 y.1.1.f0
    have a2 := PM.cQ_isCmp.anti y.1.1.f0 z.1.1.f0
    have a3 := PM.cQ_isCmp.anti x.1.1.f0 z.1.1.f0
    have := PM.cQ_isCmp.trans z.1.1.f0 y.1.1.f0 x.1.1.f0 (by omega) (by omega)
    exact decide_eq_false (by omega)
/-- ys is xs, sorted by paths. -/
def SortR (K : Nat) (xs ys : List S31) : Prop := ys.Perm xs ∧ ∀ (i j : Nat) (p q : S31), i < j → ys[i]? = some p → ys[j]? = some q → ¬ (path_Compare.f K q.f0 p.f0).getD 0 < 0
theorem sort_goes (K B : Nat) (hB : B ≤ 4611686018427387904) (hK : 2 * B + 3 ≤ K) (w0 : World) (hGl : Gl w0) (xs : List S31) (hx : ∀ x ∈ xs, x.f0.size ≤ B) (hn : xs.length ≤ 1000000) (v : Value) (w : World) (h0 : Below w0.heap.size w0 w) (hR : Kd.R k31 31 w w0.heap.size (fun _ => True) v xs) :
    Calls Tryd.prog 24 #[v, .func (.func 25) #[] #[]] w fun e w' => e = .returned (.tuple #[]) ∧ ∃ ys, SortR K xs ys ∧ Kd.R k31 31 w' w0.heap.size (fun _ => True) v ys ∧ Below w0.heap.size w0 w' :=
  (sort_calls K B (fun a b ha hb => ⟨_, cmp_tot K B hB hK a b ha hb⟩) (swoB K B hB hK) w0 w v xs h0 hGl hR hx hn).mono fun e w' h => by
    obtain ⟨h1, ys, h2, h3, h4, h5⟩ := h
    exact ⟨h1, ys, ⟨h2, h3⟩, h4, h5⟩
theorem sortR_pair {K B : Nat} (hB : B ≤ 4611686018427387904) (hK : 2 * B + 3 ≤ K) {xs ys : List S31} (hx : ∀ x ∈ xs, x.f0.size ≤ B) (h : SortR K xs ys) : ys.Pairwise (fun p q => PM.cQ p.f0 q.f0 ≤ 0) := by
  rw [List.pairwise_iff_getElem]
  intro i j hi hj hij
  have h1 := h.2 i j _ _ hij (List.getElem?_eq_getElem hi) (List.getElem?_eq_getElem hj)
  have hm : ∀ k (hk : k < ys.length), ys[k].f0.size ≤ B := fun k hk => hx _ (h.1.mem_iff.1 (List.getElem_mem hk))
  rw [cmp_tot K B hB hK _ _ (hm j hj) (hm i hi)] at h1
  have := PM.cQ_isCmp.anti ys[i].f0 ys[j].f0
  simp only [Option.getD_some] at h1
  omega
theorem sortR_uniq {K B : Nat} (hB : B ≤ 4611686018427387904) (hK : 2 * B + 3 ≤ K) {xs ys zs : List S31} (hx : ∀ x ∈ xs, x.f0.size ≤ B) (h : SortR K xs ys) (hz : zs.Perm xs) (hs : zs.Pairwise (fun p q => PM.cQ p.f0 q.f0 ≤ 0)) (hd : ∀ p q, p ∈ xs → q ∈ xs → p.f0 = q.f0 → p = q) : ys = zs := by
  refine List.Perm.eq_of_pairwise (le := fun p q => PM.cQ p.f0 q.f0 ≤ 0) (fun a b ha hb h1 h2 => ?_) (sortR_pair hB hK hx h) hs (h.1.trans hz.symm)
  have := PM.cQ_isCmp.anti a.f0 b.f0
  exact hd a b (h.1.mem_iff.1 ha) (hz.mem_iff.1 hb) ((PM.cQ_isCmp.eq0 _ _).1 (by omega))
end Go.Proofs.YtfkbmjfhakooiaaDoor.TR
