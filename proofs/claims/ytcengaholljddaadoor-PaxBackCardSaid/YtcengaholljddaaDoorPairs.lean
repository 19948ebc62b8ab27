/- A slice of records that comes in, opened. Conditions: as the theorem says. -/
import Derived.Test.YtcengaholljddaaDoorPPaxx0
import Derived.Deep.SlicePairs
import Derived.SizedLaws
import Derived.KernelRfl
namespace Go.Proofs.YtcengaholljddaaDoor.PPax
open Go.RowKit Go.Proofs.YtcengaholljddaaDoorW.PrintWords Go.Proofs.YtcengaholljddaaDoorW.PrintLast Go.Proofs.YtcengaholljddaaDoorW.PrintMore
set_option linter.unusedVariables false
set_option linter.unusedSimpArgs false
/-! ### a slice of records that comes in -/
namespace Pairs
open Go.ChangeShapes Go.WideShapes Go.Deep
theorem weights_all {H : Type} {P : Program} {e : TypeId} : ∀ {ds : List (DataW H)} {d : DataW H}, d ∈ ds → ∀ n ∈ d.weights P e, n ∈ DataW.weightsAll P e ds
  | [], _, h, _, _ => by cases h
  | a :: r, d, h, n, hn => by
    simp only [DataW.weightsAll, List.mem_append]
    rcases List.mem_cons.1 h with rfl | h
    · exact .inl hn
    · exact .inr (weights_all h n hn)
theorem cof : Tryd.prog.cellsOf 44 = 2 := by kernel_rfl
theorem cof9 : Tryd.prog.cellsOf 9 = 1 := by kernel_rfl
def dat {H : Type} (x : S44) : DataW H := .agg [.lit (.string x.f0.data.toList), .lit (.string x.f1.data.toList)]
theorem opened {H : Type} {enc : TypeId × Value → H} {w : World} {base : Nat} {spare : Nat → Bool} {held : Bool} {A : Option Addr} {len cap : Nat} {d : DataW H} {ps : List MemPlace}
    (hd : DataW.Trod enc Tryd.prog w base spare held 33 (.slice A len cap) d ps) : ∃ l : List S44, Kd.C k44 w A l.length l ∧ l.length = len ∧ len ≤ cap ∧ ((d = .nil ∧ l = []) ∨ ∃ sp, d = .slice (l.map dat) sp) := by
  obtain ⟨fuel, hf⟩ := hd
  rcases open_slice_pairs Tryd.underlying33 Tryd.underlying44 cof rfl rfl cof9 cof9 hf with ⟨hcs, hxx⟩ | ⟨a, len', cap', m, n, V0, V1, D0, D1, P0, P1, hcs, _, hl, hm, hmm, hxx, hx⟩
  · simp [Value.cells] at hcs
    obtain ⟨rfl, rfl, rfl⟩ := hcs
    exact ⟨[], ⟨rfl, by simp, (fun h => absurd h (by simp))⟩, rfl, Nat.le_refl _, .inl ⟨congrArg Prod.fst hxx, rfl⟩⟩
  · simp [Value.cells] at hcs
    obtain ⟨rfl, rfl, rfl⟩ := hcs
    unfold maxLen at hm
    have hlm : len ≤ m := by rw [hmm]; split <;> omega
    have each : ∀ i, i < len → ∃ q : ByteArray × ByteArray, V0 i = .string q.1 ∧ V1 i = .string q.2 ∧ D0 i = .lit (.string q.1.data.toList) ∧ D1 i = .lit (.string q.2.data.toList) := by
      intro i hi
      obtain ⟨_, _, h0, h1⟩ := hx i (by omega)
      obtain ⟨s0, e0, f0, _⟩ := DataW.trod_string Tryd.underlying9 h0
      obtain ⟨s1, e1, f1, _⟩ := DataW.trod_string Tryd.underlying9 h1
      simp only [List.cons.injEq, and_true] at e0 e1
      exact ⟨(s0, s1), e0, e1, congrArg Prod.fst f0, congrArg Prod.fst f1⟩
    obtain ⟨q, hq⟩ := choose_lt each
    have hlen : ((List.range len).map fun i => (⟨(q i).1, (q i).2⟩ : S44)).length = len := by rw [List.length_map, List.length_range]
    refine ⟨(List.range len).map fun i => (⟨(q i).1, (q i).2⟩ : S44), ⟨rfl, by rw [hlen]; omega, fun _ => ⟨a, rfl, fun j p hp => ?_⟩⟩, hlen, hl, .inr ⟨(List.range (m - len)).map fun j => DataW.agg [D0 (len + j), D1 (len + j)], (congrArg Prod.fst hxx).trans ?_⟩⟩
    · have hj : j < len := by have := (List.getElem?_eq_some_iff.1 hp).1; rwa [hlen] at this
      rw [List.getElem?_map, List.getElem?_range hj] at hp
      obtain rfl : (⟨(q j).1, (q j).2⟩ : S44) = p := Option.some.inj hp
      obtain ⟨c0, c1, _, _⟩ := hx j (by omega)
      rw [(hq j hj).1] at c0
      rw [(hq j hj).2.1] at c1
      refine ⟨[.string (q j).1, .string (q j).2], rfl, k44_mk w _, fun i u hu => ?_⟩
      match i, hu with
      | 0, hu => obtain rfl := Option.some.inj hu; exact c0
      | 1, hu => obtain rfl := Option.some.inj hu; exact c1
      | i + 2, hu => cases hu
    · show DataW.slice _ _ = DataW.slice _ _
      congr 1
      rw [List.map_map]
      exact List.map_congr_left (fun i hi => by
        have hi := List.mem_range.1 hi
        show _ = dat _
        rw [(hq i hi).2.2.1, (hq i hi).2.2.2]; rfl)
def Sized (l : List S44) : Prop := l.length ≤ 4398046510976 ∧ ∀ x ∈ l, x.f0.size ≤ 140737488351232 ∧ x.f1.size ≤ 140737488351232
theorem sized_nil : Sized [] := ⟨by simp, fun _ h => by cases h⟩
theorem sized {H : Type} {ts : List TypeId} {ds : List (DataW H)} (h : (DataW.weightsEach Tryd.prog ts ds).all (· ≤ reachBytes) = true) {j : Nat} {l : List S44} {sp : List (DataW H)} (ht : ts[j]? = some 33) (hd : ds[j]? = some (.slice (l.map dat) sp)) :
    Sized l := by
  constructor
  · have z := sized_slice h ht hd Tryd.underlying33
    have hb : Tryd.prog.bytesOf 44 = 32 := by kernel_rfl
    have hr : reachBytes = 140737488351232 := rfl
    rw [hb, hr, List.length_map] at z
    omega
  · intro x hx
    have hr : reachBytes = 140737488351232 := rfl
    have key : ∀ n, n ∈ DataW.weights Tryd.prog 44 (dat x : DataW H) → n ≤ 140737488351232 := by
      intro n hn
      have := List.all_eq_true.1 h n (DataW.weights_mem_each ht hd n (by
        simp only [DataW.weights, Tryd.underlying33]
        exact List.mem_cons_of_mem _ (List.mem_append_left _ (weights_all (List.mem_map.2 ⟨x, hx, rfl⟩) n hn))))
      rw [hr] at this
      simpa using this
    have e : DataW.weights Tryd.prog 44 (dat x : DataW H) = [x.f0.data.toList.length, x.f1.data.toList.length] := by
      simp only [dat, DataW.weights, Tryd.underlying44]; rfl
    rw [e] at key
    have z0 := key _ List.mem_cons_self
    have z1 := key _ (List.mem_cons_of_mem _ List.mem_cons_self)
    rw [Array.length_toList] at z0 z1
    exact ⟨z0, z1⟩
end Pairs
end Go.Proofs.YtcengaholljddaaDoor.PPax
