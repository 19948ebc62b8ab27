/- A slice of strings that comes in, opened. Conditions: none. -/
import Derived.Test.YtplhgoccnjgkpaaDoorPPathx0
import Derived.SliceStrings
import Derived.SizedLaws
import Derived.KernelRfl
namespace Go.Proofs.YtplhgoccnjgkpaaDoor.PPath
open Go.RowKit Go.Proofs.YtplhgoccnjgkpaaDoorW.PrintWords Go.Proofs.YtplhgoccnjgkpaaDoorW.PrintLast
set_option linter.unusedVariables false
set_option linter.unusedSimpArgs false
namespace Strs
open Go.ChangeShapes Go.WideShapes
theorem weights_all {H : Type} {P : Program} {e : TypeId} : ∀ {ds : List (DataW H)} {d : DataW H}, d ∈ ds → ∀ n ∈ d.weights P e, n ∈ DataW.weightsAll P e ds
  | [], _, h, _, _ => by cases h
  | a :: r, d, h, n, hn => by
    simp only [DataW.weightsAll, List.mem_append]
    rcases List.mem_cons.1 h with rfl | h
    · exact .inl hn
    · exact .inr (weights_all h n hn)
theorem cof9 : Tryd.prog.cellsOf 9 = 1 := by kernel_rfl
theorem opened {H : Type} {enc : TypeId × Value → H} {w : World} {base : Nat} {spare : Nat → Bool} {held : Bool} {A : Option Addr} {len cap : Nat} {d : DataW H} {ps : List MemPlace}
    (hd : DataW.Trod enc Tryd.prog w base spare held 22 (.slice A len cap) d ps) : ∃ l : List ByteArray, Kd.C Kd.string w A l.length l ∧ l.length = len ∧ len ≤ cap ∧ ((d = .nil ∧ l = []) ∨ ∃ sp, d = .slice (strs l) sp) := by
  obtain ⟨fuel, hf⟩ := hd
  rcases open_strings Tryd.underlying22 Tryd.underlying9 cof9 hf with ⟨hcs, hxx⟩ | ⟨a, len', cap', ss, hcs, _, hl, hm, hz, hxx, hcell, hsz⟩
  · simp [Value.cells] at hcs
    obtain ⟨rfl, rfl, rfl⟩ := hcs
    exact ⟨[], ⟨rfl, by simp, (fun h => absurd h (by simp))⟩, rfl, Nat.le_refl _, .inl ⟨congrArg Prod.fst hxx, rfl⟩⟩
  · simp [Value.cells] at hcs
    obtain ⟨rfl, rfl, rfl⟩ := hcs
    unfold maxLen at hm
    have hzl : len ≤ ss.length := by rw [hz]; split <;> omega
    have hlen : (ss.take len).length = len := by rw [List.length_take]; omega
    refine ⟨ss.take len, Kd.C_of_reads (enc := Value.string) (d := (⟨#[]⟩ : ByteArray)) (h1 := fun _ => rfl) ⟨rfl, by rw [hlen]; omega, fun _ => ⟨a, rfl, fun j hj => ?_⟩⟩, hlen, hl, .inr ⟨_, congrArg Prod.fst hxx⟩⟩
    rw [hlen] at hj
    rw [hcell j (by omega)]
    simp [List.getElem?_take_of_lt hj, List.getElem?_eq_getElem (show j < ss.length by omega)]
def Sized (l : List ByteArray) : Prop := l.length ≤ 8796093022202 ∧ ∀ x ∈ l, x.size ≤ 140737488351232
theorem sized_nil : Sized [] := ⟨by simp, fun _ h => by cases h⟩
theorem sized {H : Type} {ts : List TypeId} {ds : List (DataW H)} (h : (DataW.weightsEach Tryd.prog ts ds).all (· ≤ reachBytes) = true) {j : Nat} {l : List ByteArray} {sp : List (DataW H)} (ht : ts[j]? = some 22) (hd : ds[j]? = some (.slice (strs l) sp)) :
    Sized l := by
  constructor
  · have z := sized_slice h ht hd Tryd.underlying22
    have hb : Tryd.prog.bytesOf 9 = 16 := by kernel_rfl
    have hr : reachBytes = 140737488351232 := rfl
    unfold strs at z
    rw [hb, hr, List.length_map] at z
    omega
  · intro x hx
    have hr : reachBytes = 140737488351232 := rfl
    have key : ∀ n, n ∈ DataW.weights Tryd.prog 9 (.lit (.string x.data.toList) : DataW H) → n ≤ 140737488351232 := by
      intro n hn
      have := List.all_eq_true.1 h n (DataW.weights_mem_each ht hd n (by
        simp only [DataW.weights, Tryd.underlying22]
        exact List.mem_cons_of_mem _ (List.mem_append_left _ (weights_all (List.mem_map.2 ⟨x, hx, rfl⟩) n hn))))
      rw [hr] at this
      simpa using this
    have z0 := key x.data.toList.length (by simp [DataW.weights])
    rw [Array.length_toList] at z0
    exact z0
end Strs
end Go.Proofs.YtplhgoccnjgkpaaDoor.PPath
