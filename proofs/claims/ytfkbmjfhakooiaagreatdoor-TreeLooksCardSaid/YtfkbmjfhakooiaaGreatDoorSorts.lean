/- Sorting and the order of paths. Conditions: as each theorem says. -/
import Derived.Test.YtfkbmjfhakooiaaGreatDoorSrtLay
import Derived.Test.YtfkbmjfhakooiaaGreatDoorMp
import Derived.Test.YtfkbmjfhakooiaaGreatDoorPTreex2
import Derived.Test.YtfkbmjfhakooiaaGreatDoorPM23
/- slices.SortFunc of entries by their paths, walked. Conditions: as each theorem says. -/
namespace Go.Proofs.YtfkbmjfhakooiaaGreatDoor.TR
open Go.RowKit Go.Proofs.YtfkbmjfhakooiaaGreatDoor.PTree Go.Proofs.YtfkbmjfhakooiaaGreatDoorW.PrintWords Go.Proofs.YtfkbmjfhakooiaaGreatDoorW.PrintLast Go.Proofs.YtfkbmjfhakooiaaGreatDoorW.PrintMore
open Go.Sort (grow HoldsK putRowK putRow flatK putCells mapBlock onCells)
open Go.Proofs (sortWorldK CmpLays)
set_option linter.unusedVariables false
set_option linter.unusedSimpArgs false
abbrev EntB (B : Nat) := {x : S28 × Option Addr × Nat // x.1.f0.size ≤ B}
instance (B : Nat) : Inhabited (EntB B) := ⟨⟨(z28, none, 0), Nat.zero_le _⟩⟩
def encE (x : S28) (A : Option Addr) (c : Nat) : List Value := [.string x.f0, .int .i64 x.f1, .int .i64 x.f2, .int .i64 x.f3, .int .i64 x.f4, .int .i64 x.f5, .string x.f6, .slice A x.f7.length c]
def encB {B : Nat} (x : EntB B) : List Value := encE x.1.1 x.1.2.1 x.1.2.2
def cfB (K B : Nat) (x y : EntB B) : Int := (path_Compare.f K x.1.1.f0 y.1.1.f0).getD 0
set_option maxHeartbeats 4000000 in
theorem closure25 (K B : Nat) (hC : ∀ a b : ByteArray, a.size ≤ B → b.size ≤ B → ∃ r, path_Compare.f K a b = some r) (x y : EntB B) (W : World) (hGl : Gl W) :
    Calls Tryz.prog 45 #[.agg (encB x).toArray, .agg (encB y).toArray] W fun e w' => e = .returned (.int .i64 (cfB K B x y)) ∧ ∃ q os', w' = grow (W.drewN q) os' := by
  have hu31 := Tryz.underlying28
  obtain ⟨r, hr⟩ := hC x.1.1.f0 y.1.1.f0 x.2 y.2
  have hcf : cfB K B x y = r := by unfold cfB; rw [hr]; rfl
  rw [hcf]
  have HR := Aside0.mk hr
  have HGL := Aside0.mk hGl
  clear hr hcf hC
  obtain ⟨⟨⟨a0, a1, a2, a3, a4, a5, a6, a7⟩, A, c⟩, hx⟩ := x
  obtain ⟨⟨⟨b0, b1, b2, b3, b4, b5, b6, b7⟩, A', c'⟩, hy⟩ := y
  show Calls Tryz.prog 45 #[.agg #[.string a0, .int .i64 a1, .int .i64 a2, .int .i64 a3, .int .i64 a4, .int .i64 a5, .string a6, .slice A a7.length c], .agg #[.string b0, .int .i64 b1, .int .i64 b2, .int .i64 b3, .int .i64 b4, .int .i64 b5, .string b6, .slice A' b7.length c']] W _
  go_enter Tryz.func45, Tryz.ntmps45
  go_wp2_with (first
    | (go_at_call 46; refine (path_Compare.calls K a0 b0 r _ (HGL.out.of (below_alloc (below_alloc (Below.refl _ _) _) _)) HR.out).mono ?_; rintro e w' ⟨rfl, ⟨⟨n, rfl⟩⟩⟩))
  go_ret
  exact ⟨rfl, n, _, by rw [Go.Sort.alloc_eq_grow, Go.Sort.alloc_eq_grow, Go.Sort.grow_grow]; rfl⟩
/-- What the sort's worlds keep. -/
theorem sortW_heap {B : Nat} (w : World) (blk m : Nat) (dk : Array (EntB B)) (os : Array Obj) (hb : blk < w.heap.size) (i : Nat) (hi : i < w.heap.size) (hne : i ≠ blk) : (sortWorldK encB 8 w blk 0 m dk os).heap[i]? = w.heap[i]? := by
  unfold sortWorldK putRowK putRow mapBlock
  show ((w.heap.modify blk _) ++ os)[i]? = _
  rw [Array.getElem?_append_left (by rw [Array.size_modify]; exact hi), Array.getElem?_modify, if_neg (fun e => hne e.symm)]
theorem sortW_size {B : Nat} (w : World) (blk m : Nat) (dk : Array (EntB B)) (os : Array Obj) : w.heap.size ≤ (sortWorldK encB 8 w blk 0 m dk os).heap.size := by
  unfold sortWorldK putRowK putRow mapBlock
  show _ ≤ ((w.heap.modify blk _) ++ os).size
  rw [Array.size_append, Array.size_modify]
  omega
theorem sortW_blk {B : Nat} (w : World) (blk m : Nat) (dk : Array (EntB B)) (os : Array Obj) (cur : Array Value) (t : TypeId) (h : w.heap[blk]? = some (.cells cur t (0, 0))) : (sortWorldK encB 8 w blk 0 m dk os).heap[blk]? = some (.cells (putCells id 0 (flatK encB 8 dk) cur) t (0, 0)) := by
  obtain ⟨hlt, hk⟩ := Array.getElem?_eq_some_iff.1 h
  unfold sortWorldK putRowK putRow mapBlock
  show ((w.heap.modify blk _) ++ os)[blk]? = _
  rw [Array.getElem?_append_left (by rw [Array.size_modify]; exact hlt), Array.getElem?_modify, if_pos rfl, h]
  rfl
theorem sortW_below {B : Nat} (w0 w : World) (h0 : Below w0.heap.size w0 w) (blk m : Nat) (dk : Array (EntB B)) (os : Array Obj) (hb : blk < w.heap.size) (hge : w0.heap.size ≤ blk) : Below w0.heap.size w0 (sortWorldK encB 8 w blk 0 m dk os) :=
  h0.trans ⟨rfl, rfl, rfl, sortW_size w blk m dk os, fun k hk => sortW_heap w blk m dk os hb k (Nat.lt_of_lt_of_le hk h0.size) (by omega)⟩
end Go.Proofs.YtfkbmjfhakooiaaGreatDoor.TR

/- slices.SortFunc of entries by their paths: the row behind it. Conditions: as each theorem says. -/
namespace Go.Proofs.YtfkbmjfhakooiaaGreatDoor.TR
open Go.RowKit Go.Proofs.YtfkbmjfhakooiaaGreatDoor.PTree Go.Proofs.YtfkbmjfhakooiaaGreatDoorW.PrintWords Go.Proofs.YtfkbmjfhakooiaaGreatDoorW.PrintLast Go.Proofs.YtfkbmjfhakooiaaGreatDoorW.PrintMore
open Go.Sort (grow HoldsK putRowK putRow flatK putCells mapBlock onCells)
open Go.Proofs (sortWorldK CmpLays)
set_option linter.unusedVariables false
set_option linter.unusedSimpArgs false
theorem encB_len {B : Nat} (x : EntB B) : (encB x).length = 8 := rfl
theorem flat_len : ∀ (L : List (List Value)), (∀ l ∈ L, l.length = 8) → L.flatten.length = L.length * 8
  | [], _ => rfl
  | a :: L, h => by
    rw [List.flatten_cons, List.length_append, flat_len L (fun l hl => h l (List.mem_cons_of_mem _ hl)), h a List.mem_cons_self, List.length_cons]
    omega
theorem flat_seg : ∀ (L : List (List Value)), (∀ l ∈ L, l.length = 8) → ∀ (j : Nat) (l : List Value), L[j]? = some l → (L.flatten.drop (j * 8)).take 8 = l
  | [], _, j, l, h => by simp at h
  | a :: L, hl, 0, l, h => by
    simp only [List.getElem?_cons_zero, Option.some.injEq] at h
    subst h
    have ha := hl a List.mem_cons_self
    rw [Nat.zero_mul, List.drop_zero, List.flatten_cons, List.take_append_of_le_length (by omega), List.take_of_length_le (by omega)]
  | a :: L, hl, j + 1, l, h => by
    have ha := hl a List.mem_cons_self
    rw [List.flatten_cons, show (j + 1) * 8 = a.length + j * 8 by omega, List.drop_append]
    simp only [List.getElem?_cons_succ] at h
    rw [List.drop_of_length_le (by omega), List.nil_append, Nat.add_sub_cancel_left]
    exact flat_seg L (fun l hl' => hl l (List.mem_cons_of_mem _ hl')) j l h
theorem flatK_list {B : Nat} (d : Array (EntB B)) : (flatK encB 8 d).toList = (d.toList.map encB).flatten := by
  have hl : ∀ l ∈ d.toList.map (encB (B := B)), l.length = 8 := fun l hl => by
    obtain ⟨x, _, rfl⟩ := List.mem_map.1 hl
    rfl
  have hlen := flat_len _ hl
  have hlen2 : (d.toList.map (encB (B := B))).flatten.length = d.size * 8 := by rw [hlen, List.length_map]; rfl
  clear hlen
  apply List.ext_getElem?
  intro t
  by_cases ht : t < d.size * 8
  · have hj : t / 8 < d.size := by omega
    have h1 := flat_seg _ hl (t / 8) (encB d[t / 8]) (by rw [List.getElem?_map, Array.getElem?_toList, Array.getElem?_eq_getElem hj]; rfl)
    have h2 : (d.toList.map (encB (B := B))).flatten[t]? = (encB d[t / 8])[t % 8]? := by
      rw [← h1, List.getElem?_take, if_pos (by omega), List.getElem?_drop, show t / 8 * 8 + t % 8 = t by omega]
    rw [h2, Array.getElem?_toList, Array.getElem?_eq_getElem (by simpa using ht)]
    have h3 := Go.Sort.get_flatK (encB (B := B)) 8 d t ht
    rw [getElem!_pos _ _ (by simpa using ht), getElem!_pos d _ hj, getElem!_pos _ _ (by rw [encB_len]; omega)] at h3
    rw [h3, List.getElem?_eq_getElem (by rw [encB_len]; omega)]
  · rw [List.getElem?_eq_none (by rw [Array.length_toList, Go.Sort.size_flatK]; omega), List.getElem?_eq_none (by rw [hlen2]; omega)]
theorem put_take (F cur : Array Value) (h : F.size ≤ cur.size) : (putCells id 0 F cur).toList.take F.size = F.toList := by
  apply List.ext_getElem?
  intro t
  rw [List.getElem?_take]
  by_cases ht : t < F.size
  · rw [if_pos ht]
    unfold putCells
    rw [Array.getElem?_toList, Array.getElem?_mapIdx, Array.getElem?_eq_getElem (by omega), Option.map_some, if_pos ⟨Nat.zero_le _, by omega⟩, Nat.sub_zero, Array.getElem?_toList, Array.getElem?_eq_getElem ht, getElem!_pos F t ht]
    rfl
  · rw [if_neg ht, List.getElem?_eq_none (by simp; omega)]
theorem put_size (F cur : Array Value) : (putCells id 0 F cur).size = cur.size := by unfold putCells; simp
/-- The entries of a row, with their slices. -/
theorem ents_of (B : Nat) (P : S28 → Option Addr → Nat → Prop) : ∀ (xs : List S28) (inner : List Value), inner.length = xs.length * 8 → (∀ j p, xs[j]? = some p → p.f0.size ≤ B ∧ ∃ A c, (inner.drop (j * 8)).take 8 = encE p A c ∧ P p A c) →
    ∃ D : List (EntB B), D.map (fun d => d.1.1) = xs ∧ inner = (D.map encB).flatten ∧ ∀ d ∈ D, P d.1.1 d.1.2.1 d.1.2.2
  | [], inner, hl, _ => ⟨[], rfl, List.eq_nil_of_length_eq_zero (by simpa using hl), fun d hd => by cases hd⟩
  | x :: xs, inner, hl, h => by
    obtain ⟨hb, A, c, h0, hP⟩ := h 0 x rfl
    rw [List.length_cons] at hl
    obtain ⟨D, h1, h2, h3⟩ := ents_of B P xs (inner.drop 8) (by rw [List.length_drop]; omega) (fun j p hj => by
      obtain ⟨q1, A, c, q2, q3⟩ := h (j + 1) p (by simpa using hj)
      exact ⟨q1, A, c, by rw [List.drop_drop, show 8 + j * 8 = (j + 1) * 8 by omega]; exact q2, q3⟩)
    refine ⟨⟨(x, A, c), hb⟩ :: D, by rw [List.map_cons, h1], ?_, fun d hd => ?_⟩
    · rw [List.map_cons, List.flatten_cons, ← h2]
      show inner = encE x A c ++ _
      rw [Nat.zero_mul, List.drop_zero] at h0
      rw [← h0, List.take_append_drop]
    · rcases List.mem_cons.1 hd with rfl | hd
      · exact hP
      · exact h3 d hd
set_option maxHeartbeats 4000000 in
theorem sort_calls (K B : Nat) (hC : ∀ a b : ByteArray, a.size ≤ B → b.size ≤ B → ∃ r, path_Compare.f K a b = some r) (hO : Go.Sort.SWO (Go.Proofs.ltOf (cfB K B))) (w0 W : World) (v : Value) (xs : List S28) (h0 : Below w0.heap.size w0 W) (hGl : Gl w0) (hR : Kd.R k28 28 W w0.heap.size (fun _ => True) v xs) (hB : ∀ x ∈ xs, x.f0.size ≤ B) (hn : xs.length ≤ 1000000) :
    Calls Tryz.prog 44 #[v, .func (.func 45) #[] #[]] W fun e w' => e = .returned (.tuple #[]) ∧ ∃ ys, ys.Perm xs ∧ (∀ (i j : Nat) (p q : S28), i < j → ys[i]? = some p → ys[j]? = some q → ¬ (path_Compare.f K q.f0 p.f0).getD 0 < 0) ∧ Kd.R k28 28 w' w0.heap.size (fun _ => True) v ys ∧ Below w0.heap.size w0 w' := by
  rcases Nat.eq_zero_or_pos xs.length with hz | hp
  · obtain rfl : xs = [] := List.eq_nil_of_length_eq_zero hz
    obtain ⟨A, c, rfl⟩ := Kd.R_slice hR
    refine (show Calls Tryz.prog 44 _ W _ from AnyF.slices_SortFunc_none Tryz.sortEnt A c _ W).mono ?_
    rintro e w' ⟨rfl, rfl⟩
    exact ⟨rfl, [], List.Perm.refl _, fun i j p q _ h => by simp at h, by assumption, by assumption⟩
  · have hR2 := hR
    obtain ⟨_, inner, ho, hr⟩ := hR
    rcases ho.2 with ⟨_, hz⟩ | ⟨g, cap, cur, rfl, hbg, hh, hnc, hcm, hcs, htake⟩
    · omega
    have hgl : g < W.heap.size := (Array.getElem?_eq_some_iff.1 hh).1
    have hcs8 : cur.size = cap * 8 := hcs
    have htake8 : cur.toList.take (xs.length * 8) = inner := htake
    obtain ⟨D, hD, hin, hP⟩ := ents_of B (fun x A c => Kd.R (Kd.int .u8) 5 W w0.heap.size (fun k => k ≠ g) (.slice A x.f7.length c) x.f7) xs inner hr.1 (fun j p hj => by
      refine ⟨hB p (List.mem_of_getElem? hj), ?_⟩
      obtain ⟨v7, hc, hv⟩ := k28_openM (hr.2 j p hj)
      obtain ⟨A, c, rfl⟩ := Kd.R_slice hv
      exact ⟨A, c, hc, Kd.R_mono (Kd.R_types hv hh (by decide)) (fun k hk => hk.2)⟩)
    have hlen : D.length = xs.length := by rw [← hD, List.length_map]
    have hfl : (flatK encB 8 D.toArray).toList = inner := by rw [flatK_list, hin]
    have hfs : (flatK encB 8 D.toArray).size = xs.length * 8 := by simp [hlen]
    have hH : HoldsK encB 8 W g 0 D.toArray := by
      intro j hj
      have hj2 : j < cur.size := by rw [hcs8]; omega
      have hc : (flatK encB 8 D.toArray)[j]! = cur[j] := by
        rw [getElem!_pos _ j hj]
        have h1 : (flatK encB 8 D.toArray).toList[j]? = cur.toList[j]? := by
          rw [hfl, ← htake8, List.getElem?_take, if_pos (by omega)]
        rw [Array.getElem?_toList, Array.getElem?_toList, Array.getElem?_eq_getElem hj, Array.getElem?_eq_getElem hj2] at h1
        exact Option.some.inj h1
      refine ⟨?_, blk_frozen hh _⟩
      rw [hc, Nat.zero_add]
      exact (blk_cell hh j).trans (by rw [Array.getElem?_eq_getElem hj2]; rfl)
    have hge : w0.heap.size ≤ g := hbg
    have hcmp : CmpLays Tryz.prog 45 #[] encB 8 (cfB K B) g 0 D.toArray.size W := fun m os dk _ x y =>
      closure25 K B hC x y _ (hGl.of (sortW_below w0 W h0 g m dk os hgl hge))
    have eg : ∀ args w, (callFunc 45 args).run Tryz.prog w = .ok (.enter 45 args) w := enters_of Tryz.func45 (by kernel_rfl) rfl
    have hcon := AnyQ.slices_SortFunc Tryz.sortEnt 8 Tryz.isAgg28 Tryz.sizeOf28 encB encB_len (fun x v hv => by simp [encB, encE] at hv; rcases hv with rfl | rfl | rfl | rfl | rfl | rfl | rfl | rfl <;> rfl) (cfB K B) hO 45 #[] g 0 cap D.toArray W eg hcmp hH hgl (by simp [hlen]; omega)
    change Calls Tryz.prog 44 _ _ _ at hcon
    rw [show D.toArray.size = xs.length by simp [hlen]] at hcon
    refine hcon.mono ?_
    rintro e w' ⟨rfl, d', m, os, ⟨hps, _, hpp⟩, hst, rfl⟩
    have hds : d'.size = xs.length := by rw [hps]; simp [hlen]
    have hperm : d'.toList.Perm D := by
      have h1 : (d'.extract 0 xs.length).toList = d'.toList := by rw [← hds]; simp
      have h2 : (D.toArray.extract 0 xs.length).toList = D := by rw [← hlen]; simp
      rwa [h1, h2] at hpp
    have hyl : (d'.toList.map (fun d => d.1.1)).length = xs.length := by rw [List.length_map, Array.length_toList, hds]
    have hfs2 : (flatK encB 8 d').size = xs.length * 8 := by rw [Go.Sort.size_flatK, hds]
    have hall : ∀ l ∈ d'.toList.map (encB (B := B)), l.length = 8 := fun l hl => by
      obtain ⟨x, _, rfl⟩ := List.mem_map.1 hl
      rfl
    refine ⟨rfl, d'.toList.map (fun d => d.1.1), by rw [← hD]; exact hperm.map _, ?_, ?_, sortW_below w0 W h0 g m d' os hgl hge⟩
    · intro i j p q hij hp hq
      rw [List.getElem?_map, Option.map_eq_some_iff] at hp hq
      obtain ⟨dp, hdp, rfl⟩ := hp
      obtain ⟨dq, hdq, rfl⟩ := hq
      rw [Array.getElem?_toList] at hdp hdq
      obtain ⟨hj, hdq⟩ := Array.getElem?_eq_some_iff.1 hdq
      obtain ⟨hi, hdp⟩ := Array.getElem?_eq_some_iff.1 hdp
      have h1 := hst i j (Nat.zero_le _) hij (by omega)
      rw [getElem!_pos d' j hj, getElem!_pos d' i hi, hdq, hdp] at h1
      unfold Go.Proofs.ltOf cfB at h1
      simpa using h1
    · refine ⟨fun _ _ => trivial, (d'.toList.map encB).flatten, ?_, ?_, ?_⟩
      · rw [hyl]
        refine ⟨by rw [flat_len _ hall, List.length_map, Array.length_toList, hds]; rfl, .inr ⟨g, cap, _, rfl, hbg, sortW_blk W g m d' os cur _ hh, hnc, hcm, by rw [put_size]; exact hcs, ?_⟩⟩
        show (putCells id 0 (flatK encB 8 d') cur).toList.take (xs.length * 8) = _
        rw [← hfs2, put_take _ _ (by rw [hfs2, hcs8]; exact Nat.mul_le_mul_right 8 hnc), flatK_list]
      · rw [flat_len _ hall, List.length_map, List.length_map]; rfl
      · intro j p hj
        rw [List.getElem?_map, Option.map_eq_some_iff] at hj
        obtain ⟨dp, hdp, rfl⟩ := hj
        show k28.M _ _ _ _ (((d'.toList.map encB).flatten.drop (j * 8)).take 8)
        rw [flat_seg _ hall j (encB dp) (by rw [List.getElem?_map, hdp]; rfl)]
        have h1 := hP dp (hperm.mem_iff.1 (List.mem_of_getElem? hdp))
        refine k28_mkM _ _ _ dp.1.1 (Kd.R_mono (Kd.R_step h1 (fun k hk hlt => sortW_heap W g m d' os hgl k hlt hk)) (fun k hk => ⟨trivial, fun e => hk (by simpa [Value.ownBlock] using e)⟩))
end Go.Proofs.YtfkbmjfhakooiaaGreatDoor.TR

/- The order of entries by their paths; the one sorted list. Conditions: as each theorem says. -/
namespace Go.Proofs.YtfkbmjfhakooiaaGreatDoor.TR
open Go.RowKit Go.Proofs.YtfkbmjfhakooiaaGreatDoor.PTree Go.Proofs.YtfkbmjfhakooiaaGreatDoorW.PrintWords Go.Proofs.YtfkbmjfhakooiaaGreatDoorW.PrintLast Go.Proofs.YtfkbmjfhakooiaaGreatDoorW.PrintMore
set_option linter.unusedVariables false
set_option linter.unusedSimpArgs false
theorem cmp_tot (K B : Nat) (hB : B ≤ 4611686018427387904) (hK : 2 * B + 3 ≤ K) (a b : ByteArray) (ha : a.size ≤ B) (hb : b.size ≤ B) : path_Compare.f K a b = some (PM.cQ a b) :=
  PM.cmp_f a b K (by omega) (by omega) (by omega)
theorem cfB_eq (K B : Nat) (hB : B ≤ 4611686018427387904) (hK : 2 * B + 3 ≤ K) (x y : EntB B) : cfB K B x y = PM.cQ x.1.1.f0 y.1.1.f0 := by
  unfold cfB
  rw [cmp_tot K B hB hK _ _ x.2 y.2]
  rfl
theorem swoB (K B : Nat) (hB : B ≤ 4611686018427387904) (hK : 2 * B + 3 ≤ K) : Go.Sort.SWO (Go.Proofs.ltOf (cfB K B)) := by
  have e : ∀ x y, Go.Proofs.ltOf (cfB K B) x y = decide (PM.cQ x.1.1.f0 y.1.1.f0 < 0) := fun x y => by
    unfold Go.Proofs.ltOf
    rw [cfB_eq K B hB hK]
  refine ⟨fun x => ?_, fun x y z h1 h2 => ?_, fun x y z h1 h2 => ?_⟩
  · rw [e, PM.cQ_isCmp.self]; rfl
  · rw [e] at *
    have h1 := of_decide_eq_true h1
    have h2 := of_decide_eq_true h2
    have t1 := PM.cQ_isCmp.tri x.1.1.f0 y.1.1.f0
    have := PM.cQ_isCmp.lt (a := x.1.1.f0) (b := y.1.1.f0) (d := z.1.1.f0) (by omega) (by omega)
    exact decide_eq_true (by omega)
  · rw [e] at *
    have h1 := of_decide_eq_false h1
    have h2 := of_decide_eq_false h2
    have a1 := PM.cQ_isCmp.anti x.1.1.f0 y.1.1.f0
    have a2 := PM.cQ_isCmp.anti y.1.1.f0 z.1.1.f0
    have a3 := PM.cQ_isCmp.anti x.1.1.f0 z.1.1.f0
    have := PM.cQ_isCmp.trans z.1.1.f0 y.1.1.f0 x.1.1.f0 (by omega) (by omega)
    exact decide_eq_false (by omega)
/-- ys is xs, sorted by paths. -/
def SortR (K : Nat) (xs ys : List S28) : Prop := ys.Perm xs ∧ ∀ (i j : Nat) (p q : S28), i < j → ys[i]? = some p → ys[j]? = some q → ¬ (path_Compare.f K q.f0 p.f0).getD 0 < 0
theorem sort_goes (K B : Nat) (hB : B ≤ 4611686018427387904) (hK : 2 * B + 3 ≤ K) (w0 : World) (hGl : Gl w0) (xs : List S28) (hx : ∀ x ∈ xs, x.f0.size ≤ B) (hn : xs.length ≤ 1000000) (v : Value) (w : World) (h0 : Below w0.heap.size w0 w) (hR : Kd.R k28 28 w w0.heap.size (fun _ => True) v xs) :
    Calls Tryz.prog 44 #[v, .func (.func 45) #[] #[]] w fun e w' => e = .returned (.tuple #[]) ∧ ∃ ys, SortR K xs ys ∧ Kd.R k28 28 w' w0.heap.size (fun _ => True) v ys ∧ Below w0.heap.size w0 w' :=
  (sort_calls K B (fun a b ha hb => ⟨_, cmp_tot K B hB hK a b ha hb⟩) (swoB K B hB hK) w0 w v xs h0 hGl hR hx hn).mono fun e w' h => by
    obtain ⟨h1, ys, h2, h3, h4, h5⟩ := h
    exact ⟨h1, ys, ⟨h2, h3⟩, h4, h5⟩
theorem sortR_pair {K B : Nat} (hB : B ≤ 4611686018427387904) (hK : 2 * B + 3 ≤ K) {xs ys : List S28} (hx : ∀ x ∈ xs, x.f0.size ≤ B) (h : SortR K xs ys) : ys.Pairwise (fun p q => PM.cQ p.f0 q.f0 ≤ 0) := by
  rw [List.pairwise_iff_getElem]
  intro i j hi hj hij
  have h1 := h.2 i j _ _ hij (List.getElem?_eq_getElem hi) (List.getElem?_eq_getElem hj)
  have hm : ∀ k (hk : k < ys.length), ys[k].f0.size ≤ B := fun k hk => hx _ (h.1.mem_iff.1 (List.getElem_mem hk))
  rw [cmp_tot K B hB hK _ _ (hm j hj) (hm i hi)] at h1
  have := PM.cQ_isCmp.anti ys[i].f0 ys[j].f0
  simp only [Option.getD_some] at h1
  omega
theorem sortR_uniq {K B : Nat} (hB : B ≤ 4611686018427387904) (hK : 2 * B + 3 ≤ K) {xs ys zs : List S28} (hx : ∀ x ∈ xs, x.f0.size ≤ B) (h : SortR K xs ys) (hz : zs.Perm xs) (hs : zs.Pairwise (fun p q => PM.cQ p.f0 q.f0 ≤ 0)) (hd : ∀ p q, p ∈ xs → q ∈ xs → p.f0 = q.f0 → p = q) : ys = zs := by
  refine List.Perm.eq_of_pairwise (le := fun p q => PM.cQ p.f0 q.f0 ≤ 0) (fun a b ha hb h1 h2 => ?_) (sortR_pair hB hK hx h) hs (h.1.trans hz.symm)
  have := PM.cQ_isCmp.anti a.f0 b.f0
  exact hd a b (h.1.mem_iff.1 ha) (hz.mem_iff.1 hb) ((PM.cQ_isCmp.eq0 _ _).1 (by omega))
end Go.Proofs.YtfkbmjfhakooiaaGreatDoor.TR
