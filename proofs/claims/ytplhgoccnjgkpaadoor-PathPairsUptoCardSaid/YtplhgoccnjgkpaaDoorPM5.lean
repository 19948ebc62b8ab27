/- What the printed functions of the document's answer compute: joins, Normal, Compare, Above, Parent; parents and last parts. Conditions: none. -/
import Derived.Test.YtplhgoccnjgkpaaDoorPPathx5
import Derived.Test.YtplhgoccnjgkpaaDoorPPathx7
import Derived.Test.YtplhgoccnjgkpaaDoorPM4
namespace Go.Proofs.YtplhgoccnjgkpaaDoor
open Go.RowKit Go.Proofs.YtplhgoccnjgkpaaDoor.PPath Go.Proofs.YtplhgoccnjgkpaaDoorW.PrintWords Go.Proofs.YtplhgoccnjgkpaaDoorW.PrintLast
set_option linter.unusedSimpArgs false
set_option linter.unusedVariables false
namespace PM
theorem bo_append (a b : ByteArray) : bytesOf (a ++ b) = bytesOf a ++ bytesOf b := by unfold bytesOf; simp
theorem str_bytes (s : ByteArray) : strOfNums (bytesOf s) = s := by
  apply ba_ext
  unfold strOfNums bytesOf
  rw [ba_mk, List.map_map]
  simp [Function.comp_def]
theorem joinB_snoc {p : List ByteArray} (hp : p ≠ []) (x : ByteArray) : joinB (p ++ [x]) = joinB p ++ (⟨#[47]⟩ : ByteArray) ++ x := by
  apply ba_ext
  rw [joinB_list]
  unfold lists
  rw [List.map_append, joinL_append (by simpa using hp) (by simp)]
  simp only [List.map_cons, List.map_nil, joinL_one]
  simp [joinB, lists]
theorem joinB_one (x : ByteArray) : joinB [x] = x := ba_ext (by rw [joinB_list]; exact joinL_one _)
theorem take_snoc {α : Type} {l : List α} {i : Nat} (h : i < l.length) : l.take (i + 1) = l.take i ++ [l[i]] := by
  rw [List.take_add_one, List.getElem?_eq_getElem h]; rfl
theorem joinB_take_le (xs : List ByteArray) (i : Nat) : (joinB (xs.take i)).size ≤ (joinB xs).size := by
  by_cases h : xs.take i = []
  · rw [h]; exact Nat.zero_le _
  · have h2 : xs ≠ [] := by intro e; rw [e] at h; simp at h
    have e1 := joinB_size h
    have e2 := joinB_size h2
    have e3 := tot_append (xs.take i) (xs.drop i)
    rw [List.take_append_drop] at e3
    omega
theorem rjoin_l (xs : List ByteArray) (hz : ∀ x ∈ xs, x.size ≤ 4611686018427387904) (B : Nat) (hB : ∀ x ∈ xs, 13 * x.size + 20 ≤ B) (hl : xs.length ≤ 1000000000000) : ∀ (m i k : Nat), i + m = xs.length → (joinB (xs.take i)).size ≤ 400 → m + 1 + B ≤ k →
    amphoraref08_Join.l0 k xs (bytesOf (joinB (xs.take i))) (i : Int) = some (if (∀ x ∈ xs.drop i, PartP x) ∧ (joinB xs).size ≤ 400 ∧ xs ≠ [] then (joinB xs, 0) else ((⟨#[]⟩ : ByteArray), 12))
  | 0, i, k, hi, hn, hk => by
    obtain ⟨k, rfl⟩ : ∃ j, k = j + 1 := ⟨k - 1, by omega⟩
    simp only [amphoraref08_Join.l0]
    rw [if_neg (by omega), List.drop_eq_nil_of_le (by omega)]
    have ht : xs.take i = xs := List.take_of_length_le (by omega)
    rw [ht] at hn ⊢
    by_cases h : xs = []
    · rw [if_pos (by rw [h]; rfl), if_neg (fun q => q.2.2 h)]
    · rw [if_neg (by have := List.length_pos_iff.2 h; omega), if_pos ⟨by simp, hn, h⟩, str_bytes]
  | m + 1, i, k, hi, hn, hk => by
    obtain ⟨k, rfl⟩ : ∃ j, k = j + 1 := ⟨k - 1, by omega⟩
    have hlt : i < xs.length := by omega
    have hmem := List.getElem_mem hlt
    simp only [amphoraref08_Join.l0]
    rw [if_pos (by omega), if_pos (by omega), rd_get xs i hlt, rpart_f _ k (hz _ hmem) (by have := hB _ hmem; omega), Option.bind_some]
    have hd := List.drop_eq_getElem_cons hlt
    by_cases hp : PartP xs[i]
    · have hps := part_size hp
      have key : ∀ (y : List Int), y = bytesOf (joinB (xs.take (i + 1))) → (if (y.length : Int) > 400 then some ((⟨#[]⟩ : ByteArray), (12 : Int)) else amphoraref08_Join.l0 k xs y (wrap64 ((i : Int) + 1))) = some (if (∀ x ∈ xs.drop i, PartP x) ∧ (joinB xs).size ≤ 400 ∧ xs ≠ [] then (joinB xs, 0) else ((⟨#[]⟩ : ByteArray), 12)) := by
        intro y hy
        subst hy
        rw [bytesOf_length]
        by_cases hb : (((joinB (xs.take (i + 1))).size : Nat) : Int) > 400
        · rw [if_pos hb, if_neg (fun h => by have := joinB_take_le xs (i + 1); have := h.2.1; omega)]
        · rw [if_neg hb, w64 (by omega) (by omega), show (i : Int) + 1 = ((i + 1 : Nat) : Int) by omega, rjoin_l xs hz B hB hl m (i + 1) k (by omega) (by omega) (by omega)]
          have : ((∀ x ∈ xs.drop i, PartP x) ∧ (joinB xs).size ≤ 400 ∧ xs ≠ []) ↔ ((∀ x ∈ xs.drop (i + 1), PartP x) ∧ (joinB xs).size ≤ 400 ∧ xs ≠ []) := by
            constructor
            · rintro ⟨h1, h2⟩; exact ⟨fun x hx => h1 x (by rw [hd]; exact List.mem_cons_of_mem _ hx), h2⟩
            · rintro ⟨h1, h2⟩
              refine ⟨fun x hx => ?_, h2⟩
              rw [hd] at hx
              rcases List.mem_cons.1 hx with rfl | hx
              · exact hp
              · exact h1 x hx
          by_cases hq : ((∀ x ∈ xs.drop i, PartP x) ∧ (joinB xs).size ≤ 400 ∧ xs ≠ [])
          · rw [if_pos hq, if_pos (this.1 hq)]
          · rw [if_neg hq, if_neg (fun h => hq (this.2 h))]
      rw [decide_eq_true hp, if_pos rfl]
      by_cases h0 : (i : Int) > 0
      · have hne : xs.take i ≠ [] := by intro e; have := congrArg List.length e; rw [List.length_take, Nat.min_eq_left (by omega)] at this; simp only [List.length_nil] at this; omega
        rw [if_pos h0, bytesOf_length, if_pos (by omega), Option.bind_some]
        rw [if_pos (by rw [List.length_append, bytesOf_length]; simp only [List.length_cons, List.length_nil]; omega), Option.bind_some]
        refine key _ ?_
        rw [take_snoc hlt, joinB_snoc hne, bo_append, bo_append]; rfl
      · obtain rfl : i = 0 := by omega
        rw [if_neg h0, if_pos (by rw [bytesOf_length]; omega), Option.bind_some]
        refine key _ ?_
        rw [take_snoc hlt, List.take_zero]
        show bytesOf (joinB []) ++ _ = bytesOf (joinB [xs[0]])
        rw [joinB_one]; rfl
    · rw [decide_eq_false hp, if_neg (by simp), if_neg (fun h => hp (h.1 xs[i] (by rw [hd]; exact List.mem_cons_self ..)))]
theorem rjoin_f (xs : List ByteArray) (k B : Nat) (hz : ∀ x ∈ xs, x.size ≤ 4611686018427387904) (hB : ∀ x ∈ xs, 13 * x.size + 20 ≤ B) (hl : xs.length ≤ 1000000000000) (hk : xs.length + 1 + B ≤ k) :
    amphoraref08_Join.f k xs = some (if JoinP xs then (joinB xs, 0) else ((⟨#[]⟩ : ByteArray), 12)) := by
  unfold amphoraref08_Join.f
  have := rjoin_l xs hz B hB hl xs.length 0 k (by omega) (Nat.zero_le _) hk
  rw [show ((0 : Nat) : Int) = 0 from rfl, List.drop_zero, List.take_zero, show bytesOf (joinB []) = [] from rfl] at this
  rw [this]
  congr 1
  by_cases h : JoinP xs
  · rw [if_pos h, if_pos ⟨h.2.1, by have := joinB_size h.1; have := h.2.2; omega, h.1⟩]
  · rw [if_neg h, if_neg (fun q => h ⟨q.2.2, q.1, by have := joinB_size q.2.2; have := q.2.1; omega⟩)]
/-! ### Normal -/
def nfold (l : List ByteArray) (acc : List ByteArray) : Option (List ByteArray) := l.foldlM nstep acc
theorem nfold_cons (x : ByteArray) (l acc : List ByteArray) : nfold (x :: l) acc = (nstep acc x).bind (nfold l) := rfl
def numW (r : ByteArray × Option Int) : ByteArray × Int := (r.1, r.2.getD 0)
theorem rnorm_l (ps : List ByteArray) (S : Nat) (hz : ∀ x ∈ ps, x.size ≤ S) (hS : S ≤ 1000000000) (hl : ps.length ≤ 1000000000) : ∀ (m i k : Nat) (acc : List ByteArray), i + m = ps.length → (∀ x ∈ acc, x.size ≤ S) → acc.length ≤ i → 2 * m + ps.length + 13 * S + 30 ≤ k →
    amphoraref08_Normal.l0 k ps acc (i : Int) = some (match nfold (ps.drop i) acc with | none => ((⟨#[]⟩ : ByteArray), 12) | some l => if JoinP l then (joinB l, 0) else ((⟨#[]⟩ : ByteArray), 12))
  | 0, i, k, acc, hi, ha, hal, hk => by
    obtain ⟨k, rfl⟩ : ∃ j, k = j + 1 := ⟨k - 1, by omega⟩
    simp only [amphoraref08_Normal.l0]
    rw [if_neg (by omega), List.drop_eq_nil_of_le (by omega), rjoin_f acc k (13 * S + 20) (fun x hx => by have := ha x hx; omega) (fun x hx => by have := ha x hx; omega) (by omega) (by omega)]
    rfl
  | m + 1, i, k, acc, hi, ha, hal, hk => by
    obtain ⟨k, rfl⟩ : ∃ j, k = j + 2 := ⟨k - 2, by omega⟩
    have hlt : i < ps.length := by omega
    have hx := hz _ (List.getElem_mem hlt)
    obtain ⟨x, hxe⟩ : ∃ x, x = ps[i] := ⟨_, rfl⟩
    simp only [amphoraref08_Normal.l0]
    rw [if_pos (by omega), if_pos (by omega), rd_get ps i hlt, List.drop_eq_getElem_cons hlt, nfold_cons, ba_tl]
    rw [← hxe] at hx ⊢
    have hw : wrap64 ((i : Int) + 1) = ((i + 1 : Nat) : Int) := by rw [w64 (by omega) (by omega)]; omega
    have nx : ∀ l, x = ⟨l⟩ ↔ x.data.toList = l.toList := fun l => ⟨fun h => by rw [h], fun h => ba_ext h⟩
    unfold nstep
    by_cases h1 : x.data.toList = []
    · rw [if_pos h1, if_pos ((nx #[]).2 h1)]
      simp only [amphoraref08_Normal.j1]
      rw [if_pos trivial, hw, rnorm_l ps S hz hS hl m (i + 1) k acc (by omega) ha (by omega) (by omega)]; rfl
    rw [if_neg h1, if_neg (fun h => h1 ((nx #[]).1 h))]
    by_cases h2 : x.data.toList = [46]
    · rw [show (x.data.toList == ([46] : List UInt8)) = true by rw [h2]; rfl, if_pos ((nx #[46]).2 h2)]
      simp only [amphoraref08_Normal.j1]
      rw [if_pos trivial, hw, rnorm_l ps S hz hS hl m (i + 1) k acc (by omega) ha (by omega) (by omega)]; rfl
    rw [show (x.data.toList == ([46] : List UInt8)) = false by rw [beq_eq_false_iff_ne]; exact h2, if_neg (fun h => h2 ((nx #[46]).1 h))]
    simp only [amphoraref08_Normal.j1]
    rw [if_neg (by simp), if_pos (by omega), if_pos (by omega), rd_get ps i hlt, ← hxe, ba_tl]
    by_cases h3 : x.data.toList = [46, 46]
    · rw [if_pos h3, if_pos ((nx #[46, 46]).2 h3)]
      by_cases h4 : acc.length = 0
      · rw [if_pos (by omega), if_pos h4]; rfl
      · rw [if_neg (by omega), if_neg h4, Option.bind_some, w64 (by omega) (by omega), if_pos (by omega), if_pos (by omega), Option.bind_some]
        rw [show ((acc.length : Int) - 1).toNat = acc.length - 1 by omega, ← List.dropLast_eq_take, if_pos (by rw [List.length_dropLast]; simp; omega), hw, List.nil_append]
        rw [rnorm_l ps S hz hS hl m (i + 1) k acc.dropLast (by omega) (fun y hy => ha y (List.dropLast_subset _ hy)) (by rw [List.length_dropLast]; omega) (by omega)]; rfl
    · rw [if_neg h3, if_neg (fun h => h3 ((nx #[46, 46]).1 h)), if_pos (by omega), hw]
      rw [rnorm_l ps S hz hS hl m (i + 1) k (acc ++ [x]) (by omega) (fun y hy => by
        rcases List.mem_append.1 hy with hy | hy
        · exact ha y hy
        · simp at hy; subst hy; exact hx) (by rw [List.length_append]; simp only [List.length_cons, List.length_nil]; omega) (by omega)]; rfl
theorem rnormal_f (s : ByteArray) (k : Nat) (hs : s.size ≤ 100000000) (hk : 16 * s.size + 40 ≤ k) : amphoraref08_Normal.f k s = some (numW (normB s)) := by
  unfold amphoraref08_Normal.f
  rw [rpieces_f s k (by omega) (by omega), Option.bind_some]
  have hl := pieces_len s
  have := rnorm_l (pieces s) s.size (fun x hx => pieces_size hx) (by omega) (by omega) (pieces s).length 0 k [] (by omega) (by simp) (by simp) (by omega)
  rw [show ((0 : Nat) : Int) = 0 from rfl, List.drop_zero] at this
  rw [this]
  congr 1
  unfold normB
  show (match nall (pieces s) with | none => _ | some l => _) = _
  cases nall (pieces s) with
  | none => rfl
  | some l =>
    show (if JoinP l then _ else _) = numW (if JoinP l then _ else _)
    by_cases h : JoinP l
    · rw [if_pos h, if_pos h]; rfl
    · rw [if_neg h, if_neg h]; rfl
/-! ### Compare -/
theorem less_cmp : ∀ a b : List UInt8, Op.bytesLess a b = true ↔ Lib.compareBytes a b = -1
  | [], [] => by simp [Op.bytesLess, Lib.compareBytes]
  | [], _ :: _ => by simp [Op.bytesLess, Lib.compareBytes]
  | _ :: _, [] => by simp [Op.bytesLess, Lib.compareBytes]
  | x :: a, y :: b => by
    have ih := less_cmp a b
    unfold Op.bytesLess Lib.compareBytes
    by_cases h1 : x < y
    · simp [h1]
    · by_cases h2 : y < x
      · have : x ≠ y := by intro e; subst e; exact h1 h2
        simp [h1, h2, this]
      · have : x = y := by
          apply UInt8.toNat_inj.1
          rw [UInt8.lt_iff_toNat_lt] at h1 h2
          omega
        subst this
        simp [h1, ih]
theorem rcmp_l (p q : List ByteArray) (hp : p.length ≤ 4611686018427387904) (hq : q.length ≤ 4611686018427387904) : ∀ (m i k : Nat), i + m = p.length → i ≤ q.length → 2 * m + 2 ≤ k → amphoraref08_Compare.l0 k p q (i : Int) = some (lexC cB (p.drop i) (q.drop i))
  | 0, i, k, hi, hiq, hk => by
    obtain ⟨k, rfl⟩ : ∃ j, k = j + 2 := ⟨k - 2, by omega⟩
    simp only [amphoraref08_Compare.l0]
    rw [if_neg (by omega)]
    simp only [amphoraref08_Compare.j1]
    rw [if_neg (by simp), List.drop_eq_nil_of_le (show p.length ≤ i by omega)]
    by_cases h : i < q.length
    · rw [if_pos (by omega), List.drop_eq_getElem_cons h]; rfl
    · rw [if_neg (by omega), if_neg (by omega), List.drop_eq_nil_of_le (by omega)]; rfl
  | m + 1, i, k, hi, hiq, hk => by
    obtain ⟨k, rfl⟩ : ∃ j, k = j + 2 := ⟨k - 2, by omega⟩
    have hlt : i < p.length := by omega
    simp only [amphoraref08_Compare.l0]
    rw [if_pos (by omega)]
    simp only [amphoraref08_Compare.j1]
    rw [List.drop_eq_getElem_cons hlt]
    by_cases h : i < q.length
    · rw [decide_eq_true (by omega), if_pos rfl, if_pos (by omega), if_pos (by omega), if_pos (by omega), rd_get p i hlt, rd_get q i h, List.drop_eq_getElem_cons h, ba_tl, ba_tl]
      have hlex : lexC cB (p[i] :: p.drop (i + 1)) (q[i] :: q.drop (i + 1)) = if cB p[i] q[i] = 0 then lexC cB (p.drop (i + 1)) (q.drop (i + 1)) else cB p[i] q[i] := rfl
      rw [hlex]
      by_cases c1 : Op.bytesLess p[i].data.toList q[i].data.toList = true
      · have e := (less_cmp _ _).1 c1
        rw [if_pos c1, if_neg (show ¬ cB p[i] q[i] = 0 by unfold cB; omega)]
        exact congrArg some e.symm
      · rw [if_neg c1]
        by_cases c2 : Op.bytesLess q[i].data.toList p[i].data.toList = true
        · have e := (less_cmp _ _).1 c2
          have e2 := cB_isCmp.anti q[i] p[i]
          have e3 : cB q[i] p[i] = -1 := e
          rw [if_pos c2, if_neg (show ¬ cB p[i] q[i] = 0 by omega)]
          exact congrArg some (by omega)
        · have e1 : cB p[i] q[i] ≠ -1 := fun e => c1 ((less_cmp _ _).2 e)
          have e2 : cB q[i] p[i] ≠ -1 := fun e => c2 ((less_cmp _ _).2 e)
          have e3 := cB_isCmp.anti p[i] q[i]
          rcases cB_isCmp.tri p[i] q[i] with e | e | e
          · exact absurd e e1
          · rw [if_neg c2, if_pos e, w64 (by omega) (by omega), show (i : Int) + 1 = ((i + 1 : Nat) : Int) by omega]
            exact rcmp_l p q hp hq m (i + 1) k (by omega) (by omega) (by omega)
          · omega
    · rw [decide_eq_false (by omega), if_neg (by simp), if_neg (by omega), if_pos (by omega), List.drop_eq_nil_of_le (show q.length ≤ i by omega)]; rfl
theorem rcmp_f (a b : ByteArray) (k : Nat) (hA : a.size ≤ 1000000000000) (hB : b.size ≤ 1000000000000) (hk : 2 * a.size + b.size + 10 ≤ k) : amphoraref08_Compare.f k a b = some (cQ a b) := by
  unfold amphoraref08_Compare.f
  have h1 := pieces_len a
  have h2 := pieces_len b
  rw [rpieces_f a k hA (by omega), rpieces_f b k hB (by omega), Option.bind_some, Option.bind_some]
  exact rcmp_l (pieces a) (pieces b) (by omega) (by omega) (pieces a).length 0 k (by omega) (Nat.zero_le _) (by omega)
/-! ### Above -/
theorem rabove_l (p q : List ByteArray) (hp : p.length ≤ 4611686018427387904) (hpq : p.length ≤ q.length) : ∀ (m i k : Nat), i + m = p.length → m + 1 ≤ k → amphoraref08_Above.l0 k p q (i : Int) = some (decide (p.drop i <+: q.drop i))
  | 0, i, k, hi, hk => by
    obtain ⟨k, rfl⟩ : ∃ j, k = j + 1 := ⟨k - 1, by omega⟩
    simp only [amphoraref08_Above.l0]
    rw [if_neg (by omega), List.drop_eq_nil_of_le (show p.length ≤ i by omega), decide_eq_true List.nil_prefix]
  | m + 1, i, k, hi, hk => by
    obtain ⟨k, rfl⟩ : ∃ j, k = j + 1 := ⟨k - 1, by omega⟩
    have hlt : i < p.length := by omega
    have hlq : i < q.length := by omega
    simp only [amphoraref08_Above.l0]
    rw [if_pos (by omega), if_pos (by omega), if_pos (by omega), rd_get p i hlt, rd_get q i hlq, ba_tl, ba_tl]
    have e : (p.drop i <+: q.drop i) ↔ (p[i] = q[i] ∧ p.drop (i + 1) <+: q.drop (i + 1)) := by
      rw [List.drop_eq_getElem_cons hlt, List.drop_eq_getElem_cons hlq, List.cons_prefix_cons]
    by_cases h : p[i].data.toList = q[i].data.toList
    · rw [if_pos h, w64 (by omega) (by omega), show (i : Int) + 1 = ((i + 1 : Nat) : Int) by omega, rabove_l p q hp hpq m (i + 1) k (by omega) (by omega)]
      congr 1
      apply decide_eq_decide.2
      rw [e]
      exact ⟨fun q => ⟨ba_ext h, q⟩, fun q => q.2⟩
    · rw [if_neg h, decide_eq_false (fun q => h (by rw [(e.1 q).1]))]
theorem rabove_tail (a b : ByteArray) (k : Nat) (hk : 500 ≤ k) : (if ((splitB a).length : Int) = 0 then amphoraref08_Above.j0 (k + 1) (splitB a) (splitB b) true else amphoraref08_Above.j0 (k + 1) (splitB a) (splitB b) (decide (((splitB b).length : Int) ≤ ((splitB a).length : Int)))) = some (decide (AboveP a b)) := by
  simp only [amphoraref08_Above.j0]
  by_cases ha : GoodP a
  · have hal := splitB_len.2 ha
    have hall : (splitB a).length ≤ 401 := by rw [splitB_good ha]; have := pieces_len a; have := ha.1; omega
    rw [if_neg (by omega)]
    by_cases hb : (splitB b).length ≤ (splitB a).length
    · rw [decide_eq_true (by omega), if_pos rfl, decide_eq_false]
      intro h
      obtain ⟨g1, g2, r, hr, e⟩ := above_iff.1 h
      rw [splitB_good g1, splitB_good g2, e, List.length_append] at hb
      have := List.length_pos_iff.2 hr
      omega
    · rw [decide_eq_false (by omega), if_neg (by simp)]
      have hgb : GoodP b := splitB_len.1 (by omega)
      have := rabove_l (splitB a) (splitB b) (by omega) (by omega) (splitB a).length 0 k (by omega) (by omega)
      rw [show ((0 : Nat) : Int) = 0 from rfl, List.drop_zero, List.drop_zero] at this
      rw [this]
      congr 1
      apply decide_eq_decide.2
      rw [above_iff]
      rw [splitB_good ha, splitB_good hgb] at hb ⊢
      constructor
      · rintro ⟨r, hr⟩
        refine ⟨ha, hgb, r, ?_, hr.symm⟩
        rintro rfl
        rw [List.append_nil] at hr
        rw [hr] at hb; omega
      · rintro ⟨_, _, r, _, e⟩
        exact ⟨r, e.symm⟩
  · rw [splitB_bad ha, if_pos (by rfl), if_pos trivial, decide_eq_false (fun h => ha h.1)]
theorem rabove_f (a b : ByteArray) (k : Nat) (hk : 6000 ≤ k) : amphoraref08_Above.f k a b = some (decide (AboveP a b)) := by
  unfold amphoraref08_Above.f
  rw [rsplit_f a _ hk, rsplit_f b _ hk, Option.bind_some, Option.bind_some]
  obtain ⟨k, rfl⟩ : ∃ j, k = j + 1 := ⟨k - 1, by omega⟩
  exact rabove_tail a b k (by omega)
/-! ### Parent, Base, Depth, Good -/
theorem last_spec (s : ByteArray) : (Lib.lastIndexByte s 47 = -1 ∧ 47 ∉ s.data.toList) ∨ ∃ i : Nat, Lib.lastIndexByte s 47 = i ∧ i < s.size ∧ pieces s = pieces (s.extract 0 i) ++ [s.extract (i + 1) s.size] := by
  have hg : ∀ j (h : j < s.size), s.data[j]! = s.data.toList[j]'(by rw [dl]; exact h) := fun j h => by
    rw [getElem!_pos s.data j h]; simp
  rcases Lib.lastIndexByte_spec s 47 with ⟨e, hn⟩ | ⟨i, hi, e, hc, hn⟩
  · refine .inl ⟨e, fun h => ?_⟩
    obtain ⟨j, hj, e2⟩ := List.getElem_of_mem h
    rw [dl] at hj
    refine hn j hj ?_
    rw [hg j hj, e2]; rfl
  · refine .inr ⟨i, e, hi, ?_⟩
    have h1 : s.data.toList[i]? = some 47 := by
      rw [List.getElem?_eq_getElem (by rw [dl]; exact hi)]
      congr 1
      apply UInt8.toNat_inj.1
      rw [← hg i hi]
      have : (47 : UInt8).toNat = 47 := rfl
      omega
    have h2 : ∀ j, i < j → s.data.toList[j]? ≠ some 47 := by
      intro j hj h
      obtain ⟨hl, e2⟩ := List.getElem?_eq_some_iff.1 h
      rw [dl] at hl
      refine hn j hj hl ?_
      rw [hg j hl, e2]; rfl
    apply map_dl_inj
    rw [pieces_lists, List.map_append, pieces_lists, splitL_last h1 h2, ext_list, List.drop_zero]
    simp only [List.map_cons, List.map_nil]
    rw [ext_list, List.take_of_length_le (show s.data.toList.length ≤ s.size by rw [dl]; exact Nat.le_refl _)]
def parentB (s : ByteArray) : ByteArray × Bool := if GoodP s ∧ 2 ≤ (pieces s).length then (joinB (pieces s).dropLast, true) else ((⟨#[]⟩ : ByteArray), false)
theorem parent_f (s : ByteArray) (k : Nat) (hs : s.size < 4611686018427387904) (hk : 500 ≤ k) : path_Parent.f k s = some (parentB s) := by
  unfold path_Parent.f strings_LastIndexByte.f parentB
  rw [if_pos hs, Option.bind_some, good_f s k hk, Option.bind_some]
  rcases last_spec s with ⟨e, hn⟩ | ⟨i, e, hi, hp⟩
  · rw [e, if_pos (by omega), if_neg (fun h => by have := pieces_one.2 hn; omega)]
  · rw [e, if_neg (by omega)]
    have h2 : 2 ≤ (pieces s).length := by
      rw [hp, List.length_append]
      have := List.length_pos_iff.2 (pieces_ne (s.extract 0 i))
      simp only [List.length_cons, List.length_nil]; omega
    by_cases hg : GoodP s
    · rw [decide_eq_true hg, if_pos rfl, if_pos (by omega), if_pos (by omega), if_pos ⟨hg, h2⟩, Int.toNat_natCast, hp, List.dropLast_concat, joinB_pieces]
    · rw [decide_eq_false hg, if_neg (by simp), if_neg (fun h => hg h.1)]
theorem dl_good {s : ByteArray} (hg : GoodP s) (h2 : 2 ≤ (pieces s).length) : JoinP (pieces s).dropLast := by
  refine ⟨?_, fun x hx => hg.2 x (List.dropLast_subset _ hx), ?_⟩
  · intro e; have := congrArg List.length e; rw [List.length_dropLast] at this; simp at this; omega
  · have e := tot_append (pieces s).dropLast [(pieces s).getLast (pieces_ne s)]
    rw [List.dropLast_concat_getLast, tot_pieces] at e
    have := hg.1
    omega
theorem rparent_f (s : ByteArray) (k : Nat) (hk : 6000 ≤ k) : amphoraref08_Parent.f k s = some (parentB s) := by
  unfold amphoraref08_Parent.f parentB
  rw [rsplit_f s k hk, Option.bind_some]
  by_cases hg : GoodP s
  · rw [splitB_good hg]
    have hl := pieces_len s
    have hs := hg.1
    by_cases h2 : 2 ≤ (pieces s).length
    · rw [if_neg (by omega), w64 (by omega) (by omega), if_pos (by omega), if_pos (by omega), if_pos ⟨hg, h2⟩]
      rw [show (((pieces s).length : Int) - 1).toNat = (pieces s).length - 1 by omega, ← List.dropLast_eq_take]
      have hz : ∀ x ∈ (pieces s).dropLast, x.size ≤ 400 := fun x hx => by have := pieces_size (List.dropLast_subset _ hx); omega
      rw [rjoin_f _ k 5220 (fun x hx => by have := hz x hx; omega) (fun x hx => by have := hz x hx; omega) (by rw [List.length_dropLast]; omega) (by rw [List.length_dropLast]; omega), Option.bind_some, if_pos (dl_good hg h2)]
    · rw [if_pos (by omega), if_neg (fun h => h2 h.2)]
  · rw [splitB_bad hg, if_pos (by simp), if_neg (fun h => hg h.1)]
theorem rgood_f (s : ByteArray) (k : Nat) (hk : 6000 ≤ k) : amphoraref08_Good.f k s = some (decide (GoodP s)) := by
  unfold amphoraref08_Good.f
  rw [rsplit_f s k hk, Option.bind_some]
  congr 1
  apply decide_eq_decide.2
  rw [← splitB_len]; omega
def baseB (s : ByteArray) : ByteArray := if h : GoodP s then (pieces s).getLast (pieces_ne s) else (⟨#[]⟩ : ByteArray)
theorem base_f (s : ByteArray) (k : Nat) (hk : 500 ≤ k) : path_Base.f k s = some (baseB s) := by
  unfold path_Base.f baseB
  rw [good_f s k hk, Option.bind_some]
  by_cases hg : GoodP s
  · have hs := hg.1
    rw [decide_eq_true hg, if_pos rfl, dif_pos hg]
    unfold strings_LastIndexByte.f
    rw [if_pos (by omega), Option.bind_some]
    rcases last_spec s with ⟨e, hn⟩ | ⟨i, e, hi, hp⟩
    · rw [e, show wrap64 (-1 + 1) = 0 from (w64 (n := -1 + 1) (by omega) (by omega)).trans (by omega), if_pos (by omega), if_pos (by omega)]
      congr 1
      have e1 := pieces_none (ib_neg.2 hn)
      simp only [e1, List.getLast_singleton]
      exact ByteArray.extract_zero_size
    · rw [e, w64 (by omega) (by omega), if_pos (by omega), if_pos (by omega), show ((i : Int) + 1).toNat = i + 1 by omega]
      congr 1
      simp only [hp, List.getLast_concat]
  · rw [decide_eq_false hg, if_neg (by simp), dif_neg hg]
theorem depth_f (s : ByteArray) (k : Nat) (hk : 500 ≤ k) : path_Depth.f k s = some ((splitB s).length : Int) := by
  unfold path_Depth.f
  rw [split_f s k hk, Option.bind_some]
/-! ### Texts -/
theorem texts_l (p q : List ByteArray) (hl : p.length = q.length) (hp : p.length ≤ 4611686018427387904) : ∀ (m i k : Nat), i + m = p.length → m + 1 ≤ k → amphoranum_Texts.l0 k p q (p.length : Int) (i : Int) = some (decide (p.drop i = q.drop i))
  | 0, i, k, hi, hk => by
    obtain ⟨k, rfl⟩ : ∃ j, k = j + 1 := ⟨k - 1, by omega⟩
    simp only [amphoranum_Texts.l0]
    rw [if_neg (by omega), List.drop_eq_nil_of_le (show p.length ≤ i by omega), List.drop_eq_nil_of_le (show q.length ≤ i by omega)]; rfl
  | m + 1, i, k, hi, hk => by
    obtain ⟨k, rfl⟩ : ∃ j, k = j + 1 := ⟨k - 1, by omega⟩
    have hlt : i < p.length := by omega
    have hlq : i < q.length := by omega
    simp only [amphoranum_Texts.l0]
    rw [if_pos (by omega), if_pos (by omega), if_pos (by omega), if_pos (by omega), rd_get p i hlt, rd_get q i hlq, ba_tl, ba_tl]
    have e : (p.drop i = q.drop i) ↔ (p[i] = q[i] ∧ p.drop (i + 1) = q.drop (i + 1)) := by
      rw [List.drop_eq_getElem_cons hlt, List.drop_eq_getElem_cons hlq, List.cons.injEq]
    by_cases h : p[i].data.toList = q[i].data.toList
    · rw [if_pos h, w64 (by omega) (by omega), show (i : Int) + 1 = ((i + 1 : Nat) : Int) by omega, texts_l p q hl hp m (i + 1) k (by omega) (by omega)]
      congr 1
      apply decide_eq_decide.2
      rw [e]
      exact ⟨fun q => ⟨ba_ext h, q⟩, fun q => q.2⟩
    · rw [if_neg h, decide_eq_false (fun q => h (by rw [(e.1 q).1]))]
theorem texts_f (p q : List ByteArray) (k : Nat) (hp : p.length ≤ 4611686018427387904) (hk : p.length + 1 ≤ k) : amphoranum_Texts.f k p q = some (decide (p = q)) := by
  unfold amphoranum_Texts.f
  by_cases h : p.length = q.length
  · rw [if_pos (by omega)]
    exact texts_l p q h hp p.length 0 k (by omega) hk
  · rw [if_neg (by omega), decide_eq_false (fun e => h (by rw [e]))]
end PM
end Go.Proofs.YtplhgoccnjgkpaaDoor
